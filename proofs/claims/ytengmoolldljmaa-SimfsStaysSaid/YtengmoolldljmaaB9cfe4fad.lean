/- A part of the proof: walks of the program's functions, and the rules by which they go. -/
import Derived.Test.YtengmoolldljmaaBb5903f20
import Derived.Shelf.Small.Bits
import Derived.Shelf.Strconv.Itoa0
import Derived.Shelf.Sort.Plain
import Derived.Shelf.Slices.In.SortNone
import Derived.Test.YtengmoolldljmaaProg
namespace SX
open Go Go.Proofs
instance : TZv Try.prog 5 (.int .u8 0) := ⟨by kernel_rfl⟩
theorem bcs_take (l : List UInt8) (m : Nat) : bcs (l.take m) = (bcs l).take m := by rw [bcs_map, bcs_map, List.map_take]
theorem bcs_append (a b : List UInt8) : bcs (a ++ b) = bcs a ++ bcs b := by rw [bcs_map, bcs_map, bcs_map, List.map_append]
theorem bclone_nil : Spec Try.prog 45 [.slice none 0 0] [] (fun v L => v = .slice none 0 0 ∧ L = []) := by
  refine Spec.of 8 Try.func45 rfl rfl rfl ?_
  refine swp_seq ?_
  refine swp_region ?_
  refine s_pu (pu_assign rfl) ?_
  refine swl_sub _ (.cons (t := 0) rfl .nil) ?_
  refine swl_nil ?_
  refine then_n ?_
  refine swp_seq ?_
  refine swp_seq ?_
  refine swp_region ?_
  refine s_pu (pu_move rfl) ?_
  refine s_pu (pu_sl_eq_nil rfl rfl) ?_
  refine swl_sub _ (.cons (t := 0) rfl (.cons (t := 4) rfl .nil)) ?_
  refine swl_nil ?_
  refine then_n ?_
  refine swp_cond (b := _) rfl (fun h4 => ?_) (fun h4 => by cases h4)
  refine swp_seq ?_
  refine swp_region ?_
  refine s_pu (pu_assign rfl) ?_
  refine swl_sub _ (.cons (t := 2) rfl .nil) ?_
  refine swl_nil ?_
  refine then_n ?_
  refine swp_ret ?_
  refine then_r ?_
  exact done_ret [] (.tmp rfl .nil) ⟨rfl, rfl⟩ (by repeat (first | exact Split.nil | (apply Split.cons; (repeat (first | with_reducible exact Take.here | apply Take.there)))))
theorem bclone_blk (g m c : Nat) (bs : List UInt8) (ex : List Value) (hm : m ≤ bs.length) (hb : bs.length ≤ 1099511627776) :
    Spec Try.prog 45 [.slice (some ⟨g, 0, none⟩) m c] [blk g 5 (bcs bs ++ ex)] (fun v L => (∃ A c, v = .slice A m c) ∧ L = [own 5 1 v m (bcs (bs.take m)), blk g 5 (bcs bs ++ ex)]) := by
  have hcl : (bcs (bs.take m)).length = m * 1 := by rw [bcs_len, List.length_take, Nat.min_eq_left hm, Nat.mul_one]
  have hcn : ∀ (j : Nat) (u : Value), (bcs (bs.take m))[j]? = some u → (bcs bs ++ ex)[0 + j]? = some u := fun j u hj => by
    rw [bcs_take, List.getElem?_take] at hj
    split at hj
    · rw [Nat.zero_add, List.getElem?_append_left (List.getElem?_eq_some_iff.1 hj).1]; exact hj
    · cases hj
  refine Spec.of 8 Try.func45 rfl rfl rfl ?_
  refine swp_seq ?_
  refine swp_region ?_
  refine s_pu (pu_assign rfl) ?_
  refine swl_sub _ (.cons (t := 0) rfl .nil) ?_
  refine swl_nil ?_
  refine then_n ?_
  refine swp_seq ?_
  refine swp_seq ?_
  refine swp_region ?_
  refine s_pu (pu_move rfl) ?_
  refine s_pu (pu_sl_eq_nil rfl rfl) ?_
  refine swl_sub _ (.cons (t := 0) rfl (.cons (t := 4) rfl .nil)) ?_
  refine swl_nil ?_
  refine then_n ?_
  refine swp_cond (b := _) rfl (fun h4 => by cases h4) (fun h4 => ?_)
  refine swp_skip ?_
  refine then_n ?_
  refine swp_seq ?_
  refine swp_region ?_
  refine s_ef (ef_bldS (qs := []) rfl rfl rfl) ?_
  intro b5
  refine s_pu (pu_move rfl) ?_
  refine swl_ent (own_close (n := 1) (l := 0) (cap := 0) (xs := []) (ex := []) rfl rfl (Nat.le_refl _) (by simp [maxLen])) ?_
  refine s_ef (ef_append_of (news := bcs (bs.take m)) rfl rfl (by repeat (first | exact Split.nil | (apply Split.cons; (repeat (first | with_reducible exact Take.here | apply Take.there))))) hcl hcn (bcs_one _) (by simp only [maxLen]; omega) (by omega)) ?_
  rintro v' -
  rw [Nat.zero_add, List.nil_append]
  refine swl_fact (fun m h => own_form h) fun hform => ?_
  refine s_pu (pu_assign rfl) ?_
  refine swl_sub _ (.cons (t := 2) rfl .nil) ?_
  refine swl_nil ?_
  refine then_n ?_
  refine swp_ret ?_
  exact done_ret [own 5 1 v' m (bcs (bs.take m)), blk g 5 (bcs bs ++ ex)] (.tmp rfl .nil) ⟨hform, rfl⟩ (by repeat (first | exact Split.nil | (apply Split.cons; (repeat (first | with_reducible exact Take.here | apply Take.there)))))
/-- slices.Clone of the first m bytes of a slice of the call's own -/
theorem bclone_own (A : Option Addr) (m l c c' : Nat) (bs : List UInt8) (hl : bs.length = l) (hm : m ≤ l) (hb : bs.length ≤ 1099511627776) (hc : A = none → m = 0 ∧ c' = 0) :
    Spec Try.prog 45 [.slice A m c'] [own 5 1 (.slice A l c) l (bcs bs)] (fun v' L => (∃ A c, v' = .slice A m c) ∧ L = [own 5 1 v' m (bcs (bs.take m)), own 5 1 (.slice A l c) l (bcs bs)]) := by
  subst hl
  refine Spec.own_cases (fun hv l0 x0 => ?_) (fun g cap ex hv o1 o2 o3 o4 => ?_)
  · obtain ⟨rfl, h1, rfl⟩ := Value.slice.inj hv
    have hbs : bs = [] := List.eq_nil_of_length_eq_zero l0
    obtain ⟨rfl, rfl⟩ := hc rfl
    subst hbs
    refine Spec.ent3 bclone_nil ?_
    rintro v L ⟨rfl, rfl⟩
    exact ⟨_, own_nil_ent.trans (Ent.cons own_nil_ent), ⟨_, _, rfl⟩, rfl⟩
  · obtain ⟨rfl, _, rfl⟩ := Value.slice.inj hv
    refine Spec.ent3 (bclone_blk g m c' bs ex hm hb) ?_
    rintro v L ⟨hf, rfl⟩
    exact ⟨_, Ent.cons (own_close o3 o4 o1 o2), hf, rfl⟩
/-- Append's step -/
theorem append1_spec (f0 t0 a k sf l : Nat) (v : Value) (xs : List Value) (s : ByteArray) (hl : l + s.size ≤ 1099511627776) :
    Spec Try.prog 43 [pv f0, pv t0] [blk f0 74 [pv a], blk t0 9 [.string s], blk a 82 [.int .i64 (k : Nat), v, .int .i64 (sf : Nat)], own 5 1 v l xs]
      (fun _ L => ∃ v', L = [blk f0 74 [pv a], blk t0 9 [.string s], blk a 82 [.int .i64 (k : Nat), v', .int .i64 (sf : Nat)], own 5 1 v' (l + s.size) (xs ++ bcs s.data.toList)]) := by
  refine Spec.of 11 Try.func43 rfl rfl rfl ?_
  refine swp_draw [0, 1, 4, 5] ([blk f0 74 [pv a], blk t0 9 [.string s], blk a 82 [.int .i64 (k : Nat), v, .int .i64 (sf : Nat)]]) ([own 5 1 v l xs]) (Split.ent (by repeat (first | exact Split.nil | (apply Split.cons; (repeat (first | with_reducible exact Take.here | apply Take.there)))))) (by kernel_rfl) ?_
  refine d_rd 0 rfl (rd_load rfl rfl) rfl (by kernel_rfl) (by kernel_rfl) (by kernel_rfl) ?_
  refine d_rd 1 rfl (rd_load rfl rfl) rfl (by kernel_rfl) (by kernel_rfl) (by kernel_rfl) ?_
  first | refine d_pu 2 rfl (pu_nilCheck rfl) (by kernel_rfl) (by kernel_rfl) (by kernel_rfl) ?_ | refine d_pu 2 rfl (pu_nilCheck_fn rfl) (by kernel_rfl) (by kernel_rfl) (by kernel_rfl) ?_ | refine d_pu 2 rfl (pu_nilCheck_if rfl) (by kernel_rfl) (by kernel_rfl) (by kernel_rfl) ?_
  first | refine d_pu 3 rfl (pu_fieldAddr0 rfl) (by kernel_rfl) (by kernel_rfl) (by kernel_rfl) ?_ | refine d_pu 3 rfl (pu_fieldAddr rfl) (by kernel_rfl) (by kernel_rfl) (by kernel_rfl) ?_
  refine d_rd 4 rfl (rd_load rfl rfl) rfl (by kernel_rfl) (by kernel_rfl) (by kernel_rfl) ?_
  refine d_rd 5 rfl (rd_load rfl rfl) rfl (by kernel_rfl) (by kernel_rfl) (by kernel_rfl) ?_
  refine d_eft 6 rfl (by kernel_rfl) (ef_append_str rfl rfl (by repeat (first | exact Split.nil | (apply Split.cons; (repeat (first | with_reducible exact Take.here | apply Take.there))))) (by omega)) ?_
  rintro A' c'
  refine ⟨_, Split.ent (by repeat (first | exact Split.nil | (apply Split.cons; (repeat (first | with_reducible exact Take.here | apply Take.there))))), ?_⟩
  first | refine d_pu 7 rfl (pu_nilCheck rfl) (by kernel_rfl) (by kernel_rfl) (by kernel_rfl) ?_ | refine d_pu 7 rfl (pu_nilCheck_fn rfl) (by kernel_rfl) (by kernel_rfl) (by kernel_rfl) ?_ | refine d_pu 7 rfl (pu_nilCheck_if rfl) (by kernel_rfl) (by kernel_rfl) (by kernel_rfl) ?_
  first | refine d_pu 8 rfl (pu_fieldAddr0 rfl) (by kernel_rfl) (by kernel_rfl) (by kernel_rfl) ?_ | refine d_pu 8 rfl (pu_fieldAddr rfl) (by kernel_rfl) (by kernel_rfl) (by kernel_rfl) ?_
  first | refine d_fin0t 9 rfl (by kernel_rfl) (by kernel_rfl) (ef_store rfl rfl rfl) ?_ | refine d_fin0f 9 rfl (by kernel_rfl) (by kernel_rfl) (ef_store rfl rfl rfl) ?_
  refine d_sub _ .nil ?_
  first | refine d_nilt (by kernel_rfl) ?_ | refine d_nilf (by kernel_rfl) ?_
  exact done_end [blk f0 74 [pv a], blk t0 9 [.string s], blk a 82 [.int .i64 (k : Nat), .slice A' (l + s.size) c', .int .i64 (sf : Nat)], own 5 1 (.slice A' (l + s.size) c') (l + s.size) (xs ++ bcs s.data.toList)] .nil ⟨_, rfl⟩ (by repeat (first | exact Split.nil | (apply Split.cons; (repeat (first | with_reducible exact Take.here | apply Take.there)))))
/-- Sync's step -/
theorem sync1_spec (f0 a k sf l : Nat) (v : Value) (hv : ∃ A c, v = .slice A l c) :
    Spec Try.prog 42 [pv f0] [blk f0 74 [pv a], blk a 82 [.int .i64 (k : Nat), v, .int .i64 (sf : Nat)]]
      (fun _ L => L = [blk f0 74 [pv a], blk a 82 [.int .i64 (k : Nat), v, .int .i64 (l : Nat)]]) := by
  refine Spec.of 9 Try.func42 rfl rfl rfl ?_
  refine swp_draw [0, 1, 4] _ [] (by simp only [List.append_nil]; exact Ent.refl _) (by kernel_rfl) ?_
  refine d_rd 0 rfl (rd_load rfl rfl) rfl (by kernel_rfl) (by kernel_rfl) (by kernel_rfl) ?_
  refine d_rd 1 rfl (rd_load rfl rfl) rfl (by kernel_rfl) (by kernel_rfl) (by kernel_rfl) ?_
  first | refine d_pu 2 rfl (pu_nilCheck rfl) (by kernel_rfl) (by kernel_rfl) (by kernel_rfl) ?_ | refine d_pu 2 rfl (pu_nilCheck_fn rfl) (by kernel_rfl) (by kernel_rfl) (by kernel_rfl) ?_ | refine d_pu 2 rfl (pu_nilCheck_if rfl) (by kernel_rfl) (by kernel_rfl) (by kernel_rfl) ?_
  first | refine d_pu 3 rfl (pu_fieldAddr0 rfl) (by kernel_rfl) (by kernel_rfl) (by kernel_rfl) ?_ | refine d_pu 3 rfl (pu_fieldAddr rfl) (by kernel_rfl) (by kernel_rfl) (by kernel_rfl) ?_
  refine d_rd 4 rfl (rd_load rfl rfl) rfl (by kernel_rfl) (by kernel_rfl) (by kernel_rfl) ?_
  refine d_pu 5 rfl (pu_len_own hv rfl) (by kernel_rfl) (by kernel_rfl) (by kernel_rfl) ?_
  first | refine d_pu 6 rfl (pu_nilCheck rfl) (by kernel_rfl) (by kernel_rfl) (by kernel_rfl) ?_ | refine d_pu 6 rfl (pu_nilCheck_fn rfl) (by kernel_rfl) (by kernel_rfl) (by kernel_rfl) ?_ | refine d_pu 6 rfl (pu_nilCheck_if rfl) (by kernel_rfl) (by kernel_rfl) (by kernel_rfl) ?_
  first | refine d_pu 7 rfl (pu_fieldAddr0 rfl) (by kernel_rfl) (by kernel_rfl) (by kernel_rfl) ?_ | refine d_pu 7 rfl (pu_fieldAddr rfl) (by kernel_rfl) (by kernel_rfl) (by kernel_rfl) ?_
  first | refine d_fin0t 8 rfl (by kernel_rfl) (by kernel_rfl) (ef_store rfl rfl rfl) ?_ | refine d_fin0f 8 rfl (by kernel_rfl) (by kernel_rfl) (ef_store rfl rfl rfl) ?_
  refine d_sub _ .nil ?_
  first | refine d_nilt (by kernel_rfl) ?_ | refine d_nilf (by kernel_rfl) ?_
  exact done_end [blk f0 74 [pv a], blk a 82 [.int .i64 (k : Nat), v, .int .i64 (l : Nat)]] .nil rfl (by repeat (first | exact Split.nil | (apply Split.cons; (repeat (first | with_reducible exact Take.here | apply Take.there)))))
/-- Cut's step -/
theorem cut1_spec (f0 n0 a k sf n l c : Nat) (A : Option Addr) (bs : List UInt8) (hl : bs.length = l) (hn : n ≤ l) (hlc : l ≤ c) (hb : bs.length ≤ 1099511627776) (hA : A = none → c = 0) :
    Spec Try.prog 62 [pv f0, pv n0] [blk f0 74 [pv a], blk n0 3 [.int .i64 (n : Nat)], blk a 82 [.int .i64 (k : Nat), .slice A l c, .int .i64 (sf : Nat)], own 5 1 (.slice A l c) l (bcs bs)]
      (fun _ L => ∃ v', L = [blk f0 74 [pv a], blk n0 3 [.int .i64 (n : Nat)], blk a 82 [.int .i64 (k : Nat), v', .int .i64 (min sf n : Nat)], own 5 1 v' n (bcs (bs.take n)), own 5 1 (.slice A l c) l (bcs bs)]) := by
  have hmin : ((min sf n : Nat) : Int) = min (sf : Int) (n : Int) := by omega
  refine Spec.of 21 Try.func62 rfl rfl rfl ?_
  refine swp_seq ?_
  refine swp_draw [0, 1, 4, 5] _ [] (by simp only [List.append_nil]; exact Ent.refl _) (by kernel_rfl) ?_
  refine d_rd 0 rfl (rd_load rfl rfl) rfl (by kernel_rfl) (by kernel_rfl) (by kernel_rfl) ?_
  refine d_rd 1 rfl (rd_load rfl rfl) rfl (by kernel_rfl) (by kernel_rfl) (by kernel_rfl) ?_
  first | refine d_pu 2 rfl (pu_nilCheck rfl) (by kernel_rfl) (by kernel_rfl) (by kernel_rfl) ?_ | refine d_pu 2 rfl (pu_nilCheck_fn rfl) (by kernel_rfl) (by kernel_rfl) (by kernel_rfl) ?_ | refine d_pu 2 rfl (pu_nilCheck_if rfl) (by kernel_rfl) (by kernel_rfl) (by kernel_rfl) ?_
  first | refine d_pu 3 rfl (pu_fieldAddr0 rfl) (by kernel_rfl) (by kernel_rfl) (by kernel_rfl) ?_ | refine d_pu 3 rfl (pu_fieldAddr rfl) (by kernel_rfl) (by kernel_rfl) (by kernel_rfl) ?_
  refine d_rd 4 rfl (rd_load rfl rfl) rfl (by kernel_rfl) (by kernel_rfl) (by kernel_rfl) ?_
  refine d_rd 5 rfl (rd_load rfl rfl) rfl (by kernel_rfl) (by kernel_rfl) (by kernel_rfl) ?_
  refine d_pu 6 rfl (pu_slice_hi n rfl rfl rfl (by omega)) (by kernel_rfl) (by kernel_rfl) (by kernel_rfl) ?_
  refine d_eft 7 rfl (by kernel_rfl) (ef_fn (bclone_own A n l c c bs hl hn hb (fun h => by have := hA h; omega)) rfl rfl (by repeat (first | exact Split.nil | (apply Split.cons; (repeat (first | with_reducible exact Take.here | apply Take.there)))))) ?_
  rintro v9 L1 ⟨⟨A', c', rfl⟩, rfl⟩
  refine ⟨_, ent_appC (Split.ent (by repeat (first | exact Split.nil | (apply Split.cons; (repeat (first | with_reducible exact Take.here | apply Take.there)))))), ?_⟩
  first | refine d_pu 8 rfl (pu_nilCheck rfl) (by kernel_rfl) (by kernel_rfl) (by kernel_rfl) ?_ | refine d_pu 8 rfl (pu_nilCheck_fn rfl) (by kernel_rfl) (by kernel_rfl) (by kernel_rfl) ?_ | refine d_pu 8 rfl (pu_nilCheck_if rfl) (by kernel_rfl) (by kernel_rfl) (by kernel_rfl) ?_
  first | refine d_pu 9 rfl (pu_fieldAddr0 rfl) (by kernel_rfl) (by kernel_rfl) (by kernel_rfl) ?_ | refine d_pu 9 rfl (pu_fieldAddr rfl) (by kernel_rfl) (by kernel_rfl) (by kernel_rfl) ?_
  first | refine d_fin0t 10 rfl (by kernel_rfl) (by kernel_rfl) (ef_store rfl rfl rfl) ?_ | refine d_fin0f 10 rfl (by kernel_rfl) (by kernel_rfl) (ef_store rfl rfl rfl) ?_
  refine d_sub _ (.cons (t := 0) rfl (.cons (t := 1) rfl .nil)) ?_
  first | refine d_nilt (by kernel_rfl) ?_ | refine d_nilf (by kernel_rfl) ?_
  refine then_n ?_
  refine swp_draw [0, 1, 4, 5] _ [] (by simp only [List.append_nil]; exact Ent.refl _) (by kernel_rfl) ?_
  refine d_rd 0 rfl (rd_load rfl rfl) rfl (by kernel_rfl) (by kernel_rfl) (by kernel_rfl) ?_
  refine d_rd 1 rfl (rd_load rfl rfl) rfl (by kernel_rfl) (by kernel_rfl) (by kernel_rfl) ?_
  first | refine d_pu 2 rfl (pu_nilCheck rfl) (by kernel_rfl) (by kernel_rfl) (by kernel_rfl) ?_ | refine d_pu 2 rfl (pu_nilCheck_fn rfl) (by kernel_rfl) (by kernel_rfl) (by kernel_rfl) ?_ | refine d_pu 2 rfl (pu_nilCheck_if rfl) (by kernel_rfl) (by kernel_rfl) (by kernel_rfl) ?_
  first | refine d_pu 3 rfl (pu_fieldAddr0 rfl) (by kernel_rfl) (by kernel_rfl) (by kernel_rfl) ?_ | refine d_pu 3 rfl (pu_fieldAddr rfl) (by kernel_rfl) (by kernel_rfl) (by kernel_rfl) ?_
  refine d_rd 4 rfl (rd_load rfl rfl) rfl (by kernel_rfl) (by kernel_rfl) (by kernel_rfl) ?_
  refine d_rd 5 rfl (rd_load rfl rfl) rfl (by kernel_rfl) (by kernel_rfl) (by kernel_rfl) ?_
  refine d_pu 6 rfl (pu_min2 rfl rfl) (by kernel_rfl) (by kernel_rfl) (by kernel_rfl) ?_
  first | refine d_pu 7 rfl (pu_nilCheck rfl) (by kernel_rfl) (by kernel_rfl) (by kernel_rfl) ?_ | refine d_pu 7 rfl (pu_nilCheck_fn rfl) (by kernel_rfl) (by kernel_rfl) (by kernel_rfl) ?_ | refine d_pu 7 rfl (pu_nilCheck_if rfl) (by kernel_rfl) (by kernel_rfl) (by kernel_rfl) ?_
  first | refine d_pu 8 rfl (pu_fieldAddr0 rfl) (by kernel_rfl) (by kernel_rfl) (by kernel_rfl) ?_ | refine d_pu 8 rfl (pu_fieldAddr rfl) (by kernel_rfl) (by kernel_rfl) (by kernel_rfl) ?_
  first | refine d_fin0t 9 rfl (by kernel_rfl) (by kernel_rfl) (ef_store rfl rfl rfl) ?_ | refine d_fin0f 9 rfl (by kernel_rfl) (by kernel_rfl) (ef_store rfl rfl rfl) ?_
  refine d_sub _ .nil ?_
  first | refine d_nilt (by kernel_rfl) ?_ | refine d_nilf (by kernel_rfl) ?_
  exact done_end [blk f0 74 [pv a], blk n0 3 [.int .i64 (n : Nat)], blk a 82 [.int .i64 (k : Nat), .slice A' n c', .int .i64 (min sf n : Nat)], own 5 1 (.slice A' n c') n (bcs (bs.take n)), own 5 1 (.slice A l c) l (bcs bs)] .nil ⟨_, rfl⟩ (R := []) (by rw [hmin]; exact (by repeat (first | exact Split.nil | (apply Split.cons; (repeat (first | with_reducible exact Take.here | apply Take.there))))))
end SX
namespace SX
open Go Go.Proofs
theorem find_err {rs : List Rc} {d : Dk} {s : ByteArray} {v : Value} {e : Int} (h : findV rs d s = (v, e)) (he : e ≠ 0) (f : Nat → Dk × Int) : onFile d s f = (d, e) := by
  unfold onFile
  rcases find_cases h with ⟨rfl, h1⟩ | ⟨rfl, h1, h2⟩ | ⟨h0, _⟩
  · rw [if_pos h1]
  · rw [if_neg (by rw [h1]; decide), h2]
  · exact absurd h0 he
theorem find_ok {rs : List Rc} {d : Dk} {s : ByteArray} {v : Value} (h : findV rs d s = (v, 0)) : ∃ k, findN d.seen s = some k ∧ v = adr rs k ∧ ∀ f, onFile d s f = f k := by
  rcases find_cases h with ⟨h0, _⟩ | ⟨h0, _⟩ | ⟨_, h1, k, h2, h3⟩
  · cases h0
  · cases h0
  · refine ⟨k, h2, h3, fun f => ?_⟩
    unfold onFile
    rw [if_neg (by rw [h1]; decide), h2]
theorem find_ptr (rs : List Rc) (d : Dk) (s : ByteArray) : ∃ o e, findV rs d s = (.pointer o, e) := by
  unfold findV
  split
  · exact ⟨_, _, rfl⟩
  · split
    · exact ⟨_, _, rfl⟩
    · next k _ =>
      unfold adr
      split
      · exact ⟨_, _, rfl⟩
      · exact ⟨_, _, rfl⟩
theorem fs_set {p : Nat} {d : Dk} {x : FX} (hx : Rep d x) {k : Nat} {r r' : Rc} (hr : x.rs[k]? = some r) (ha : r'.a = r.a) {L : List Assn} :
    Ent (own 5 1 r'.v r'.f.bytes.length (bcs r'.f.bytes) :: blk r'.a 82 [.int .i64 (k : Nat), r'.v, .int .i64 (r'.f.safe : Nat)] :: holeA x.rs k :: fsH p d x :: mpe x.sb skv x.es x.cs :: mpe x.fb skv x.ef x.cf :: own 84 3 x.pv x.ps.length (x.ps.flatMap encP) :: L) (FSA p (d.setF k r'.f) :: L) := by
  refine (recs_close' r' (List.getElem?_eq_some_iff.1 hr).1).trans ?_
  refine Ent.trans (Ent.perm ?_) (fs_close (hx.set hr ha))
  show List.Perm (recsA (x.rs.set k r') :: fsH p d x :: _ :: _ :: _ :: L) (blk p 73 (fsC d.quota (x.rs.set k r').length x.sb x.fb x.pv d.falls d.off) :: _ :: _ :: _ :: recsA (x.rs.set k r') :: L)
  rw [List.length_set]
  exact (List.perm_middle (a := recsA (x.rs.set k r')) (l₁ := [fsH p d x, mpe x.sb skv x.es x.cs, mpe x.fb skv x.ef x.cf, own 84 3 x.pv x.ps.length (x.ps.flatMap encP)]) (l₂ := L)).symm
/-- a step whose doing does not touch the disk's own block -/
theorem step_spec' {f : FuncId} [Body Try.prog f] {ca : List Value} {pre : List Assn} {K : List Assn → Prop} (p : Nat) (q : Int) (n sb fb : Nat) (v : Value) (fa : Int) (off : Bool) (h0 : 0 ≤ fa ∧ fa ≤ 9223372036854775807)
    (h : Spec Try.prog f ca pre (fun _ L => K L)) :
    Spec Try.prog 37 [pv p, .func (.func f) #[] ca.toArray] (blk p 73 (fsC q n sb fb v fa off) :: pre) (fun r L => (fa = 1 ∧ r = .int .i64 8 ∧ L = blk p 73 (fsC q n sb fb v 0 true) :: pre) ∨ (fa ≠ 1 ∧ r = .int .i64 0 ∧ ∃ L', K L' ∧ L = blk p 73 (fsC q n sb fb v (if 0 < fa then fa - 1 else fa) off) :: L')) :=
  step_spec (K := fun fa' L => ∃ L', K L' ∧ L = blk p 73 (fsC q n sb fb v fa' off) :: L') p q n sb fb v fa off h0 fun fa' => fun _ _ hw =>
    (h.frame (R := [blk p 73 (fsC q n sb fb v fa' off)]) (hw.ent (Ent.perm (List.perm_append_comm (l₁ := [_]))))).mono fun _ _ ⟨v, L', e, hk, hh⟩ => ⟨v, _, e, ⟨L', hk, rfl⟩, hh.ent (Ent.perm (List.perm_append_comm (l₂ := [_])))⟩
set_option maxHeartbeats 4000000 in
theorem sync_spec (p : Nat) (d : Dk) (hd : d.Ok) (s : ByteArray) : Spec Try.prog 15 [pv p, .string s] [FSA p d] (fun r L => r = .int .i64 (syncD d s).2 ∧ L = [FSA p (syncD d s).1]) := by
  refine FSA.open' fun x hx => ?_
  obtain ⟨o, e, hve⟩ := find_ptr x.rs d s
  have hfs := find_spec' (p := p) hx hve
  refine Spec.of 19 Try.func15 rfl rfl rfl ?_
  refine swp_seq ?_
  refine swp_region ?_
  refine s_pu (pu_assign rfl) ?_
  refine swl_sub _ (.cons (t := 0) rfl (.cons (t := 1) rfl .nil)) ?_
  refine swl_nil ?_
  refine then_n ?_
  refine swp_seq ?_
  refine swp_region ?_
  refine s_pu (pu_move rfl) ?_
  refine s_pu (pu_move rfl) ?_
  refine s_ef (ef_fn hfs rfl rfl (by repeat (first | exact Split.nil | (apply Split.cons; (repeat (first | with_reducible exact Take.here | apply Take.there)))))) ?_
  rintro v10 L1 ⟨rfl, rfl⟩
  refine swl_app ?_
  refine s_pu (pu_move rfl) ?_
  first | refine s_pu (pu_extractL rfl) ?_ | refine s_pu (pu_extract rfl rfl) ?_
  first | refine s_pu (pu_extractL rfl) ?_ | refine s_pu (pu_extract rfl rfl) ?_
  refine s_ef (ef_alloc) ?_
  intro b5
  refine s_ef0 (ef_store rfl rfl rfl) ?_
  refine s_pu (pu_assign rfl) ?_
  refine swl_sub _ (.cons (t := 0) rfl (.cons (t := 5) rfl (.cons (t := 6) rfl .nil))) ?_
  refine swl_nil ?_
  refine then_n ?_
  refine swp_seq ?_
  refine swp_seq ?_
  refine swp_region ?_
  refine s_pu (pu_move rfl) ?_
  refine s_pu (pu_neq rfl rfl) ?_
  refine swl_sub _ (.cons (t := 0) rfl (.cons (t := 5) rfl (.cons (t := 6) rfl (.cons (t := 14) rfl .nil)))) ?_
  refine swl_nil ?_
  refine then_n ?_
  refine swp_cond (b := _) rfl (fun h14 => ?_) (fun h14 => ?_)
  · skip   -- 14 T
    refine swp_seq ?_
    refine swp_region ?_
    refine s_pu (pu_move rfl) ?_
    refine s_pu (pu_assign rfl) ?_
    refine swl_sub _ (.cons (t := 4) rfl .nil) ?_
    refine swl_nil ?_
    refine then_n ?_
    refine swp_ret ?_
    refine then_r ?_
    have h14' : e ≠ 0 := by simpa using h14
    unfold syncD
    rw [find_err hve h14']
    exact done_retE [FSA p d] (.tmp rfl .nil) ⟨rfl, rfl⟩ ((Split.ent' (K := [fsH p d x, mpe x.sb skv x.es x.cs, mpe x.fb skv x.ef x.cf, own 84 3 x.pv x.ps.length (x.ps.flatMap encP), recsA x.rs]) (by repeat (first | exact Split.nil | (apply Split.cons; (repeat (first | with_reducible exact Take.here | apply Take.there)))))).trans (fs_close hx))
  · skip   -- 14 F
    refine swp_skip ?_
    refine then_n ?_
    refine swp_seq ?_
    have h14' : e = 0 := by simpa using h14
    subst h14'
    obtain ⟨k, hk1, hk2, hk3⟩ := find_ok hve
    obtain ⟨r, hr, hf, ha⟩ := hx.find hk1
    rw [ha] at hk2
    rw [hk2]
    refine swp_ent (Split.ent' (K := [recsA x.rs, blk b5 74 [pv r.a], fsH p d x, mpe x.sb skv x.es x.cs, mpe x.fb skv x.ef x.cf, own 84 3 x.pv x.ps.length (x.ps.flatMap encP)]) (by repeat (first | exact Split.nil | (apply Split.cons; (repeat (first | with_reducible exact Take.here | apply Take.there)))))) ?_
    refine swp_ent (recs_open' hr) ?_
    refine swp_fact (fun m h => own_form h) fun hform => ?_
    refine swp_region ?_
    refine s_pu (pu_move rfl) ?_
    refine s_pu (pu_func (vs := []) (us := [_]) rfl rfl) ?_
    refine s_ef (ef_fn (step_spec' (f := 42) (ca := [pv b5]) (pre := [blk b5 74 [pv r.a], blk r.a 82 [.int .i64 (k : Nat), r.v, .int .i64 (r.f.safe : Nat)]]) p d.quota x.rs.length x.sb x.fb x.pv d.falls d.off hd.falls (sync1_spec b5 r.a k r.f.safe r.f.bytes.length r.v hform)) rfl rfl (by repeat (first | exact Split.nil | (apply Split.cons; (repeat (first | with_reducible exact Take.here | apply Take.there)))))) ?_
    rintro v18 L1 hs
    skip
    refine s_pu (pu_assign rfl) ?_
    refine swl_sub _ (.cons (t := 4) rfl .nil) ?_
    refine swl_nil ?_
    refine then_n ?_
    refine swp_ret ?_
    rcases hs with ⟨hf1, rfl, rfl⟩ | ⟨hfn, rfl, L', rfl, rfl⟩
    · have key : syncD d s = (fa0 d, 8) := by unfold syncD; rw [hk3]; exact atStep_1 hf1 _
      rw [key]
      refine done_retE [FSA p (fa0 d)] (.tmp rfl .nil) ⟨rfl, rfl⟩ ?_
      simp only [List.cons_append, List.nil_append]
      refine Ent.trans (Split.ent' (K := [own 5 1 r.v r.f.bytes.length (bcs r.f.bytes), blk r.a 82 [.int .i64 (k : Nat), r.v, .int .i64 (r.f.safe : Nat)], holeA x.rs k, fsH p (fa0 d) x, mpe x.sb skv x.es x.cs, mpe x.fb skv x.ef x.cf, own 84 3 x.pv x.ps.length (x.ps.flatMap encP)]) (by repeat (first | exact Split.nil | (apply Split.cons; (repeat (first | with_reducible exact Take.here | apply Take.there)))))) ?_
      refine (recs_back' hr).trans ?_
      exact ((Split.ent' (K := [fsH p (fa0 d) x, mpe x.sb skv x.es x.cs, mpe x.fb skv x.ef x.cf, own 84 3 x.pv x.ps.length (x.ps.flatMap encP), recsA x.rs]) (by repeat (first | exact Split.nil | (apply Split.cons; (repeat (first | with_reducible exact Take.here | apply Take.there)))))).trans (fs_close (d := fa0 d) (hx.fa _ _)))
    · have key : syncD d s = ((fa1 d).setF k ⟨r.f.bytes, r.f.bytes.length⟩, 0) := by
        unfold syncD; rw [hk3, atStep_n hfn]
        show ((fa1 d).setF k ⟨(d.fl k).bytes, (d.fl k).bytes.length⟩, _) = _
        rw [← hf]
      rw [key]
      refine done_retE [FSA p ((fa1 d).setF k ⟨r.f.bytes, r.f.bytes.length⟩)] (.tmp rfl .nil) ⟨rfl, rfl⟩ ?_
      simp only [List.cons_append, List.nil_append]
      refine Ent.trans (Split.ent' (K := [own 5 1 r.v r.f.bytes.length (bcs r.f.bytes), blk r.a 82 [.int .i64 (k : Nat), r.v, .int .i64 (r.f.bytes.length : Nat)], holeA x.rs k, fsH p (fa1 d) x, mpe x.sb skv x.es x.cs, mpe x.fb skv x.ef x.cf, own 84 3 x.pv x.ps.length (x.ps.flatMap encP)]) (by repeat (first | exact Split.nil | (apply Split.cons; (repeat (first | with_reducible exact Take.here | apply Take.there)))))) ?_
      exact fs_set (hx.fa _ _) hr (r' := ⟨r.a, r.v, ⟨r.f.bytes, r.f.bytes.length⟩⟩) rfl
end SX
namespace SX
open Go Go.Proofs
theorem own_cap {e n : Nat} {v : Value} {l : Nat} {xs : List Value} {L : List Assn} {m : PH} (h : Sat (own e n v l xs :: L) m) : ∃ A c, v = .slice A l c ∧ l ≤ c ∧ (A = none → c = 0) := by
  obtain ⟨m1, _, ⟨_, ho⟩, _⟩ := h
  rcases ho with ⟨rfl, rfl⟩ | ⟨g, cap, cur, rfl, _, h3, _⟩
  · exact ⟨_, _, rfl, Nat.le_refl _, fun _ => rfl⟩
  · exact ⟨_, _, rfl, h3, fun h => by cases h⟩
theorem bsize (s : ByteArray) : s.data.toList.length = s.size := by rw [Array.length_toList]; rfl
set_option maxHeartbeats 4000000 in
theorem append_spec (p : Nat) (d : Dk) (hd : d.Ok) (s t : ByteArray) (ht : t.size ≤ 1048576) : Spec Try.prog 16 [pv p, .string s, .string t] [FSA p d] (fun r L => r = .int .i64 (appendD d s t.data.toList).2 ∧ L = [FSA p (appendD d s t.data.toList).1]) := by
  refine FSA.open' fun x hx => ?_
  obtain ⟨o, e, hve⟩ := find_ptr x.rs d s
  have hfs := find_spec' (p := p) hx hve
  have hul := Dk.used_le hd
  have hn := strEq_nos t
  have hq := hd.q
  refine Spec.of 35 Try.func16 rfl rfl rfl ?_
  refine swp_seq ?_
  refine swp_region ?_
  refine s_ef (ef_box rfl rfl) ?_
  intro b5
  refine s_pu (pu_assign rfl) ?_
  refine swl_sub _ (.cons (t := 0) rfl (.cons (t := 1) rfl (.cons (t := 5) rfl .nil))) ?_
  refine swl_nil ?_
  refine then_n ?_
  refine swp_seq ?_
  refine swp_region ?_
  refine s_pu (pu_move rfl) ?_
  refine s_pu (pu_move rfl) ?_
  refine s_ef (ef_fn hfs rfl rfl (by repeat (first | exact Split.nil | (apply Split.cons; (repeat (first | with_reducible exact Take.here | apply Take.there)))))) ?_
  rintro v12 L1 ⟨rfl, rfl⟩
  refine swl_app ?_
  refine s_pu (pu_move rfl) ?_
  first | refine s_pu (pu_extractL rfl) ?_ | refine s_pu (pu_extract rfl rfl) ?_
  first | refine s_pu (pu_extractL rfl) ?_ | refine s_pu (pu_extract rfl rfl) ?_
  refine s_ef (ef_alloc) ?_
  intro b7
  refine s_ef0 (ef_store rfl rfl rfl) ?_
  refine s_pu (pu_assign rfl) ?_
  refine swl_sub _ (.cons (t := 0) rfl (.cons (t := 5) rfl (.cons (t := 7) rfl (.cons (t := 8) rfl .nil)))) ?_
  refine swl_nil ?_
  refine then_n ?_
  refine swp_seq ?_
  refine swp_seq ?_
  refine swp_region ?_
  refine s_pu (pu_move rfl) ?_
  refine s_pu (pu_neq rfl rfl) ?_
  refine swl_sub _ (.cons (t := 0) rfl (.cons (t := 5) rfl (.cons (t := 7) rfl (.cons (t := 8) rfl (.cons (t := 16) rfl .nil))))) ?_
  refine swl_nil ?_
  refine then_n ?_
  refine swp_cond (b := _) rfl (fun h16 => ?_) (fun h16 => ?_)
  · skip   -- 16 T
    refine swp_seq ?_
    refine swp_region ?_
    refine s_pu (pu_move rfl) ?_
    refine s_pu (pu_assign rfl) ?_
    refine swl_sub _ (.cons (t := 6) rfl .nil) ?_
    refine swl_nil ?_
    refine then_n ?_
    refine swp_ret ?_
    refine then_r ?_
    have h16' : e ≠ 0 := by simpa using h16
    unfold appendD
    rw [find_err hve h16']
    exact done_retE [FSA p d] (.tmp rfl .nil) ⟨rfl, rfl⟩ ((Split.ent' (K := [fsH p d x, mpe x.sb skv x.es x.cs, mpe x.fb skv x.ef x.cf, own 84 3 x.pv x.ps.length (x.ps.flatMap encP), recsA x.rs]) (by repeat (first | exact Split.nil | (apply Split.cons; (repeat (first | with_reducible exact Take.here | apply Take.there)))))).trans (fs_close hx))
  · skip   -- 16 F
    have h16' : e = 0 := by simpa using h16
    subst h16'
    obtain ⟨k, hk1, hk2, hk3⟩ := find_ok hve
    obtain ⟨r, hr, hf, ha⟩ := hx.find hk1
    rw [ha] at hk2
    rw [hk2]
    have hlen := (Dk.fl_ok hd k).1
    simp only [mostF] at hlen
    rw [← hf] at hlen
    refine swp_skip ?_
    refine then_n ?_
    refine swp_cut (fun env L => Sub env [(0, pv p), (5, pv b5), (7, pv b7)] ∧ Ent L [blk b7 74 [pv r.a], blk b5 9 [.string t], fsH p d x, mpe x.sb skv x.es x.cs, mpe x.fb skv x.ef x.cf, own 84 3 x.pv x.ps.length (x.ps.flatMap encP), recsA x.rs] ∧ ¬ (0 < t.data.toList.length ∧ d.quota < (d.used : Int) + t.data.toList.length)) ?_ ?_
    · skip
      refine swp_seq ?_
      refine swp_draw [0, 5, 11] ([fsH p d x, blk b5 9 [.string t]]) ([blk b7 74 [pv r.a], mpe x.sb skv x.es x.cs, mpe x.fb skv x.ef x.cf, own 84 3 x.pv x.ps.length (x.ps.flatMap encP), recsA x.rs]) (Split.ent (by repeat (first | exact Split.nil | (apply Split.cons; (repeat (first | with_reducible exact Take.here | apply Take.there)))))) (by kernel_rfl) ?_
      refine d_rd 0 rfl (rd_load rfl rfl) rfl (by kernel_rfl) (by kernel_rfl) (by kernel_rfl) ?_
      refine d_pu 1 rfl (pu_str_neq rfl rfl) (by kernel_rfl) (by kernel_rfl) (by kernel_rfl) ?_
      refine d_pu 2 rfl (pu_move rfl) (by kernel_rfl) (by kernel_rfl) (by kernel_rfl) ?_
      refine d_split 20 rfl (fun h20 => ?_) (fun h20 => ?_)
      · skip   -- 20 T
        refine d_pu_on 3 rfl rfl rfl (pu_move rfl) (by kernel_rfl) (by kernel_rfl) (by kernel_rfl) ?_
        refine d_rd_on 5 rfl rfl rfl (rd_load rfl rfl) rfl (by kernel_rfl) (by kernel_rfl) (by kernel_rfl) ?_
        refine d_pu_on 6 rfl rfl rfl (pu_strlen rfl) (by kernel_rfl) (by kernel_rfl) (by kernel_rfl) ?_
        refine d_pu_on 8 rfl rfl rfl (pu_move rfl) (by kernel_rfl) (by kernel_rfl) (by kernel_rfl) ?_
        first | refine d_pu_on 9 rfl rfl rfl (pu_nilCheck rfl) (by kernel_rfl) (by kernel_rfl) (by kernel_rfl) ?_ | refine d_pu_on 9 rfl rfl rfl (pu_nilCheck_fn rfl) (by kernel_rfl) (by kernel_rfl) (by kernel_rfl) ?_ | refine d_pu_on 9 rfl rfl rfl (pu_nilCheck_if rfl) (by kernel_rfl) (by kernel_rfl) (by kernel_rfl) ?_
        first | refine d_pu_on 10 rfl rfl rfl (pu_fieldAddr0 rfl) (by kernel_rfl) (by kernel_rfl) (by kernel_rfl) ?_ | refine d_pu_on 10 rfl rfl rfl (pu_fieldAddr rfl) (by kernel_rfl) (by kernel_rfl) (by kernel_rfl) ?_
        refine d_rd_on 11 rfl rfl rfl (rd_load rfl rfl) rfl (by kernel_rfl) (by kernel_rfl) (by kernel_rfl) ?_
        refine d_amb [4] (by kernel_rfl) rfl ?_
        refine dA_ef 4 rfl (GOn.some rfl rfl) (ef_fn (used_spec p d hd x hx) rfl rfl (by repeat (first | exact Split.nil | (apply Split.cons; (repeat (first | with_reducible exact Take.here | apply Take.there)))))) ?_
        rintro v22 L1 ⟨rfl, rfl⟩
        refine ⟨_, ent_appC (Split.ent (by repeat (first | exact Split.nil | (apply Split.cons; (repeat (first | with_reducible exact Take.here | apply Take.there)))))), ?_⟩
        refine d_pu_on 7 rfl rfl rfl (pu_add_as ((d.used + t.size : Nat) : Int) rfl rfl (by omega) (by omega) (by omega)) (by kernel_rfl) (by kernel_rfl) (by kernel_rfl) ?_
        refine d_pu_on 12 rfl rfl rfl (pu_gtr rfl rfl) (by kernel_rfl) (by kernel_rfl) (by kernel_rfl) ?_
        first | refine d_pu 13 rfl (pu_pick_t rfl rfl) (by kernel_rfl) (by kernel_rfl) (by kernel_rfl) ?_ | refine d_pu 13 rfl (pu_pick_f rfl rfl) (by kernel_rfl) (by kernel_rfl) (by kernel_rfl) ?_
        refine d_sub _ (.cons (t := 0) rfl (.cons (t := 5) rfl (.cons (t := 7) rfl (.cons (t := 31) rfl .nil)))) ?_
        first | refine d_nilt (by kernel_rfl) ?_ | refine d_nilf (by kernel_rfl) ?_
        refine then_n ?_
        refine swp_cond (b := _) rfl (fun h31 => ?_) (fun h31 => ?_)
        · skip   -- 31 T
          refine swp_seq ?_
          refine swp_region ?_
          refine s_pu (pu_assign rfl) ?_
          refine swl_sub _ (.cons (t := 6) rfl .nil) ?_
          refine swl_nil ?_
          refine then_n ?_
          refine swp_ret ?_
          refine then_r ?_
          have h31' := of_decide_eq_true h31
          have key : appendD d s t.data.toList = (d, 7) := by
            unfold appendD
            rw [hk3, if_pos]
            rw [bsize]
            rw [hn] at h20
            have h20' : t.size ≠ 0 := by simpa using h20
            exact ⟨by omega, by omega⟩
          rw [key]
          exact done_retE [FSA p d] (.tmp rfl .nil) ⟨rfl, rfl⟩ ((Split.ent' (K := [fsH p d x, mpe x.sb skv x.es x.cs, mpe x.fb skv x.ef x.cf, own 84 3 x.pv x.ps.length (x.ps.flatMap encP), recsA x.rs]) (by repeat (first | exact Split.nil | (apply Split.cons; (repeat (first | with_reducible exact Take.here | apply Take.there)))))).trans (fs_close hx))
        · skip   -- 31 F
          refine swp_skip ?_
          refine then_n ⟨⟨rfl, rfl, rfl, trivial⟩, Split.ent' (by repeat (first | exact Split.nil | (apply Split.cons; (repeat (first | with_reducible exact Take.here | apply Take.there))))), ?_⟩
          rw [bsize]
          first
            | (have h31' := of_decide_eq_false h31; rintro ⟨_, h2⟩; omega)
            | (rw [hn] at h20
               have h20' : t.size = 0 := by simpa using h20
               rintro ⟨h1, _⟩; omega)
      · skip   -- 20 F
        refine d_off 3 rfl rfl rfl rfl (by kernel_rfl) (by kernel_rfl) (by kernel_rfl) ?_
        refine d_off 4 rfl rfl rfl rfl (by kernel_rfl) (by kernel_rfl) (by kernel_rfl) ?_
        refine d_off 5 rfl rfl rfl rfl (by kernel_rfl) (by kernel_rfl) (by kernel_rfl) ?_
        refine d_off 6 rfl rfl rfl rfl (by kernel_rfl) (by kernel_rfl) (by kernel_rfl) ?_
        refine d_off 7 rfl rfl rfl rfl (by kernel_rfl) (by kernel_rfl) (by kernel_rfl) ?_
        refine d_off 8 rfl rfl rfl rfl (by kernel_rfl) (by kernel_rfl) (by kernel_rfl) ?_
        refine d_off 9 rfl rfl rfl rfl (by kernel_rfl) (by kernel_rfl) (by kernel_rfl) ?_
        refine d_off 10 rfl rfl rfl rfl (by kernel_rfl) (by kernel_rfl) (by kernel_rfl) ?_
        refine d_off 11 rfl rfl rfl rfl (by kernel_rfl) (by kernel_rfl) (by kernel_rfl) ?_
        refine d_off 12 rfl rfl rfl rfl (by kernel_rfl) (by kernel_rfl) (by kernel_rfl) ?_
        first | refine d_pu 13 rfl (pu_pick_t rfl rfl) (by kernel_rfl) (by kernel_rfl) (by kernel_rfl) ?_ | refine d_pu 13 rfl (pu_pick_f rfl rfl) (by kernel_rfl) (by kernel_rfl) (by kernel_rfl) ?_
        refine d_sub _ (.cons (t := 0) rfl (.cons (t := 5) rfl (.cons (t := 7) rfl (.cons (t := 31) rfl .nil)))) ?_
        first | refine d_nilt (by kernel_rfl) ?_ | refine d_nilf (by kernel_rfl) ?_
        refine then_n ?_
        refine swp_cond (b := _) rfl (fun h31 => by cases h31) (fun h31 => ?_)
        refine swp_skip ?_
        refine then_n ⟨⟨rfl, rfl, rfl, trivial⟩, Split.ent' (by repeat (first | exact Split.nil | (apply Split.cons; (repeat (first | with_reducible exact Take.here | apply Take.there))))), ?_⟩
        rw [bsize]
        first
          | (have h31' := of_decide_eq_false h31; rintro ⟨_, h2⟩; omega)
          | (rw [hn] at h20
             have h20' : t.size = 0 := by simpa using h20
             rintro ⟨h1, _⟩; omega)
    rintro env L ⟨hsub, hE, h1⟩
    refine swp_sub _ hsub ?_
    refine swp_ent hE ?_
    clear hsub hE env L
    refine swp_seq ?_
    refine swp_ent (Split.ent' (K := [recsA x.rs, blk b7 74 [pv r.a], blk b5 9 [.string t], fsH p d x, mpe x.sb skv x.es x.cs, mpe x.fb skv x.ef x.cf, own 84 3 x.pv x.ps.length (x.ps.flatMap encP)]) (by repeat (first | exact Split.nil | (apply Split.cons; (repeat (first | with_reducible exact Take.here | apply Take.there)))))) ?_
    refine swp_ent (recs_open' hr) ?_
    refine swp_region ?_
    refine s_pu (pu_move rfl) ?_
    refine s_pu (pu_func (vs := []) (us := [_, _]) rfl rfl) ?_
    refine s_ef (ef_fn (step_spec' (f := 43) (ca := [pv b7, pv b5]) (pre := [blk b7 74 [pv r.a], blk b5 9 [.string t], blk r.a 82 [.int .i64 (k : Nat), r.v, .int .i64 (r.f.safe : Nat)], own 5 1 r.v r.f.bytes.length (bcs r.f.bytes)]) p d.quota x.rs.length x.sb x.fb x.pv d.falls d.off hd.falls (append1_spec b7 b5 r.a k r.f.safe r.f.bytes.length r.v (bcs r.f.bytes) t (by omega))) rfl rfl (by repeat (first | exact Split.nil | (apply Split.cons; (repeat (first | with_reducible exact Take.here | apply Take.there)))))) ?_
    rintro v34 L1 hs
    skip
    refine s_pu (pu_assign rfl) ?_
    refine swl_sub _ (.cons (t := 6) rfl .nil) ?_
    refine swl_nil ?_
    refine then_n ?_
    refine swp_ret ?_
    rcases hs with ⟨hf1, rfl, rfl⟩ | ⟨hfn, rfl, L', ⟨v', rfl⟩, rfl⟩
    · have key : appendD d s t.data.toList = (fa0 d, 8) := by unfold appendD; rw [hk3, if_neg h1]; exact atStep_1 hf1 _
      rw [key]
      refine done_retE [FSA p (fa0 d)] (.tmp rfl .nil) ⟨rfl, rfl⟩ ?_
      simp only [List.cons_append, List.nil_append]
      refine Ent.trans (Split.ent' (K := [own 5 1 r.v r.f.bytes.length (bcs r.f.bytes), blk r.a 82 [.int .i64 (k : Nat), r.v, .int .i64 (r.f.safe : Nat)], holeA x.rs k, fsH p (fa0 d) x, mpe x.sb skv x.es x.cs, mpe x.fb skv x.ef x.cf, own 84 3 x.pv x.ps.length (x.ps.flatMap encP)]) (by repeat (first | exact Split.nil | (apply Split.cons; (repeat (first | with_reducible exact Take.here | apply Take.there)))))) ?_
      refine (recs_back' hr).trans ?_
      exact ((Split.ent' (K := [fsH p (fa0 d) x, mpe x.sb skv x.es x.cs, mpe x.fb skv x.ef x.cf, own 84 3 x.pv x.ps.length (x.ps.flatMap encP), recsA x.rs]) (by repeat (first | exact Split.nil | (apply Split.cons; (repeat (first | with_reducible exact Take.here | apply Take.there)))))).trans (fs_close (d := fa0 d) (hx.fa _ _)))
    · have key : appendD d s t.data.toList = ((fa1 d).setF k ⟨r.f.bytes ++ t.data.toList, r.f.safe⟩, 0) := by
        unfold appendD; rw [hk3, if_neg h1, atStep_n hfn]
        show ((fa1 d).setF k ⟨(d.fl k).bytes ++ _, (d.fl k).safe⟩, _) = _
        rw [← hf]
      rw [key]
      refine done_retE [FSA p ((fa1 d).setF k ⟨r.f.bytes ++ t.data.toList, r.f.safe⟩)] (.tmp rfl .nil) ⟨rfl, rfl⟩ ?_
      simp only [List.cons_append, List.nil_append]
      have hl2 : r.f.bytes.length + t.size = (r.f.bytes ++ t.data.toList).length := by rw [List.length_append, bsize]
      rw [hl2, ← bcs_append]
      refine Ent.trans (Split.ent' (K := [own 5 1 v' (r.f.bytes ++ t.data.toList).length (bcs (r.f.bytes ++ t.data.toList)), blk r.a 82 [.int .i64 (k : Nat), v', .int .i64 (r.f.safe : Nat)], holeA x.rs k, fsH p (fa1 d) x, mpe x.sb skv x.es x.cs, mpe x.fb skv x.ef x.cf, own 84 3 x.pv x.ps.length (x.ps.flatMap encP)]) (by repeat (first | exact Split.nil | (apply Split.cons; (repeat (first | with_reducible exact Take.here | apply Take.there)))))) ?_
      exact fs_set (hx.fa _ _) hr (r' := ⟨r.a, v', ⟨r.f.bytes ++ t.data.toList, r.f.safe⟩⟩) rfl
set_option maxHeartbeats 4000000 in
theorem cut_spec (p : Nat) (d : Dk) (hd : d.Ok) (s : ByteArray) (n : Int) : Spec Try.prog 32 [pv p, .string s, .int .i64 n] [FSA p d] (fun r L => r = .int .i64 (cutD d s n).2 ∧ L = [FSA p (cutD d s n).1]) := by
  refine FSA.open' fun x hx => ?_
  obtain ⟨o, e, hve⟩ := find_ptr x.rs d s
  have hfs := find_spec' (p := p) hx hve
  refine Spec.of 32 Try.func32 rfl rfl rfl ?_
  refine swp_seq ?_
  refine swp_region ?_
  refine s_ef (ef_box rfl rfl) ?_
  intro b5
  refine s_pu (pu_assign rfl) ?_
  refine swl_sub _ (.cons (t := 0) rfl (.cons (t := 1) rfl (.cons (t := 5) rfl .nil))) ?_
  refine swl_nil ?_
  refine then_n ?_
  refine swp_seq ?_
  refine swp_region ?_
  refine s_pu (pu_move rfl) ?_
  refine s_pu (pu_move rfl) ?_
  refine s_ef (ef_fn hfs rfl rfl (by repeat (first | exact Split.nil | (apply Split.cons; (repeat (first | with_reducible exact Take.here | apply Take.there)))))) ?_
  rintro v12 L1 ⟨rfl, rfl⟩
  refine swl_app ?_
  refine s_pu (pu_move rfl) ?_
  first | refine s_pu (pu_extractL rfl) ?_ | refine s_pu (pu_extract rfl rfl) ?_
  first | refine s_pu (pu_extractL rfl) ?_ | refine s_pu (pu_extract rfl rfl) ?_
  refine s_ef (ef_alloc) ?_
  intro b7
  refine s_ef0 (ef_store rfl rfl rfl) ?_
  refine s_pu (pu_assign rfl) ?_
  refine swl_sub _ (.cons (t := 0) rfl (.cons (t := 5) rfl (.cons (t := 7) rfl (.cons (t := 8) rfl .nil)))) ?_
  refine swl_nil ?_
  refine then_n ?_
  refine swp_seq ?_
  refine swp_seq ?_
  refine swp_region ?_
  refine s_pu (pu_move rfl) ?_
  refine s_pu (pu_neq rfl rfl) ?_
  refine swl_sub _ (.cons (t := 0) rfl (.cons (t := 5) rfl (.cons (t := 7) rfl (.cons (t := 8) rfl (.cons (t := 16) rfl .nil))))) ?_
  refine swl_nil ?_
  refine then_n ?_
  refine swp_cond (b := _) rfl (fun h16 => ?_) (fun h16 => ?_)
  · skip   -- 16 T
    refine swp_seq ?_
    refine swp_region ?_
    refine s_pu (pu_move rfl) ?_
    refine s_pu (pu_assign rfl) ?_
    refine swl_sub _ (.cons (t := 6) rfl .nil) ?_
    refine swl_nil ?_
    refine then_n ?_
    refine swp_ret ?_
    refine then_r ?_
    have h16' : e ≠ 0 := by simpa using h16
    unfold cutD
    rw [find_err hve h16']
    exact done_retE [FSA p d] (.tmp rfl .nil) ⟨rfl, rfl⟩ ((Split.ent' (K := [fsH p d x, mpe x.sb skv x.es x.cs, mpe x.fb skv x.ef x.cf, own 84 3 x.pv x.ps.length (x.ps.flatMap encP), recsA x.rs]) (by repeat (first | exact Split.nil | (apply Split.cons; (repeat (first | with_reducible exact Take.here | apply Take.there)))))).trans (fs_close hx))
  · skip   -- 16 F
    have h16' : e = 0 := by simpa using h16
    subst h16'
    obtain ⟨k, hk1, hk2, hk3⟩ := find_ok hve
    obtain ⟨r, hr, hf, ha⟩ := hx.find hk1
    rw [ha] at hk2
    rw [hk2]
    have hlen := (Dk.fl_ok hd k).1
    simp only [mostF] at hlen
    rw [← hf] at hlen
    refine swp_ent (Split.ent' (K := [recsA x.rs, blk b7 74 [pv r.a], blk b5 3 [.int .i64 n], fsH p d x, mpe x.sb skv x.es x.cs, mpe x.fb skv x.ef x.cf, own 84 3 x.pv x.ps.length (x.ps.flatMap encP)]) (by repeat (first | exact Split.nil | (apply Split.cons; (repeat (first | with_reducible exact Take.here | apply Take.there)))))) ?_
    refine swp_ent (recs_open' hr) ?_
    refine swp_fact (fun m h => own_cap h) fun ⟨A, c, hv, hlc, hA⟩ => ?_
    refine swp_skip ?_
    refine then_n ?_
    refine swp_cut (fun env L => Sub env [(0, pv p), (5, pv b5), (7, pv b7)] ∧ Ent L [own 5 1 r.v r.f.bytes.length (bcs r.f.bytes), blk r.a 82 [.int .i64 (k : Nat), r.v, .int .i64 (r.f.safe : Nat)], holeA x.rs k, blk b7 74 [pv r.a], blk b5 3 [.int .i64 n], fsH p d x, mpe x.sb skv x.es x.cs, mpe x.fb skv x.ef x.cf, own 84 3 x.pv x.ps.length (x.ps.flatMap encP)] ∧ 0 ≤ n ∧ n ≤ r.f.bytes.length) ?_ ?_
    · skip
      refine swp_seq ?_
      refine swp_draw [0, 3, 4, 7] _ [] (by simp only [List.append_nil]; exact Ent.refl _) (by kernel_rfl) ?_
      refine d_rd 0 rfl (rd_load rfl rfl) rfl (by kernel_rfl) (by kernel_rfl) (by kernel_rfl) ?_
      refine d_pu 1 rfl (pu_lss rfl rfl) (by kernel_rfl) (by kernel_rfl) (by kernel_rfl) ?_
      refine d_pu 2 rfl (pu_move rfl) (by kernel_rfl) (by kernel_rfl) (by kernel_rfl) ?_
      refine d_split 20 rfl (fun h20 => ?_) (fun h20 => ?_)
      · skip   -- 20 T
        refine d_off 3 rfl rfl rfl rfl (by kernel_rfl) (by kernel_rfl) (by kernel_rfl) ?_
        refine d_off 4 rfl rfl rfl rfl (by kernel_rfl) (by kernel_rfl) (by kernel_rfl) ?_
        refine d_off 5 rfl rfl rfl rfl (by kernel_rfl) (by kernel_rfl) (by kernel_rfl) ?_
        refine d_off 6 rfl rfl rfl rfl (by kernel_rfl) (by kernel_rfl) (by kernel_rfl) ?_
        refine d_off 7 rfl rfl rfl rfl (by kernel_rfl) (by kernel_rfl) (by kernel_rfl) ?_
        refine d_off 8 rfl rfl rfl rfl (by kernel_rfl) (by kernel_rfl) (by kernel_rfl) ?_
        refine d_off 9 rfl rfl rfl rfl (by kernel_rfl) (by kernel_rfl) (by kernel_rfl) ?_
        first | refine d_pu 10 rfl (pu_pick_t rfl rfl) (by kernel_rfl) (by kernel_rfl) (by kernel_rfl) ?_ | refine d_pu 10 rfl (pu_pick_f rfl rfl) (by kernel_rfl) (by kernel_rfl) (by kernel_rfl) ?_
        refine d_sub _ (.cons (t := 0) rfl (.cons (t := 5) rfl (.cons (t := 7) rfl (.cons (t := 28) rfl .nil)))) ?_
        first | refine d_nilt (by kernel_rfl) ?_ | refine d_nilf (by kernel_rfl) ?_
        refine then_n ?_
        refine swp_cond (b := _) rfl (fun h28 => ?_) (fun h28 => by cases h28)
        refine swp_seq ?_
        refine swp_region ?_
        refine s_pu (pu_assign rfl) ?_
        refine swl_sub _ (.cons (t := 6) rfl .nil) ?_
        refine swl_nil ?_
        refine then_n ?_
        refine swp_ret ?_
        refine then_r ?_
        have h20' := of_decide_eq_true h20
        have key : cutD d s n = (d, 1) := by unfold cutD; rw [hk3, if_pos (.inl h20')]
        rw [key]
        refine done_retE [FSA p d] (.tmp rfl .nil) ⟨rfl, rfl⟩ ?_
        refine Ent.trans (Split.ent' (K := [own 5 1 r.v r.f.bytes.length (bcs r.f.bytes), blk r.a 82 [.int .i64 (k : Nat), r.v, .int .i64 (r.f.safe : Nat)], holeA x.rs k, fsH p d x, mpe x.sb skv x.es x.cs, mpe x.fb skv x.ef x.cf, own 84 3 x.pv x.ps.length (x.ps.flatMap encP)]) (by repeat (first | exact Split.nil | (apply Split.cons; (repeat (first | with_reducible exact Take.here | apply Take.there)))))) ?_
        exact (recs_back' hr).trans ((Split.ent' (K := [fsH p d x, mpe x.sb skv x.es x.cs, mpe x.fb skv x.ef x.cf, own 84 3 x.pv x.ps.length (x.ps.flatMap encP), recsA x.rs]) (by repeat (first | exact Split.nil | (apply Split.cons; (repeat (first | with_reducible exact Take.here | apply Take.there)))))).trans (fs_close hx))
      · skip   -- 20 F
        refine d_rd_on 3 rfl rfl rfl (rd_load rfl rfl) rfl (by kernel_rfl) (by kernel_rfl) (by kernel_rfl) ?_
        refine d_rd_on 4 rfl rfl rfl (rd_load rfl rfl) rfl (by kernel_rfl) (by kernel_rfl) (by kernel_rfl) ?_
        first | refine d_pu_on 5 rfl rfl rfl (pu_nilCheck rfl) (by kernel_rfl) (by kernel_rfl) (by kernel_rfl) ?_ | refine d_pu_on 5 rfl rfl rfl (pu_nilCheck_fn rfl) (by kernel_rfl) (by kernel_rfl) (by kernel_rfl) ?_ | refine d_pu_on 5 rfl rfl rfl (pu_nilCheck_if rfl) (by kernel_rfl) (by kernel_rfl) (by kernel_rfl) ?_
        first | refine d_pu_on 6 rfl rfl rfl (pu_fieldAddr0 rfl) (by kernel_rfl) (by kernel_rfl) (by kernel_rfl) ?_ | refine d_pu_on 6 rfl rfl rfl (pu_fieldAddr rfl) (by kernel_rfl) (by kernel_rfl) (by kernel_rfl) ?_
        refine d_rd_on 7 rfl rfl rfl (rd_load rfl rfl) rfl (by kernel_rfl) (by kernel_rfl) (by kernel_rfl) ?_
        refine d_pu_on 8 rfl rfl rfl (pu_len_own ⟨A, c, hv⟩ rfl) (by kernel_rfl) (by kernel_rfl) (by kernel_rfl) ?_
        refine d_pu_on 9 rfl rfl rfl (pu_gtr rfl rfl) (by kernel_rfl) (by kernel_rfl) (by kernel_rfl) ?_
        first | refine d_pu 10 rfl (pu_pick_t rfl rfl) (by kernel_rfl) (by kernel_rfl) (by kernel_rfl) ?_ | refine d_pu 10 rfl (pu_pick_f rfl rfl) (by kernel_rfl) (by kernel_rfl) (by kernel_rfl) ?_
        refine d_sub _ (.cons (t := 0) rfl (.cons (t := 5) rfl (.cons (t := 7) rfl (.cons (t := 28) rfl .nil)))) ?_
        first | refine d_nilt (by kernel_rfl) ?_ | refine d_nilf (by kernel_rfl) ?_
        refine then_n ?_
        refine swp_cond (b := _) rfl (fun h28 => ?_) (fun h28 => ?_)
        · skip   -- 28 T
          refine swp_seq ?_
          refine swp_region ?_
          refine s_pu (pu_assign rfl) ?_
          refine swl_sub _ (.cons (t := 6) rfl .nil) ?_
          refine swl_nil ?_
          refine then_n ?_
          refine swp_ret ?_
          refine then_r ?_
          have h28' := of_decide_eq_true h28
          have key : cutD d s n = (d, 1) := by unfold cutD; rw [hk3, if_pos (.inr (by rw [← hf]; exact h28'))]
          rw [key]
          refine done_retE [FSA p d] (.tmp rfl .nil) ⟨rfl, rfl⟩ ?_
          refine Ent.trans (Split.ent' (K := [own 5 1 r.v r.f.bytes.length (bcs r.f.bytes), blk r.a 82 [.int .i64 (k : Nat), r.v, .int .i64 (r.f.safe : Nat)], holeA x.rs k, fsH p d x, mpe x.sb skv x.es x.cs, mpe x.fb skv x.ef x.cf, own 84 3 x.pv x.ps.length (x.ps.flatMap encP)]) (by repeat (first | exact Split.nil | (apply Split.cons; (repeat (first | with_reducible exact Take.here | apply Take.there)))))) ?_
          exact (recs_back' hr).trans ((Split.ent' (K := [fsH p d x, mpe x.sb skv x.es x.cs, mpe x.fb skv x.ef x.cf, own 84 3 x.pv x.ps.length (x.ps.flatMap encP), recsA x.rs]) (by repeat (first | exact Split.nil | (apply Split.cons; (repeat (first | with_reducible exact Take.here | apply Take.there)))))).trans (fs_close hx))
        · skip   -- 28 F
          refine swp_skip ?_
          exact then_n ⟨⟨rfl, rfl, rfl, trivial⟩, Split.ent' (by repeat (first | exact Split.nil | (apply Split.cons; (repeat (first | with_reducible exact Take.here | apply Take.there))))), by have := of_decide_eq_false h20; omega, by have := of_decide_eq_false h28; omega⟩
    rintro env L ⟨hsub, hE, h1, h2⟩
    refine swp_sub _ hsub ?_
    refine swp_ent hE ?_
    clear hsub hE env L
    obtain ⟨m, rfl⟩ : ∃ m : Nat, n = (m : Int) := ⟨n.toNat, by omega⟩
    have h2' : m ≤ r.f.bytes.length := by omega
    have hv2 : r.v = .slice A r.f.bytes.length c := hv
    refine swp_seq ?_
    refine swp_region ?_
    refine s_pu (pu_move rfl) ?_
    refine s_pu (pu_func (vs := []) (us := [_, _]) rfl rfl) ?_
    refine s_ef (ef_fn (step_spec' (f := 62) (ca := [pv b7, pv b5]) (pre := [blk b7 74 [pv r.a], blk b5 3 [.int .i64 (m : Nat)], blk r.a 82 [.int .i64 (k : Nat), r.v, .int .i64 (r.f.safe : Nat)], own 5 1 r.v r.f.bytes.length (bcs r.f.bytes)]) p d.quota x.rs.length x.sb x.fb x.pv d.falls d.off hd.falls (by rw [hv2]; exact cut1_spec b7 b5 r.a k r.f.safe m r.f.bytes.length c A r.f.bytes rfl h2' hlc (by omega) hA)) rfl rfl (by repeat (first | exact Split.nil | (apply Split.cons; (repeat (first | with_reducible exact Take.here | apply Take.there)))))) ?_
    rintro v31 L1 hs
    skip
    refine s_pu (pu_assign rfl) ?_
    refine swl_sub _ (.cons (t := 6) rfl .nil) ?_
    refine swl_nil ?_
    refine then_n ?_
    refine swp_ret ?_
    rcases hs with ⟨hf1, rfl, rfl⟩ | ⟨hfn, rfl, L', ⟨v', rfl⟩, rfl⟩
    · have key : cutD d s (m : Int) = (fa0 d, 8) := by unfold cutD; rw [hk3, if_neg (by rw [← hf]; omega)]; exact atStep_1 hf1 _
      rw [key]
      refine done_retE [FSA p (fa0 d)] (.tmp rfl .nil) ⟨rfl, rfl⟩ ?_
      simp only [List.cons_append, List.nil_append]
      refine Ent.trans (Split.ent' (K := [own 5 1 r.v r.f.bytes.length (bcs r.f.bytes), blk r.a 82 [.int .i64 (k : Nat), r.v, .int .i64 (r.f.safe : Nat)], holeA x.rs k, fsH p (fa0 d) x, mpe x.sb skv x.es x.cs, mpe x.fb skv x.ef x.cf, own 84 3 x.pv x.ps.length (x.ps.flatMap encP)]) (by repeat (first | exact Split.nil | (apply Split.cons; (repeat (first | with_reducible exact Take.here | apply Take.there)))))) ?_
      refine (recs_back' hr).trans ?_
      exact ((Split.ent' (K := [fsH p (fa0 d) x, mpe x.sb skv x.es x.cs, mpe x.fb skv x.ef x.cf, own 84 3 x.pv x.ps.length (x.ps.flatMap encP), recsA x.rs]) (by repeat (first | exact Split.nil | (apply Split.cons; (repeat (first | with_reducible exact Take.here | apply Take.there)))))).trans (fs_close (d := fa0 d) (hx.fa _ _)))
    · have key : cutD d s (m : Int) = ((fa1 d).setF k ⟨r.f.bytes.take m, min r.f.safe m⟩, 0) := by
        unfold cutD; rw [hk3, if_neg (by rw [← hf]; omega), atStep_n hfn]
        show ((fa1 d).setF k ⟨(d.fl k).bytes.take (m : Int).toNat, min (d.fl k).safe (m : Int).toNat⟩, _) = _
        rw [← hf, Int.toNat_natCast]
      rw [key]
      refine done_retE [FSA p ((fa1 d).setF k ⟨r.f.bytes.take m, min r.f.safe m⟩)] (.tmp rfl .nil) ⟨rfl, rfl⟩ ?_
      simp only [List.cons_append, List.nil_append]
      have hl2 : m = (r.f.bytes.take m).length := by rw [List.length_take, Nat.min_eq_left h2']
      refine Ent.trans (Split.ent' (K := [own 5 1 v' m (bcs (r.f.bytes.take m)), blk r.a 82 [.int .i64 (k : Nat), v', .int .i64 (min r.f.safe m : Nat)], holeA x.rs k, fsH p (fa1 d) x, mpe x.sb skv x.es x.cs, mpe x.fb skv x.ef x.cf, own 84 3 x.pv x.ps.length (x.ps.flatMap encP)]) (by repeat (first | exact Split.nil | (apply Split.cons; (repeat (first | with_reducible exact Take.here | apply Take.there)))))) ?_
      have := fs_set (p := p) (L := []) (hx.fa (fa1 d).falls d.off) hr (r' := ⟨r.a, v', ⟨r.f.bytes.take m, min r.f.safe m⟩⟩) rfl
      simp only [← hl2] at this
      exact this
end SX
namespace SX
open Go Go.Proofs
instance : MClone Try.prog 67 := ⟨_, Try.func67, by kernel_rfl, by kernel_rfl, by kernel_rfl, by kernel_rfl⟩
/-- maps.Clone -/
theorem mclone_spec (b : Nat) (es : Ents ByteArray) (cl : Nat) : Spec Try.prog 41 [.map (some b)] [mpe b skv es cl] (fun r L => ∃ b', r = .map (some b') ∧ L = [mpe b' skv es cl, mpe b skv es cl]) := by
  refine Spec.of 9 Try.func41 rfl rfl rfl ?_
  refine swp_seq ?_
  refine swp_region ?_
  refine s_pu (pu_assign rfl) ?_
  refine swl_sub _ (.cons (t := 0) rfl .nil) ?_
  refine swl_nil ?_
  refine then_n ?_
  refine swp_seq ?_
  refine swp_seq ?_
  refine swp_region ?_
  refine s_pu (pu_move rfl) ?_
  refine s_pu (pu_map_eq_nil rfl rfl) ?_
  refine swl_sub _ (.cons (t := 0) rfl (.cons (t := 4) rfl .nil)) ?_
  refine swl_nil ?_
  refine then_n ?_
  refine swp_cond (b := _) rfl (fun h4 => by cases h4) (fun h4 => ?_)
  refine swp_skip ?_
  refine then_n ?_
  refine swp_seq ?_
  refine swp_region ?_
  refine s_pu (pu_move rfl) ?_
  refine s_pu (pu_iface rfl) ?_
  refine s_ef (ef_mclone (κ := ByteArray) rfl rfl) ?_
  rintro b7
  skip
  refine s_pu (pu_typeAssert_map rfl) ?_
  refine s_pu (pu_assign rfl) ?_
  refine swl_sub _ (.cons (t := 2) rfl .nil) ?_
  refine swl_nil ?_
  refine then_n ?_
  refine swp_ret ?_
  exact done_ret [mpe b7 skv es cl, mpe b skv es cl] (.tmp rfl .nil) ⟨b7, rfl, rfl⟩ (by repeat (first | exact Split.nil | (apply Split.cons; (repeat (first | with_reducible exact Take.here | apply Take.there)))))
/-- SyncNames' step -/
theorem syncn1_spec (p d0 : Nat) (q : Int) (n sb fb : Nat) (w : Value) (fa : Int) (off : Bool) (es : Ents ByteArray) (cl : Nat) :
    Spec Try.prog 40 [pv d0] [blk p 73 (fsC q n sb fb w fa off), blk d0 24 [pv p], mpe sb skv es cl]
      (fun _ L => ∃ fb', L = [blk p 73 (fsC q n sb fb' (.slice none 0 0) fa off), mpe sb skv es cl, mpe fb' skv es cl]) := by
  refine Spec.of 12 Try.func40 rfl rfl rfl ?_
  refine swp_seq ?_
  refine swp_draw [0, 1, 4] ([blk p 73 (fsC q n sb fb w fa off), blk d0 24 [pv p]]) ([mpe sb skv es cl]) (Split.ent (by repeat (first | exact Split.nil | (apply Split.cons; (repeat (first | with_reducible exact Take.here | apply Take.there)))))) (by kernel_rfl) ?_
  refine d_rd 0 rfl (rd_load rfl rfl) rfl (by kernel_rfl) (by kernel_rfl) (by kernel_rfl) ?_
  refine d_rd 1 rfl (rd_load rfl rfl) rfl (by kernel_rfl) (by kernel_rfl) (by kernel_rfl) ?_
  first | refine d_pu 2 rfl (pu_nilCheck rfl) (by kernel_rfl) (by kernel_rfl) (by kernel_rfl) ?_ | refine d_pu 2 rfl (pu_nilCheck_fn rfl) (by kernel_rfl) (by kernel_rfl) (by kernel_rfl) ?_ | refine d_pu 2 rfl (pu_nilCheck_if rfl) (by kernel_rfl) (by kernel_rfl) (by kernel_rfl) ?_
  first | refine d_pu 3 rfl (pu_fieldAddr0 rfl) (by kernel_rfl) (by kernel_rfl) (by kernel_rfl) ?_ | refine d_pu 3 rfl (pu_fieldAddr rfl) (by kernel_rfl) (by kernel_rfl) (by kernel_rfl) ?_
  refine d_rd 4 rfl (rd_load rfl rfl) rfl (by kernel_rfl) (by kernel_rfl) (by kernel_rfl) ?_
  refine d_eft 5 rfl (by kernel_rfl) (ef_fn (mclone_spec sb es cl) rfl rfl (by repeat (first | exact Split.nil | (apply Split.cons; (repeat (first | with_reducible exact Take.here | apply Take.there)))))) ?_
  rintro v6 L1 ⟨b', rfl, rfl⟩
  refine ⟨_, ent_appC (Split.ent (by repeat (first | exact Split.nil | (apply Split.cons; (repeat (first | with_reducible exact Take.here | apply Take.there)))))), ?_⟩
  first | refine d_pu 6 rfl (pu_nilCheck rfl) (by kernel_rfl) (by kernel_rfl) (by kernel_rfl) ?_ | refine d_pu 6 rfl (pu_nilCheck_fn rfl) (by kernel_rfl) (by kernel_rfl) (by kernel_rfl) ?_ | refine d_pu 6 rfl (pu_nilCheck_if rfl) (by kernel_rfl) (by kernel_rfl) (by kernel_rfl) ?_
  first | refine d_pu 7 rfl (pu_fieldAddr0 rfl) (by kernel_rfl) (by kernel_rfl) (by kernel_rfl) ?_ | refine d_pu 7 rfl (pu_fieldAddr rfl) (by kernel_rfl) (by kernel_rfl) (by kernel_rfl) ?_
  first | refine d_fin0t 8 rfl (by kernel_rfl) (by kernel_rfl) (ef_store rfl rfl rfl) ?_ | refine d_fin0f 8 rfl (by kernel_rfl) (by kernel_rfl) (ef_store rfl rfl rfl) ?_
  refine d_sub _ (.cons (t := 0) rfl .nil) ?_
  first | refine d_nilt (by kernel_rfl) ?_ | refine d_nilf (by kernel_rfl) ?_
  refine then_n ?_
  refine swp_region ?_
  refine s_rd (rd_load rfl rfl) ?_
  first | refine s_pu (pu_nilCheck rfl) ?_ | refine s_pu (pu_nilCheck_fn rfl) ?_ | refine s_pu (pu_nilCheck_if rfl) ?_
  first | refine s_pu (pu_fieldAddr0 rfl) ?_ | refine s_pu (pu_fieldAddr rfl) ?_
  refine s_ef0 (ef_store rfl rfl rfl) ?_
  refine swl_sub _ .nil ?_
  refine swl_nil ?_
  exact done_end [blk p 73 (fsC q n sb b' (.slice none 0 0) fa off), mpe sb skv es cl, mpe b' skv es cl] .nil ⟨b', rfl⟩ (by repeat (first | exact Split.nil | (apply Split.cons; (repeat (first | with_reducible exact Take.here | apply Take.there)))))
theorem Rep.sync {d : Dk} {x : FX} (h : Rep d x) (fb' : Nat) : Rep { d with safe := d.seen, pend := [] } { x with fb := fb', ef := x.es, cf := x.cs, ps := [], pv := .slice none 0 0 } :=
  ⟨h.seen, h.seen, h.bs, h.bs, h.len, fun k hk => h.fl k (by
    rcases hk with hk | hk | ⟨c, hc, _⟩
    · exact .inl hk
    · exact .inl hk
    · cases hc), rfl, fun i p c hp => by cases hp⟩
set_option maxHeartbeats 4000000 in
theorem syncn_spec (p : Nat) (d : Dk) (hd : d.Ok) : Spec Try.prog 14 [pv p] [FSA p d] (fun r L => r = .int .i64 (syncNamesD d).2 ∧ L = [FSA p (syncNamesD d).1]) := by
  refine FSA.open' fun x hx => ?_
  obtain ⟨o, e, hve⟩ := find_ptr x.rs d nos
  have hfs := find_spec' (p := p) hx hve
  have hcs := find_cases hve
  have hno : findN d.seen nos = none := findN_none.2 fun x hx e => by have := hd.names x hx; rw [e, strEq_refl] at this; cases this
  refine Spec.of 16 Try.func14 rfl rfl rfl ?_
  refine swp_seq ?_
  refine swp_region ?_
  refine s_ef (ef_box rfl rfl) ?_
  intro b1
  refine s_pu (pu_assign rfl) ?_
  refine swl_sub _ (.cons (t := 1) rfl .nil) ?_
  refine swl_nil ?_
  refine then_n ?_
  refine swp_seq ?_
  refine swp_seq ?_
  refine swp_region ?_
  refine s_rd (rd_load rfl rfl) ?_
  refine s_ef (ef_fn hfs rfl rfl (by repeat (first | exact Split.nil | (apply Split.cons; (repeat (first | with_reducible exact Take.here | apply Take.there)))))) ?_
  rintro v7 L1 ⟨rfl, rfl⟩
  refine swl_app ?_
  refine s_pu (pu_move rfl) ?_
  first | refine s_pu (pu_extractL rfl) ?_ | refine s_pu (pu_extract rfl rfl) ?_
  first | refine s_pu (pu_extractL rfl) ?_ | refine s_pu (pu_extract rfl rfl) ?_
  refine s_pu (pu_assign rfl) ?_
  refine s_pu (pu_assign rfl) ?_
  refine swl_sub _ (.cons (t := 1) rfl (.cons (t := 4) rfl .nil)) ?_
  refine swl_nil ?_
  refine then_n ?_
  refine swp_seq ?_
  refine swp_region ?_
  refine s_pu (pu_move rfl) ?_
  refine s_pu (pu_neq rfl rfl) ?_
  refine swl_sub _ (.cons (t := 1) rfl (.cons (t := 4) rfl (.cons (t := 11) rfl .nil))) ?_
  refine swl_nil ?_
  refine then_n ?_
  refine swp_cond (b := _) rfl (fun h11 => ?_) (fun h11 => ?_)
  · skip   -- 11 T
    refine swp_seq ?_
    refine swp_region ?_
    refine s_pu (pu_move rfl) ?_
    refine s_pu (pu_assign rfl) ?_
    refine swl_sub _ (.cons (t := 2) rfl .nil) ?_
    refine swl_nil ?_
    refine then_n ?_
    refine swp_ret ?_
    refine then_r ?_
    have h11' : e ≠ 6 := by simpa using h11
    have h8 : e = 8 ∧ d.off = true := by
      rcases hcs with h | ⟨h, _⟩ | ⟨_, _, k, h, _⟩
      · exact h
      · exact absurd h h11'
      · rw [hno] at h; cases h
    have key : syncNamesD d = (d, 8) := by unfold syncNamesD; rw [if_pos h8.2]
    rw [key, h8.1]
    exact done_retE [FSA p d] (.tmp rfl .nil) ⟨rfl, rfl⟩ ((Split.ent' (K := [fsH p d x, mpe x.sb skv x.es x.cs, mpe x.fb skv x.ef x.cf, own 84 3 x.pv x.ps.length (x.ps.flatMap encP), recsA x.rs]) (by repeat (first | exact Split.nil | (apply Split.cons; (repeat (first | with_reducible exact Take.here | apply Take.there)))))).trans (fs_close hx))
  · skip   -- 11 F
    have h11' : e = 6 := by simpa using h11
    have hoff : d.off = false := by
      rcases hcs with ⟨h, _⟩ | ⟨_, h, _⟩ | ⟨h, _⟩
      · rw [h11'] at h; cases h
      · exact h
      · rw [h11'] at h; cases h
    refine swp_skip ?_
    refine then_n ?_
    refine swp_seq ?_
    refine swp_region ?_
    refine s_rd (rd_load rfl rfl) ?_
    refine s_pu (pu_func (vs := []) (us := [_]) rfl rfl) ?_
    refine s_ef (ef_fn (step_spec (f := 40) (ca := [pv b1]) (pre := [blk b1 24 [pv p], mpe x.sb skv x.es x.cs]) p d.quota x.rs.length x.sb x.fb x.pv d.falls d.off hd.falls (fun fa' => syncn1_spec p b1 d.quota x.rs.length x.sb x.fb x.pv fa' d.off x.es x.cs)) rfl rfl (by repeat (first | exact Split.nil | (apply Split.cons; (repeat (first | with_reducible exact Take.here | apply Take.there)))))) ?_
    rintro v15 L1 hs
    skip
    refine s_pu (pu_assign rfl) ?_
    refine swl_sub _ (.cons (t := 2) rfl .nil) ?_
    refine swl_nil ?_
    refine then_n ?_
    refine swp_ret ?_
    rcases hs with ⟨hf1, rfl, rfl⟩ | ⟨hfn, rfl, fb', rfl⟩
    · have key : syncNamesD d = (fa0 d, 8) := by unfold syncNamesD; rw [if_neg (by rw [hoff]; decide)]; exact atStep_1 hf1 _
      rw [key]
      refine done_retE [FSA p (fa0 d)] (.tmp rfl .nil) ⟨rfl, rfl⟩ ?_
      simp only [List.cons_append, List.nil_append]
      exact ((Split.ent' (K := [fsH p (fa0 d) x, mpe x.sb skv x.es x.cs, mpe x.fb skv x.ef x.cf, own 84 3 x.pv x.ps.length (x.ps.flatMap encP), recsA x.rs]) (by repeat (first | exact Split.nil | (apply Split.cons; (repeat (first | with_reducible exact Take.here | apply Take.there)))))).trans (fs_close (d := fa0 d) (hx.fa _ _)))
    · have key : syncNamesD d = (({ (fa1 d) with safe := d.seen, pend := [] } : Dk), 0) := by unfold syncNamesD; rw [if_neg (by rw [hoff]; decide)]; exact atStep_n hfn _
      rw [key]
      refine done_retE [FSA p ({ (fa1 d) with safe := d.seen, pend := [] } : Dk)] (.tmp rfl .nil) ⟨rfl, rfl⟩ ?_
      simp only [List.cons_append, List.nil_append]
      refine Ent.trans (own_nil_ent (e := 84) (n := 3)) ?_
      refine Ent.trans (Split.ent' (K := [blk p 73 (fsC d.quota x.rs.length x.sb fb' (.slice none 0 0) (if 0 < d.falls then d.falls - 1 else d.falls) d.off), mpe x.sb skv x.es x.cs, mpe fb' skv x.es x.cs, own 84 3 (.slice none 0 0) 0 [], recsA x.rs]) (by repeat (first | exact Split.nil | (apply Split.cons; (repeat (first | with_reducible exact Take.here | apply Take.there)))))) ?_
      exact fs_close (d := { (fa1 d) with safe := d.seen, pend := [] }) (x := { x with fb := fb', ef := x.es, cf := x.cs, ps := [], pv := .slice none 0 0 }) ((hx.fa (fa1 d).falls d.off).sync fb')
/-- Rename's step -/
theorem rename1_spec (p d0 s0 t0 f0 a : Nat) (q : Int) (n sb fb : Nat) (w : Value) (fa : Int) (off : Bool) (es : Ents ByteArray) (cl : Nat) (ps : List Pc) (hl : ps.length ≤ 1048576) (s t : ByteArray) :
    Spec Try.prog 63 [pv s0, pv t0, pv d0, pv f0] [blk p 73 (fsC q n sb fb w fa off), blk s0 9 [.string s], blk t0 9 [.string t], blk d0 24 [pv p], blk f0 74 [pv a], mpe sb skv es cl, own 84 3 w ps.length (ps.flatMap encP)]
      (fun _ L => (strEq s t = true ∧ L = [blk p 73 (fsC q n sb fb w fa off), mpe sb skv es cl, own 84 3 w ps.length (ps.flatMap encP)]) ∨ (strEq s t = false ∧ ∃ w' ps', ps' = ps ++ [((s, t, pv a) : Pc)] ∧ L = [blk p 73 (fsC q n sb fb w' fa off), mpe sb skv (doE es cl (s, t, pv a)) (doC es cl (s, t, pv a)), own 84 3 w' ps'.length (ps'.flatMap encP)])) := by
  refine Spec.of 13 Try.func63 rfl rfl rfl ?_
  refine swp_seq ?_
  refine swp_region ?_
  refine s_rd (rd_load rfl rfl) ?_
  refine s_rd (rd_load rfl rfl) ?_
  refine s_pu (pu_str_neq rfl rfl) ?_
  refine swl_sub _ (.cons (t := 0) rfl (.cons (t := 1) rfl (.cons (t := 2) rfl (.cons (t := 3) rfl (.cons (t := 6) rfl .nil))))) ?_
  refine swl_nil ?_
  refine then_n ?_
  refine swp_cond (b := _) rfl (fun h6 => ?_) (fun h6 => ?_)
  · skip   -- 6 T
    refine swp_region ?_
    refine s_rd (rd_load rfl rfl) ?_
    refine s_rd (rd_load rfl rfl) ?_
    refine s_rd (rd_load rfl rfl) ?_
    refine s_rd (rd_load rfl rfl) ?_
    refine s_pu (pu_bld (qs := [(0, _), (1, _), (2, _)]) rfl) ?_
    refine s_ef (ef_fn (change_spec p q n sb fb w fa off es cl ps hl s t (some ⟨a, 0, none⟩)) rfl rfl (by repeat (first | exact Split.nil | (apply Split.cons; (repeat (first | with_reducible exact Take.here | apply Take.there)))))) ?_
    rintro v12 L1 ⟨w', ps', hps', rfl⟩
    refine swl_app ?_
    refine swl_sub _ .nil ?_
    refine swl_nil ?_
    exact done_end [blk p 73 (fsC q n sb fb w' fa off), mpe sb skv (doE es cl (s, t, pv a)) (doC es cl (s, t, pv a)), own 84 3 w' ps'.length (ps'.flatMap encP)] .nil (.inr ⟨by simpa using h6, w', ps', hps', rfl⟩) (by repeat (first | exact Split.nil | (apply Split.cons; (repeat (first | with_reducible exact Take.here | apply Take.there)))))
  · skip   -- 6 F
    refine swp_skip ?_
    exact done_end [blk p 73 (fsC q n sb fb w fa off), mpe sb skv es cl, own 84 3 w ps.length (ps.flatMap encP)] .nil (.inl ⟨by simpa using h6, rfl⟩) (by repeat (first | exact Split.nil | (apply Split.cons; (repeat (first | with_reducible exact Take.here | apply Take.there)))))
/-- Remove's step -/
theorem remove1_spec (p d0 s0 : Nat) (q : Int) (n sb fb : Nat) (w : Value) (fa : Int) (off : Bool) (es : Ents ByteArray) (cl : Nat) (ps : List Pc) (hl : ps.length ≤ 1048576) (s : ByteArray) :
    Spec Try.prog 64 [pv d0, pv s0] [blk p 73 (fsC q n sb fb w fa off), blk s0 9 [.string s], blk d0 24 [pv p], mpe sb skv es cl, own 84 3 w ps.length (ps.flatMap encP)]
      (fun _ L => ∃ w' ps', ps' = ps ++ [((s, nos, .pointer none) : Pc)] ∧ L = [blk p 73 (fsC q n sb fb w' fa off), mpe sb skv (doE es cl (s, nos, .pointer none)) (doC es cl (s, nos, .pointer none)), own 84 3 w' ps'.length (ps'.flatMap encP)]) := by
  refine Spec.of 6 Try.func64 rfl rfl rfl ?_
  refine swp_region ?_
  refine s_rd (rd_load rfl rfl) ?_
  refine s_rd (rd_load rfl rfl) ?_
  refine s_pu (pu_bld (qs := [(0, _)]) rfl) ?_
  refine s_ef (ef_fn (change_spec p q n sb fb w fa off es cl ps hl s nos none) rfl rfl (by repeat (first | exact Split.nil | (apply Split.cons; (repeat (first | with_reducible exact Take.here | apply Take.there)))))) ?_
  rintro v5 L1 ⟨w', ps', hps', rfl⟩
  refine swl_app ?_
  refine swl_sub _ .nil ?_
  refine swl_nil ?_
  exact done_end [blk p 73 (fsC q n sb fb w' fa off), mpe sb skv (doE es cl (s, nos, .pointer none)) (doC es cl (s, nos, .pointer none)), own 84 3 w' ps'.length (ps'.flatMap encP)] .nil ⟨w', ps', hps', rfl⟩ (by repeat (first | exact Split.nil | (apply Split.cons; (repeat (first | with_reducible exact Take.here | apply Take.there)))))
end SX
namespace SX
open Go Go.Proofs
set_option maxHeartbeats 4000000 in
theorem remove_spec (p : Nat) (d : Dk) (hd : d.Ok) (hw : Few d) (s : ByteArray) : Spec Try.prog 34 [pv p, .string s] [FSA p d] (fun r L => r = .int .i64 (removeD d s).2 ∧ L = [FSA p (removeD d s).1]) := by
  refine FSA.open' fun x hx => ?_
  obtain ⟨o, e, hve⟩ := find_ptr x.rs d s
  have hfs := find_spec' (p := p) hx hve
  refine Spec.of 19 Try.func34 rfl rfl rfl ?_
  refine swp_seq ?_
  refine swp_region ?_
  refine s_ef (ef_box rfl rfl) ?_
  intro b2
  refine s_ef (ef_box rfl rfl) ?_
  intro b3
  refine s_pu (pu_assign rfl) ?_
  refine swl_sub _ (.cons (t := 2) rfl (.cons (t := 3) rfl .nil)) ?_
  refine swl_nil ?_
  refine then_n ?_
  refine swp_seq ?_
  refine swp_seq ?_
  refine swp_region ?_
  refine s_rd (rd_load rfl rfl) ?_
  refine s_rd (rd_load rfl rfl) ?_
  refine s_ef (ef_fn hfs rfl rfl (by repeat (first | exact Split.nil | (apply Split.cons; (repeat (first | with_reducible exact Take.here | apply Take.there)))))) ?_
  rintro v10 L1 ⟨rfl, rfl⟩
  refine swl_app ?_
  refine s_pu (pu_move rfl) ?_
  first | refine s_pu (pu_extractL rfl) ?_ | refine s_pu (pu_extract rfl rfl) ?_
  first | refine s_pu (pu_extractL rfl) ?_ | refine s_pu (pu_extract rfl rfl) ?_
  refine s_pu (pu_assign rfl) ?_
  refine s_pu (pu_assign rfl) ?_
  refine swl_sub _ (.cons (t := 2) rfl (.cons (t := 3) rfl (.cons (t := 6) rfl .nil))) ?_
  refine swl_nil ?_
  refine then_n ?_
  refine swp_seq ?_
  refine swp_region ?_
  refine s_pu (pu_move rfl) ?_
  refine s_pu (pu_neq rfl rfl) ?_
  refine swl_sub _ (.cons (t := 2) rfl (.cons (t := 3) rfl (.cons (t := 6) rfl (.cons (t := 14) rfl .nil)))) ?_
  refine swl_nil ?_
  refine then_n ?_
  refine swp_cond (b := _) rfl (fun h14 => ?_) (fun h14 => ?_)
  · skip   -- 14 T
    refine swp_seq ?_
    refine swp_region ?_
    refine s_pu (pu_move rfl) ?_
    refine s_pu (pu_assign rfl) ?_
    refine swl_sub _ (.cons (t := 4) rfl .nil) ?_
    refine swl_nil ?_
    refine then_n ?_
    refine swp_ret ?_
    refine then_r ?_
    have h14' : e ≠ 0 := by simpa using h14
    unfold removeD
    rw [find_err hve h14']
    exact done_retE [FSA p d] (.tmp rfl .nil) ⟨rfl, rfl⟩ ((Split.ent' (K := [fsH p d x, mpe x.sb skv x.es x.cs, mpe x.fb skv x.ef x.cf, own 84 3 x.pv x.ps.length (x.ps.flatMap encP), recsA x.rs]) (by repeat (first | exact Split.nil | (apply Split.cons; (repeat (first | with_reducible exact Take.here | apply Take.there)))))).trans (fs_close hx))
  · skip   -- 14 F
    have h14' : e = 0 := by simpa using h14
    subst h14'
    obtain ⟨k, hk1, hk2, hk3⟩ := find_ok hve
    refine swp_skip ?_
    refine then_n ?_
    refine swp_seq ?_
    refine swp_region ?_
    refine s_rd (rd_load rfl rfl) ?_
    refine s_pu (pu_func (vs := []) (us := [_, _]) rfl rfl) ?_
    refine s_ef (ef_fn (step_spec (f := 64) (ca := [pv b2, pv b3]) (pre := [blk b3 9 [.string s], blk b2 24 [pv p], mpe x.sb skv x.es x.cs, own 84 3 x.pv x.ps.length (x.ps.flatMap encP)]) p d.quota x.rs.length x.sb x.fb x.pv d.falls d.off hd.falls (fun fa' => remove1_spec p b2 b3 d.quota x.rs.length x.sb x.fb x.pv fa' d.off x.es x.cs x.ps (by rw [hx.ps.1]; have := hw.2; omega) s)) rfl rfl (by repeat (first | exact Split.nil | (apply Split.cons; (repeat (first | with_reducible exact Take.here | apply Take.there)))))) ?_
    rintro v18 L1 hs
    skip
    refine s_pu (pu_assign rfl) ?_
    refine swl_sub _ (.cons (t := 4) rfl .nil) ?_
    refine swl_nil ?_
    refine then_n ?_
    refine swp_ret ?_
    rcases hs with ⟨hf1, rfl, rfl⟩ | ⟨hfn, rfl, w', ps', hps, rfl⟩
    · have key : removeD d s = (fa0 d, 8) := by unfold removeD; rw [hk3]; exact atStep_1 hf1 _
      rw [key]
      refine done_retE [FSA p (fa0 d)] (.tmp rfl .nil) ⟨rfl, rfl⟩ ?_
      simp only [List.cons_append, List.nil_append]
      exact ((Split.ent' (K := [fsH p (fa0 d) x, mpe x.sb skv x.es x.cs, mpe x.fb skv x.ef x.cf, own 84 3 x.pv x.ps.length (x.ps.flatMap encP), recsA x.rs]) (by repeat (first | exact Split.nil | (apply Split.cons; (repeat (first | with_reducible exact Take.here | apply Take.there)))))).trans (fs_close (d := fa0 d) (hx.fa _ _)))
    · have key : removeD d s = ((fa1 d).chg ⟨s, nos, 0⟩, 0) := by unfold removeD; rw [hk3]; exact atStep_n hfn _
      have hr := (hx.fa (fa1 d).falls d.off).chg hd.names (p := (s, nos, .pointer none)) (c := ⟨s, nos, 0⟩) ⟨rfl, .inl rfl, by show _ = if strEq nos nos = true then _ else _; rw [if_pos (strEq_refl _)]⟩ (fun h => absurd h (by show ¬ strEq nos nos = false; rw [strEq_refl]; decide))
      rw [key]
      refine done_retE [FSA p ((fa1 d).chg ⟨s, nos, 0⟩)] (.tmp rfl .nil) ⟨rfl, rfl⟩ ?_
      simp only [List.cons_append, List.nil_append]
      rw [hps]
      refine Ent.trans (Split.ent' (K := [blk p 73 (fsC d.quota x.rs.length x.sb x.fb w' (if 0 < d.falls then d.falls - 1 else d.falls) d.off), mpe x.sb skv (doE x.es x.cs (s, nos, .pointer none)) (doC x.es x.cs (s, nos, .pointer none)), mpe x.fb skv x.ef x.cf, own 84 3 w' (x.ps ++ [(s, nos, Value.pointer none)]).length ((x.ps ++ [(s, nos, Value.pointer none)]).flatMap encP), recsA x.rs]) (by repeat (first | exact Split.nil | (apply Split.cons; (repeat (first | with_reducible exact Take.here | apply Take.there)))))) ?_
      exact fs_close (d := (fa1 d).chg ⟨s, nos, 0⟩) (x := { x with es := doE x.es x.cs (s, nos, .pointer none), cs := doC x.es x.cs (s, nos, .pointer none), ps := x.ps ++ [(s, nos, Value.pointer none)], pv := w' }) ⟨hr.seen, hr.safe, hr.bs, hr.bf, hr.len, hr.fl, hr.ps⟩
set_option maxHeartbeats 4000000 in
theorem rename_spec (p : Nat) (d : Dk) (hd : d.Ok) (hw : Few d) (s t : ByteArray) : Spec Try.prog 33 [pv p, .string s, .string t] [FSA p d] (fun r L => r = .int .i64 (renameD d s t).2 ∧ L = [FSA p (renameD d s t).1]) := by
  refine FSA.open' fun x hx => ?_
  obtain ⟨o, e, hve⟩ := find_ptr x.rs d s
  have hfs := find_spec' (p := p) hx hve
  refine Spec.of 24 Try.func33 rfl rfl rfl ?_
  refine swp_seq ?_
  refine swp_region ?_
  refine s_ef (ef_box rfl rfl) ?_
  intro b3
  refine s_ef (ef_box rfl rfl) ?_
  intro b4
  refine s_ef (ef_box rfl rfl) ?_
  intro b5
  refine s_pu (pu_assign rfl) ?_
  refine swl_sub _ (.cons (t := 3) rfl (.cons (t := 4) rfl (.cons (t := 5) rfl .nil))) ?_
  refine swl_nil ?_
  refine then_n ?_
  refine swp_seq ?_
  refine swp_region ?_
  refine s_rd (rd_load rfl rfl) ?_
  refine s_rd (rd_load rfl rfl) ?_
  refine s_ef (ef_fn hfs rfl rfl (by repeat (first | exact Split.nil | (apply Split.cons; (repeat (first | with_reducible exact Take.here | apply Take.there)))))) ?_
  rintro v12 L1 ⟨rfl, rfl⟩
  refine swl_app ?_
  refine s_pu (pu_move rfl) ?_
  first | refine s_pu (pu_extractL rfl) ?_ | refine s_pu (pu_extract rfl rfl) ?_
  first | refine s_pu (pu_extractL rfl) ?_ | refine s_pu (pu_extract rfl rfl) ?_
  refine s_ef (ef_alloc) ?_
  intro b7
  refine s_ef0 (ef_store rfl rfl rfl) ?_
  refine s_pu (pu_assign rfl) ?_
  refine swl_sub _ (.cons (t := 3) rfl (.cons (t := 4) rfl (.cons (t := 5) rfl (.cons (t := 7) rfl (.cons (t := 8) rfl .nil))))) ?_
  refine swl_nil ?_
  refine then_n ?_
  refine swp_seq ?_
  refine swp_seq ?_
  refine swp_region ?_
  refine s_pu (pu_move rfl) ?_
  refine s_pu (pu_neq rfl rfl) ?_
  refine swl_sub _ (.cons (t := 3) rfl (.cons (t := 4) rfl (.cons (t := 5) rfl (.cons (t := 7) rfl (.cons (t := 8) rfl (.cons (t := 16) rfl .nil)))))) ?_
  refine swl_nil ?_
  refine then_n ?_
  refine swp_cond (b := _) rfl (fun h16 => ?_) (fun h16 => ?_)
  · skip   -- 16 T
    refine swp_seq ?_
    refine swp_region ?_
    refine s_pu (pu_move rfl) ?_
    refine s_pu (pu_assign rfl) ?_
    refine swl_sub _ (.cons (t := 6) rfl .nil) ?_
    refine swl_nil ?_
    refine then_n ?_
    refine swp_ret ?_
    refine then_r ?_
    have h16' : e ≠ 0 := by simpa using h16
    unfold renameD
    rw [find_err hve h16']
    exact done_retE [FSA p d] (.tmp rfl .nil) ⟨rfl, rfl⟩ ((Split.ent' (K := [fsH p d x, mpe x.sb skv x.es x.cs, mpe x.fb skv x.ef x.cf, own 84 3 x.pv x.ps.length (x.ps.flatMap encP), recsA x.rs]) (by repeat (first | exact Split.nil | (apply Split.cons; (repeat (first | with_reducible exact Take.here | apply Take.there)))))).trans (fs_close hx))
  · skip   -- 16 F
    have h16' : e = 0 := by simpa using h16
    subst h16'
    obtain ⟨k, hk1, hk2, hk3⟩ := find_ok hve
    obtain ⟨r, hr, hf, ha⟩ := hx.find hk1
    rw [ha] at hk2
    rw [hk2]
    refine swp_skip ?_
    refine then_n ?_
    refine swp_seq ?_
    refine swp_seq ?_
    refine swp_region ?_
    refine s_rd (rd_load rfl rfl) ?_
    refine s_ef (ef_fn (named_spec t) rfl rfl (by repeat (first | exact Split.nil | (apply Split.cons; (repeat (first | with_reducible exact Take.here | apply Take.there)))))) ?_
    rintro v19 L1 ⟨rfl, rfl⟩
    refine swl_app ?_
    refine s_pu (pu_not rfl) ?_
    refine swl_sub _ (.cons (t := 3) rfl (.cons (t := 4) rfl (.cons (t := 5) rfl (.cons (t := 7) rfl (.cons (t := 20) rfl .nil))))) ?_
    refine swl_nil ?_
    refine then_n ?_
    refine swp_cond (b := _) rfl (fun h20 => ?_) (fun h20 => ?_)
    · skip   -- 20 T
      refine swp_seq ?_
      refine swp_region ?_
      refine s_pu (pu_assign rfl) ?_
      refine swl_sub _ (.cons (t := 6) rfl .nil) ?_
      refine swl_nil ?_
      refine then_n ?_
      refine swp_ret ?_
      refine then_r ?_
      have h20' : goodN t = false := by simpa using h20
      have key : renameD d s t = (d, 1) := by unfold renameD; rw [hk3, if_pos h20']
      rw [key]
      exact done_retE [FSA p d] (.tmp rfl .nil) ⟨rfl, rfl⟩ ((Split.ent' (K := [fsH p d x, mpe x.sb skv x.es x.cs, mpe x.fb skv x.ef x.cf, own 84 3 x.pv x.ps.length (x.ps.flatMap encP), recsA x.rs]) (by repeat (first | exact Split.nil | (apply Split.cons; (repeat (first | with_reducible exact Take.here | apply Take.there)))))).trans (fs_close hx))
    · skip   -- 20 F
      have h20' : goodN t = true := by simpa using h20
      refine swp_skip ?_
      refine then_n ?_
      refine swp_seq ?_
      refine swp_region ?_
      refine s_rd (rd_load rfl rfl) ?_
      refine s_pu (pu_func (vs := []) (us := [_, _, _, _]) rfl rfl) ?_
      refine s_ef (ef_fn (step_spec (f := 63) (ca := [pv b4, pv b5, pv b3, pv b7]) (pre := [blk b4 9 [.string s], blk b5 9 [.string t], blk b3 24 [pv p], blk b7 74 [pv r.a], mpe x.sb skv x.es x.cs, own 84 3 x.pv x.ps.length (x.ps.flatMap encP)]) p d.quota x.rs.length x.sb x.fb x.pv d.falls d.off hd.falls (fun fa' => rename1_spec p b3 b4 b5 b7 r.a d.quota x.rs.length x.sb x.fb x.pv fa' d.off x.es x.cs x.ps (by rw [hx.ps.1]; have := hw.2; omega) s t)) rfl rfl (by repeat (first | exact Split.nil | (apply Split.cons; (repeat (first | with_reducible exact Take.here | apply Take.there)))))) ?_
      rintro v23 L1 hs
      skip
      refine s_pu (pu_assign rfl) ?_
      refine swl_sub _ (.cons (t := 6) rfl .nil) ?_
      refine swl_nil ?_
      refine then_n ?_
      refine swp_ret ?_
      rcases hs with ⟨hf1, rfl, rfl⟩ | ⟨hfn, rfl, hs⟩
      · have key : renameD d s t = (fa0 d, 8) := by unfold renameD; rw [hk3, if_neg (by rw [h20']; decide)]; exact atStep_1 hf1 _
        rw [key]
        refine done_retE [FSA p (fa0 d)] (.tmp rfl .nil) ⟨rfl, rfl⟩ ?_
        simp only [List.cons_append, List.nil_append]
        exact ((Split.ent' (K := [fsH p (fa0 d) x, mpe x.sb skv x.es x.cs, mpe x.fb skv x.ef x.cf, own 84 3 x.pv x.ps.length (x.ps.flatMap encP), recsA x.rs]) (by repeat (first | exact Split.nil | (apply Split.cons; (repeat (first | with_reducible exact Take.here | apply Take.there)))))).trans (fs_close (d := fa0 d) (hx.fa _ _)))
      · have key : renameD d s t = ((if strEq s t = true then fa1 d else (fa1 d).chg ⟨s, t, k⟩), 0) := by unfold renameD; rw [hk3, if_neg (by rw [h20']; decide)]; exact atStep_n hfn _
        rw [key]
        rcases hs with ⟨hst, rfl⟩ | ⟨hst, w', ps', hps, rfl⟩
        · rw [if_pos hst]
          refine done_retE [FSA p (fa1 d)] (.tmp rfl .nil) ⟨rfl, rfl⟩ ?_
          simp only [List.cons_append, List.nil_append]
          exact (Split.ent' (K := [fsH p (fa1 d) x, mpe x.sb skv x.es x.cs, mpe x.fb skv x.ef x.cf, own 84 3 x.pv x.ps.length (x.ps.flatMap encP), recsA x.rs]) (by repeat (first | exact Split.nil | (apply Split.cons; (repeat (first | with_reducible exact Take.here | apply Take.there)))))).trans (fs_close (d := fa1 d) (hx.fa _ _))
        · rw [if_neg (by rw [hst]; decide)]
          have hr := (hx.fa (fa1 d).falls d.off).chg hd.names (p := (s, t, pv r.a)) (c := ⟨s, t, k⟩) ⟨rfl, .inl rfl, by show _ = if strEq t nos = true then _ else adr x.rs k; rw [if_neg (by rw [goodN_ne h20']; decide), ha]⟩ (fun _ => ⟨r, hr, hf⟩)
          refine done_retE [FSA p ((fa1 d).chg ⟨s, t, k⟩)] (.tmp rfl .nil) ⟨rfl, rfl⟩ ?_
          simp only [List.cons_append, List.nil_append]
          rw [hps]
          refine Ent.trans (Split.ent' (K := [blk p 73 (fsC d.quota x.rs.length x.sb x.fb w' (if 0 < d.falls then d.falls - 1 else d.falls) d.off), mpe x.sb skv (doE x.es x.cs (s, t, pv r.a)) (doC x.es x.cs (s, t, pv r.a)), mpe x.fb skv x.ef x.cf, own 84 3 w' (x.ps ++ [(s, t, pv r.a)]).length ((x.ps ++ [(s, t, pv r.a)]).flatMap encP), recsA x.rs]) (by repeat (first | exact Split.nil | (apply Split.cons; (repeat (first | with_reducible exact Take.here | apply Take.there)))))) ?_
          exact fs_close (d := (fa1 d).chg ⟨s, t, k⟩) (x := { x with es := doE x.es x.cs (s, t, pv r.a), cs := doC x.es x.cs (s, t, pv r.a), ps := x.ps ++ [(s, t, pv r.a)], pv := w' }) ⟨hr.seen, hr.safe, hr.bs, hr.bf, hr.len, hr.fl, hr.ps⟩
theorem read_err {rs : List Rc} {d : Dk} {s : ByteArray} {v : Value} {e : Int} (h : findV rs d s = (v, e)) (he : e ≠ 0) : readD d s = ([], e) := by
  unfold readD
  rcases find_cases h with ⟨rfl, h1⟩ | ⟨rfl, h1, h2⟩ | ⟨h0, _⟩
  · rw [if_pos h1]
  · rw [if_neg (by rw [h1]; decide), h2]
  · exact absurd h0 he
set_option maxHeartbeats 4000000 in
theorem read_spec (p : Nat) (d : Dk) (s : ByteArray) : Spec Try.prog 18 [pv p, .string s] [FSA p d] (fun r L => r = .tuple #[.string ⟨(readD d s).1.toArray⟩, .int .i64 (readD d s).2] ∧ L = [FSA p d]) := by
  refine FSA.open' fun x hx => ?_
  obtain ⟨o, e, hve⟩ := find_ptr x.rs d s
  have hfs := find_spec' (p := p) hx hve
  refine Spec.of 22 Try.func18 rfl rfl rfl ?_
  refine swp_seq ?_
  refine swp_region ?_
  refine s_pu (pu_assign rfl) ?_
  refine s_pu (pu_assign rfl) ?_
  refine swl_sub _ (.cons (t := 0) rfl (.cons (t := 1) rfl .nil)) ?_
  refine swl_nil ?_
  refine then_n ?_
  refine swp_seq ?_
  refine swp_region ?_
  refine s_pu (pu_move rfl) ?_
  refine s_pu (pu_move rfl) ?_
  refine s_ef (ef_fn hfs rfl rfl (by repeat (first | exact Split.nil | (apply Split.cons; (repeat (first | with_reducible exact Take.here | apply Take.there)))))) ?_
  rintro v11 L1 ⟨rfl, rfl⟩
  refine swl_app ?_
  refine s_pu (pu_move rfl) ?_
  first | refine s_pu (pu_extractL rfl) ?_ | refine s_pu (pu_extract rfl rfl) ?_
  first | refine s_pu (pu_extractL rfl) ?_ | refine s_pu (pu_extract rfl rfl) ?_
  refine s_pu (pu_assign rfl) ?_
  refine s_pu (pu_assign rfl) ?_
  refine swl_sub _ (.cons (t := 6) rfl (.cons (t := 7) rfl .nil)) ?_
  refine swl_nil ?_
  refine then_n ?_
  refine swp_seq ?_
  refine swp_seq ?_
  refine swp_region ?_
  refine s_pu (pu_move rfl) ?_
  refine s_pu (pu_neq rfl rfl) ?_
  refine swl_sub _ (.cons (t := 6) rfl (.cons (t := 7) rfl (.cons (t := 15) rfl .nil))) ?_
  refine swl_nil ?_
  refine then_n ?_
  refine swp_cond (b := _) rfl (fun h15 => ?_) (fun h15 => ?_)
  · skip   -- 15 T
    refine swp_seq ?_
    refine swp_region ?_
    refine s_pu (pu_move rfl) ?_
    refine s_pu (pu_assign rfl) ?_
    refine s_pu (pu_assign rfl) ?_
    refine swl_sub _ (.cons (t := 4) rfl (.cons (t := 5) rfl .nil)) ?_
    refine swl_nil ?_
    refine then_n ?_
    refine swp_ret ?_
    refine then_r ?_
    have h15' : e ≠ 0 := by simpa using h15
    rw [read_err hve h15']
    exact done_retE [FSA p d] (.tmp rfl (.tmp rfl .nil)) ⟨rfl, rfl⟩ ((Split.ent' (K := [fsH p d x, mpe x.sb skv x.es x.cs, mpe x.fb skv x.ef x.cf, own 84 3 x.pv x.ps.length (x.ps.flatMap encP), recsA x.rs]) (by repeat (first | exact Split.nil | (apply Split.cons; (repeat (first | with_reducible exact Take.here | apply Take.there)))))).trans (fs_close hx))
  · skip   -- 15 F
    have h15' : e = 0 := by simpa using h15
    subst h15'
    have hk3 : ∃ k, findN d.seen s = some k ∧ .pointer o = adr x.rs k ∧ readD d s = ((d.fl k).bytes, 0) := by
      rcases find_cases hve with ⟨h0, _⟩ | ⟨h0, _⟩ | ⟨_, h1, k, h2, h3⟩
      · cases h0
      · cases h0
      · refine ⟨k, h2, h3, ?_⟩
        unfold readD
        rw [if_neg (by rw [h1]; decide), h2]
    obtain ⟨k, hk1, hk2, hk3⟩ := hk3
    obtain ⟨r, hr, hf, ha⟩ := hx.find hk1
    rw [ha] at hk2
    rw [hk2]
    refine swp_ent (Split.ent' (K := [recsA x.rs, fsH p d x, mpe x.sb skv x.es x.cs, mpe x.fb skv x.ef x.cf, own 84 3 x.pv x.ps.length (x.ps.flatMap encP)]) (by repeat (first | exact Split.nil | (apply Split.cons; (repeat (first | with_reducible exact Take.here | apply Take.there)))))) ?_
    refine swp_ent (recs_open' hr) ?_
    refine swp_skip ?_
    refine then_n ?_
    refine swp_seq ?_
    refine swp_region ?_
    refine s_pu (pu_move rfl) ?_
    first | refine s_pu (pu_nilCheck rfl) ?_ | refine s_pu (pu_nilCheck_fn rfl) ?_ | refine s_pu (pu_nilCheck_if rfl) ?_
    first | refine s_pu (pu_fieldAddr0 rfl) ?_ | refine s_pu (pu_fieldAddr rfl) ?_
    refine s_rd (rd_load rfl rfl) ?_
    refine s_rd (rd_bytes_own r.f.bytes rfl (by repeat (first | with_reducible exact Take.here | apply Take.there))) ?_
    refine s_pu (pu_assign rfl) ?_
    refine s_pu (pu_assign rfl) ?_
    refine swl_sub _ (.cons (t := 4) rfl (.cons (t := 5) rfl .nil)) ?_
    refine swl_nil ?_
    refine then_n ?_
    refine swp_ret ?_
    rw [hk3, ← hf]
    refine done_retE [FSA p d] (.tmp rfl (.tmp rfl .nil)) ⟨rfl, rfl⟩ ?_
    refine Ent.trans (Split.ent' (K := [own 5 1 r.v r.f.bytes.length (bcs r.f.bytes), blk r.a 82 [.int .i64 (k : Nat), r.v, .int .i64 (r.f.safe : Nat)], holeA x.rs k, fsH p d x, mpe x.sb skv x.es x.cs, mpe x.fb skv x.ef x.cf, own 84 3 x.pv x.ps.length (x.ps.flatMap encP)]) (by repeat (first | exact Split.nil | (apply Split.cons; (repeat (first | with_reducible exact Take.here | apply Take.there)))))) ?_
    exact (recs_back' hr).trans ((Split.ent' (K := [fsH p d x, mpe x.sb skv x.es x.cs, mpe x.fb skv x.ef x.cf, own 84 3 x.pv x.ps.length (x.ps.flatMap encP), recsA x.rs]) (by repeat (first | exact Split.nil | (apply Split.cons; (repeat (first | with_reducible exact Take.here | apply Take.there)))))).trans (fs_close hx))
theorem off_spec (p : Nat) (d : Dk) : Spec Try.prog 21 [pv p] [FSA p d] (fun r L => r = .bool d.off ∧ L = [FSA p d]) := by
  refine FSA.open' fun x hx => ?_
  refine Spec.of 11 Try.func21 rfl rfl rfl ?_
  refine swp_seq ?_
  refine swp_region ?_
  refine s_pu (pu_assign rfl) ?_
  refine swl_sub _ (.cons (t := 0) rfl .nil) ?_
  refine swl_nil ?_
  refine then_n ?_
  refine swp_seq ?_
  refine swp_region ?_
  refine s_pu (pu_move rfl) ?_
  refine s_pu (pu_ptr_ne_nil rfl rfl) ?_
  refine s_pu (pu_move rfl) ?_
  refine s_split 5 rfl (fun h5 => ?_) (fun h5 => by cases h5)
  refine s_on rfl rfl ?_
  refine s_pu (pu_move rfl) ?_
  refine s_on rfl rfl ?_
  first | refine s_pu (pu_nilCheck rfl) ?_ | refine s_pu (pu_nilCheck_fn rfl) ?_ | refine s_pu (pu_nilCheck_if rfl) ?_
  refine s_on rfl rfl ?_
  first | refine s_pu (pu_fieldAddr0 rfl) ?_ | refine s_pu (pu_fieldAddr rfl) ?_
  refine s_on rfl rfl ?_
  refine s_rd (rd_load rfl rfl) ?_
  first | refine s_pu (pu_pick_t rfl rfl) ?_ | refine s_pu (pu_pick_f rfl rfl) ?_
  refine s_pu (pu_assign rfl) ?_
  refine swl_sub _ (.cons (t := 2) rfl .nil) ?_
  refine swl_nil ?_
  refine then_n ?_
  refine swp_ret ?_
  exact done_retE [FSA p d] (.tmp rfl .nil) ⟨rfl, rfl⟩ ((Split.ent' (K := [fsH p d x, mpe x.sb skv x.es x.cs, mpe x.fb skv x.ef x.cf, own 84 3 x.pv x.ps.length (x.ps.flatMap encP), recsA x.rs]) (by repeat (first | exact Split.nil | (apply Split.cons; (repeat (first | with_reducible exact Take.here | apply Take.there)))))).trans (fs_close hx))
theorem fall_spec (p : Nat) (d : Dk) (n : Int) : Spec Try.prog 23 [pv p, .int .i64 n] [FSA p d] (fun _ L => L = [FSA p (fallD d n)]) := by
  refine FSA.open' fun x hx => ?_
  refine Spec.of 11 Try.func23 rfl rfl rfl ?_
  refine swp_seq ?_
  refine swp_region ?_
  refine s_pu (pu_move rfl) ?_
  refine s_pu (pu_ptr_ne_nil rfl rfl) ?_
  refine swl_sub _ (.cons (t := 0) rfl (.cons (t := 1) rfl (.cons (t := 5) rfl .nil))) ?_
  refine swl_nil ?_
  refine then_n ?_
  refine swp_cond (b := _) rfl (fun h5 => ?_) (fun h5 => by cases h5)
  refine swp_region ?_
  refine s_pu (pu_move rfl) ?_
  refine s_pu (pu_move rfl) ?_
  refine s_pu (pu_max2 rfl rfl) ?_
  first | refine s_pu (pu_nilCheck rfl) ?_ | refine s_pu (pu_nilCheck_fn rfl) ?_ | refine s_pu (pu_nilCheck_if rfl) ?_
  first | refine s_pu (pu_fieldAddr0 rfl) ?_ | refine s_pu (pu_fieldAddr rfl) ?_
  refine s_ef0 (ef_store rfl rfl rfl) ?_
  refine swl_sub _ .nil ?_
  refine swl_nil ?_
  exact done_endE [FSA p (fallD d n)] .nil rfl ((Split.ent' (K := [blk p 73 (fsC d.quota x.rs.length x.sb x.fb x.pv (max n 0) d.off), mpe x.sb skv x.es x.cs, mpe x.fb skv x.ef x.cf, own 84 3 x.pv x.ps.length (x.ps.flatMap encP), recsA x.rs]) (by repeat (first | exact Split.nil | (apply Split.cons; (repeat (first | with_reducible exact Take.here | apply Take.there)))))).trans (fs_close (d := fallD d n) (hx.fa (max n 0) d.off)))
theorem newD_rep (q : Int) (sb fb : Nat) : Rep (newD q) ⟨sb, fb, [], 0, [], 0, [], [], .slice none 0 0⟩ :=
  ⟨.nil _, .nil _, .nil _, .nil _, rfl, (fun k hk => by
    rcases hk with ⟨⟨y, hy, _⟩⟩ | ⟨⟨y, hy, _⟩⟩ | ⟨c, hc, _⟩
    · cases hy
    · cases hy
    · cases hc), rfl, fun i p c hp => by cases hp⟩
def newOk (q : Int) : Prop := 0 ≤ q ∧ q ≤ 16777216
theorem new_spec (q : Int) : Spec Try.prog 12 [.int .i64 q] [] (fun r L => (¬ newOk q ∧ r = .tuple #[.pointer none, .int .i64 1] ∧ L = []) ∨ (newOk q ∧ ∃ p, r = .tuple #[pv p, .int .i64 0] ∧ L = [FSA p (newD q)])) := by
  refine Spec.of 15 Try.func12 rfl rfl rfl ?_
  refine swp_seq ?_
  refine swp_region ?_
  refine s_pu (pu_assign rfl) ?_
  refine s_pu (pu_assign rfl) ?_
  refine swl_sub _ (.cons (t := 0) rfl .nil) ?_
  refine swl_nil ?_
  refine then_n ?_
  refine swp_seq ?_
  refine swp_seq ?_
  refine swp_region ?_
  refine s_pu (pu_move rfl) ?_
  refine s_pu (pu_lss rfl rfl) ?_
  refine s_pu (pu_move rfl) ?_
  refine s_split 6 rfl (fun h6 => ?_) (fun h6 => ?_)
  · skip   -- 6 T
    refine s_off rfl rfl rfl ?_
    refine s_off rfl rfl rfl ?_
    first | refine s_pu (pu_pick_t rfl rfl) ?_ | refine s_pu (pu_pick_f rfl rfl) ?_
    refine swl_sub _ (.cons (t := 0) rfl (.cons (t := 9) rfl .nil)) ?_
    refine swl_nil ?_
    refine then_n ?_
    refine swp_cond (b := _) rfl (fun h9 => ?_) (fun h9 => by cases h9)
    refine swp_seq ?_
    refine swp_region ?_
    refine s_pu (pu_assign rfl) ?_
    refine s_pu (pu_assign rfl) ?_
    refine swl_sub _ (.cons (t := 2) rfl (.cons (t := 3) rfl .nil)) ?_
    refine swl_nil ?_
    refine then_n ?_
    refine swp_ret ?_
    refine then_r ?_
    exact done_ret [] (.tmp rfl (.tmp rfl .nil)) (.inl ⟨fun h => by have := of_decide_eq_true h6; have := h.1; omega, rfl, rfl⟩) (by repeat (first | exact Split.nil | (apply Split.cons; (repeat (first | with_reducible exact Take.here | apply Take.there)))))
  · skip   -- 6 F
    refine s_on rfl rfl ?_
    refine s_pu (pu_move rfl) ?_
    refine s_on rfl rfl ?_
    refine s_pu (pu_gtr rfl rfl) ?_
    first | refine s_pu (pu_pick_t rfl rfl) ?_ | refine s_pu (pu_pick_f rfl rfl) ?_
    refine swl_sub _ (.cons (t := 0) rfl (.cons (t := 9) rfl .nil)) ?_
    refine swl_nil ?_
    refine then_n ?_
    refine swp_cond (b := _) rfl (fun h9 => ?_) (fun h9 => ?_)
    · skip   -- 9 T
      refine swp_seq ?_
      refine swp_region ?_
      refine s_pu (pu_assign rfl) ?_
      refine s_pu (pu_assign rfl) ?_
      refine swl_sub _ (.cons (t := 2) rfl (.cons (t := 3) rfl .nil)) ?_
      refine swl_nil ?_
      refine then_n ?_
      refine swp_ret ?_
      refine then_r ?_
      exact done_ret [] (.tmp rfl (.tmp rfl .nil)) (.inl ⟨fun h => by have := of_decide_eq_true h9; have := h.2; omega, rfl, rfl⟩) (by repeat (first | exact Split.nil | (apply Split.cons; (repeat (first | with_reducible exact Take.here | apply Take.there)))))
    · skip   -- 9 F
      refine swp_skip ?_
      refine then_n ?_
      refine swp_seq ?_
      refine swp_region ?_
      refine s_pu (pu_move rfl) ?_
      refine s_ef (ef_makeMap (kv := skv)) ?_
      intro b11
      refine s_ef (ef_makeMap (kv := skv)) ?_
      intro b12
      refine s_pu (pu_bld (qs := [(0, _), (2, _), (3, _)]) rfl) ?_
      refine s_ef (ef_box rfl rfl) ?_
      intro b14
      refine s_pu (pu_assign rfl) ?_
      refine s_pu (pu_assign rfl) ?_
      refine swl_sub _ (.cons (t := 2) rfl (.cons (t := 3) rfl .nil)) ?_
      refine swl_nil ?_
      refine then_n ?_
      refine swp_ret ?_
      refine done_retE [FSA b14 (newD q)] (.tmp rfl (.tmp rfl .nil)) (.inr ⟨⟨by have := of_decide_eq_false h6; omega, by have := of_decide_eq_false h9; omega⟩, b14, rfl, rfl⟩) ?_
      refine Ent.trans (own_nil_ent (e := 84) (n := 3)) ?_
      have e1 : Ent [] [recsA []] := star_close (K := []) (L := [])
      exact Ent.trans (Split.ent' (K := [blk b14 73 [.int .i64 q, .int .i64 0, .map (some b11), .map (some b12), .slice none 0 0, .int .i64 0, .bool false], mpe b11 skv [] 0, mpe b12 skv [] 0, own 84 3 (.slice none 0 0) 0 []]) (by repeat (first | exact Split.nil | (apply Split.cons; (repeat (first | with_reducible exact Take.here | apply Take.there)))))) ((Ent.under (X := [blk b14 73 [.int .i64 q, .int .i64 0, .map (some b11), .map (some b12), .slice none 0 0, .int .i64 0, .bool false], mpe b11 skv [] 0, mpe b12 skv [] 0, own 84 3 (.slice none 0 0) 0 []]) e1).trans (fs_close (newD_rep q b11 b12)))
end SX
namespace Go.Proofs
open Go.Shelf
end Go.Proofs
namespace SX
open Go Go.Proofs
end SX
namespace SX
open Go Go.Proofs
theorem crash_rep {d : Dk} {x : FX} (hd : d.Ok) (hx : Rep d x) {n : Int} {keep : List Int} {ef : Ents ByteArray} {cf b' : Nat} {rs' : List Rc} (hE : NmRel ef (namesAt d n) x.rs) (hB : Born ef cf) (hc : Crs (namesAt d n) keep (ef.map (·.1)) x.rs rs') :
    Rep (crashD d n keep) ⟨b', x.fb, ef, cf, ef, cf, rs', [], .slice none 0 0⟩ := by
  have hno : NmOk d.files.length (namesAt d n) := by rw [namesAt_eq]; exact namesK_ok hd _
  have hE' : NmRel ef (namesAt d n) rs' := hE.to fun y _ => hc.adr _
  have hlen : (crashD d n keep).files.length = d.files.length := by unfold crashD; simp
  refine ⟨hE', hE', hB, hB, by rw [hlen, ← hx.len]; exact hc.len, fun k hk => ?_, rfl, fun i p c hp => by cases hp⟩
  have hk' : ∃ y ∈ namesAt d n, y.2 = k := by
    rcases hk with hk | hk | ⟨c, hc, _⟩
    · exact hk
    · exact hk
    · cases hc
  obtain ⟨y, hy, rfl⟩ := hk'
  have hlt := (hno.good y hy).2
  have hlive : live d y.2 := by
    rw [namesAt_eq] at hy
    rcases namesK_live _ y hy with h | h
    · exact .inr (.inl h)
    · exact .inr (.inr h)
  obtain ⟨r, hr, hf⟩ := hx.fl y.2 hlive
  obtain ⟨r', h1, _, h3, _⟩ := hc.at_ y.2 r hr
  have hfn := findN_of hno.nodup (s := y.1) (k := y.2) hy
  have hin : y.1 ∈ ef.map (·.1) := by
    have := (names_perm hE hno.nodup).mem_iff (a := y.1)
    exact this.2 (List.mem_map.2 ⟨y, hy, rfl⟩)
  refine ⟨r', h1, ?_⟩
  rw [h3 ⟨y.1, hin, hfn⟩, hf]
  unfold Dk.fl crashD
  dsimp only
  rw [List.getElem?_map, List.getElem?_range hlt, Option.map_some, Option.getD_some, if_pos]
  · rfl
  · exact List.any_eq_true.2 ⟨y, hy, by simp⟩
set_option maxHeartbeats 8000000 in
theorem crash_spec (μ : PH) (p : Nat) (d : Dk) (hd : d.Ok) (n : Int) (kv : Value) (keep : List Int) (hk : Row μ kv 1 keep.length (keep.flatMap (icsk .i64))) (hw : Few d) :
    Spec Try.prog 17 [pv p, .agg #[.int .i64 n, kv]] [FSA p d, ro μ] (fun _ L => ∃ μ', Le μ μ' ∧ L = [FSA p (crashD d n keep), ro μ']) := by
  refine FSA.open' fun x hx => ?_
  have hpl := hx.ps.1
  have hfw := hw.2
  have hff := hw.1
  have hxl := hx.len
  obtain ⟨KK, hKK⟩ : ∃ K, K = min (max n 0).toNat d.pend.length := ⟨_, rfl⟩
  refine Spec.of 114 Try.func17 rfl rfl rfl ?_
  refine swp_seq ?_
  refine swp_region ?_
  refine s_ef (ef_box rfl rfl) ?_
  intro b3
  refine swl_sub _ (.cons (t := 0) rfl (.cons (t := 3) rfl .nil)) ?_
  refine swl_nil ?_
  refine then_n ?_
  refine swp_seq ?_
  refine swp_seq ?_
  refine swp_region ?_
  refine s_pu (pu_move rfl) ?_
  refine s_pu (pu_ptr_eq_nil rfl rfl) ?_
  refine swl_sub _ (.cons (t := 0) rfl (.cons (t := 3) rfl (.cons (t := 10) rfl .nil))) ?_
  refine swl_nil ?_
  refine then_n ?_
  refine swp_cond (b := _) rfl (fun h10 => by cases h10) (fun h10 => ?_)
  refine swp_share_own (e := 84) (n := 3) (v := x.pv) (l := x.ps.length) (xs := x.ps.flatMap encP) (μ := μ) (by repeat (first | exact Split.nil | (apply Split.cons; (repeat (first | with_reducible exact Take.here | apply Take.there))))) fun μ2 hle2 hrow => ?_
  have hk2 := hk.le hle2
  obtain ⟨hl0, A, cap, hv, hlc, hcm, hnil, hpos⟩ := hrow
  refine swp_ent (Split.ent' (K := [mpe x.fb skv x.ef x.cf, fsH p d x, mpe x.sb skv x.es x.cs, recsA x.rs, blk b3 34 [.int .i64 n, kv], ro μ2]) (by repeat (first | exact Split.nil | (apply Split.cons; (repeat (first | with_reducible exact Take.here | apply Take.there)))))) ?_
  refine swp_skip ?_
  refine then_n ?_
  refine swp_seq ?_
  refine swp_seq ?_
  refine swp_draw [3, 5, 10] _ [] (by simp only [List.append_nil]; exact Ent.refl _) (by kernel_rfl) ?_
  refine d_pu 0 rfl (pu_move rfl) (by kernel_rfl) (by kernel_rfl) (by kernel_rfl) ?_
  first | refine d_pu 1 rfl (pu_nilCheck rfl) (by kernel_rfl) (by kernel_rfl) (by kernel_rfl) ?_ | refine d_pu 1 rfl (pu_nilCheck_fn rfl) (by kernel_rfl) (by kernel_rfl) (by kernel_rfl) ?_ | refine d_pu 1 rfl (pu_nilCheck_if rfl) (by kernel_rfl) (by kernel_rfl) (by kernel_rfl) ?_
  first | refine d_pu 2 rfl (pu_fieldAddr0 rfl) (by kernel_rfl) (by kernel_rfl) (by kernel_rfl) ?_ | refine d_pu 2 rfl (pu_fieldAddr rfl) (by kernel_rfl) (by kernel_rfl) (by kernel_rfl) ?_
  refine d_rd 3 rfl (rd_load rfl rfl) rfl (by kernel_rfl) (by kernel_rfl) (by kernel_rfl) ?_
  first | refine d_pu 4 rfl (pu_fieldAddr0 rfl) (by kernel_rfl) (by kernel_rfl) (by kernel_rfl) ?_ | refine d_pu 4 rfl (pu_fieldAddr rfl) (by kernel_rfl) (by kernel_rfl) (by kernel_rfl) ?_
  refine d_rd 5 rfl (rd_load rfl rfl) rfl (by kernel_rfl) (by kernel_rfl) (by kernel_rfl) ?_
  refine d_pu 6 rfl (pu_max2 rfl rfl) (by kernel_rfl) (by kernel_rfl) (by kernel_rfl) ?_
  refine d_pu 7 rfl (pu_move rfl) (by kernel_rfl) (by kernel_rfl) (by kernel_rfl) ?_
  first | refine d_pu 8 rfl (pu_nilCheck rfl) (by kernel_rfl) (by kernel_rfl) (by kernel_rfl) ?_ | refine d_pu 8 rfl (pu_nilCheck_fn rfl) (by kernel_rfl) (by kernel_rfl) (by kernel_rfl) ?_ | refine d_pu 8 rfl (pu_nilCheck_if rfl) (by kernel_rfl) (by kernel_rfl) (by kernel_rfl) ?_
  first | refine d_pu 9 rfl (pu_fieldAddr0 rfl) (by kernel_rfl) (by kernel_rfl) (by kernel_rfl) ?_ | refine d_pu 9 rfl (pu_fieldAddr rfl) (by kernel_rfl) (by kernel_rfl) (by kernel_rfl) ?_
  refine d_rd 10 rfl (rd_load rfl rfl) rfl (by kernel_rfl) (by kernel_rfl) (by kernel_rfl) ?_
  refine d_pu 11 rfl (pu_len_own ⟨A, cap, hv⟩ rfl) (by kernel_rfl) (by kernel_rfl) (by kernel_rfl) ?_
  refine d_pu 12 rfl (pu_min2 rfl rfl) (by kernel_rfl) (by kernel_rfl) (by kernel_rfl) ?_
  refine d_pu 13 rfl (pu_slice_hi KK (congrArg some hv) rfl (by rw [hKK, hpl]; omega) (by rw [hKK]; omega)) (by kernel_rfl) (by kernel_rfl) (by kernel_rfl) ?_
  refine d_pu 14 rfl (pu_len rfl) (by kernel_rfl) (by kernel_rfl) (by kernel_rfl) ?_
  refine d_pu 15 rfl (pu_move rfl) (by kernel_rfl) (by kernel_rfl) (by kernel_rfl) ?_
  refine d_sub _ (.cons (t := 0) rfl (.cons (t := 3) rfl (.cons (t := 24) rfl (.cons (t := 25) rfl (.cons (t := 26) rfl .nil))))) ?_
  first | refine d_nilt (by kernel_rfl) ?_ | refine d_nilf (by kernel_rfl) ?_
  refine then_n ?_
  refine swp_block ?_
  refine swp_loop (ι := Nat) (fun i env L => Sub env [(0, pv p), (3, pv b3), (24, .slice A KK cap), (25, .int .i64 (KK : Nat)), (26, .int .i64 (i : Nat))] ∧ i ≤ KK ∧ ∃ ef cf, NmRel ef (namesK d i) x.rs ∧ Born ef cf ∧ Ent L [mpe x.fb skv ef cf, fsH p d x, mpe x.sb skv x.es x.cs, recsA x.rs, blk b3 34 [.int .i64 n, kv], ro μ2]) (fun i => KK - i) 0 ⟨⟨rfl, rfl, rfl, rfl, rfl, trivial⟩, Nat.zero_le _, x.ef, x.cf, hx.safe, hx.bf, Ent.refl _⟩ ?_
  rintro i env L ⟨hsub, hi, ef, cf, hE, hB, hEnt⟩
  refine swp_sub _ hsub ?_
  refine swp_ent hEnt ?_
  clear hsub hEnt env L
  refine swp_seq ?_
  refine swp_region ?_
  refine s_pu (pu_lss rfl rfl) ?_
  refine swl_sub _ (.cons (t := 0) rfl (.cons (t := 3) rfl (.cons (t := 24) rfl (.cons (t := 25) rfl (.cons (t := 26) rfl (.cons (t := 27) rfl .nil)))))) ?_
  refine swl_nil ?_
  refine then_n ?_
  refine swp_seq ?_
  refine swp_cond (b := _) rfl (fun h27 => ?_) (fun h27 => ?_)
  · skip   -- 27 T
    have h27' : i < KK := by have := of_decide_eq_true h27; omega
    have hip : i < d.pend.length := by omega
    obtain ⟨b, off, hA, hra⟩ := hpos (by omega)
    subst hA
    obtain ⟨pc, hpc⟩ : ∃ q, x.ps[i]? = some q := ⟨_, List.getElem?_eq_getElem (by omega)⟩
    obtain ⟨cg, hcg⟩ : ∃ q, d.pend[i]? = some q := ⟨_, List.getElem?_eq_getElem hip⟩
    have hpr := hx.ps.2 i pc cg hpc hcg
    have hel := hra.elem (f := encP) (n := 3) (fun _ => rfl) hpc
    obtain ⟨g0, c0, v0⟩ := pc
    obtain ⟨o, rfl⟩ : ∃ o, v0 = .pointer o := by
      have := hpr.2.2
      dsimp only at this
      rw [this]
      split
      · exact ⟨_, rfl⟩
      · unfold adr
        split
        · exact ⟨_, rfl⟩
        · exact ⟨_, rfl⟩
    have hcome : strEq cg.come nos = false → cg.file < x.rs.length := fun h => by rw [hxl]; exact (hd.pend cg (List.mem_of_getElem? hcg) h).2
    refine swp_skip ?_
    refine then_n ?_
    refine swp_seq ?_
    refine swp_block ?_
    refine swp_seq ?_
    refine swp_region ?_
    refine s_pu (pu_indexAddr (off + i * 3) rfl rfl (by omega) (by omega) (by rw [Int.toNat_natCast])) ?_
    refine s_rd (rd_roA rfl rfl hel) ?_
    refine s_ef (ef_alloc) ?_
    intro b5
    refine s_ef0 (ef_storeA rfl rfl rfl rfl) ?_
    refine swl_sub _ (.cons (t := 0) rfl (.cons (t := 3) rfl (.cons (t := 5) rfl (.cons (t := 24) rfl (.cons (t := 25) rfl (.cons (t := 26) rfl .nil)))))) ?_
    refine swl_nil ?_
    refine then_n ?_
    refine swp_draw [0, 4] ([fsH p d x, blk b5 84 [.string g0, .string c0, .pointer o]]) ([mpe x.fb skv ef cf, mpe x.sb skv x.es x.cs, recsA x.rs, blk b3 34 [.int .i64 n, kv], ro μ2]) (Split.ent (by repeat (first | exact Split.nil | (apply Split.cons; (repeat (first | with_reducible exact Take.here | apply Take.there)))))) (by kernel_rfl) ?_
    first | refine d_rd 0 rfl (rd_loadW rfl rfl) rfl (by kernel_rfl) (by kernel_rfl) (by kernel_rfl) ?_ | refine d_rd 0 rfl (rd_loadX rfl rfl rfl) rfl (by kernel_rfl) (by kernel_rfl) (by kernel_rfl) ?_
    refine d_pu 1 rfl (pu_move rfl) (by kernel_rfl) (by kernel_rfl) (by kernel_rfl) ?_
    first | refine d_pu 2 rfl (pu_nilCheck rfl) (by kernel_rfl) (by kernel_rfl) (by kernel_rfl) ?_ | refine d_pu 2 rfl (pu_nilCheck_fn rfl) (by kernel_rfl) (by kernel_rfl) (by kernel_rfl) ?_ | refine d_pu 2 rfl (pu_nilCheck_if rfl) (by kernel_rfl) (by kernel_rfl) (by kernel_rfl) ?_
    first | refine d_pu 3 rfl (pu_fieldAddr0 rfl) (by kernel_rfl) (by kernel_rfl) (by kernel_rfl) ?_ | refine d_pu 3 rfl (pu_fieldAddr rfl) (by kernel_rfl) (by kernel_rfl) (by kernel_rfl) ?_
    refine d_rd 4 rfl (rd_load rfl rfl) rfl (by kernel_rfl) (by kernel_rfl) (by kernel_rfl) ?_
    first | refine d_fint 5 rfl (by kernel_rfl) (by kernel_rfl) (ef_fn (do_spec x.fb cf ef g0 c0 o) rfl rfl (by repeat (first | exact Split.nil | (apply Split.cons; (repeat (first | with_reducible exact Take.here | apply Take.there)))))) ?_ | refine d_finf 5 rfl (by kernel_rfl) (by kernel_rfl) (ef_fn (do_spec x.fb cf ef g0 c0 o) rfl rfl (by repeat (first | exact Split.nil | (apply Split.cons; (repeat (first | with_reducible exact Take.here | apply Take.there)))))) ?_
    rintro v35 L1 rfl
    refine swd_app ?_
    refine d_sub _ (.cons (t := 0) rfl (.cons (t := 3) rfl (.cons (t := 24) rfl (.cons (t := 25) rfl (.cons (t := 26) rfl .nil))))) ?_
    first | refine d_nilt (by kernel_rfl) ?_ | refine d_nilf (by kernel_rfl) ?_
    refine block_n ?_
    refine then_n ?_
    refine swp_region ?_
    refine s_pu (pu_add_as ((i + 1 : Nat) : Int) rfl rfl (by omega) (by omega) (by omega)) ?_
    refine s_pu (pu_move rfl) ?_
    refine swl_sub _ (.cons (t := 0) rfl (.cons (t := 3) rfl (.cons (t := 24) rfl (.cons (t := 25) rfl (.cons (t := 26) rfl .nil))))) ?_
    refine swl_nil ?_
    refine then_n ⟨i + 1, ⟨⟨rfl, rfl, rfl, rfl, rfl, trivial⟩, h27', doE ef cf (g0, c0, .pointer o), doC ef cf (g0, c0, .pointer o), ?_, doE_born hB _, Split.ent' (by repeat (first | exact Split.nil | (apply Split.cons; (repeat (first | with_reducible exact Take.here | apply Take.there)))))⟩, by omega⟩
    rw [namesK_step hcg]
    exact doE_rel hE (fun y hy => goodN_ne ((namesK_ok hd i).good y hy).1) hpr hcome
  · skip   -- 27 F
    have h27' : i = KK := by have := of_decide_eq_false h27; omega
    subst h27'
    have hEn : NmRel ef (namesAt d n) x.rs := by rw [namesAt_eq, ← hKK]; exact hE
    have hno : NmOk d.files.length (namesAt d n) := by rw [namesAt_eq]; exact namesK_ok hd _
    refine swp_exit ?_
    refine then_x ?_
    refine then_x ?_
    refine block_hit rfl ?_
    refine then_n ?_
    refine swp_seq ?_
    refine swp_seq ?_
    refine swp_region ?_
    refine s_pu (pu_move rfl) ?_
    first | refine s_pu (pu_nilCheck rfl) ?_ | refine s_pu (pu_nilCheck_fn rfl) ?_ | refine s_pu (pu_nilCheck_if rfl) ?_
    first | refine s_pu (pu_fieldAddr0 rfl) ?_ | refine s_pu (pu_fieldAddr rfl) ?_
    refine s_rd (rd_load rfl rfl) ?_
    refine s_ef (ef_range (κ := ByteArray) rfl) ?_
    rintro it
    skip
    refine swl_sub _ (.cons (t := 0) rfl (.cons (t := 3) rfl (.cons (t := 41) rfl .nil))) ?_
    refine swl_nil ?_
    refine then_n ?_
    refine swp_block ?_
    refine swp_ent (Split.ent' (K := [itA it x.fb cf [] cf, mpe x.fb skv ef cf, fsH p d x, mpe x.sb skv x.es x.cs, recsA x.rs, blk b3 34 [.int .i64 n, kv], ro μ2]) (by repeat (first | exact Split.nil | (apply Split.cons; (repeat (first | with_reducible exact Take.here | apply Take.there)))))) ?_
    refine swp_loop (ι := Ents ByteArray × Ents ByteArray) (fun k env L => Sub env [(0, pv p), (3, pv b3), (41, pv it)] ∧ Going ef k.1 k.2 ∧ ∃ rs', Crs (namesAt d n) keep (k.1.map (·.1)) x.rs rs' ∧ Ent L [itA it x.fb cf (k.1.map (·.2.2)) cf, mpe x.fb skv ef cf, fsH p d x, mpe x.sb skv x.es x.cs, recsA rs', blk b3 34 [.int .i64 n, kv], ro μ2]) (fun k => k.2.length) ([], ef) ⟨⟨rfl, rfl, rfl, trivial⟩, Going.start _, x.rs, Crs.start _ _ _, Ent.refl _⟩ ?_
    rintro ⟨dn, td⟩ env L ⟨hsub, hgo, rs', hC, hEnt⟩
    dsimp only at hsub hEnt hgo hC
    refine swp_sub _ hsub ?_
    refine swp_ent hEnt ?_
    clear hsub hEnt env L
    refine swp_seq ?_
    refine swp_region ?_
    refine s_ef (ef_next (κ := ByteArray) rfl (by repeat (first | exact Split.nil | (apply Split.cons; (repeat (first | with_reducible exact Take.here | apply Take.there))))) hB.1 (Nat.le_refl _)) ?_
    refine ⟨fun hall => ?_, fun y hy hns => ?_⟩
    · skip
      first | refine s_pu (pu_extractL rfl) ?_ | refine s_pu (pu_extract rfl rfl) ?_
      refine swl_sub _ (.cons (t := 0) rfl (.cons (t := 3) rfl (.cons (t := 41) rfl (.cons (t := 43) rfl .nil)))) ?_
      refine swl_nil ?_
      refine then_n ?_
      refine swp_seq ?_
      refine swp_cond (b := _) rfl (fun h43 => by cases h43) (fun h43 => ?_)
      have htd := hgo.stop hB hall
      rw [htd] at hgo
      have hCe : Crs (namesAt d n) keep (ef.map (·.1)) x.rs rs' := hC.perm (by
        have := hgo; unfold Going at this; rw [List.append_nil] at this; exact this.map _)
      refine swp_exit ?_
      refine then_x ?_
      refine then_x ?_
      refine block_hit rfl ?_
      refine then_n ?_
      refine swp_seq ?_
      refine swp_region ?_
      refine s_pu (pu_move rfl) ?_
      refine s_pu (pu_move rfl) ?_
      first | refine s_pu (pu_nilCheck rfl) ?_ | refine s_pu (pu_nilCheck_fn rfl) ?_ | refine s_pu (pu_nilCheck_if rfl) ?_
      first | refine s_pu (pu_fieldAddr0 rfl) ?_ | refine s_pu (pu_fieldAddr rfl) ?_
      refine s_rd (rd_load rfl rfl) ?_
      refine s_ef (ef_fn (mclone_spec x.fb ef cf) rfl rfl (by repeat (first | exact Split.nil | (apply Split.cons; (repeat (first | with_reducible exact Take.here | apply Take.there)))))) ?_
      rintro v102 L1 ⟨b', rfl, rfl⟩
      refine swl_app ?_
      first | refine s_pu (pu_nilCheck rfl) ?_ | refine s_pu (pu_nilCheck_fn rfl) ?_ | refine s_pu (pu_nilCheck_if rfl) ?_
      first | refine s_pu (pu_fieldAddr0 rfl) ?_ | refine s_pu (pu_fieldAddr rfl) ?_
      refine s_ef0 (ef_store rfl rfl rfl) ?_
      refine swl_sub _ (.cons (t := 0) rfl .nil) ?_
      refine swl_nil ?_
      refine then_n ?_
      refine swp_region ?_
      refine s_pu (pu_move rfl) ?_
      refine s_pu (pu_move rfl) ?_
      refine s_pu (pu_move rfl) ?_
      first | refine s_pu (pu_nilCheck rfl) ?_ | refine s_pu (pu_nilCheck_fn rfl) ?_ | refine s_pu (pu_nilCheck_if rfl) ?_
      first | refine s_pu (pu_fieldAddr0 rfl) ?_ | refine s_pu (pu_fieldAddr rfl) ?_
      refine s_ef0 (ef_store rfl rfl rfl) ?_
      first | refine s_pu (pu_nilCheck rfl) ?_ | refine s_pu (pu_nilCheck_fn rfl) ?_ | refine s_pu (pu_nilCheck_if rfl) ?_
      first | refine s_pu (pu_fieldAddr0 rfl) ?_ | refine s_pu (pu_fieldAddr rfl) ?_
      refine s_ef0 (ef_store rfl rfl rfl) ?_
      first | refine s_pu (pu_nilCheck rfl) ?_ | refine s_pu (pu_nilCheck_fn rfl) ?_ | refine s_pu (pu_nilCheck_if rfl) ?_
      first | refine s_pu (pu_fieldAddr0 rfl) ?_ | refine s_pu (pu_fieldAddr rfl) ?_
      refine s_ef0 (ef_store rfl rfl rfl) ?_
      refine swl_sub _ .nil ?_
      refine swl_nil ?_
      refine done_endE [FSA p (crashD d n keep), ro μ2] .nil ⟨μ2, hle2, rfl⟩ ?_
      refine Ent.trans (own_nil_ent (e := 84) (n := 3)) ?_
      rw [← hCe.len]
      refine Ent.trans (Split.ent' (K := [blk p 73 (fsC d.quota rs'.length b' x.fb (.slice none 0 0) 0 false), mpe b' skv ef cf, mpe x.fb skv ef cf, own 84 3 (.slice none 0 0) 0 [], recsA rs', ro μ2]) (by repeat (first | exact Split.nil | (apply Split.cons; (repeat (first | with_reducible exact Take.here | apply Take.there)))))) ?_
      exact fs_close (crash_rep hd hx (b' := b') hEn hB hCe)
    · skip
      first | refine s_pu (pu_extractL rfl) ?_ | refine s_pu (pu_extract rfl rfl) ?_
      refine swl_sub _ (.cons (t := 0) rfl (.cons (t := 3) rfl (.cons (t := 41) rfl (.cons (t := 43) rfl .nil)))) ?_
      refine swl_nil ?_
      refine then_n ?_
      refine swp_seq ?_
      refine swp_cond (b := _) rfl (fun h43 => ?_) (fun h43 => by cases h43)
      obtain ⟨td', hgo', hlt⟩ := hgo.step hy hns
      have hlk := mlook_of hEn.keys hy
      rw [hEn.look] at hlk
      obtain ⟨k, hfk, hav⟩ := Option.map_eq_some_iff.1 hlk
      have hmem := findN_mem hfk
      obtain ⟨r, hr, hrf⟩ := hx.fl k (by
        rw [namesAt_eq] at hmem
        rcases namesK_live _ _ hmem with h | h
        · exact .inr (.inl h)
        · exact .inr (.inr h))
      have hok := Dk.fl_ok hd k
      rw [← hrf] at hok
      obtain ⟨r', hr', hra', hcut, hsl, hle⟩ := hC.now hr hok.2
      have hyv : y.2.1 = pv r'.a := by rw [← hav, adr_at hr, hra']
      have hkf : k < 9223372036854775807 := by have := (hno.good _ hmem).2; omega
      have hmo := moreF_le keep k r'.f hsl
      have hm1 := hok.1
      simp only [mostF] at hm1
      refine swp_skip ?_
      refine then_n ?_
      refine swp_block ?_
      refine swp_seq ?_
      refine swp_region ?_
      refine s_rd (rd_entry (κ := ByteArray) rfl (by repeat (first | exact Split.nil | (apply Split.cons; (repeat (first | with_reducible exact Take.here | apply Take.there))))) hy hB) ?_
      first | refine s_pu (pu_extractL rfl) ?_ | refine s_pu (pu_extract rfl rfl) ?_
      refine s_pu (pu_assign rfl) ?_
      refine swl_sub _ (.cons (t := 0) rfl (.cons (t := 3) rfl (.cons (t := 7) rfl (.cons (t := 41) rfl .nil)))) ?_
      refine swl_nil ?_
      refine then_n ?_
      refine swp_seq ?_
      rw [hyv]
      refine swp_ent (Split.ent' (K := [recsA rs', itA it x.fb cf (dn.map (·.2.2) ++ [y.2.2]) cf, mpe x.fb skv ef cf, fsH p d x, mpe x.sb skv x.es x.cs, blk b3 34 [.int .i64 n, kv], ro μ2]) (by repeat (first | exact Split.nil | (apply Split.cons; (repeat (first | with_reducible exact Take.here | apply Take.there)))))) ?_
      refine swp_ent (recs_open' hr') ?_
      refine swp_fact (fun m h => own_cap h) fun ⟨A', c', hv', hlc', hA'⟩ => ?_
      refine swp_region ?_
      refine s_pu (pu_assign rfl) ?_
      refine swl_sub _ (.cons (t := 0) rfl (.cons (t := 3) rfl (.cons (t := 7) rfl (.cons (t := 8) rfl (.cons (t := 41) rfl .nil))))) ?_
      refine swl_nil ?_
      refine then_n ?_
      refine swp_cut (fun env L => Sub env [(0, pv p), (3, pv b3), (41, pv it), (7, pv r'.a), (8, .int .i64 (moreF keep k r'.f : Nat))] ∧ Ent L [own 5 1 r'.v r'.f.bytes.length (bcs r'.f.bytes), blk r'.a 82 [.int .i64 (k : Nat), r'.v, .int .i64 (r'.f.safe : Nat)], holeA rs' k, itA it x.fb cf (dn.map (·.2.2) ++ [y.2.2]) cf, mpe x.fb skv ef cf, fsH p d x, mpe x.sb skv x.es x.cs, blk b3 34 [.int .i64 n, kv], ro μ2]) ?_ ?_
      · skip
        refine swp_seq ?_
        refine swp_region ?_
        first | refine s_pu (pu_fieldAddr0 rfl) ?_ | refine s_pu (pu_fieldAddr rfl) ?_
        refine s_rd (rd_load rfl rfl) ?_
        refine s_pu (pu_len_row hk2 rfl) ?_
        refine s_pu (pu_gtr rfl rfl) ?_
        refine swl_sub _ (.cons (t := 0) rfl (.cons (t := 3) rfl (.cons (t := 7) rfl (.cons (t := 8) rfl (.cons (t := 41) rfl (.cons (t := 49) rfl .nil)))))) ?_
        refine swl_nil ?_
        refine then_n ?_
        refine swp_cond (b := _) rfl (fun h49 => ?_) (fun h49 => ?_)
        · skip   -- 49 T
          have h49' : 0 < keep.length := by have := of_decide_eq_true h49; omega
          have hj : k % keep.length < keep.length := Nat.mod_lt _ h49'
          obtain ⟨kb, ko, kc, hkv, hkc, hkm, hkr⟩ := hk2.pos h49'
          have hkj : keep[k % keep.length]? = some keep[k % keep.length] := List.getElem?_eq_getElem hj
          have hkcell := (hkr.elem (f := icsk .i64) (n := 1) (fun _ => rfl) hkj).cell
          refine swp_draw [1, 5, 7, 11, 16, 21] _ [] (by simp only [List.append_nil]; exact Ent.refl _) (by kernel_rfl) ?_
          first | refine d_pu 0 rfl (pu_fieldAddr0 rfl) (by kernel_rfl) (by kernel_rfl) (by kernel_rfl) ?_ | refine d_pu 0 rfl (pu_fieldAddr rfl) (by kernel_rfl) (by kernel_rfl) (by kernel_rfl) ?_
          refine d_rd 1 rfl (rd_load rfl rfl) rfl (by kernel_rfl) (by kernel_rfl) (by kernel_rfl) ?_
          refine d_pu 2 rfl (pu_move rfl) (by kernel_rfl) (by kernel_rfl) (by kernel_rfl) ?_
          first | refine d_pu 3 rfl (pu_nilCheck rfl) (by kernel_rfl) (by kernel_rfl) (by kernel_rfl) ?_ | refine d_pu 3 rfl (pu_nilCheck_fn rfl) (by kernel_rfl) (by kernel_rfl) (by kernel_rfl) ?_ | refine d_pu 3 rfl (pu_nilCheck_if rfl) (by kernel_rfl) (by kernel_rfl) (by kernel_rfl) ?_
          first | refine d_pu 4 rfl (pu_fieldAddr0 rfl) (by kernel_rfl) (by kernel_rfl) (by kernel_rfl) ?_ | refine d_pu 4 rfl (pu_fieldAddr rfl) (by kernel_rfl) (by kernel_rfl) (by kernel_rfl) ?_
          refine d_rd 5 rfl (rd_load rfl rfl) rfl (by kernel_rfl) (by kernel_rfl) (by kernel_rfl) ?_
          first | refine d_pu 6 rfl (pu_fieldAddr0 rfl) (by kernel_rfl) (by kernel_rfl) (by kernel_rfl) ?_ | refine d_pu 6 rfl (pu_fieldAddr rfl) (by kernel_rfl) (by kernel_rfl) (by kernel_rfl) ?_
          refine d_rd 7 rfl (rd_load rfl rfl) rfl (by kernel_rfl) (by kernel_rfl) (by kernel_rfl) ?_
          refine d_pu 8 rfl (pu_len_row hk2 rfl) (by kernel_rfl) (by kernel_rfl) (by kernel_rfl) ?_
          refine d_pu 9 rfl (pu_rem_nat rfl rfl h49') (by kernel_rfl) (by kernel_rfl) (by kernel_rfl) ?_
          refine d_pu 10 rfl (pu_indexAddr (ko + (k % keep.length) * 1) (congrArg some hkv) rfl (by omega) (by omega) (by rw [Int.toNat_natCast])) (by kernel_rfl) (by kernel_rfl) (by kernel_rfl) ?_
          refine d_rd 11 rfl (rd_ro rfl hkcell) rfl (by kernel_rfl) (by kernel_rfl) (by kernel_rfl) ?_
          refine d_pu 12 rfl (pu_max2 rfl rfl) (by kernel_rfl) (by kernel_rfl) (by kernel_rfl) ?_
          refine d_pu 13 rfl (pu_move rfl) (by kernel_rfl) (by kernel_rfl) (by kernel_rfl) ?_
          first | refine d_pu 14 rfl (pu_nilCheck rfl) (by kernel_rfl) (by kernel_rfl) (by kernel_rfl) ?_ | refine d_pu 14 rfl (pu_nilCheck_fn rfl) (by kernel_rfl) (by kernel_rfl) (by kernel_rfl) ?_ | refine d_pu 14 rfl (pu_nilCheck_if rfl) (by kernel_rfl) (by kernel_rfl) (by kernel_rfl) ?_
          first | refine d_pu 15 rfl (pu_fieldAddr0 rfl) (by kernel_rfl) (by kernel_rfl) (by kernel_rfl) ?_ | refine d_pu 15 rfl (pu_fieldAddr rfl) (by kernel_rfl) (by kernel_rfl) (by kernel_rfl) ?_
          refine d_rd 16 rfl (rd_load rfl rfl) rfl (by kernel_rfl) (by kernel_rfl) (by kernel_rfl) ?_
          refine d_pu 17 rfl (pu_len_own ⟨A', c', hv'⟩ rfl) (by kernel_rfl) (by kernel_rfl) (by kernel_rfl) ?_
          refine d_pu 18 rfl (pu_move rfl) (by kernel_rfl) (by kernel_rfl) (by kernel_rfl) ?_
          first | refine d_pu 19 rfl (pu_nilCheck rfl) (by kernel_rfl) (by kernel_rfl) (by kernel_rfl) ?_ | refine d_pu 19 rfl (pu_nilCheck_fn rfl) (by kernel_rfl) (by kernel_rfl) (by kernel_rfl) ?_ | refine d_pu 19 rfl (pu_nilCheck_if rfl) (by kernel_rfl) (by kernel_rfl) (by kernel_rfl) ?_
          first | refine d_pu 20 rfl (pu_fieldAddr0 rfl) (by kernel_rfl) (by kernel_rfl) (by kernel_rfl) ?_ | refine d_pu 20 rfl (pu_fieldAddr rfl) (by kernel_rfl) (by kernel_rfl) (by kernel_rfl) ?_
          refine d_rd 21 rfl (rd_load rfl rfl) rfl (by kernel_rfl) (by kernel_rfl) (by kernel_rfl) ?_
          refine d_pu 22 rfl (pu_sub_as ((r'.f.bytes.length : Int) - r'.f.safe) rfl rfl (by omega) (by omega) (by omega)) (by kernel_rfl) (by kernel_rfl) (by kernel_rfl) ?_
          refine d_pu 23 rfl (pu_min2 rfl rfl) (by kernel_rfl) (by kernel_rfl) (by kernel_rfl) ?_
          refine d_pu 24 rfl (pu_assign rfl) (by kernel_rfl) (by kernel_rfl) (by kernel_rfl) ?_
          refine d_sub _ (.cons (t := 0) rfl (.cons (t := 3) rfl (.cons (t := 7) rfl (.cons (t := 8) rfl (.cons (t := 41) rfl .nil))))) ?_
          first | refine d_nilt (by kernel_rfl) ?_ | refine d_nilf (by kernel_rfl) ?_
          refine then_n ⟨⟨rfl, rfl, rfl, rfl, ?_, trivial⟩, Split.ent' (by repeat (first | exact Split.nil | (apply Split.cons; (repeat (first | with_reducible exact Take.here | apply Take.there)))))⟩
          have e1 : ((moreF keep k r'.f : Nat) : Int) = min (max keep[k % keep.length] 0) ((r'.f.bytes.length : Int) - r'.f.safe) := by
            unfold moreF; rw [if_neg (by omega), hkj, Option.getD_some]; omega
          rw [e1]; rfl
        · skip   -- 49 F
          refine swp_skip ?_
          have h49' : keep.length = 0 := by have := of_decide_eq_false h49; omega
          refine then_n ⟨⟨rfl, rfl, rfl, rfl, ?_, trivial⟩, Split.ent' (by repeat (first | exact Split.nil | (apply Split.cons; (repeat (first | with_reducible exact Take.here | apply Take.there)))))⟩
          have e1 : moreF keep k r'.f = 0 := by unfold moreF; rw [if_pos h49']
          rw [e1]; rfl
      rintro env L ⟨hsub, hEnt⟩
      refine swp_sub _ hsub ?_
      refine swp_ent hEnt ?_
      clear hsub hEnt env L
      refine swp_seq ?_
      refine swp_draw [4, 8] _ [] (by simp only [List.append_nil]; exact Ent.refl _) (by kernel_rfl) ?_
      refine d_pu 0 rfl (pu_move rfl) (by kernel_rfl) (by kernel_rfl) (by kernel_rfl) ?_
      refine d_pu 1 rfl (pu_move rfl) (by kernel_rfl) (by kernel_rfl) (by kernel_rfl) ?_
      first | refine d_pu 2 rfl (pu_nilCheck rfl) (by kernel_rfl) (by kernel_rfl) (by kernel_rfl) ?_ | refine d_pu 2 rfl (pu_nilCheck_fn rfl) (by kernel_rfl) (by kernel_rfl) (by kernel_rfl) ?_ | refine d_pu 2 rfl (pu_nilCheck_if rfl) (by kernel_rfl) (by kernel_rfl) (by kernel_rfl) ?_
      first | refine d_pu 3 rfl (pu_fieldAddr0 rfl) (by kernel_rfl) (by kernel_rfl) (by kernel_rfl) ?_ | refine d_pu 3 rfl (pu_fieldAddr rfl) (by kernel_rfl) (by kernel_rfl) (by kernel_rfl) ?_
      refine d_rd 4 rfl (rd_load rfl rfl) rfl (by kernel_rfl) (by kernel_rfl) (by kernel_rfl) ?_
      refine d_pu 5 rfl (pu_move rfl) (by kernel_rfl) (by kernel_rfl) (by kernel_rfl) ?_
      first | refine d_pu 6 rfl (pu_nilCheck rfl) (by kernel_rfl) (by kernel_rfl) (by kernel_rfl) ?_ | refine d_pu 6 rfl (pu_nilCheck_fn rfl) (by kernel_rfl) (by kernel_rfl) (by kernel_rfl) ?_ | refine d_pu 6 rfl (pu_nilCheck_if rfl) (by kernel_rfl) (by kernel_rfl) (by kernel_rfl) ?_
      first | refine d_pu 7 rfl (pu_fieldAddr0 rfl) (by kernel_rfl) (by kernel_rfl) (by kernel_rfl) ?_ | refine d_pu 7 rfl (pu_fieldAddr rfl) (by kernel_rfl) (by kernel_rfl) (by kernel_rfl) ?_
      refine d_rd 8 rfl (rd_load rfl rfl) rfl (by kernel_rfl) (by kernel_rfl) (by kernel_rfl) ?_
      refine d_pu 9 rfl (pu_move rfl) (by kernel_rfl) (by kernel_rfl) (by kernel_rfl) ?_
      refine d_pu 10 rfl (pu_add_as ((r'.f.safe + moreF keep k r'.f : Nat) : Int) rfl rfl (by omega) (by omega) (by omega)) (by kernel_rfl) (by kernel_rfl) (by kernel_rfl) ?_
      refine d_pu 11 rfl (pu_slice_hi (r'.f.safe + moreF keep k r'.f) (congrArg some hv') rfl rfl (by omega)) (by kernel_rfl) (by kernel_rfl) (by kernel_rfl) ?_
      first | refine d_fint 12 rfl (by kernel_rfl) (by kernel_rfl) (ef_fn (bclone_own A' (r'.f.safe + moreF keep k r'.f) r'.f.bytes.length c' c' r'.f.bytes rfl hmo (by omega) (fun h => by have := hA' h; omega)) rfl rfl (by rw [← hv']; exact (by repeat (first | exact Split.nil | (apply Split.cons; (repeat (first | with_reducible exact Take.here | apply Take.there))))))) ?_ | refine d_finf 12 rfl (by kernel_rfl) (by kernel_rfl) (ef_fn (bclone_own A' (r'.f.safe + moreF keep k r'.f) r'.f.bytes.length c' c' r'.f.bytes rfl hmo (by omega) (fun h => by have := hA' h; omega)) rfl rfl (by rw [← hv']; exact (by repeat (first | exact Split.nil | (apply Split.cons; (repeat (first | with_reducible exact Take.here | apply Take.there))))))) ?_
      rintro v86 L1 ⟨⟨A2, c2, rfl⟩, rfl⟩
      refine swd_app ?_
      first | refine d_pu 13 rfl (pu_nilCheck rfl) (by kernel_rfl) (by kernel_rfl) (by kernel_rfl) ?_ | refine d_pu 13 rfl (pu_nilCheck_fn rfl) (by kernel_rfl) (by kernel_rfl) (by kernel_rfl) ?_ | refine d_pu 13 rfl (pu_nilCheck_if rfl) (by kernel_rfl) (by kernel_rfl) (by kernel_rfl) ?_
      first | refine d_pu 14 rfl (pu_fieldAddr0 rfl) (by kernel_rfl) (by kernel_rfl) (by kernel_rfl) ?_ | refine d_pu 14 rfl (pu_fieldAddr rfl) (by kernel_rfl) (by kernel_rfl) (by kernel_rfl) ?_
      first | refine d_fin0t 15 rfl (by kernel_rfl) (by kernel_rfl) (ef_store rfl rfl rfl) ?_ | refine d_fin0f 15 rfl (by kernel_rfl) (by kernel_rfl) (ef_store rfl rfl rfl) ?_
      refine d_sub _ (.cons (t := 0) rfl (.cons (t := 3) rfl (.cons (t := 7) rfl (.cons (t := 41) rfl .nil)))) ?_
      first | refine d_nilt (by kernel_rfl) ?_ | refine d_nilf (by kernel_rfl) ?_
      refine then_n ?_
      refine swp_region ?_
      refine s_pu (pu_move rfl) ?_
      refine s_pu (pu_move rfl) ?_
      first | refine s_pu (pu_nilCheck rfl) ?_ | refine s_pu (pu_nilCheck_fn rfl) ?_ | refine s_pu (pu_nilCheck_if rfl) ?_
      first | refine s_pu (pu_fieldAddr0 rfl) ?_ | refine s_pu (pu_fieldAddr rfl) ?_
      refine s_rd (rd_load rfl rfl) ?_
      refine s_pu (pu_len rfl) ?_
      first | refine s_pu (pu_nilCheck rfl) ?_ | refine s_pu (pu_nilCheck_fn rfl) ?_ | refine s_pu (pu_nilCheck_if rfl) ?_
      first | refine s_pu (pu_fieldAddr0 rfl) ?_ | refine s_pu (pu_fieldAddr rfl) ?_
      refine s_ef0 (ef_store rfl rfl rfl) ?_
      refine swl_sub _ (.cons (t := 0) rfl (.cons (t := 3) rfl (.cons (t := 41) rfl .nil))) ?_
      refine swl_nil ?_
      refine block_n ?_
      refine then_n ⟨(dn ++ [y], td'), ⟨⟨rfl, rfl, rfl, trivial⟩, hgo', rs'.set k ⟨r'.a, .slice A2 (r'.f.safe + moreF keep k r'.f) c2, cutF keep k r'.f⟩, ?_, ?_⟩, by dsimp only; omega⟩
      · dsimp only
        rw [List.map_append]
        exact hC.step hfk hr hra' hcut
      · dsimp only
        have e3 : (dn ++ [y]).map (·.2.2) = dn.map (·.2.2) ++ [y.2.2] := by rw [List.map_append]; rfl
        have e4 : (cutF keep k r'.f).bytes.length = r'.f.safe + moreF keep k r'.f := by show (r'.f.bytes.take _).length = _; rw [List.length_take, Nat.min_eq_left hmo]
        rw [e3]
        refine Ent.trans (Split.ent' (K := [own 5 1 (.slice A2 (r'.f.safe + moreF keep k r'.f) c2) (r'.f.safe + moreF keep k r'.f) (bcs (r'.f.bytes.take (r'.f.safe + moreF keep k r'.f))), blk r'.a 82 [.int .i64 (k : Nat), .slice A2 (r'.f.safe + moreF keep k r'.f) c2, .int .i64 (r'.f.safe + moreF keep k r'.f : Nat)], holeA rs' k, itA it x.fb cf (dn.map (·.2.2) ++ [y.2.2]) cf, mpe x.fb skv ef cf, fsH p d x, mpe x.sb skv x.es x.cs, blk b3 34 [.int .i64 n, kv], ro μ2]) (by repeat (first | exact Split.nil | (apply Split.cons; (repeat (first | with_reducible exact Take.here | apply Take.there)))))) ?_
        have h2 := recs_close' (rs := rs') (i := k) ⟨r'.a, .slice A2 (r'.f.safe + moreF keep k r'.f) c2, cutF keep k r'.f⟩ (List.getElem?_eq_some_iff.1 hr').1 (L := [itA it x.fb cf (dn.map (·.2.2) ++ [y.2.2]) cf, mpe x.fb skv ef cf, fsH p d x, mpe x.sb skv x.es x.cs, blk b3 34 [.int .i64 n, kv], ro μ2])
        rw [e4] at h2
        exact Ent.trans h2 (Split.ent' (by repeat (first | exact Split.nil | (apply Split.cons; (repeat (first | with_reducible exact Take.here | apply Take.there))))))
end SX
namespace SX
open Go Go.Proofs
set_option maxHeartbeats 8000000 in
theorem damage_spec (p : Nat) (d : Dk) (hd : d.Ok) (s : ByteArray) (n : Int) (t : ByteArray) (ht : t.size ≤ 1048576) : Spec Try.prog 24 [pv p, .string s, .int .i64 n, .string t] [FSA p d] (fun r L => r = .int .i64 (damageD d s n t.data.toList).2 ∧ L = [FSA p (damageD d s n t.data.toList).1]) := by
  refine FSA.open' fun x hx => ?_
  obtain ⟨o, e, hve⟩ := find_ptr x.rs d s
  have hfs := find_spec' (p := p) hx hve
  have hul := Dk.used_le hd
  have hq := hd.q
  refine Spec.of 95 Try.func24 rfl rfl rfl ?_
  refine swp_seq ?_
  refine swp_region ?_
  refine s_pu (pu_assign rfl) ?_
  refine swl_sub _ (.cons (t := 0) rfl (.cons (t := 1) rfl (.cons (t := 2) rfl (.cons (t := 3) rfl .nil)))) ?_
  refine swl_nil ?_
  refine then_n ?_
  refine swp_seq ?_
  refine swp_region ?_
  refine s_pu (pu_move rfl) ?_
  refine s_pu (pu_move rfl) ?_
  refine s_ef (ef_fn hfs rfl rfl (by repeat (first | exact Split.nil | (apply Split.cons; (repeat (first | with_reducible exact Take.here | apply Take.there)))))) ?_
  rintro v16 L1 ⟨rfl, rfl⟩
  refine swl_app ?_
  refine s_pu (pu_move rfl) ?_
  first | refine s_pu (pu_extractL rfl) ?_ | refine s_pu (pu_extract rfl rfl) ?_
  first | refine s_pu (pu_extractL rfl) ?_ | refine s_pu (pu_extract rfl rfl) ?_
  refine s_pu (pu_assign rfl) ?_
  refine s_pu (pu_assign rfl) ?_
  refine swl_sub _ (.cons (t := 0) rfl (.cons (t := 2) rfl (.cons (t := 3) rfl (.cons (t := 9) rfl (.cons (t := 10) rfl .nil))))) ?_
  refine swl_nil ?_
  refine then_n ?_
  refine swp_seq ?_
  refine swp_seq ?_
  refine swp_region ?_
  refine s_pu (pu_move rfl) ?_
  refine s_pu (pu_neq rfl rfl) ?_
  refine swl_sub _ (.cons (t := 0) rfl (.cons (t := 2) rfl (.cons (t := 3) rfl (.cons (t := 9) rfl (.cons (t := 10) rfl (.cons (t := 20) rfl .nil)))))) ?_
  refine swl_nil ?_
  refine then_n ?_
  refine swp_cond (b := _) rfl (fun h20 => ?_) (fun h20 => ?_)
  · skip   -- 20 T
    refine swp_seq ?_
    refine swp_region ?_
    refine s_pu (pu_move rfl) ?_
    refine s_pu (pu_assign rfl) ?_
    refine swl_sub _ (.cons (t := 8) rfl .nil) ?_
    refine swl_nil ?_
    refine then_n ?_
    refine swp_ret ?_
    refine then_r ?_
    have h20' : e ≠ 0 := by simpa using h20
    unfold damageD
    rw [find_err hve h20']
    exact done_retE [FSA p d] (.tmp rfl .nil) ⟨rfl, rfl⟩ ((Split.ent' (K := [fsH p d x, mpe x.sb skv x.es x.cs, mpe x.fb skv x.ef x.cf, own 84 3 x.pv x.ps.length (x.ps.flatMap encP), recsA x.rs]) (by repeat (first | exact Split.nil | (apply Split.cons; (repeat (first | with_reducible exact Take.here | apply Take.there)))))).trans (fs_close hx))
  · skip   -- 20 F
    have h20' : e = 0 := by simpa using h20
    subst h20'
    obtain ⟨k, hk1, hk2, hk3⟩ := find_ok hve
    obtain ⟨r, hr, hf, ha⟩ := hx.find hk1
    rw [ha] at hk2
    rw [hk2]
    have hlen := (Dk.fl_ok hd k).1
    simp only [mostF] at hlen
    rw [← hf] at hlen
    refine swp_ent (Split.ent' (K := [recsA x.rs, fsH p d x, mpe x.sb skv x.es x.cs, mpe x.fb skv x.ef x.cf, own 84 3 x.pv x.ps.length (x.ps.flatMap encP)]) (by repeat (first | exact Split.nil | (apply Split.cons; (repeat (first | with_reducible exact Take.here | apply Take.there)))))) ?_
    refine swp_ent (recs_open' hr) ?_
    refine swp_fact (fun m h => own_cap h) fun ⟨A, c, hv, hlc, hA⟩ => ?_
    refine swp_skip ?_
    refine then_n ?_
    refine swp_cut (fun env L => Sub env [(0, pv p), (2, .int .i64 n), (3, .string t), (9, pv r.a)] ∧ Ent L [own 5 1 r.v r.f.bytes.length (bcs r.f.bytes), blk r.a 82 [.int .i64 (k : Nat), r.v, .int .i64 (r.f.safe : Nat)], holeA x.rs k, fsH p d x, mpe x.sb skv x.es x.cs, mpe x.fb skv x.ef x.cf, own 84 3 x.pv x.ps.length (x.ps.flatMap encP)] ∧ 0 ≤ n ∧ n ≤ r.f.bytes.length) ?_ ?_
    · skip
      refine swp_seq ?_
      refine swp_region ?_
      refine s_pu (pu_move rfl) ?_
      refine s_pu (pu_lss rfl rfl) ?_
      refine s_pu (pu_move rfl) ?_
      refine s_split 24 rfl (fun h24 => ?_) (fun h24 => ?_)
      · skip   -- 24 T
        refine s_off rfl rfl rfl ?_
        refine s_off rfl rfl rfl ?_
        refine s_off rfl rfl rfl ?_
        refine s_off rfl rfl rfl ?_
        refine s_off rfl rfl rfl ?_
        refine s_off rfl rfl rfl ?_
        refine s_off rfl rfl rfl ?_
        first | refine s_pu (pu_pick_t rfl rfl) ?_ | refine s_pu (pu_pick_f rfl rfl) ?_
        refine swl_sub _ (.cons (t := 0) rfl (.cons (t := 2) rfl (.cons (t := 3) rfl (.cons (t := 9) rfl (.cons (t := 32) rfl .nil))))) ?_
        refine swl_nil ?_
        refine then_n ?_
        refine swp_cond (b := _) rfl (fun h32 => ?_) (fun h32 => by cases h32)
        refine swp_seq ?_
        refine swp_region ?_
        refine s_pu (pu_assign rfl) ?_
        refine swl_sub _ (.cons (t := 8) rfl .nil) ?_
        refine swl_nil ?_
        refine then_n ?_
        refine swp_ret ?_
        refine then_r ?_
        have h24' := of_decide_eq_true h24
        have key : damageD d s n t.data.toList = (d, 1) := by unfold damageD; rw [hk3, if_pos (.inl (by omega))]
        rw [key]
        refine done_retE [FSA p d] (.tmp rfl .nil) ⟨rfl, rfl⟩ ?_
        refine Ent.trans (Split.ent' (K := [own 5 1 r.v r.f.bytes.length (bcs r.f.bytes), blk r.a 82 [.int .i64 (k : Nat), r.v, .int .i64 (r.f.safe : Nat)], holeA x.rs k, fsH p d x, mpe x.sb skv x.es x.cs, mpe x.fb skv x.ef x.cf, own 84 3 x.pv x.ps.length (x.ps.flatMap encP)]) (by repeat (first | exact Split.nil | (apply Split.cons; (repeat (first | with_reducible exact Take.here | apply Take.there)))))) ?_
        exact (recs_back' hr).trans ((Split.ent' (K := [fsH p d x, mpe x.sb skv x.es x.cs, mpe x.fb skv x.ef x.cf, own 84 3 x.pv x.ps.length (x.ps.flatMap encP), recsA x.rs]) (by repeat (first | exact Split.nil | (apply Split.cons; (repeat (first | with_reducible exact Take.here | apply Take.there)))))).trans (fs_close hx))
      · skip   -- 24 F
        refine s_on rfl rfl ?_
        refine s_pu (pu_move rfl) ?_
        refine s_on rfl rfl ?_
        refine s_pu (pu_move rfl) ?_
        refine s_on rfl rfl ?_
        first | refine s_pu (pu_nilCheck rfl) ?_ | refine s_pu (pu_nilCheck_fn rfl) ?_ | refine s_pu (pu_nilCheck_if rfl) ?_
        refine s_on rfl rfl ?_
        first | refine s_pu (pu_fieldAddr0 rfl) ?_ | refine s_pu (pu_fieldAddr rfl) ?_
        refine s_on rfl rfl ?_
        refine s_rd (rd_load rfl rfl) ?_
        refine s_on rfl rfl ?_
        refine s_pu (pu_len_own ⟨A, c, hv⟩ rfl) ?_
        refine s_on rfl rfl ?_
        refine s_pu (pu_gtr rfl rfl) ?_
        first | refine s_pu (pu_pick_t rfl rfl) ?_ | refine s_pu (pu_pick_f rfl rfl) ?_
        refine swl_sub _ (.cons (t := 0) rfl (.cons (t := 2) rfl (.cons (t := 3) rfl (.cons (t := 9) rfl (.cons (t := 32) rfl .nil))))) ?_
        refine swl_nil ?_
        refine then_n ?_
        refine swp_cond (b := _) rfl (fun h32 => ?_) (fun h32 => ?_)
        · skip   -- 32 T
          refine swp_seq ?_
          refine swp_region ?_
          refine s_pu (pu_assign rfl) ?_
          refine swl_sub _ (.cons (t := 8) rfl .nil) ?_
          refine swl_nil ?_
          refine then_n ?_
          refine swp_ret ?_
          refine then_r ?_
          have h32' := of_decide_eq_true h32
          have key : damageD d s n t.data.toList = (d, 1) := by unfold damageD; rw [hk3, if_pos (.inr (by rw [← hf]; exact h32'))]
          rw [key]
          refine done_retE [FSA p d] (.tmp rfl .nil) ⟨rfl, rfl⟩ ?_
          refine Ent.trans (Split.ent' (K := [own 5 1 r.v r.f.bytes.length (bcs r.f.bytes), blk r.a 82 [.int .i64 (k : Nat), r.v, .int .i64 (r.f.safe : Nat)], holeA x.rs k, fsH p d x, mpe x.sb skv x.es x.cs, mpe x.fb skv x.ef x.cf, own 84 3 x.pv x.ps.length (x.ps.flatMap encP)]) (by repeat (first | exact Split.nil | (apply Split.cons; (repeat (first | with_reducible exact Take.here | apply Take.there)))))) ?_
          exact (recs_back' hr).trans ((Split.ent' (K := [fsH p d x, mpe x.sb skv x.es x.cs, mpe x.fb skv x.ef x.cf, own 84 3 x.pv x.ps.length (x.ps.flatMap encP), recsA x.rs]) (by repeat (first | exact Split.nil | (apply Split.cons; (repeat (first | with_reducible exact Take.here | apply Take.there)))))).trans (fs_close hx))
        · skip   -- 32 F
          refine swp_skip ?_
          exact then_n ⟨⟨rfl, rfl, rfl, rfl, trivial⟩, Split.ent' (by repeat (first | exact Split.nil | (apply Split.cons; (repeat (first | with_reducible exact Take.here | apply Take.there))))), by have := of_decide_eq_false h24; omega, by have := of_decide_eq_false h32; omega⟩
    rintro env L ⟨hsub, hE, h1, h2⟩
    refine swp_sub _ hsub ?_
    refine swp_ent hE ?_
    clear hsub hE env L
    obtain ⟨m, rfl⟩ : ∃ m : Nat, n = (m : Int) := ⟨n.toNat, by omega⟩
    have h2' : m ≤ r.f.bytes.length := by omega
    have hbt := bsize t
    refine swp_cut (fun env L => Sub env [(2, .int .i64 (m : Nat)), (3, .string t), (9, pv r.a)] ∧ Ent L [own 5 1 r.v r.f.bytes.length (bcs r.f.bytes), blk r.a 82 [.int .i64 (k : Nat), r.v, .int .i64 (r.f.safe : Nat)], holeA x.rs k, fsH p d x, mpe x.sb skv x.es x.cs, mpe x.fb skv x.ef x.cf, own 84 3 x.pv x.ps.length (x.ps.flatMap encP)] ∧ ¬ (0 < (t.data.toList.length : Int) - (r.f.bytes.length - m) ∧ d.quota < (d.used : Int) + ((t.data.toList.length : Int) - (r.f.bytes.length - m)))) ?_ ?_
    · skip
      refine swp_seq ?_
      refine swp_region ?_
      refine s_pu (pu_move rfl) ?_
      refine s_pu (pu_strlen rfl) ?_
      refine s_pu (pu_move rfl) ?_
      first | refine s_pu (pu_nilCheck rfl) ?_ | refine s_pu (pu_nilCheck_fn rfl) ?_ | refine s_pu (pu_nilCheck_if rfl) ?_
      first | refine s_pu (pu_fieldAddr0 rfl) ?_ | refine s_pu (pu_fieldAddr rfl) ?_
      refine s_rd (rd_load rfl rfl) ?_
      refine s_pu (pu_len_own ⟨A, c, hv⟩ rfl) ?_
      refine s_pu (pu_move rfl) ?_
      refine s_pu (pu_sub_as ((r.f.bytes.length : Int) - m) rfl rfl (by omega) (by omega) (by omega)) ?_
      refine s_pu (pu_sub_as ((t.size : Int) - ((r.f.bytes.length : Int) - m)) rfl rfl (by omega) (by omega) (by omega)) ?_
      refine s_pu (pu_assign rfl) ?_
      refine swl_sub _ (.cons (t := 0) rfl (.cons (t := 2) rfl (.cons (t := 3) rfl (.cons (t := 9) rfl (.cons (t := 11) rfl .nil))))) ?_
      refine swl_nil ?_
      refine then_n ?_
      refine swp_seq ?_
      refine swp_ent (Split.ent' (K := [own 5 1 r.v r.f.bytes.length (bcs r.f.bytes), blk r.a 82 [.int .i64 (k : Nat), r.v, .int .i64 (r.f.safe : Nat)], holeA x.rs k, fsH p d x, mpe x.sb skv x.es x.cs, mpe x.fb skv x.ef x.cf, own 84 3 x.pv x.ps.length (x.ps.flatMap encP)]) (by repeat (first | exact Split.nil | (apply Split.cons; (repeat (first | with_reducible exact Take.here | apply Take.there)))))) ?_
      refine swp_ent (recs_back' hr) ?_
      refine swp_draw [10] ([fsH p d x]) ([recsA x.rs, mpe x.sb skv x.es x.cs, mpe x.fb skv x.ef x.cf, own 84 3 x.pv x.ps.length (x.ps.flatMap encP)]) (Split.ent (by repeat (first | exact Split.nil | (apply Split.cons; (repeat (first | with_reducible exact Take.here | apply Take.there)))))) (by kernel_rfl) ?_
      refine d_pu 0 rfl (pu_move rfl) (by kernel_rfl) (by kernel_rfl) (by kernel_rfl) ?_
      refine d_pu 1 rfl (pu_gtr rfl rfl) (by kernel_rfl) (by kernel_rfl) (by kernel_rfl) ?_
      refine d_pu 2 rfl (pu_move rfl) (by kernel_rfl) (by kernel_rfl) (by kernel_rfl) ?_
      refine d_split 45 rfl (fun h45 => ?_) (fun h45 => ?_)
      · skip   -- 45 T
        refine d_pu_on 3 rfl rfl rfl (pu_move rfl) (by kernel_rfl) (by kernel_rfl) (by kernel_rfl) ?_
        refine d_pu_on 5 rfl rfl rfl (pu_move rfl) (by kernel_rfl) (by kernel_rfl) (by kernel_rfl) ?_
        refine d_pu_on 7 rfl rfl rfl (pu_move rfl) (by kernel_rfl) (by kernel_rfl) (by kernel_rfl) ?_
        first | refine d_pu_on 8 rfl rfl rfl (pu_nilCheck rfl) (by kernel_rfl) (by kernel_rfl) (by kernel_rfl) ?_ | refine d_pu_on 8 rfl rfl rfl (pu_nilCheck_fn rfl) (by kernel_rfl) (by kernel_rfl) (by kernel_rfl) ?_ | refine d_pu_on 8 rfl rfl rfl (pu_nilCheck_if rfl) (by kernel_rfl) (by kernel_rfl) (by kernel_rfl) ?_
        first | refine d_pu_on 9 rfl rfl rfl (pu_fieldAddr0 rfl) (by kernel_rfl) (by kernel_rfl) (by kernel_rfl) ?_ | refine d_pu_on 9 rfl rfl rfl (pu_fieldAddr rfl) (by kernel_rfl) (by kernel_rfl) (by kernel_rfl) ?_
        refine d_rd_on 10 rfl rfl rfl (rd_load rfl rfl) rfl (by kernel_rfl) (by kernel_rfl) (by kernel_rfl) ?_
        refine d_amb [4] (by kernel_rfl) rfl ?_
        refine dA_ef 4 rfl (GOn.some rfl rfl) (ef_fn (used_spec p d hd x hx) rfl rfl (by repeat (first | exact Split.nil | (apply Split.cons; (repeat (first | with_reducible exact Take.here | apply Take.there)))))) ?_
        rintro v47 L1 ⟨rfl, rfl⟩
        refine ⟨_, ent_appC (Split.ent (by repeat (first | exact Split.nil | (apply Split.cons; (repeat (first | with_reducible exact Take.here | apply Take.there)))))), ?_⟩
        refine d_pu_on 6 rfl rfl rfl (pu_add_as ((d.used : Int) + ((t.size : Int) - ((r.f.bytes.length : Int) - m))) rfl rfl (by omega) (by omega) (by omega)) (by kernel_rfl) (by kernel_rfl) (by kernel_rfl) ?_
        refine d_pu_on 11 rfl rfl rfl (pu_gtr rfl rfl) (by kernel_rfl) (by kernel_rfl) (by kernel_rfl) ?_
        first | refine d_pu 12 rfl (pu_pick_t rfl rfl) (by kernel_rfl) (by kernel_rfl) (by kernel_rfl) ?_ | refine d_pu 12 rfl (pu_pick_f rfl rfl) (by kernel_rfl) (by kernel_rfl) (by kernel_rfl) ?_
        refine d_sub _ (.cons (t := 2) rfl (.cons (t := 3) rfl (.cons (t := 9) rfl (.cons (t := 55) rfl .nil)))) ?_
        first | refine d_nilt (by kernel_rfl) ?_ | refine d_nilf (by kernel_rfl) ?_
        refine then_n ?_
        refine swp_cond (b := _) rfl (fun h55 => ?_) (fun h55 => ?_)
        · skip   -- 55 T
          refine swp_seq ?_
          refine swp_region ?_
          refine s_pu (pu_assign rfl) ?_
          refine swl_sub _ (.cons (t := 8) rfl .nil) ?_
          refine swl_nil ?_
          refine then_n ?_
          refine swp_ret ?_
          refine then_r ?_
          have h45' := of_decide_eq_true h45
          have h55' := of_decide_eq_true h55
          have key : damageD d s m t.data.toList = (d, 7) := by
            unfold damageD
            rw [hk3, if_neg (by rw [← hf]; omega), if_pos (by rw [← hf, hbt]; exact ⟨by omega, by omega⟩)]
          rw [key]
          exact done_retE [FSA p d] (.tmp rfl .nil) ⟨rfl, rfl⟩ ((Split.ent' (K := [fsH p d x, mpe x.sb skv x.es x.cs, mpe x.fb skv x.ef x.cf, own 84 3 x.pv x.ps.length (x.ps.flatMap encP), recsA x.rs]) (by repeat (first | exact Split.nil | (apply Split.cons; (repeat (first | with_reducible exact Take.here | apply Take.there)))))).trans (fs_close hx))
        · skip   -- 55 F
          refine swp_skip ?_
          refine then_n ⟨⟨rfl, rfl, rfl, trivial⟩, ?_, ?_⟩
          · refine Ent.trans (Split.ent' (K := [recsA x.rs, fsH p d x, mpe x.sb skv x.es x.cs, mpe x.fb skv x.ef x.cf, own 84 3 x.pv x.ps.length (x.ps.flatMap encP)]) (by repeat (first | exact Split.nil | (apply Split.cons; (repeat (first | with_reducible exact Take.here | apply Take.there)))))) ?_
            exact recs_open' hr
          · rw [hbt]
            first
              | (have h55' := of_decide_eq_false h55; rintro ⟨_, h2⟩; omega)
              | (have h45' := of_decide_eq_false h45; rintro ⟨h1, _⟩; omega)
      · skip   -- 45 F
        refine d_off 3 rfl rfl rfl rfl (by kernel_rfl) (by kernel_rfl) (by kernel_rfl) ?_
        refine d_off 4 rfl rfl rfl rfl (by kernel_rfl) (by kernel_rfl) (by kernel_rfl) ?_
        refine d_off 5 rfl rfl rfl rfl (by kernel_rfl) (by kernel_rfl) (by kernel_rfl) ?_
        refine d_off 6 rfl rfl rfl rfl (by kernel_rfl) (by kernel_rfl) (by kernel_rfl) ?_
        refine d_off 7 rfl rfl rfl rfl (by kernel_rfl) (by kernel_rfl) (by kernel_rfl) ?_
        refine d_off 8 rfl rfl rfl rfl (by kernel_rfl) (by kernel_rfl) (by kernel_rfl) ?_
        refine d_off 9 rfl rfl rfl rfl (by kernel_rfl) (by kernel_rfl) (by kernel_rfl) ?_
        refine d_off 10 rfl rfl rfl rfl (by kernel_rfl) (by kernel_rfl) (by kernel_rfl) ?_
        refine d_off 11 rfl rfl rfl rfl (by kernel_rfl) (by kernel_rfl) (by kernel_rfl) ?_
        first | refine d_pu 12 rfl (pu_pick_t rfl rfl) (by kernel_rfl) (by kernel_rfl) (by kernel_rfl) ?_ | refine d_pu 12 rfl (pu_pick_f rfl rfl) (by kernel_rfl) (by kernel_rfl) (by kernel_rfl) ?_
        refine d_sub _ (.cons (t := 2) rfl (.cons (t := 3) rfl (.cons (t := 9) rfl (.cons (t := 55) rfl .nil)))) ?_
        first | refine d_nilt (by kernel_rfl) ?_ | refine d_nilf (by kernel_rfl) ?_
        refine then_n ?_
        refine swp_cond (b := _) rfl (fun h55 => by cases h55) (fun h55 => ?_)
        refine swp_skip ?_
        refine then_n ⟨⟨rfl, rfl, rfl, trivial⟩, ?_, ?_⟩
        · refine Ent.trans (Split.ent' (K := [recsA x.rs, fsH p d x, mpe x.sb skv x.es x.cs, mpe x.fb skv x.ef x.cf, own 84 3 x.pv x.ps.length (x.ps.flatMap encP)]) (by repeat (first | exact Split.nil | (apply Split.cons; (repeat (first | with_reducible exact Take.here | apply Take.there)))))) ?_
          exact recs_open' hr
        · rw [hbt]
          first
            | (have h55' := of_decide_eq_false h55; rintro ⟨_, h2⟩; omega)
            | (have h45' := of_decide_eq_false h45; rintro ⟨h1, _⟩; omega)
    rintro env L ⟨hsub, hE, h3⟩
    refine swp_sub _ hsub ?_
    refine swp_ent hE ?_
    clear hsub hE env L
    have key : damageD d s m t.data.toList = (d.setF k ⟨r.f.bytes.take m ++ t.data.toList ++ r.f.bytes.drop (m + t.data.toList.length), (r.f.bytes.take m ++ t.data.toList ++ r.f.bytes.drop (m + t.data.toList.length)).length⟩, 0) := by
      unfold damageD
      rw [hk3, if_neg (by rw [← hf]; omega), if_neg (by rw [← hf]; exact h3), ← hf, Int.toNat_natCast]
    refine swp_seq ?_
    refine swp_region ?_
    refine s_pu (pu_move rfl) ?_
    first | refine s_pu (pu_nilCheck rfl) ?_ | refine s_pu (pu_nilCheck_fn rfl) ?_ | refine s_pu (pu_nilCheck_if rfl) ?_
    first | refine s_pu (pu_fieldAddr0 rfl) ?_ | refine s_pu (pu_fieldAddr rfl) ?_
    refine s_rd (rd_load rfl rfl) ?_
    refine s_pu (pu_move rfl) ?_
    refine s_pu (pu_slice_hi m (congrArg some hv) rfl rfl (by omega)) ?_
    refine s_ef (ef_fn (bclone_own A m r.f.bytes.length c c r.f.bytes rfl h2' (by omega) (fun h => by have := hA h; omega)) rfl rfl (by rw [← hv]; exact (by repeat (first | exact Split.nil | (apply Split.cons; (repeat (first | with_reducible exact Take.here | apply Take.there))))))) ?_
    rintro v62 L1 ⟨⟨A2, c2, rfl⟩, rfl⟩
    refine swl_app ?_
    refine s_pu (pu_move rfl) ?_
    refine s_ef (ef_append_str rfl rfl (by repeat (first | exact Split.nil | (apply Split.cons; (repeat (first | with_reducible exact Take.here | apply Take.there))))) (by omega)) ?_
    rintro A3 c3
    rw [← hv]
    refine s_pu (pu_assign rfl) ?_
    refine swl_sub _ (.cons (t := 2) rfl (.cons (t := 3) rfl (.cons (t := 9) rfl (.cons (t := 12) rfl .nil)))) ?_
    refine swl_nil ?_
    refine then_n ?_
    refine swp_cut (fun env L => ∃ A4 c4 l4, l4 = (r.f.bytes.take m ++ t.data.toList ++ r.f.bytes.drop (m + t.data.toList.length)).length ∧ Sub env [(9, pv r.a), (12, .slice A4 l4 c4)] ∧ Ent L [own 5 1 (.slice A4 l4 c4) l4 (bcs (r.f.bytes.take m ++ t.data.toList ++ r.f.bytes.drop (m + t.data.toList.length))), blk r.a 82 [.int .i64 (k : Nat), r.v, .int .i64 (r.f.safe : Nat)], holeA x.rs k, fsH p d x, mpe x.sb skv x.es x.cs, mpe x.fb skv x.ef x.cf, own 84 3 x.pv x.ps.length (x.ps.flatMap encP)]) ?_ ?_
    · skip
      refine swp_seq ?_
      refine swp_region ?_
      refine s_pu (pu_move rfl) ?_
      refine s_pu (pu_move rfl) ?_
      refine s_pu (pu_strlen rfl) ?_
      refine s_pu (pu_add_as ((m + t.size : Nat) : Int) rfl rfl (by omega) (by omega) (by omega)) ?_
      refine s_pu (pu_move rfl) ?_
      first | refine s_pu (pu_nilCheck rfl) ?_ | refine s_pu (pu_nilCheck_fn rfl) ?_ | refine s_pu (pu_nilCheck_if rfl) ?_
      first | refine s_pu (pu_fieldAddr0 rfl) ?_ | refine s_pu (pu_fieldAddr rfl) ?_
      refine s_rd (rd_load rfl rfl) ?_
      refine s_pu (pu_len_own ⟨A, c, hv⟩ rfl) ?_
      refine s_pu (pu_lss rfl rfl) ?_
      refine swl_sub _ (.cons (t := 2) rfl (.cons (t := 3) rfl (.cons (t := 9) rfl (.cons (t := 12) rfl (.cons (t := 74) rfl .nil))))) ?_
      refine swl_nil ?_
      refine then_n ?_
      refine swp_cond (b := _) rfl (fun h74 => ?_) (fun h74 => ?_)
      · skip   -- 74 T
        have h74' : m + t.size < r.f.bytes.length := by have := of_decide_eq_true h74; omega
        refine swp_ent (Split.ent' (K := [own 5 1 r.v r.f.bytes.length (bcs r.f.bytes), own 5 1 (.slice A3 (m + t.size) c3) (m + t.size) (bcs (r.f.bytes.take m) ++ bcs t.data.toList), blk r.a 82 [.int .i64 (k : Nat), r.v, .int .i64 (r.f.safe : Nat)], holeA x.rs k, fsH p d x, mpe x.sb skv x.es x.cs, mpe x.fb skv x.ef x.cf, own 84 3 x.pv x.ps.length (x.ps.flatMap encP)]) (by repeat (first | exact Split.nil | (apply Split.cons; (repeat (first | with_reducible exact Take.here | apply Take.there)))))) ?_
        refine swp_own (fun a1 a2 a3 => absurd a2 (by omega)) (fun gb cap ex a1 a2 a3 a4 a5 => ?_)
        obtain ⟨rfl, _, rfl⟩ := Value.slice.inj (hv.symm.trans a1)
        have hso : (if c = m + t.size then 0 else 0 + (m + t.size) * 1) = m + t.size := by rw [if_neg (by omega)]; omega
        have hnl : (bcs (r.f.bytes.drop (m + t.size))).length = (r.f.bytes.length - (m + t.size)) * 1 := by rw [bcs_len, List.length_drop]; omega
        have hnews : ∀ (j : Nat) (u : Value), (bcs (r.f.bytes.drop (m + t.size)))[j]? = some u → (bcs r.f.bytes ++ ex)[(if c = m + t.size then 0 else 0 + (m + t.size) * 1) + j]? = some u := fun j u hj => by
          rw [hso]
          rw [bcs_map, List.map_drop, List.getElem?_drop] at hj
          rw [bcs_map, List.getElem?_append_left (List.getElem?_eq_some_iff.1 hj).1]; exact hj
        refine swp_region ?_
        refine s_pu (pu_move rfl) ?_
        refine s_pu (pu_move rfl) ?_
        first | refine s_pu (pu_nilCheck rfl) ?_ | refine s_pu (pu_nilCheck_fn rfl) ?_ | refine s_pu (pu_nilCheck_if rfl) ?_
        first | refine s_pu (pu_fieldAddr0 rfl) ?_ | refine s_pu (pu_fieldAddr rfl) ?_
        refine s_rd (rd_load rfl rfl) ?_
        refine s_pu (pu_move rfl) ?_
        refine s_pu (pu_move rfl) ?_
        refine s_pu (pu_strlen rfl) ?_
        refine s_pu (pu_add_as ((m + t.size : Nat) : Int) rfl rfl (by omega) (by omega) (by omega)) ?_
        refine s_pu (pu_slice_lo (m + t.size) (congrArg some hv) rfl rfl (by omega)) ?_
        refine s_ef (ef_append_of (news := bcs (r.f.bytes.drop (m + t.size))) rfl rfl (by repeat (first | exact Split.nil | (apply Split.cons; (repeat (first | with_reducible exact Take.here | apply Take.there))))) hnl hnews (bcs_one _) (by simp only [maxLen]; omega) (by omega)) ?_
        rintro v85 hv85
        obtain ⟨g5, c5, rfl⟩ := hv85 (by omega)
        refine s_pu (pu_assign rfl) ?_
        refine swl_sub _ (.cons (t := 9) rfl (.cons (t := 12) rfl .nil)) ?_
        refine swl_nil ?_
        refine then_n ⟨some ⟨g5, 0, none⟩, c5, m + t.size + (r.f.bytes.length - (m + t.size)), ?_, ⟨rfl, rfl, trivial⟩, ?_⟩
        · rw [List.length_append, List.length_append, List.length_take, List.length_drop, hbt]; omega
        · rw [bcs_append, bcs_append, hbt]
          exact Split.ent' (by repeat (first | exact Split.nil | (apply Split.cons; (repeat (first | with_reducible exact Take.here | apply Take.there)))))
      · skip   -- 74 F
        refine swp_skip ?_
        have h74' : r.f.bytes.length ≤ m + t.size := by have := of_decide_eq_false h74; omega
        refine then_n ⟨A3, c3, m + t.size, ?_, ⟨rfl, rfl, trivial⟩, ?_⟩
        · rw [List.length_append, List.length_append, List.length_take, List.length_drop, hbt]; omega
        · rw [hbt, List.drop_of_length_le h74', List.append_nil, bcs_append]
          exact Split.ent' (by repeat (first | exact Split.nil | (apply Split.cons; (repeat (first | with_reducible exact Take.here | apply Take.there)))))
    rintro env L ⟨A4, c4, l4, hl4, hsub, hE⟩
    refine swp_sub _ hsub ?_
    refine swp_ent hE ?_
    clear hsub hE env L
    refine swp_seq ?_
    refine swp_region ?_
    refine s_pu (pu_move rfl) ?_
    refine s_pu (pu_move rfl) ?_
    refine s_pu (pu_move rfl) ?_
    refine s_pu (pu_move rfl) ?_
    refine s_pu (pu_len rfl) ?_
    first | refine s_pu (pu_nilCheck rfl) ?_ | refine s_pu (pu_nilCheck_fn rfl) ?_ | refine s_pu (pu_nilCheck_if rfl) ?_
    first | refine s_pu (pu_fieldAddr0 rfl) ?_ | refine s_pu (pu_fieldAddr rfl) ?_
    refine s_ef0 (ef_store rfl rfl rfl) ?_
    first | refine s_pu (pu_nilCheck rfl) ?_ | refine s_pu (pu_nilCheck_fn rfl) ?_ | refine s_pu (pu_nilCheck_if rfl) ?_
    first | refine s_pu (pu_fieldAddr0 rfl) ?_ | refine s_pu (pu_fieldAddr rfl) ?_
    refine s_ef0 (ef_store rfl rfl rfl) ?_
    refine swl_sub _ .nil ?_
    refine swl_nil ?_
    refine then_n ?_
    refine swp_seq ?_
    refine swp_region ?_
    refine s_pu (pu_assign rfl) ?_
    refine swl_sub _ (.cons (t := 8) rfl .nil) ?_
    refine swl_nil ?_
    refine then_n ?_
    refine swp_ret ?_
    rw [key]
    refine done_retE [FSA p (d.setF k ⟨r.f.bytes.take m ++ t.data.toList ++ r.f.bytes.drop (m + t.data.toList.length), (r.f.bytes.take m ++ t.data.toList ++ r.f.bytes.drop (m + t.data.toList.length)).length⟩)] (.tmp rfl .nil) ⟨rfl, rfl⟩ ?_
    refine Ent.trans (Split.ent' (K := [own 5 1 (.slice A4 l4 c4) l4 (bcs (r.f.bytes.take m ++ t.data.toList ++ r.f.bytes.drop (m + t.data.toList.length))), blk r.a 82 [.int .i64 (k : Nat), .slice A4 l4 c4, .int .i64 (l4 : Nat)], holeA x.rs k, fsH p d x, mpe x.sb skv x.es x.cs, mpe x.fb skv x.ef x.cf, own 84 3 x.pv x.ps.length (x.ps.flatMap encP)]) (by repeat (first | exact Split.nil | (apply Split.cons; (repeat (first | with_reducible exact Take.here | apply Take.there)))))) ?_
    generalize r.f.bytes.take m ++ t.data.toList ++ r.f.bytes.drop (m + t.data.toList.length) = B at hl4
    subst hl4
    exact fs_set hx hr (r' := ⟨r.a, .slice A4 B.length c4, ⟨B, B.length⟩⟩) rfl
end SX
namespace SX
open Go Go.Proofs
theorem create_at {p : Nat} {d d' : Dk} {s : ByteArray} {e : Int} (hd : d.Ok) (hw : Few d) (h : createD d s = (d', e)) : Spec Try.prog 13 [pv p, .string s] [FSA p d] (fun r L => r = .int .i64 e ∧ L = [FSA p d']) := by
  have := create_spec p d hd hw s; rw [h] at this; exact this
theorem append_at {p : Nat} {d d' : Dk} {s t : ByteArray} {e : Int} (hd : d.Ok) (ht : t.size ≤ 1048576) (h : appendD d s t.data.toList = (d', e)) : Spec Try.prog 16 [pv p, .string s, .string t] [FSA p d] (fun r L => r = .int .i64 e ∧ L = [FSA p d']) := by
  have := append_spec p d hd s t ht; rw [h] at this; exact this
theorem sync_at {p : Nat} {d d' : Dk} {s : ByteArray} {e : Int} (hd : d.Ok) (h : syncD d s = (d', e)) : Spec Try.prog 15 [pv p, .string s] [FSA p d] (fun r L => r = .int .i64 e ∧ L = [FSA p d']) := by
  have := sync_spec p d hd s; rw [h] at this; exact this
theorem syncn_at {p : Nat} {d d' : Dk} {e : Int} (hd : d.Ok) (h : syncNamesD d = (d', e)) : Spec Try.prog 14 [pv p] [FSA p d] (fun r L => r = .int .i64 e ∧ L = [FSA p d']) := by
  have := syncn_spec p d hd; rw [h] at this; exact this
theorem read_at {p : Nat} {d : Dk} {s : ByteArray} {l : List UInt8} {e : Int} (h : readD d s = (l, e)) : Spec Try.prog 18 [pv p, .string s] [FSA p d] (fun r L => r = .tuple #[.string ⟨l.toArray⟩, .int .i64 e] ∧ L = [FSA p d]) := by
  have := read_spec p d s; rw [h] at this; exact this
theorem used_fs (p : Nat) (d : Dk) (hd : d.Ok) : Spec Try.prog 31 [pv p] [FSA p d] (fun r L => r = .int .i64 (d.used : Nat) ∧ L = [FSA p d]) := by
  refine FSA.open' fun x hx => ?_
  intro E w hh
  refine ((used_spec p d hd x hx).frame (R := [mpe x.fb skv x.ef x.cf, own 84 3 x.pv x.ps.length (x.ps.flatMap encP)]) (hh.ent (Split.ent' (K := [fsH p d x, mpe x.sb skv x.es x.cs, recsA x.rs, mpe x.fb skv x.ef x.cf, own 84 3 x.pv x.ps.length (x.ps.flatMap encP)]) (by repeat (first | exact Split.nil | (apply Split.cons; (repeat (first | with_reducible exact Take.here | apply Take.there)))))))).mono fun e w' ⟨v, L', he, ⟨hv, hl⟩, h2⟩ => ?_
  subst hl
  refine ⟨v, _, he, ⟨hv, rfl⟩, h2.ent ?_⟩
  simp only [List.cons_append, List.nil_append]
  exact (Split.ent' (K := [fsH p d x, mpe x.sb skv x.es x.cs, mpe x.fb skv x.ef x.cf, own 84 3 x.pv x.ps.length (x.ps.flatMap encP), recsA x.rs]) (by repeat (first | exact Split.nil | (apply Split.cons; (repeat (first | with_reducible exact Take.here | apply Take.there)))))).trans (fs_close hx)
theorem crash_at {μ : PH} {p : Nat} {d d' : Dk} {n : Int} {kv : Value} (keep : List Int) (hd : d.Ok) (hw : Few d) (hk : Row μ kv 1 keep.length (keep.flatMap (icsk .i64))) (h : crashD d n keep = d') :
    Spec Try.prog 17 [pv p, .agg #[.int .i64 n, kv]] [FSA p d, ro μ] (fun _ L => ∃ μ', Le μ μ' ∧ L = [FSA p d', ro μ']) := by
  have := crash_spec μ p d hd n kv keep hk hw; rw [h] at this; exact this
theorem new_at (q : Int) (h : newOk q) : Spec Try.prog 12 [.int .i64 q] [] (fun r L => ∃ p, r = .tuple #[pv p, .int .i64 0] ∧ L = [FSA p (newD q)]) :=
  (new_spec q).mono fun _ _ k => by
    rcases k with ⟨k, _⟩ | ⟨_, k⟩
    · exact absurd h k
    · exact k
theorem row_blk {μ : PH} {b t n l : Nat} {cs : List Value} {fr : Nat × Nat} (hg : μ b = some (.cells cs.toArray t fr)) (hl : cs.length = l * n) (hm : l ≤ maxLen) : Row μ (.slice (some ⟨b, 0, none⟩) l l) n l cs :=
  ⟨hl, some ⟨b, 0, none⟩, l, rfl, Nat.le_refl _, hm, (fun h => by cases h), fun _ => ⟨b, 0, rfl, fun j u hj => ⟨_, _, _, hg, by rw [Nat.zero_add]; simpa using hj⟩⟩⟩
/-! ## the document's first example -/
abbrev sa : ByteArray := ⟨#[97]⟩
abbrev hel : List UInt8 := [104, 101, 108, 108, 111]
def E1 : Dk := ⟨100, [⟨[], 0⟩], [(sa, 0)], [], [⟨nos, sa, 0⟩], 0, false⟩
def E2 : Dk := ⟨100, [⟨hel, 0⟩], [(sa, 0)], [], [⟨nos, sa, 0⟩], 0, false⟩
def E3 : Dk := ⟨100, [⟨hel, 5⟩], [(sa, 0)], [], [⟨nos, sa, 0⟩], 0, false⟩
def E4 : Dk := ⟨100, [⟨hel, 5⟩], [(sa, 0)], [(sa, 0)], [], 0, false⟩
def E5 : Dk := ⟨100, [⟨hel ++ [32, 121, 111, 117], 5⟩], [(sa, 0)], [(sa, 0)], [], 0, false⟩
def E6 : Dk := ⟨100, [⟨hel ++ [32, 121], 7⟩], [(sa, 0)], [(sa, 0)], [], 0, false⟩
theorem st1 : createD (newD 100) sa = (E1, 0) := by kernel_rfl
theorem st2 : appendD E1 sa hel = (E2, 0) := by kernel_rfl
theorem st3 : syncD E2 sa = (E3, 0) := by kernel_rfl
theorem st4 : syncNamesD E3 = (E4, 0) := by kernel_rfl
theorem st5 : appendD E4 sa [32, 121, 111, 117] = (E5, 0) := by kernel_rfl
theorem st6 : crashD E5 0 [2] = E6 := by kernel_rfl
theorem st7 : readD E6 sa = (hel ++ [32, 121], 0) := by kernel_rfl
theorem st8 : E6.used = 7 := by kernel_rfl
theorem st9 : strEq ⟨(hel ++ [32, 121]).toArray⟩ ⟨#[104, 101, 108, 108, 111, 32, 121]⟩ = true := by kernel_rfl
theorem ok_of {d' : Dk} {e : Int} {x : Dk × Int} (h : x.1.Ok) (k : x = (d', e)) : d'.Ok := by rw [k] at h; exact h
theorem oE0 : (newD 100).Ok := newD_ok (by decide)
theorem oE1 : E1.Ok := ok_of (createD_ok oE0 sa) st1
theorem oE2 : E2.Ok := ok_of (appendD_ok oE1 sa hel) st2
theorem oE3 : E3.Ok := ok_of (syncD_ok oE2 sa) st3
theorem oE4 : E4.Ok := ok_of (syncNamesD_ok oE3) st4
theorem oE5 : E5.Ok := ok_of (appendD_ok oE4 sa _) st5
theorem oE6 : E6.Ok := st6 ▸ crashD_ok oE5 0 [2]
set_option maxHeartbeats 4000000 in
theorem stands_spec : Spec Try.prog 11 [] [] (fun r L => r = .bool true ∧ L = []) := by
  refine Spec.of 57 Try.func11 rfl rfl rfl ?_
  refine swp_seq ?_
  refine swp_region ?_
  refine s_pu (pu_assign rfl) ?_
  refine swl_sub _ .nil ?_
  refine swl_nil ?_
  refine then_n ?_
  refine swp_seq ?_
  refine swp_region ?_
  refine s_ef (ef_fn (new_at 100 (by unfold newOk; decide)) rfl rfl (by repeat (first | exact Split.nil | (apply Split.cons; (repeat (first | with_reducible exact Take.here | apply Take.there)))))) ?_
  rintro v5 L1 ⟨p, rfl, rfl⟩
  refine swl_app ?_
  refine s_pu (pu_move rfl) ?_
  first | refine s_pu (pu_extractL rfl) ?_ | refine s_pu (pu_extract rfl rfl) ?_
  first | refine s_pu (pu_extractL rfl) ?_ | refine s_pu (pu_extract rfl rfl) ?_
  refine s_pu (pu_assign rfl) ?_
  refine s_pu (pu_assign rfl) ?_
  refine swl_sub _ (.cons (t := 1) rfl (.cons (t := 2) rfl .nil)) ?_
  refine swl_nil ?_
  refine then_n ?_
  refine swp_seq ?_
  refine swp_seq ?_
  refine swp_region ?_
  refine s_pu (pu_move rfl) ?_
  refine s_pu (pu_ptr_eq_nil rfl rfl) ?_
  refine s_pu (pu_move rfl) ?_
  refine s_split 10 rfl (fun h10 => by cases h10) (fun h10 => ?_)
  refine s_on rfl rfl ?_
  refine s_pu (pu_move rfl) ?_
  refine s_on rfl rfl ?_
  refine s_pu (pu_neq rfl rfl) ?_
  first | refine s_pu (pu_pick_t rfl rfl) ?_ | refine s_pu (pu_pick_f rfl rfl) ?_
  refine swl_sub _ (.cons (t := 1) rfl (.cons (t := 13) rfl .nil)) ?_
  refine swl_nil ?_
  refine then_n ?_
  refine swp_cond (b := _) rfl (fun h13 => by cases h13) (fun h13 => ?_)
  refine swp_skip ?_
  refine then_n ?_
  refine swp_seq ?_
  refine swp_seq ?_
  refine swp_region ?_
  refine s_pu (pu_move rfl) ?_
  refine s_ef (ef_fn (create_at (d' := E1) (e := 0) oE0 ⟨by decide, by decide⟩ st1) rfl rfl (by repeat (first | exact Split.nil | (apply Split.cons; (repeat (first | with_reducible exact Take.here | apply Take.there)))))) ?_
  rintro v15 L1 ⟨rfl, rfl⟩
  refine swl_app ?_
  refine s_pu (pu_neq rfl rfl) ?_
  refine s_pu (pu_move rfl) ?_
  refine s_split 17 rfl (fun h17 => by cases h17) (fun h17 => ?_)
  refine s_on rfl rfl ?_
  refine s_pu (pu_move rfl) ?_
  refine s_on rfl rfl ?_
  refine s_ef (ef_fn (append_at (d' := E2) (e := 0) (t := ⟨#[104, 101, 108, 108, 111]⟩) oE1 (by decide) st2) rfl rfl (by repeat (first | exact Split.nil | (apply Split.cons; (repeat (first | with_reducible exact Take.here | apply Take.there)))))) ?_
  rintro v19 L1 ⟨rfl, rfl⟩
  refine swl_app ?_
  refine s_on rfl rfl ?_
  refine s_pu (pu_neq rfl rfl) ?_
  first | refine s_pu (pu_pick_t rfl rfl) ?_ | refine s_pu (pu_pick_f rfl rfl) ?_
  refine s_pu (pu_move rfl) ?_
  refine s_split 22 rfl (fun h22 => by cases h22) (fun h22 => ?_)
  refine s_on rfl rfl ?_
  refine s_pu (pu_move rfl) ?_
  refine s_on rfl rfl ?_
  refine s_ef (ef_fn (sync_at (d' := E3) (e := 0) oE2 st3) rfl rfl (by repeat (first | exact Split.nil | (apply Split.cons; (repeat (first | with_reducible exact Take.here | apply Take.there)))))) ?_
  rintro v24 L1 ⟨rfl, rfl⟩
  refine swl_app ?_
  refine s_on rfl rfl ?_
  refine s_pu (pu_neq rfl rfl) ?_
  first | refine s_pu (pu_pick_t rfl rfl) ?_ | refine s_pu (pu_pick_f rfl rfl) ?_
  refine s_pu (pu_move rfl) ?_
  refine s_split 27 rfl (fun h27 => by cases h27) (fun h27 => ?_)
  refine s_on rfl rfl ?_
  refine s_pu (pu_move rfl) ?_
  refine s_on rfl rfl ?_
  refine s_ef (ef_fn (syncn_at (d' := E4) (e := 0) oE3 st4) rfl rfl (by repeat (first | exact Split.nil | (apply Split.cons; (repeat (first | with_reducible exact Take.here | apply Take.there)))))) ?_
  rintro v29 L1 ⟨rfl, rfl⟩
  refine swl_app ?_
  refine s_on rfl rfl ?_
  refine s_pu (pu_neq rfl rfl) ?_
  first | refine s_pu (pu_pick_t rfl rfl) ?_ | refine s_pu (pu_pick_f rfl rfl) ?_
  refine s_pu (pu_move rfl) ?_
  refine s_split 32 rfl (fun h32 => by cases h32) (fun h32 => ?_)
  refine s_on rfl rfl ?_
  refine s_pu (pu_move rfl) ?_
  refine s_on rfl rfl ?_
  refine s_ef (ef_fn (append_at (d' := E5) (e := 0) (t := ⟨#[32, 121, 111, 117]⟩) oE4 (by decide) st5) rfl rfl (by repeat (first | exact Split.nil | (apply Split.cons; (repeat (first | with_reducible exact Take.here | apply Take.there)))))) ?_
  rintro v34 L1 ⟨rfl, rfl⟩
  refine swl_app ?_
  refine s_on rfl rfl ?_
  refine s_pu (pu_neq rfl rfl) ?_
  first | refine s_pu (pu_pick_t rfl rfl) ?_ | refine s_pu (pu_pick_f rfl rfl) ?_
  refine swl_sub _ (.cons (t := 1) rfl (.cons (t := 36) rfl .nil)) ?_
  refine swl_nil ?_
  refine then_n ?_
  refine swp_cond (b := _) rfl (fun h36 => by cases h36) (fun h36 => ?_)
  refine swp_skip ?_
  refine then_n ?_
  refine swp_seq ?_
  refine swp_region ?_
  refine s_pu (pu_move rfl) ?_
  refine s_ef (ef_bldS (qs := [(0, _)]) rfl rfl rfl) ?_
  intro b38
  refine s_pu (pu_bld (qs := [(1, _)]) rfl) ?_
  refine swl_ent ent_ro0 ?_
  refine swl_share (b := b38) (by repeat (first | exact Split.nil | (apply Split.cons; (repeat (first | with_reducible exact Take.here | apply Take.there))))) fun μ1 _ g1 => ?_
  refine s_ef (ef_fn (crash_at [2] oE5 ⟨by decide, by decide⟩ (row_blk g1 rfl (by decide)) st6) rfl rfl (by repeat (first | exact Split.nil | (apply Split.cons; (repeat (first | with_reducible exact Take.here | apply Take.there)))))) ?_
  rintro v40 L1 ⟨μ2, _, rfl⟩
  refine swl_app ?_
  refine swl_sub _ (.cons (t := 1) rfl .nil) ?_
  refine swl_nil ?_
  refine then_n ?_
  refine swp_seq ?_
  refine swp_region ?_
  refine s_pu (pu_move rfl) ?_
  refine s_ef (ef_fn (read_at st7) rfl rfl (by repeat (first | exact Split.nil | (apply Split.cons; (repeat (first | with_reducible exact Take.here | apply Take.there)))))) ?_
  rintro v43 L1 ⟨rfl, rfl⟩
  refine swl_app ?_
  refine s_pu (pu_move rfl) ?_
  first | refine s_pu (pu_extractL rfl) ?_ | refine s_pu (pu_extract rfl rfl) ?_
  first | refine s_pu (pu_extractL rfl) ?_ | refine s_pu (pu_extract rfl rfl) ?_
  refine s_pu (pu_assign rfl) ?_
  refine s_pu (pu_assign rfl) ?_
  refine swl_sub _ (.cons (t := 1) rfl (.cons (t := 2) rfl (.cons (t := 3) rfl .nil))) ?_
  refine swl_nil ?_
  refine then_n ?_
  refine swp_seq ?_
  refine swp_region ?_
  refine s_pu (pu_move rfl) ?_
  refine s_pu (pu_str_eql rfl rfl) ?_
  refine s_pu (pu_move rfl) ?_
  refine s_split 48 rfl (fun h48 => ?_) (fun h48 => by cases st9.symm.trans h48)
  refine s_on rfl rfl ?_
  refine s_pu (pu_move rfl) ?_
  refine s_on rfl rfl ?_
  refine s_pu (pu_eql rfl rfl) ?_
  first | refine s_pu (pu_pick_t rfl rfl) ?_ | refine s_pu (pu_pick_f rfl rfl) ?_
  refine s_pu (pu_move rfl) ?_
  refine s_split 52 rfl (fun h52 => ?_) (fun h52 => by cases h52)
  refine s_on rfl rfl ?_
  refine s_pu (pu_move rfl) ?_
  refine s_on rfl rfl ?_
  refine s_ef (ef_fn (used_fs p E6 oE6) rfl rfl (by repeat (first | exact Split.nil | (apply Split.cons; (repeat (first | with_reducible exact Take.here | apply Take.there)))))) ?_
  rintro v54 L1 ⟨rfl, rfl⟩
  refine swl_app ?_
  refine s_on rfl rfl ?_
  refine s_pu (pu_eql rfl rfl) ?_
  first | refine s_pu (pu_pick_t rfl rfl) ?_ | refine s_pu (pu_pick_f rfl rfl) ?_
  refine s_pu (pu_assign rfl) ?_
  refine swl_sub _ (.cons (t := 0) rfl .nil) ?_
  refine swl_nil ?_
  refine then_n ?_
  refine swp_ret ?_
  exact done_ret [] (.tmp rfl .nil) ⟨by rw [st8]; rfl, rfl⟩ (by repeat (first | exact Split.nil | (apply Split.cons; (repeat (first | with_reducible exact Take.here | apply Take.there)))))
end SX
namespace SX
open Go Go.Proofs
/-! ## the document's disk -/
abbrev rF1 (f : Fl) : List Value := [.string ⟨f.bytes.toArray⟩, .int .i64 (f.safe : Nat)]
abbrev rN1 (x : Nm) : List Value := [.string x.1, .int .i64 (x.2 : Nat)]
abbrev rC1 (c : Cg) : List Value := [.string c.gone, .string c.come, .int .i64 (c.file : Nat)]
structure RX where
  fv : Value
  sv : Value
  av : Value
  wv : Value
abbrev rdC (q : Int) (fv sv av wv : Value) (fa : Int) (off : Bool) : List Value := [.int .i64 q, fv, sv, av, wv, .int .i64 fa, .bool off]
abbrev rdH (p : Nat) (d : Dk) (x : RX) : Assn := blk p 64 (rdC d.quota x.fv x.sv x.av x.wv d.falls d.off)
def RDA (p : Nat) (d : Dk) : Assn := exA fun x : RX => [rdH p d x, own 99 2 x.fv d.files.length (d.files.flatMap rF1), own 97 2 x.sv d.seen.length (d.seen.flatMap rN1), own 97 2 x.av d.safe.length (d.safe.flatMap rN1), own 95 3 x.wv d.pend.length (d.pend.flatMap rC1)]
theorem rd_close {p : Nat} {d : Dk} {x : RX} {L : List Assn} : Ent (rdH p d x :: own 99 2 x.fv d.files.length (d.files.flatMap rF1) :: own 97 2 x.sv d.seen.length (d.seen.flatMap rN1) :: own 97 2 x.av d.safe.length (d.safe.flatMap rN1) :: own 95 3 x.wv d.pend.length (d.pend.flatMap rC1) :: L) (RDA p d :: L) :=
  ent_ex (F := fun x : RX => [rdH p d x, own 99 2 x.fv d.files.length (d.files.flatMap rF1), own 97 2 x.sv d.seen.length (d.seen.flatMap rN1), own 97 2 x.av d.safe.length (d.safe.flatMap rN1), own 95 3 x.wv d.pend.length (d.pend.flatMap rC1)]) x (by repeat (first | exact Split.nil | (apply Split.cons; (repeat (first | with_reducible exact Take.here | apply Take.there)))))
theorem RDA.open' {p : Nat} {d : Dk} {f : FuncId} {args : List Value} {L : List Assn} {post : Value → List Assn → Prop}
    (h : ∀ x : RX, Spec Try.prog f args (rdH p d x :: own 99 2 x.fv d.files.length (d.files.flatMap rF1) :: own 97 2 x.sv d.seen.length (d.seen.flatMap rN1) :: own 97 2 x.av d.safe.length (d.safe.flatMap rN1) :: own 95 3 x.wv d.pend.length (d.pend.flatMap rC1) :: L) post) : Spec Try.prog f args (RDA p d :: L) post := Spec.exA' fun x => h x
theorem rgood_spec (s : ByteArray) : Spec Try.prog 68 [.string s] [] (fun r L => r = .bool (goodN s) ∧ L = []) := by
  have hb := bsize s
  refine Spec.of 28 Try.func68 rfl rfl rfl ?_
  refine swp_seq ?_
  refine swp_region ?_
  refine s_pu (pu_assign rfl) ?_
  refine swl_sub _ (.cons (t := 0) rfl .nil) ?_
  refine swl_nil ?_
  refine then_n ?_
  refine swp_seq ?_
  refine swp_seq ?_
  refine swp_region ?_
  refine s_pu (pu_move rfl) ?_
  refine s_pu (pu_strlen rfl) ?_
  refine s_pu (pu_lss rfl rfl) ?_
  refine s_pu (pu_move rfl) ?_
  refine s_split 7 rfl (fun h7 => ?_) (fun h7 => ?_)
  · skip   -- 7 T
    refine s_off rfl rfl rfl ?_
    refine s_off rfl rfl rfl ?_
    refine s_off rfl rfl rfl ?_
    first | refine s_pu (pu_pick_t rfl rfl) ?_ | refine s_pu (pu_pick_f rfl rfl) ?_
    refine swl_sub _ (.cons (t := 0) rfl (.cons (t := 11) rfl .nil)) ?_
    refine swl_nil ?_
    refine then_n ?_
    refine swp_cond (b := _) rfl (fun h11 => ?_) (fun h11 => by cases h11)
    refine swp_seq ?_
    refine swp_region ?_
    refine s_pu (pu_assign rfl) ?_
    refine swl_sub _ (.cons (t := 2) rfl .nil) ?_
    refine swl_nil ?_
    refine then_n ?_
    refine swp_ret ?_
    refine then_r ?_
    refine done_ret [] (.tmp rfl .nil) ⟨?_, rfl⟩ (by repeat (first | exact Split.nil | (apply Split.cons; (repeat (first | with_reducible exact Take.here | apply Take.there)))))
    have h7' := of_decide_eq_true h7
    unfold goodN
    rw [decide_eq_false (show ¬ 1 ≤ s.size by omega)]; rfl
  · skip   -- 7 F
    refine s_on rfl rfl ?_
    refine s_pu (pu_move rfl) ?_
    refine s_on rfl rfl ?_
    refine s_pu (pu_strlen rfl) ?_
    refine s_on rfl rfl ?_
    refine s_pu (pu_gtr rfl rfl) ?_
    first | refine s_pu (pu_pick_t rfl rfl) ?_ | refine s_pu (pu_pick_f rfl rfl) ?_
    refine swl_sub _ (.cons (t := 0) rfl (.cons (t := 11) rfl .nil)) ?_
    refine swl_nil ?_
    refine then_n ?_
    refine swp_cond (b := _) rfl (fun h11 => ?_) (fun h11 => ?_)
    · skip   -- 11 T
      refine swp_seq ?_
      refine swp_region ?_
      refine s_pu (pu_assign rfl) ?_
      refine swl_sub _ (.cons (t := 2) rfl .nil) ?_
      refine swl_nil ?_
      refine then_n ?_
      refine swp_ret ?_
      refine then_r ?_
      refine done_ret [] (.tmp rfl .nil) ⟨?_, rfl⟩ (by repeat (first | exact Split.nil | (apply Split.cons; (repeat (first | with_reducible exact Take.here | apply Take.there)))))
      have h11' := of_decide_eq_true h11
      unfold goodN
      rw [decide_eq_false (show ¬ s.size ≤ 32 by omega), Bool.false_and, Bool.and_false]; rfl
    · skip   -- 11 F
      have h7' : 1 ≤ s.size := by have := of_decide_eq_false h7; omega
      have h11' : s.size ≤ 32 := by have := of_decide_eq_false h11; omega
      have key : goodN s = s.data.toList.all fun b => decide (33 ≤ b.toNat) && decide (b.toNat ≤ 126) := by
        unfold goodN; rw [decide_eq_true h7', decide_eq_true h11']; rfl
      refine swp_skip ?_
      refine then_n ?_
      refine swp_seq ?_
      refine swp_seq ?_
      refine swp_region ?_
      refine s_pu (pu_assign rfl) ?_
      refine swl_sub _ (.cons (t := 0) rfl (.cons (t := 3) rfl .nil)) ?_
      refine swl_nil ?_
      refine then_n ?_
      refine swp_block ?_
      refine swp_loop (ι := Nat) (fun i env L => Sub env [(0, .string s), (3, .int .i64 (i : Nat))] ∧ Ent L [] ∧ i ≤ s.size ∧ (s.data.toList.take i).all (fun b => decide (33 ≤ b.toNat) && decide (b.toNat ≤ 126)) = true) (fun i => s.size - i) 0 ⟨⟨rfl, rfl, trivial⟩, Split.ent' (by repeat (first | exact Split.nil | (apply Split.cons; (repeat (first | with_reducible exact Take.here | apply Take.there))))), Nat.zero_le _, rfl⟩ ?_
      rintro i env L ⟨hsub, hE, hi, hall⟩
      refine swp_sub _ hsub ?_
      refine swp_ent hE ?_
      clear hsub hE env L
      refine swp_seq ?_
      refine swp_seq ?_
      refine swp_region ?_
      refine s_pu (pu_move rfl) ?_
      refine s_pu (pu_move rfl) ?_
      refine s_pu (pu_strlen rfl) ?_
      refine s_pu (pu_lss rfl rfl) ?_
      refine swl_sub _ (.cons (t := 0) rfl (.cons (t := 3) rfl (.cons (t := 15) rfl .nil))) ?_
      refine swl_nil ?_
      refine then_n ?_
      refine swp_cond (b := _) rfl (fun h15 => ?_) (fun h15 => ?_)
      · skip   -- 15 T
        have h15' : i < s.size := by have := of_decide_eq_true h15; omega
        obtain ⟨b, hbb⟩ : ∃ b, s.data.toList[i]? = some b := ⟨_, List.getElem?_eq_getElem (by omega)⟩
        have hstep : (s.data.toList.take (i + 1)).all (fun b => decide (33 ≤ b.toNat) && decide (b.toNat ≤ 126)) = (decide (33 ≤ b.toNat) && decide (b.toNat ≤ 126)) := by
          rw [List.take_add_one, hbb, List.all_append, hall]; simp
        refine swp_skip ?_
        refine then_n ?_
        refine swp_seq ?_
        refine swp_block ?_
        refine swp_seq ?_
        refine swp_region ?_
        refine s_pu (pu_move rfl) ?_
        refine s_pu (pu_move rfl) ?_
        refine s_pu (pu_str_index rfl rfl rfl hbb) ?_
        refine s_pu (pu_lss rfl rfl) ?_
        refine s_pu (pu_move rfl) ?_
        refine s_split 22 rfl (fun h22 => ?_) (fun h22 => ?_)
        · skip   -- 22 T
          refine s_off rfl rfl rfl ?_
          refine s_off rfl rfl rfl ?_
          refine s_off rfl rfl rfl ?_
          refine s_off rfl rfl rfl ?_
          first | refine s_pu (pu_pick_t rfl rfl) ?_ | refine s_pu (pu_pick_f rfl rfl) ?_
          refine swl_sub _ (.cons (t := 0) rfl (.cons (t := 3) rfl (.cons (t := 27) rfl .nil))) ?_
          refine swl_nil ?_
          refine then_n ?_
          refine swp_cond (b := _) rfl (fun h27 => ?_) (fun h27 => by cases h27)
          refine swp_seq ?_
          refine swp_region ?_
          refine s_pu (pu_assign rfl) ?_
          refine swl_sub _ (.cons (t := 2) rfl .nil) ?_
          refine swl_nil ?_
          refine then_n ?_
          refine swp_ret ?_
          refine block_r ?_
          refine then_r ?_
          refine then_r ?_
          refine block_r ?_
          refine then_r ?_
          refine done_ret [] (.tmp rfl .nil) ⟨?_, rfl⟩ (by repeat (first | exact Split.nil | (apply Split.cons; (repeat (first | with_reducible exact Take.here | apply Take.there)))))
          rw [key]
          refine congrArg Value.bool ?_
          symm
          refine Bool.eq_false_iff.2 fun hh => ?_
          have := List.all_eq_true.1 hh b (List.mem_of_getElem? hbb)
          rw [Bool.and_eq_true, decide_eq_true_eq, decide_eq_true_eq] at this
          first
            | (have h22' := of_decide_eq_true h22; omega)
            | (have h27' := of_decide_eq_true h27; omega)
        · skip   -- 22 F
          refine s_on rfl rfl ?_
          refine s_pu (pu_move rfl) ?_
          refine s_on rfl rfl ?_
          refine s_pu (pu_move rfl) ?_
          refine s_on rfl rfl ?_
          refine s_pu (pu_str_index rfl rfl rfl hbb) ?_
          refine s_on rfl rfl ?_
          refine s_pu (pu_gtr rfl rfl) ?_
          first | refine s_pu (pu_pick_t rfl rfl) ?_ | refine s_pu (pu_pick_f rfl rfl) ?_
          refine swl_sub _ (.cons (t := 0) rfl (.cons (t := 3) rfl (.cons (t := 27) rfl .nil))) ?_
          refine swl_nil ?_
          refine then_n ?_
          refine swp_cond (b := _) rfl (fun h27 => ?_) (fun h27 => ?_)
          · skip   -- 27 T
            refine swp_seq ?_
            refine swp_region ?_
            refine s_pu (pu_assign rfl) ?_
            refine swl_sub _ (.cons (t := 2) rfl .nil) ?_
            refine swl_nil ?_
            refine then_n ?_
            refine swp_ret ?_
            refine block_r ?_
            refine then_r ?_
            refine then_r ?_
            refine block_r ?_
            refine then_r ?_
            refine done_ret [] (.tmp rfl .nil) ⟨?_, rfl⟩ (by repeat (first | exact Split.nil | (apply Split.cons; (repeat (first | with_reducible exact Take.here | apply Take.there)))))
            rw [key]
            refine congrArg Value.bool ?_
            symm
            refine Bool.eq_false_iff.2 fun hh => ?_
            have := List.all_eq_true.1 hh b (List.mem_of_getElem? hbb)
            rw [Bool.and_eq_true, decide_eq_true_eq, decide_eq_true_eq] at this
            first
              | (have h22' := of_decide_eq_true h22; omega)
              | (have h27' := of_decide_eq_true h27; omega)
          · skip   -- 27 F
            refine swp_skip ?_
            refine block_n ?_
            refine then_n ?_
            refine swp_region ?_
            refine s_pu (pu_move rfl) ?_
            refine s_pu (pu_add_as ((i + 1 : Nat) : Int) rfl rfl (by omega) (by omega) (by omega)) ?_
            refine s_pu (pu_assign rfl) ?_
            refine swl_sub _ (.cons (t := 0) rfl (.cons (t := 3) rfl .nil)) ?_
            refine swl_nil ?_
            have h22' := of_decide_eq_false h22
            have h27' := of_decide_eq_false h27
            refine then_n ⟨i + 1, ⟨⟨rfl, rfl, trivial⟩, Split.ent' (by repeat (first | exact Split.nil | (apply Split.cons; (repeat (first | with_reducible exact Take.here | apply Take.there))))), h15', ?_⟩, by omega⟩
            rw [hstep, decide_eq_true (show 33 ≤ b.toNat by omega), decide_eq_true (show b.toNat ≤ 126 by omega)]; rfl
      · skip   -- 15 F
        have h15' : i = s.size := by have := of_decide_eq_false h15; omega
        rw [h15', ← hb, List.take_length] at hall
        refine swp_exit ?_
        refine then_x ?_
        refine then_x ?_
        refine block_hit rfl ?_
        refine then_n ?_
        refine swp_seq ?_
        refine swp_region ?_
        refine s_pu (pu_assign rfl) ?_
        refine swl_sub _ (.cons (t := 2) rfl .nil) ?_
        refine swl_nil ?_
        refine then_n ?_
        refine swp_ret ?_
        refine done_ret [] (.tmp rfl .nil) ⟨by rw [key, hall]; rfl, rfl⟩ (by repeat (first | exact Split.nil | (apply Split.cons; (repeat (first | with_reducible exact Take.here | apply Take.there)))))
theorem rfind_spec (v : Value) (l : List Nm) (s : ByteArray) (hl : l.length ≤ 1048576) : Spec Try.prog 69 [v, .string s] [own 97 2 v l.length (l.flatMap rN1)]
    (fun r L => (∃ i : Int, r = .int .i64 i ∧ ((i < 0 ∧ findN l s = none) ∨ ∃ (k : Nat) (y : Nm), i = (k : Int) ∧ l[k]? = some y ∧ findN l s = some y.2)) ∧ L = [own 97 2 v l.length (l.flatMap rN1)]) := by
  refine Spec.fact' (fun m h => own_cap2 h) fun ⟨A, c, hv, hlc, hcm, hA, hA2⟩ => ?_
  simp only [maxLen] at hcm
  subst hv
  refine Spec.of 20 Try.func69 rfl rfl rfl ?_
  refine swp_seq ?_
  refine swp_region ?_
  refine s_pu (pu_assign rfl) ?_
  refine swl_sub _ (.cons (t := 0) rfl (.cons (t := 1) rfl .nil)) ?_
  refine swl_nil ?_
  refine then_n ?_
  refine swp_seq ?_
  refine swp_seq ?_
  refine swp_region ?_
  refine s_pu (pu_assign rfl) ?_
  refine swl_sub _ (.cons (t := 0) rfl (.cons (t := 1) rfl (.cons (t := 5) rfl .nil))) ?_
  refine swl_nil ?_
  refine then_n ?_
  refine swp_block ?_
  refine swp_loop (ι := Nat) (fun i env L => Sub env [(0, .slice A l.length c), (1, .string s), (5, .int .i64 (i : Nat))] ∧ Ent L [own 97 2 (.slice A l.length c) l.length (l.flatMap rN1)] ∧ i ≤ l.length ∧ findN (l.take i) s = none) (fun i => l.length - i) 0 ⟨⟨rfl, rfl, rfl, trivial⟩, Split.ent' (by repeat (first | exact Split.nil | (apply Split.cons; (repeat (first | with_reducible exact Take.here | apply Take.there))))), Nat.zero_le _, rfl⟩ ?_
  rintro i env L ⟨hsub, hE, hi, hn⟩
  refine swp_sub _ hsub ?_
  refine swp_ent hE ?_
  clear hsub hE env L
  refine swp_seq ?_
  refine swp_seq ?_
  refine swp_region ?_
  refine s_pu (pu_move rfl) ?_
  refine s_pu (pu_move rfl) ?_
  refine s_pu (pu_len rfl) ?_
  refine s_pu (pu_lss rfl rfl) ?_
  refine swl_sub _ (.cons (t := 0) rfl (.cons (t := 1) rfl (.cons (t := 5) rfl (.cons (t := 9) rfl .nil)))) ?_
  refine swl_nil ?_
  refine then_n ?_
  refine swp_cond (b := _) rfl (fun h9 => ?_) (fun h9 => ?_)
  · skip   -- 9 T
    have h9' : i < l.length := by have := of_decide_eq_true h9; omega
    obtain ⟨a, ha⟩ : ∃ a, A = some a := by cases A with | none => have := hA rfl; omega | some a => exact ⟨a, rfl⟩
    obtain ⟨b, rfl⟩ := hA2 a ha
    subst ha
    obtain ⟨y, hy⟩ : ∃ y, l[i]? = some y := ⟨_, List.getElem?_eq_getElem h9'⟩
    have hcell := flat_at (f := rN1) (n := 2) (fun _ => rfl) hy 0 _ rfl
    have hdrop : l.drop i = y :: l.drop (i + 1) := by rw [List.drop_eq_getElem_cons h9', (List.getElem?_eq_some_iff.1 hy).2]
    refine swp_skip ?_
    refine then_n ?_
    refine swp_seq ?_
    refine swp_block ?_
    refine swp_seq ?_
    refine swp_region ?_
    refine s_pu (pu_move rfl) ?_
    refine s_pu (pu_move rfl) ?_
    refine s_pu (pu_indexAddr (0 + i * 2) rfl rfl (by omega) (by omega) (by rw [Int.toNat_natCast])) ?_
    first | refine s_pu (pu_fieldAddr0 rfl) ?_ | refine s_pu (pu_fieldAddr rfl) ?_
    refine s_rd (rd_own rfl (by repeat (first | with_reducible exact Take.here | apply Take.there)) (by rw [Nat.zero_add]; exact hcell)) ?_
    refine s_pu (pu_move rfl) ?_
    refine s_pu (pu_str_eql rfl rfl) ?_
    refine swl_sub _ (.cons (t := 0) rfl (.cons (t := 1) rfl (.cons (t := 5) rfl (.cons (t := 18) rfl .nil)))) ?_
    refine swl_nil ?_
    refine then_n ?_
    refine swp_cond (b := _) rfl (fun h18 => ?_) (fun h18 => ?_)
    · skip   -- 18 T
      refine swp_seq ?_
      refine swp_region ?_
      refine s_pu (pu_move rfl) ?_
      refine s_pu (pu_assign rfl) ?_
      refine swl_sub _ (.cons (t := 4) rfl .nil) ?_
      refine swl_nil ?_
      refine then_n ?_
      refine swp_ret ?_
      refine block_r ?_
      refine then_r ?_
      refine then_r ?_
      refine block_r ?_
      refine then_r ?_
      refine done_ret [own 97 2 (.slice (some ⟨b, 0, none⟩) l.length c) l.length (l.flatMap rN1)] (.tmp rfl .nil) ⟨⟨i, rfl, .inr ⟨i, y, rfl, hy, ?_⟩⟩, rfl⟩ (by repeat (first | exact Split.nil | (apply Split.cons; (repeat (first | with_reducible exact Take.here | apply Take.there)))))
      rw [← List.take_append_drop i l, find_app, hn, hdrop, findN_cons, if_pos h18]; rfl
    · skip   -- 18 F
      refine swp_skip ?_
      refine block_n ?_
      refine then_n ?_
      refine swp_region ?_
      refine s_pu (pu_move rfl) ?_
      refine s_pu (pu_add_as ((i + 1 : Nat) : Int) rfl rfl (by omega) (by omega) (by omega)) ?_
      refine s_pu (pu_assign rfl) ?_
      refine swl_sub _ (.cons (t := 0) rfl (.cons (t := 1) rfl (.cons (t := 5) rfl .nil))) ?_
      refine swl_nil ?_
      refine then_n ⟨i + 1, ⟨⟨rfl, rfl, rfl, trivial⟩, Split.ent' (by repeat (first | exact Split.nil | (apply Split.cons; (repeat (first | with_reducible exact Take.here | apply Take.there))))), h9', ?_⟩, by omega⟩
      rw [List.take_add_one, hy, find_app, hn]
      show findN [y] s = none
      rw [findN_cons, if_neg (by rw [h18]; decide)]; rfl
  · skip   -- 9 F
    have h9' : i = l.length := by have := of_decide_eq_false h9; omega
    rw [h9', List.take_length] at hn
    refine swp_exit ?_
    refine then_x ?_
    refine then_x ?_
    refine block_hit rfl ?_
    refine then_n ?_
    refine swp_seq ?_
    refine swp_region ?_
    refine s_pu (pu_assign rfl) ?_
    refine swl_sub _ (.cons (t := 4) rfl .nil) ?_
    refine swl_nil ?_
    refine then_n ?_
    refine swp_ret ?_
    exact done_ret [own 97 2 (.slice A l.length c) l.length (l.flatMap rN1)] (.tmp rfl .nil) ⟨⟨-1, rfl, .inl ⟨by omega, hn⟩⟩, rfl⟩ (by repeat (first | exact Split.nil | (apply Split.cons; (repeat (first | with_reducible exact Take.here | apply Take.there)))))
end SX
