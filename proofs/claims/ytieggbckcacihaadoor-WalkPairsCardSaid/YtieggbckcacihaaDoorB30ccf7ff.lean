/- A part of the proof: walks of the program's functions, and the rules by which they go. -/
import Derived.Test.YtieggbckcacihaaDoorBba188a68
import Derived.Test.YtieggbckcacihaaDoorB381bb466
import Derived.Test.YtieggbckcacihaaDoorRows
import Derived.ProofKit
import Derived.LaidMore
import Derived.OpenShut
import Derived.Stop.Joined
namespace SX
open Go Go.Proofs

theorem samelist_i (u v : Value) (xs ys : List Int) (L0 : List Assn) (hu : Ints Tryd.prog 3 L0 u xs) (hv : Ints Tryd.prog 3 L0 v ys) : Spec Tryd.prog 25 [u, v] L0 (fun r L => r = .bool (decide (xs = ys)) ∧ L = L0) := by
  obtain ⟨A, ca, rfl, hla, ha⟩ := hu
  obtain ⟨B, cb, rfl, hlb, hb⟩ := hv
  refine Spec.of 26 Tryd.func25 rfl rfl rfl ?_
  refine swp_seq ?_
  refine swp_region ?_
  refine s_pu (pu_assign rfl) ?_
  refine swl_sub _ (.cons (t := 0) rfl (.cons (t := 1) rfl .nil)) ?_
  refine swl_nil ?_
  refine then_n ?_
  refine swp_seq ?_
  refine swp_seq ?_
  refine swp_region ?_
  refine s_pu (pu_move rfl) ?_
  refine s_pu (pu_len rfl) ?_
  refine s_pu (pu_move rfl) ?_
  refine s_pu (pu_len rfl) ?_
  refine s_pu (pu_neq rfl rfl) ?_
  refine swl_sub _ (.cons (t := 0) rfl (.cons (t := 1) rfl (.cons (t := 10) rfl .nil))) ?_
  refine swl_nil ?_
  refine then_n ?_
  refine swp_cond (b := _) rfl (fun h10 => ?_) (fun h10 => ?_)
  · skip   -- 10 T
    refine swp_seq ?_
    refine swp_region ?_
    refine s_pu (pu_assign rfl) ?_
    refine swl_sub _ (.cons (t := 4) rfl .nil) ?_
    refine swl_nil ?_
    refine then_n ?_
    refine swp_ret ?_
    refine then_r ?_
    simp only [Bool.not_eq_true', decide_eq_false_iff_not] at h10
    exact done_ret _ (.tmp rfl .nil) ⟨by rw [decide_eq_false (fun e => h10 (by rw [e]))]; rfl, rfl⟩ Split.all
  · skip   -- 10 F
    refine swp_skip ?_
    refine then_n ?_
    refine swp_seq ?_
    refine swp_seq ?_
    refine swp_region ?_
    refine s_pu (pu_assign rfl) ?_
    refine swl_sub _ (.cons (t := 0) rfl (.cons (t := 1) rfl (.cons (t := 5) rfl .nil))) ?_
    refine swl_nil ?_
    refine then_n ?_
    refine swp_block ?_
    have hlen : xs.length = ys.length := by
      simp only [Bool.not_eq_false', decide_eq_true_eq] at h10; omega
    refine swp_sub _ (.cons (t := 0) rfl (.cons (t := 1) rfl (.cons (t := 5) rfl .nil))) ?_
    refine swp_loop (ι := Nat) (fun i env L => env = [(0, .slice A xs.length ca), (1, .slice B ys.length cb), (5, .int .i64 (i : Nat))] ∧ L = L0 ∧ i ≤ xs.length ∧ ∀ j, j < i → xs[j]? = ys[j]?) (fun i => xs.length - i) 0 ⟨rfl, rfl, Nat.zero_le _, fun j h => by omega⟩ ?_
    rintro i env L ⟨rfl, rfl, hi, hlo⟩
    refine swp_seq ?_
    refine swp_seq ?_
    refine swp_region ?_
    refine s_pu (pu_move rfl) ?_
    refine s_pu (pu_move rfl) ?_
    refine s_pu (pu_len rfl) ?_
    refine s_pu (pu_lss rfl rfl) ?_
    refine swl_sub _ (.cons (t := 0) rfl (.cons (t := 1) rfl (.cons (t := 5) rfl (.cons (t := 14) rfl .nil)))) ?_
    refine swl_nil ?_
    refine then_n ?_
    refine swp_cond (b := _) rfl (fun h14 => ?_) (fun h14 => ?_)
    · skip   -- 14 T
      have h14' : i < xs.length := by have := of_decide_eq_true h14; omega
      obtain ⟨x, hx⟩ : ∃ x, xs[i]? = some x := ⟨_, List.getElem?_eq_getElem h14'⟩
      obtain ⟨y, hy⟩ : ∃ y, ys[i]? = some y := ⟨_, List.getElem?_eq_getElem (by omega)⟩
      obtain ⟨ab, ao, rfl, hxl⟩ := ha (by omega)
      obtain ⟨bb, bo, rfl, hyl⟩ := hb (by omega)
      refine swp_skip ?_
      refine then_n ?_
      refine swp_seq ?_
      refine swp_block ?_
      refine swp_seq ?_
      refine swp_draw [3, 7] _ [] (by simp only [List.append_nil]; exact Ent.refl _) (by kernel_rfl) ?_
      refine d_pu 0 rfl (pu_move rfl) (by kernel_rfl) (by kernel_rfl) (by kernel_rfl) ?_
      refine d_pu 1 rfl (pu_move rfl) (by kernel_rfl) (by kernel_rfl) (by kernel_rfl) ?_
      refine d_pu 2 rfl (pu_indexAddr (ao + i * 1) rfl rfl (by omega) (by omega) (by rw [Int.toNat_natCast])) (by kernel_rfl) (by kernel_rfl) (by kernel_rfl) ?_
      refine d_rd 3 rfl (rd_of_ld rfl (by rw [Nat.mul_one]; exact hxl i x hx)) rfl (by kernel_rfl) (by kernel_rfl) (by kernel_rfl) ?_
      refine d_pu 4 rfl (pu_move rfl) (by kernel_rfl) (by kernel_rfl) (by kernel_rfl) ?_
      refine d_pu 5 rfl (pu_move rfl) (by kernel_rfl) (by kernel_rfl) (by kernel_rfl) ?_
      refine d_pu 6 rfl (pu_indexAddr (bo + i * 1) rfl rfl (by omega) (by omega) (by rw [Int.toNat_natCast])) (by kernel_rfl) (by kernel_rfl) (by kernel_rfl) ?_
      refine d_rd 7 rfl (rd_of_ld rfl (by rw [Nat.mul_one]; exact hyl i y hy)) rfl (by kernel_rfl) (by kernel_rfl) (by kernel_rfl) ?_
      refine d_pu 8 rfl (pu_neq rfl rfl) (by kernel_rfl) (by kernel_rfl) (by kernel_rfl) ?_
      refine d_sub _ (.cons (t := 0) rfl (.cons (t := 1) rfl (.cons (t := 5) rfl (.cons (t := 25) rfl .nil)))) ?_
      first | refine d_nilt (by kernel_rfl) ?_ | refine d_nilf (by kernel_rfl) ?_
      refine then_n ?_
      refine swp_cond (b := _) rfl (fun h25 => ?_) (fun h25 => ?_)
      · skip   -- 25 T
        refine swp_seq ?_
        refine swp_region ?_
        refine s_pu (pu_assign rfl) ?_
        refine swl_sub _ (.cons (t := 4) rfl .nil) ?_
        refine swl_nil ?_
        refine then_n ?_
        refine swp_ret ?_
        refine block_r ?_
        refine then_r ?_
        refine then_r ?_
        refine block_r ?_
        refine then_r ?_
        simp only [Bool.not_eq_true', decide_eq_false_iff_not] at h25
        exact done_ret _ (.tmp rfl .nil) ⟨by rw [decide_eq_false (fun e => h25 (by subst e; rw [hx] at hy; exact Option.some.inj hy))]; rfl, rfl⟩ Split.all
      · skip   -- 25 F
        refine swp_skip ?_
        refine block_n ?_
        refine then_n ?_
        refine swp_region ?_
        refine s_pu (pu_move rfl) ?_
        refine s_pu (pu_add_as ((i + 1 : Nat) : Int) rfl rfl (by omega) (by omega) (by omega)) ?_
        refine s_pu (pu_assign rfl) ?_
        refine swl_sub _ (.cons (t := 0) rfl (.cons (t := 1) rfl (.cons (t := 5) rfl .nil))) ?_
        refine swl_nil ?_
        simp only [Bool.not_eq_false', decide_eq_true_eq] at h25
        exact then_n ⟨i + 1, ⟨rfl, rfl, h14', fun j hj => by
          by_cases e : j = i
          · subst e; rw [hx, hy, h25]
          · exact hlo j (by omega)⟩, by omega⟩
    · skip   -- 14 F
      have h14' := of_decide_eq_false h14
      obtain rfl : i = xs.length := by omega
      refine swp_exit ?_
      refine then_x ?_
      refine then_x ?_
      refine block_hit rfl ?_
      refine then_n ?_
      refine swp_seq ?_
      refine swp_region ?_
      refine s_pu (pu_assign rfl) ?_
      refine swl_sub _ (.cons (t := 4) rfl .nil) ?_
      refine swl_nil ?_
      refine then_n ?_
      refine swp_ret ?_
      exact done_ret _ (.tmp rfl .nil) ⟨by rw [decide_eq_true (List.ext_getElem? fun j => by
        by_cases hj : j < xs.length
        · exact hlo j hj
        · rw [List.getElem?_eq_none (by omega), List.getElem?_eq_none (by omega)])]; rfl, rfl⟩ Split.all
end SX
namespace SX
open Go Go.Proofs

/-- it may be asked for any commits, each once -/
def Src.fine (X : Src) (s0 : X.σ) : Prop := ∀ (ys : List Nat) (c : Nat), ys.Nodup → c ∉ ys → (∀ y ∈ ys, y < X.g.length) → c < X.g.length → X.ok (ys.foldl X.step s0) c
theorem falls_nodup {l : List Nat} (h : Falls l) : l.Nodup := h.imp fun h e => by omega
theorem Src.fine.down {X : Src} {s0 : X.σ} (h : X.fine s0) (xs : List Int) : ∀ pre x post, downL X.g xs = pre ++ x :: post → X.ok (pre.foldl X.step s0) x := fun pre x post e => by
  obtain ⟨h1, h2, _⟩ := downL_spec X.hg xs
  rw [e] at h1 h2
  have hn := falls_nodup h1
  rw [List.nodup_append] at hn
  exact h pre x hn.1 (fun hx => hn.2.2 x hx x (List.mem_cons_self ..) rfl) (fun y hy => h2 y (List.mem_append_left _ hy)) (h2 x (List.mem_append_right _ (List.mem_cons_self ..)))
/-- a source that knows generations -/
structure GenOf (X : Src) (gen : Int → Int) where
  ask : ∀ s μ c, Le X.μ0 μ → InvS Tryd.prog X.d X.t X.v "Gen" [.int .i64 c] [X.A s μ, ro μ] (fun r L => r = .int .i64 (gen c) ∧ L = [X.A s μ, ro μ])
/-- of what the parents were asked, for one question -/
def askedOk (n : Nat) (gen : Int → Int) (a : Int) (ys : List Nat) : Prop := ys.Nodup ∧ ∀ y ∈ ys, y < n ∧ a < (y : Int) ∧ mayG (gen y) (gen a) = true
def isAnc (g : List (List Int)) (a b : Int) : Bool := decide (askedE g.length [[a, b]] = 0) && up g b.toNat a.toNat
set_option maxHeartbeats 2000000 in
theorem isanc_spec (X : Src) (gen : Int → Int) (Y : GenOf X gen) (s0 : X.σ) (μ : PH) (a b : Int) (h0 : Le X.μ0 μ) (hf : X.fine s0)
    (hmay : ∀ c k : Nat, Reach X.g c k → c ≠ k → mayG (gen c) (gen k) = true) :
    Spec Tryd.prog 15 [X.sv, .int .i64 a, .int .i64 b] [X.A s0 μ, ro μ] (fun r L => ∃ ys μ', askedOk X.n gen a ys ∧ Le μ μ' ∧ r = .tuple #[.bool (isAnc X.g a b), .int .i64 (askedE X.n [[a, b]])] ∧ L = [X.A (ys.foldl X.step s0) μ', ro μ']) := by
  have hn := X.hn
  refine Spec.of 64 Tryd.func15 rfl rfl rfl ?_
  refine swp_seq ?_
  refine swp_region ?_
  refine s_pu (pu_assign rfl) ?_
  refine s_pu (pu_assign rfl) ?_
  refine swl_sub _ (.cons (t := 0) rfl (.cons (t := 1) rfl (.cons (t := 2) rfl .nil))) ?_
  refine swl_nil ?_
  refine then_n ?_
  refine swp_seq ?_
  refine swp_seq ?_
  refine swp_region ?_
  refine s_pu (pu_move rfl) ?_
  refine s_pu (pu_move rfl) ?_
  refine s_pu (pu_move rfl) ?_
  refine s_ef (ef_bldS (qs := [(0, _), (1, _)]) rfl rfl rfl) ?_
  intro b16
  refine s_ef (ef_bldS (qs := [(0, _)]) rfl rfl rfl) ?_
  intro b17
  refine swl_share (b := b16) (μ := μ) (by repeat (first | exact Split.nil | (apply Split.cons; (repeat (first | with_reducible exact Take.here | apply Take.there))))) fun μ0 h1a k0 => ?_
  refine swl_share (b := b17) (μ := μ0) (by repeat (first | exact Split.nil | (apply Split.cons; (repeat (first | with_reducible exact Take.here | apply Take.there))))) fun μ1 h1b k1 => ?_
  have h1 := h1a.trans h1b
  refine swl_ent (X.up (s := s0) h1 (by repeat (first | exact Split.nil | (apply Split.cons; (repeat (first | with_reducible exact Take.here | apply Take.there)))))) ?_
  have r1 := (row_of_blk (n := 1) (l := 2) (cs := [a, b].flatMap (icsk .i64)) k0 (by rfl) (by decide)).le h1b
  have hG : Graph μ1 (.slice (some ⟨b17, 0, none⟩) 1 1) [(.slice (some ⟨b16, 0, none⟩) 2 2, [a, b])] := ⟨row_of_blk k1 (by rfl) (by decide), fun x hx => by obtain rfl := List.mem_singleton.1 hx; exact r1⟩
  refine s_ef (ef_fn (asked_spec X s0 μ1 _ _ hG) rfl rfl (by repeat (first | exact Split.nil | (apply Split.cons; (repeat (first | with_reducible exact Take.here | apply Take.there)))))) ?_
  rintro v18 L1 ⟨rfl, rfl⟩
  refine swl_app ?_
  rw [show askedE X.n (nums [(Value.slice (some ⟨b16, 0, none⟩) 2 2, [a, b])]) = askedE X.n [[a, b]] from rfl]
  refine s_pu (pu_assign rfl) ?_
  refine swl_sub _ (.cons (t := 0) rfl (.cons (t := 1) rfl (.cons (t := 2) rfl (.cons (t := 8) rfl .nil)))) ?_
  refine swl_nil ?_
  refine then_n ?_
  refine swp_seq ?_
  refine swp_region ?_
  refine s_pu (pu_move rfl) ?_
  refine s_pu (pu_neq rfl rfl) ?_
  refine swl_sub _ (.cons (t := 0) rfl (.cons (t := 1) rfl (.cons (t := 2) rfl (.cons (t := 8) rfl (.cons (t := 20) rfl .nil))))) ?_
  refine swl_nil ?_
  refine then_n ?_
  refine swp_cond (b := _) rfl (fun h20 => ?_) (fun h20 => ?_)
  · skip   -- 20 T
    have he : askedE X.n [[a, b]] ≠ 0 := by simpa using h20
    refine swp_seq ?_
    refine swp_region ?_
    refine s_pu (pu_move rfl) ?_
    refine s_pu (pu_assign rfl) ?_
    refine s_pu (pu_assign rfl) ?_
    refine swl_sub _ (.cons (t := 6) rfl (.cons (t := 7) rfl .nil)) ?_
    refine swl_nil ?_
    refine then_n ?_
    refine swp_ret ?_
    refine then_r ?_
    refine done_ret [X.A s0 μ1, ro μ1] (.tmp rfl (.tmp rfl .nil)) ⟨[], μ1, ⟨List.nodup_nil, fun y hy => by cases hy⟩, h1, ?_, rfl⟩ (by repeat (first | exact Split.nil | (apply Split.cons; (repeat (first | with_reducible exact Take.here | apply Take.there)))))
    unfold isAnc
    rw [decide_eq_false he]; rfl
  · skip   -- 20 F
    have he : askedE X.n [[a, b]] = 0 := by simpa using h20
    have hab : (0 ≤ a ∧ a < X.g.length) ∧ (0 ≤ b ∧ b < X.g.length) := by
      unfold askedE at he
      split at he
      · rename_i h
        simp [inR] at h
        exact h
      · cases he
    obtain ⟨a, rfl⟩ : ∃ k : Nat, a = k := ⟨a.toNat, by omega⟩
    obtain ⟨b, rfl⟩ : ∃ k : Nat, b = k := ⟨b.toNat, by omega⟩
    refine swp_skip ?_
    refine then_n ?_
    refine swp_seq ?_
    refine swp_region ?_
    refine s_pu (pu_move rfl) ?_
    refine s_pu (pu_move rfl) ?_
    refine s_ef (ef_invS rfl X.hd (Y.ask s0 μ1 a (h0.trans h1)) rfl (by repeat (first | exact Split.nil | (apply Split.cons; (repeat (first | with_reducible exact Take.here | apply Take.there)))))) ?_
    rintro v24 L1 ⟨rfl, rfl⟩
    refine swl_app ?_
    refine s_pu (pu_assign rfl) ?_
    refine swl_sub _ (.cons (t := 0) rfl (.cons (t := 1) rfl (.cons (t := 2) rfl (.cons (t := 9) rfl .nil)))) ?_
    refine swl_nil ?_
    refine then_n ?_
    refine swp_seq ?_
    refine swp_region ?_
    refine s_pu (pu_move rfl) ?_
    refine s_pu (pu_move rfl) ?_
    refine s_ef (ef_bldS (qs := [(0, _)]) rfl rfl rfl) ?_
    intro b27
    refine s_ef (ef_fn (newWalker_spec X s0 μ1 (.slice (some ⟨b27, 0, none⟩) 1 1) [(b : Int)] (blk b27 3 [.int .i64 (b : Nat)]) (ints_blk (cs := [(b : Int)]) rfl (by rw [List.length_singleton]; decide))) rfl rfl (by repeat (first | exact Split.nil | (apply Split.cons; (repeat (first | with_reducible exact Take.here | apply Take.there)))))) ?_
    rintro v28 L1 ⟨w, sp, q, rfl, ok0, rfl⟩
    refine swl_app ?_
    refine s_pu (pu_assign rfl) ?_
    refine swl_sub _ (.cons (t := 0) rfl (.cons (t := 1) rfl (.cons (t := 9) rfl (.cons (t := 10) rfl .nil)))) ?_
    refine swl_nil ?_
    refine then_n ?_
    refine swp_seq ?_
    refine swp_seq ?_
    obtain ⟨kI, kN⟩ := wk_start (n := X.g.length) [(b : Int)]
    have kI' : WkI X.g.length X.g.length (addAll X.n wk0 [(b : Int)]) := kI
    have kN' : ∀ k, k ∈ (addAll X.n wk0 [(b : Int)]).2 ↔ k = b := fun k => (kN k).trans (by rw [inRng_mem]; simp; omega)
    clear kI kN
    generalize addAll X.n wk0 [(b : Int)] = st0 at *
    have hq0 := falls_len ok0.falls ok0.lt
    have hXn : X.n = X.g.length := rfl
    refine swp_region ?_
    refine s_pu (pu_move rfl) ?_
    first | refine s_pu (pu_nilCheck rfl) ?_ | refine s_pu (pu_nilCheck_fn rfl) ?_ | refine s_pu (pu_nilCheck_if rfl) ?_
    first | refine s_pu (pu_fieldAddr0 rfl) ?_ | refine s_pu (pu_fieldAddr rfl) ?_
    refine s_rd (rd_load rfl rfl) ?_
    refine s_ef (ef_fn (pop_any q (seenN X.n st0.1) st0.2 (by omega)) rfl rfl (by repeat (first | exact Split.nil | (apply Split.cons; (repeat (first | with_reducible exact Take.here | apply Take.there)))))) ?_
    rintro v34 L1 ⟨rfl, rfl⟩
    refine swl_app ?_
    refine s_pu (pu_move rfl) ?_
    first | refine s_pu (pu_extractL rfl) ?_ | refine s_pu (pu_extract rfl rfl) ?_
    first | refine s_pu (pu_extractL rfl) ?_ | refine s_pu (pu_extract rfl rfl) ?_
    refine s_pu (pu_assign rfl) ?_
    refine s_pu (pu_assign rfl) ?_
    refine swl_sub _ (.cons (t := 0) rfl (.cons (t := 1) rfl (.cons (t := 9) rfl (.cons (t := 10) rfl (.cons (t := 11) rfl (.cons (t := 12) rfl .nil)))))) ?_
    refine swl_nil ?_
    refine then_n ?_
    refine swp_block ?_
    refine swp_ent (Split.ent' (K := [wkB w sp q X.sv, mset sp X.n st0.1, Wq.cq q st0.2.tail (seenN X.n st0.1), X.A s0 μ1, ro μ1]) (by repeat (first | exact Split.nil | (apply Split.cons; (repeat (first | with_reducible exact Take.here | apply Take.there)))))) ?_
    refine swp_loop (ι := Nat × PH × List Nat × Wk) (fun k env L => env = [(0, X.sv), (1, .int .i64 (a : Nat)), (9, .int .i64 (gen (a : Nat))), (10, .pointer (some ⟨w, 0, none⟩)), (11, .int .i64 (k.2.2.2.2.headD 0 : Nat)), (12, .bool (!k.2.2.2.2.isEmpty))]
      ∧ L = [wkB w sp q X.sv, mset sp X.n k.2.2.2.1, Wq.cq q k.2.2.2.2.tail (seenN X.n k.2.2.2.1), X.A (k.2.2.1.foldl X.step s0) k.2.1, ro k.2.1]
      ∧ WkI X.g.length k.1 k.2.2.2 ∧ k.1 ≤ X.g.length ∧ (∀ y ∈ k.2.2.1, k.1 ≤ y) ∧ WkOk X.n k.2.2.2 ∧ askedOk X.n gen a k.2.2.1 ∧ Le μ k.2.1 ∧ (∀ q ∈ k.2.2.2.2, Reach X.g b q) ∧ (Reach X.g b a → ∃ q ∈ k.2.2.2.2, Reach X.g q a)) (fun k => k.1) (X.g.length, μ1, [], st0)
      ⟨rfl, rfl, kI', Nat.le_refl _, fun y hy => (by cases hy), ok0, ⟨List.nodup_nil, fun y hy => by cases hy⟩, h1, fun q hq => by rw [(kN' q).1 hq]; exact .refl _, fun hr => ⟨b, (kN' b).2 rfl, hr⟩⟩ ?_
    rintro ⟨m, μ2, ys, S, Q⟩ env L ⟨rfl, rfl, hI, hmn, hym, hokk, hask, hle, hsnd, hcov⟩
    dsimp only at hI hmn hym hokk hask hle hsnd hcov ⊢
    refine swp_seq ?_
    refine swp_seq ?_
    refine swp_region ?_
    refine s_pu (pu_move rfl) ?_
    refine swl_sub _ (.cons (t := 0) rfl (.cons (t := 1) rfl (.cons (t := 9) rfl (.cons (t := 10) rfl (.cons (t := 11) rfl (.cons (t := 37) rfl .nil)))))) ?_
    refine swl_nil ?_
    refine then_n ?_
    refine swp_cond (b := _) rfl (fun h37 => ?_) (fun h37 => ?_)
    · skip   -- 37 T
      obtain ⟨c, Q, rfl⟩ : ∃ c Q', Q = c :: Q' := by
        cases Q with
        | nil => cases h37
        | cons c Q => exact ⟨c, Q, rfl⟩
      have hcm : c < m := hI.lt c (List.mem_cons_self ..)
      have hrow : ∀ p ∈ rowOf X.g c, 0 ≤ p ∧ p < c := fun p hp => ⟨(row_good X.hg hp).1, (row_good X.hg hp).2.1⟩
      obtain ⟨hI2, hQ2, _⟩ := hI.pop.addAll hrow (by omega)
      have hok2 : WkOk X.n (S, Q) := ⟨(List.pairwise_cons.1 hokk.falls).2, fun k hk => hokk.lt k (List.mem_cons_of_mem _ hk), fun k hk => hokk.sub k (List.mem_cons_of_mem _ hk)⟩
      have hsc := hsnd c (List.mem_cons_self ..)
      simp only [List.tail_cons, List.headD_cons]
      refine swp_skip ?_
      refine then_n ?_
      refine swp_cut (fun env L => ∃ (ys' : List Nat) (μ' : PH) (st : Wk), env = [(0, X.sv), (1, .int .i64 (a : Nat)), (9, .int .i64 (gen (a : Nat))), (10, .pointer (some ⟨w, 0, none⟩))] ∧ L = [wkB w sp q X.sv, mset sp X.n st.1, Wq.cq q st.2 (seenN X.n st.1), X.A (ys'.foldl X.step s0) μ', ro μ'] ∧ WkI X.g.length c st ∧ (∀ y ∈ ys', c ≤ y) ∧ WkOk X.n st ∧ askedOk X.n gen a ys' ∧ Le μ μ' ∧ (∀ q ∈ st.2, Reach X.g b q) ∧ (Reach X.g b a → ∃ q ∈ st.2, Reach X.g q a)) ?_ ?_
      · skip
        refine swp_block ?_
        refine swp_seq ?_
        refine swp_seq ?_
        refine swp_region ?_
        refine s_pu (pu_move rfl) ?_
        refine s_pu (pu_move rfl) ?_
        refine s_pu (pu_eql rfl rfl) ?_
        refine swl_sub _ (.cons (t := 0) rfl (.cons (t := 1) rfl (.cons (t := 9) rfl (.cons (t := 10) rfl (.cons (t := 11) rfl (.cons (t := 48) rfl .nil)))))) ?_
        refine swl_nil ?_
        refine then_n ?_
        refine swp_cond (b := _) rfl (fun h48 => ?_) (fun h48 => ?_)
        · skip   -- 48 T
          obtain rfl : c = a := by have := of_decide_eq_true h48; omega
          refine swp_seq ?_
          refine swp_region ?_
          refine s_pu (pu_assign rfl) ?_
          refine s_pu (pu_assign rfl) ?_
          refine swl_sub _ (.cons (t := 6) rfl (.cons (t := 7) rfl .nil)) ?_
          refine swl_nil ?_
          refine then_n ?_
          refine swp_ret ?_
          refine then_r ?_
          refine block_r ?_
          refine then_r ?_
          refine then_r ?_
          refine block_r ?_
          refine then_r ?_
          refine done_ret [X.A (ys.foldl X.step s0) μ2, ro μ2] (.tmp rfl (.tmp rfl .nil)) ⟨ys, μ2, hask, hle, ?_, rfl⟩ (by repeat (first | exact Split.nil | (apply Split.cons; (repeat (first | with_reducible exact Take.here | apply Take.there)))))
          unfold isAnc
          rw [show askedE X.n [[(c : Int), (b : Int)]] = 0 from he, Int.toNat_natCast, Int.toNat_natCast, (up_iff X.hg b c).2 hsc]; rfl
        · skip   -- 48 F
          have hca : c ≠ a := fun e => by have := of_decide_eq_false h48; omega
          refine swp_skip ?_
          refine then_n ?_
          refine swp_seq ?_
          refine swp_region ?_
          refine s_pu (pu_move rfl) ?_
          refine s_pu (pu_move rfl) ?_
          refine s_pu (pu_gtr rfl rfl) ?_
          refine s_pu (pu_move rfl) ?_
          refine s_split 52 rfl (fun h52 => ?_) (fun h52 => ?_)
          · skip   -- 52 T
            refine s_on rfl rfl ?_
            refine s_pu (pu_move rfl) ?_
            refine s_on rfl rfl ?_
            refine s_pu (pu_move rfl) ?_
            refine s_on rfl rfl ?_
            refine s_ef (ef_invS rfl X.hd (Y.ask (ys.foldl X.step s0) μ2 c (h0.trans hle)) rfl (by repeat (first | exact Split.nil | (apply Split.cons; (repeat (first | with_reducible exact Take.here | apply Take.there)))))) ?_
            rintro v55 L1 ⟨rfl, rfl⟩
            refine swl_app ?_
            refine s_on rfl rfl ?_
            refine s_pu (pu_move rfl) ?_
            refine s_on rfl rfl ?_
            refine s_ef (ef_fn (may_spec (gen c) (gen a)) rfl rfl (by repeat (first | exact Split.nil | (apply Split.cons; (repeat (first | with_reducible exact Take.here | apply Take.there)))))) ?_
            rintro v57 L1 ⟨rfl, rfl⟩
            refine swl_app ?_
            first | refine s_pu (pu_pick_t rfl rfl) ?_ | refine s_pu (pu_pick_f rfl rfl) ?_
            refine swl_sub _ (.cons (t := 0) rfl (.cons (t := 1) rfl (.cons (t := 9) rfl (.cons (t := 10) rfl (.cons (t := 11) rfl (.cons (t := 58) rfl .nil)))))) ?_
            refine swl_nil ?_
            refine then_n ?_
            refine swp_cond (b := _) rfl (fun h58 => ?_) (fun h58 => ?_)
            · skip   -- 58 T
              have h52' : a < c := by have := of_decide_eq_true h52; omega
              have hcy : c ∉ ys := fun hy => by have := hym c hy; omega
              refine swp_region ?_
              refine s_pu (pu_move rfl) ?_
              refine s_pu (pu_move rfl) ?_
              refine s_pu (pu_move rfl) ?_
              refine s_ef (ef_invS rfl X.hd (X.parents (ys.foldl X.step s0) μ2 c (h0.trans hle) (by omega) (hf ys c hask.1 hcy (fun y hy => (hask.2 y hy).1) (by omega))) rfl (by repeat (first | exact Split.nil | (apply Split.cons; (repeat (first | with_reducible exact Take.here | apply Take.there)))))) ?_
              rintro v62 L1 ⟨μ3, hμ3, hr, rfl⟩
              refine swl_app ?_
              refine s_ef (ef_fn (add_spec w sp q X.n X.sv v62 (S, Q) (rowOf X.g c) (ro μ3) hn (Ints.row hr) hok2) rfl rfl (by repeat (first | exact Split.nil | (apply Split.cons; (repeat (first | with_reducible exact Take.here | apply Take.there)))))) ?_
              rintro v63 L1 ⟨rfl, hok3, rfl⟩
              refine swl_app ?_
              refine swl_sub _ (.cons (t := 0) rfl (.cons (t := 1) rfl (.cons (t := 9) rfl (.cons (t := 10) rfl .nil)))) ?_
              refine swl_ent (Split.ent' (K := [wkB w sp q X.sv, mset sp X.n (addAll X.n (S, Q) (rowOf X.g c)).1, Wq.cq q (addAll X.n (S, Q) (rowOf X.g c)).2 (seenN X.n (addAll X.n (S, Q) (rowOf X.g c)).1), X.A (X.step (ys.foldl X.step s0) c) μ3, ro μ3]) (by repeat (first | exact Split.nil | (apply Split.cons; (repeat (first | with_reducible exact Take.here | apply Take.there)))))) ?_
              refine swl_nil ?_
              refine block_n ?_
              refine then_n ⟨ys ++ [c], μ3, addAll X.n (S, Q) (rowOf X.g c), rfl, ?_, hI2, fun y hy => ?_, hok3, ⟨?_, fun y hy => ?_⟩, hle.trans hμ3, fun k hk => ?_, fun hr => ?_⟩
              · rw [List.foldl_append]; rfl
              · rcases List.mem_append.1 hy with hy | hy
                · have := hym y hy; omega
                · rw [List.mem_singleton.1 hy]; exact Nat.le_refl _
              · rw [List.nodup_append]
                exact ⟨hask.1, by simp, fun x hx y hy e => by rw [List.mem_singleton.1 hy] at e; subst e; exact hcy hx⟩
              · rcases List.mem_append.1 hy with hy | hy
                · exact hask.2 y hy
                · rw [List.mem_singleton.1 hy]; exact ⟨by omega, by omega, h58⟩
              · rcases (hQ2 k).1 hk with hk | hk
                · exact hsnd k (List.mem_cons_of_mem _ hk)
                · exact hsc.trans (.step hk (.refl _))
              · obtain ⟨x, hx, hxr⟩ := hcov hr
                rcases List.mem_cons.1 hx with rfl | hx
                · cases hxr with
                  | refl => exact absurd rfl hca
                  | step hp hr2 => exact ⟨_, (hQ2 _).2 (.inr hp), hr2⟩
                · exact ⟨x, (hQ2 x).2 (.inl hx), hxr⟩
            · skip   -- 58 F
              refine swp_sub _ (.cons (t := 0) rfl (.cons (t := 1) rfl (.cons (t := 9) rfl (.cons (t := 10) rfl .nil)))) ?_
              refine swp_ent (Split.ent' (K := [wkB w sp q X.sv, mset sp X.n S, Wq.cq q Q (seenN X.n S), X.A (ys.foldl X.step s0) μ2, ro μ2]) (by repeat (first | exact Split.nil | (apply Split.cons; (repeat (first | with_reducible exact Take.here | apply Take.there)))))) ?_
              refine swp_skip ?_
              refine block_n ?_
              refine then_n ⟨ys, μ2, (S, Q), rfl, rfl, hI.pop, fun y hy => by have := hym y hy; omega, hok2, hask, hle, fun k hk => hsnd k (List.mem_cons_of_mem _ hk), fun hr => ?_⟩
              obtain ⟨x, hx, hxr⟩ := hcov hr
              rcases List.mem_cons.1 hx with rfl | hx
              · rw [hmay _ _ hxr hca] at h58; cases h58
              · exact ⟨x, hx, hxr⟩
          · skip   -- 52 F
            refine s_off rfl rfl rfl ?_
            refine s_off rfl rfl rfl ?_
            refine s_off rfl rfl rfl ?_
            refine s_off rfl rfl rfl ?_
            refine s_off rfl rfl rfl ?_
            first | refine s_pu (pu_pick_t rfl rfl) ?_ | refine s_pu (pu_pick_f rfl rfl) ?_
            refine swl_sub _ (.cons (t := 0) rfl (.cons (t := 1) rfl (.cons (t := 9) rfl (.cons (t := 10) rfl (.cons (t := 11) rfl (.cons (t := 58) rfl .nil)))))) ?_
            refine swl_nil ?_
            refine then_n ?_
            refine swp_cond (b := _) rfl (fun h58 => by cases h58) (fun h58 => ?_)
            refine swp_sub _ (.cons (t := 0) rfl (.cons (t := 1) rfl (.cons (t := 9) rfl (.cons (t := 10) rfl .nil)))) ?_
            refine swp_ent (Split.ent' (K := [wkB w sp q X.sv, mset sp X.n S, Wq.cq q Q (seenN X.n S), X.A (ys.foldl X.step s0) μ2, ro μ2]) (by repeat (first | exact Split.nil | (apply Split.cons; (repeat (first | with_reducible exact Take.here | apply Take.there)))))) ?_
            refine swp_skip ?_
            refine block_n ?_
            refine then_n ⟨ys, μ2, (S, Q), rfl, rfl, hI.pop, fun y hy => by have := hym y hy; omega, hok2, hask, hle, fun k hk => hsnd k (List.mem_cons_of_mem _ hk), fun hr => ?_⟩
            obtain ⟨x, hx, hxr⟩ := hcov hr
            rcases List.mem_cons.1 hx with rfl | hx
            · have := hxr.le X.hg
              have := of_decide_eq_false h52
              omega
            · exact ⟨x, hx, hxr⟩
      rintro env L ⟨ys', μ', st, rfl, rfl, hI', hym', hok', hask', hle', hsnd', hcov'⟩
      have hq3 := falls_len hok'.falls hok'.lt
      refine swp_region ?_
      refine s_pu (pu_move rfl) ?_
      first | refine s_pu (pu_nilCheck rfl) ?_ | refine s_pu (pu_nilCheck_fn rfl) ?_ | refine s_pu (pu_nilCheck_if rfl) ?_
      first | refine s_pu (pu_fieldAddr0 rfl) ?_ | refine s_pu (pu_fieldAddr rfl) ?_
      refine s_rd (rd_load rfl rfl) ?_
      refine s_ef (ef_fn (pop_any q (seenN X.n st.1) st.2 (by omega)) rfl rfl (by repeat (first | exact Split.nil | (apply Split.cons; (repeat (first | with_reducible exact Take.here | apply Take.there)))))) ?_
      rintro v43 L1 ⟨rfl, rfl⟩
      refine swl_app ?_
      refine s_pu (pu_move rfl) ?_
      first | refine s_pu (pu_extractL rfl) ?_ | refine s_pu (pu_extract rfl rfl) ?_
      first | refine s_pu (pu_extractL rfl) ?_ | refine s_pu (pu_extract rfl rfl) ?_
      refine s_pu (pu_assign rfl) ?_
      refine s_pu (pu_assign rfl) ?_
      refine swl_sub _ (.cons (t := 0) rfl (.cons (t := 1) rfl (.cons (t := 9) rfl (.cons (t := 10) rfl (.cons (t := 11) rfl (.cons (t := 12) rfl .nil)))))) ?_
      refine swl_ent (Split.ent' (K := [wkB w sp q X.sv, mset sp X.n st.1, Wq.cq q st.2.tail (seenN X.n st.1), X.A (ys'.foldl X.step s0) μ', ro μ']) (by repeat (first | exact Split.nil | (apply Split.cons; (repeat (first | with_reducible exact Take.here | apply Take.there)))))) ?_
      refine swl_nil ?_
      exact then_n ⟨(c, μ', ys', st), ⟨rfl, rfl, hI', by show c ≤ _; omega, hym', hok', hask', hle', hsnd', hcov'⟩, hcm⟩
    · skip   -- 37 F
      obtain rfl : Q = [] := by
        cases Q with
        | nil => rfl
        | cons c Q => cases h37
      refine swp_exit ?_
      refine then_x ?_
      refine then_x ?_
      refine block_hit rfl ?_
      refine then_n ?_
      refine swp_seq ?_
      refine swp_region ?_
      refine s_pu (pu_assign rfl) ?_
      refine s_pu (pu_assign rfl) ?_
      refine swl_sub _ (.cons (t := 6) rfl (.cons (t := 7) rfl .nil)) ?_
      refine swl_nil ?_
      refine then_n ?_
      refine swp_ret ?_
      refine done_ret [X.A (ys.foldl X.step s0) μ2, ro μ2] (.tmp rfl (.tmp rfl .nil)) ⟨ys, μ2, hask, hle, ?_, rfl⟩ (by repeat (first | exact Split.nil | (apply Split.cons; (repeat (first | with_reducible exact Take.here | apply Take.there)))))
      have hno : up X.g b a = false := by
        cases hu : up X.g b a with
        | false => rfl
        | true =>
          obtain ⟨x, hx, _⟩ := hcov ((up_iff X.hg b a).1 hu)
          cases hx
      unfold isAnc
      rw [show askedE X.n [[(a : Int), (b : Int)]] = 0 from he, Int.toNat_natCast, Int.toNat_natCast, hno, Bool.and_false]; rfl
end SX
namespace SX
open Go Go.Proofs

theorem has_w (p n : Nat) (S : Nat → Bool) (k : Nat) : Spec Tryd.prog 58 [.pointer (some ⟨p, 0, none⟩), .int .i64 (k : Nat)] [mset p n S] (fun r L => r = .bool (S k) ∧ L = [mset p n S]) := by
  have h := has_m p n S (k : Int)
  rw [decide_eq_true (show (0 : Int) ≤ (k : Int) by omega), Int.toNat_natCast, Bool.true_and] at h
  exact h
/-- what only some reach -/
def onlyE (g : List (List Int)) (xs ys : List Int) : Int := askedE g.length [xs, ys]
def onlyS (g : List (List Int)) (xs ys : List Int) : Nat → Bool := fun k => decide (k < g.length) && (anyUp g g.length xs k && !anyUp g g.length ys k)
def onlyA (g : List (List Int)) (xs ys : List Int) : List Int := if onlyE g xs ys = 0 then elsTo g.length (onlyS g xs ys) else []
theorem only_less (X : Src) (p1 p2 : Nat) (xs ys : List Int) : Spec Tryd.prog 59 [.pointer (some ⟨p1, 0, none⟩), .pointer (some ⟨p2, 0, none⟩)] [mset p1 X.n (anyUp X.g X.g.length xs), mset p2 X.n (anyUp X.g X.g.length ys)] (fun r L => r = .tuple #[] ∧ L = [mset p1 X.n (onlyS X.g xs ys), mset p2 X.n (anyUp X.g X.g.length ys)]) :=
  less_m p1 X.n p2 X.n (anyUp X.g X.g.length xs) (anyUp X.g X.g.length ys)
def askedIn (n : Nat) (zs : List Nat) : Prop := zs.Nodup ∧ ∀ y ∈ zs, y < n
theorem askedE_in {n : Nat} {ls : List (List Int)} (h : askedE n ls = 0) {l : List Int} (hl : l ∈ ls) : ∀ p ∈ l, 0 ≤ p ∧ p < n := by
  unfold askedE at h
  split at h
  · rename_i ha
    intro p hp
    have := List.all_eq_true.1 (List.all_eq_true.1 ha l hl) p hp
    simpa [inR] using this
  · cases h
set_option maxHeartbeats 4000000 in
theorem only_spec (X : Src) (s0 : X.σ) (μ : PH) (v u : Value) (xs ys : List Int) (hT : RowAt μ 0 0 tabV) (hv : Row μ v 1 xs.length (xs.flatMap (icsk .i64))) (hu : Row μ u 1 ys.length (ys.flatMap (icsk .i64)))
    (hl : xs.length ≤ 1048576) (hl2 : ys.length ≤ 1048576) (h0 : Le X.μ0 μ) (hf : X.fine s0) :
    Spec Tryd.prog 27 [X.sv, v, u] [X.A s0 μ, ro μ] (fun r L => ∃ lv zs μ', askedIn X.n zs ∧ Le μ μ' ∧ r = .tuple #[lv, .int .i64 (onlyE X.g xs ys)] ∧ L = [own 3 1 lv (onlyA X.g xs ys).length ((onlyA X.g xs ys).flatMap (icsk .i64)), X.A (zs.foldl X.step s0) μ', ro μ']) := by
  have hn := X.hn
  have hXn : X.n = X.g.length := rfl
  obtain ⟨A1, c1, rfl⟩ := hv.sl
  obtain ⟨A2, c2, rfl⟩ := hu.sl
  refine Spec.of 109 Tryd.func27 rfl rfl rfl ?_
  refine swp_seq ?_
  refine swp_region ?_
  refine s_pu (pu_assign rfl) ?_
  refine s_pu (pu_assign rfl) ?_
  refine swl_sub _ (.cons (t := 0) rfl (.cons (t := 1) rfl (.cons (t := 2) rfl .nil))) ?_
  refine swl_nil ?_
  refine then_n ?_
  refine swp_seq ?_
  refine swp_seq ?_
  refine swp_region ?_
  refine s_pu (pu_move rfl) ?_
  refine s_pu (pu_move rfl) ?_
  refine s_pu (pu_move rfl) ?_
  refine s_ef (ef_bldS (qs := [(0, _), (1, _)]) rfl rfl rfl) ?_
  intro b24
  refine swl_share (b := b24) (μ := μ) (by repeat (first | exact Split.nil | (apply Split.cons; (repeat (first | with_reducible exact Take.here | apply Take.there))))) fun μ1 h1 k1 => ?_
  refine swl_ent (X.up (s := s0) h1 (by repeat (first | exact Split.nil | (apply Split.cons; (repeat (first | with_reducible exact Take.here | apply Take.there)))))) ?_
  have hG : Graph μ1 (.slice (some ⟨b24, 0, none⟩) 2 2) [(.slice A1 xs.length c1, xs), (.slice A2 ys.length c2, ys)] := ⟨row_of_blk k1 (by rfl) (by decide), fun x hx => by
    rcases List.mem_cons.1 hx with rfl | hx
    · exact hv.le h1
    · obtain rfl := List.mem_singleton.1 hx; exact hu.le h1⟩
  refine s_ef (ef_fn (asked_spec X s0 μ1 _ _ hG) rfl rfl (by repeat (first | exact Split.nil | (apply Split.cons; (repeat (first | with_reducible exact Take.here | apply Take.there)))))) ?_
  rintro v25 L1 ⟨rfl, rfl⟩
  refine swl_app ?_
  rw [show askedE X.n (nums [(Value.slice A1 xs.length c1, xs), (Value.slice A2 ys.length c2, ys)]) = onlyE X.g xs ys from rfl]
  refine s_pu (pu_assign rfl) ?_
  refine swl_sub _ (.cons (t := 0) rfl (.cons (t := 1) rfl (.cons (t := 2) rfl (.cons (t := 8) rfl .nil)))) ?_
  refine swl_nil ?_
  refine then_n ?_
  refine swp_seq ?_
  refine swp_region ?_
  refine s_pu (pu_move rfl) ?_
  refine s_pu (pu_neq rfl rfl) ?_
  refine swl_sub _ (.cons (t := 0) rfl (.cons (t := 1) rfl (.cons (t := 2) rfl (.cons (t := 8) rfl (.cons (t := 27) rfl .nil))))) ?_
  refine swl_nil ?_
  refine then_n ?_
  refine swp_cond (b := _) rfl (fun h27 => ?_) (fun h27 => ?_)
  · skip   -- 27 T
    have he : onlyE X.g xs ys ≠ 0 := by simpa using h27
    refine swp_seq ?_
    refine swp_region ?_
    refine s_pu (pu_move rfl) ?_
    refine s_pu (pu_assign rfl) ?_
    refine s_pu (pu_assign rfl) ?_
    refine swl_sub _ (.cons (t := 6) rfl (.cons (t := 7) rfl .nil)) ?_
    refine swl_nil ?_
    refine then_n ?_
    refine swp_ret ?_
    refine then_r ?_
    refine done_retE [own 3 1 (.slice none 0 0) (onlyA X.g xs ys).length ((onlyA X.g xs ys).flatMap (icsk .i64)), X.A s0 μ1, ro μ1] (.tmp rfl (.tmp rfl .nil)) ⟨_, [], μ1, ⟨List.nodup_nil, fun y hy => by cases hy⟩, h1, rfl, rfl⟩ ?_
    rw [onlyA, if_neg he]
    exact (Split.ent' (K := [X.A s0 μ1, ro μ1]) (by repeat (first | exact Split.nil | (apply Split.cons; (repeat (first | with_reducible exact Take.here | apply Take.there)))))).trans own_nil_ent
  · skip   -- 27 F
    have he : onlyE X.g xs ys = 0 := by simpa using h27
    have hx := askedE_in (l := xs) he (by simp)
    have hy := askedE_in (l := ys) he (by simp)
    refine swp_skip ?_
    refine then_n ?_
    refine swp_seq ?_
    refine swp_region ?_
    refine s_pu (pu_move rfl) ?_
    refine s_ef (ef_fn (commits_spec X s0 μ1) rfl rfl (by repeat (first | exact Split.nil | (apply Split.cons; (repeat (first | with_reducible exact Take.here | apply Take.there)))))) ?_
    rintro v30 L1 ⟨rfl, rfl⟩
    refine swl_app ?_
    refine s_ef (ef_fn (new_m (X.n : Nat)) rfl rfl (by repeat (first | exact Split.nil | (apply Split.cons; (repeat (first | with_reducible exact Take.here | apply Take.there)))))) ?_
    rintro v31 L1 ⟨p1, rfl, rfl⟩
    refine swl_app ?_
    refine s_pu (pu_move rfl) ?_
    refine s_ef (ef_fn (commits_spec X s0 μ1) rfl rfl (by repeat (first | exact Split.nil | (apply Split.cons; (repeat (first | with_reducible exact Take.here | apply Take.there)))))) ?_
    rintro v33 L1 ⟨rfl, rfl⟩
    refine swl_app ?_
    refine s_ef (ef_fn (new_m (X.n : Nat)) rfl rfl (by repeat (first | exact Split.nil | (apply Split.cons; (repeat (first | with_reducible exact Take.here | apply Take.there)))))) ?_
    rintro v34 L1 ⟨p2, rfl, rfl⟩
    refine swl_app ?_
    refine s_pu (pu_assign rfl) ?_
    refine s_pu (pu_assign rfl) ?_
    refine swl_sub _ (.cons (t := 0) rfl (.cons (t := 1) rfl (.cons (t := 2) rfl (.cons (t := 9) rfl (.cons (t := 10) rfl .nil))))) ?_
    rw [clampM_id hn, show (fun _ : Nat => false) = seedS [] from funext fun j => by simp [seedS]]
    refine swl_nil ?_
    refine then_n ?_
    refine swp_seq ?_
    refine swp_seq ?_
    refine swp_region ?_
    refine s_pu (pu_move rfl) ?_
    refine s_pu (pu_len rfl) ?_
    refine s_pu (pu_move rfl) ?_
    refine swl_sub _ (.cons (t := 0) rfl (.cons (t := 1) rfl (.cons (t := 2) rfl (.cons (t := 9) rfl (.cons (t := 10) rfl (.cons (t := 35) rfl (.cons (t := 36) rfl (.cons (t := 37) rfl .nil)))))))) ?_
    refine swl_nil ?_
    refine then_n ?_
    refine swp_block ?_
    refine swp_ent (Split.ent' (K := [mset p2 X.n (seedS []), mset p1 X.n (seedS []), X.A s0 μ1, ro μ1]) (by repeat (first | exact Split.nil | (apply Split.cons; (repeat (first | with_reducible exact Take.here | apply Take.there)))))) ?_
    refine swp_loop (ι := Nat) (fun i env L => env = [(0, X.sv), (1, .slice A1 xs.length c1), (2, .slice A2 ys.length c2), (9, .pointer (some ⟨p1, 0, none⟩)), (10, .pointer (some ⟨p2, 0, none⟩)), (35, .slice A2 ys.length c2), (36, .int .i64 (ys.length : Nat)), (37, .int .i64 (i : Nat))] ∧ L = [mset p2 X.n (seedS (ys.take i)), mset p1 X.n (seedS []), X.A s0 μ1, ro μ1] ∧ i ≤ ys.length) (fun i => ys.length - i) 0 ⟨rfl, rfl, Nat.zero_le _⟩ ?_
    rintro i env L ⟨rfl, rfl, hi⟩
    refine swp_seq ?_
    refine swp_region ?_
    refine s_pu (pu_lss rfl rfl) ?_
    refine swl_sub _ (.cons (t := 0) rfl (.cons (t := 1) rfl (.cons (t := 2) rfl (.cons (t := 9) rfl (.cons (t := 10) rfl (.cons (t := 35) rfl (.cons (t := 36) rfl (.cons (t := 37) rfl (.cons (t := 38) rfl .nil))))))))) ?_
    refine swl_nil ?_
    refine then_n ?_
    refine swp_seq ?_
    refine swp_cond (b := _) rfl (fun h38 => ?_) (fun h38 => ?_)
    · skip   -- 38 T
      have h38' : i < ys.length := by have := of_decide_eq_true h38; omega
      obtain ⟨c, hc⟩ : ∃ c, ys[i]? = some c := ⟨_, List.getElem?_eq_getElem h38'⟩
      obtain ⟨pb, po, pc, hpv, hpc⟩ := (hu.le h1).at_ hc
      have hcr := hy c (List.mem_of_getElem? hc)
      refine swp_skip ?_
      refine then_n ?_
      refine swp_seq ?_
      refine swp_block ?_
      refine swp_seq ?_
      refine swp_region ?_
      refine s_pu (pu_indexAddr (po + i * 1) (congrArg some hpv) rfl (by omega) (by omega) (by rw [Int.toNat_natCast])) ?_
      refine s_rd (rd_ro rfl hpc) ?_
      refine s_pu (pu_assign rfl) ?_
      refine swl_sub _ (.cons (t := 0) rfl (.cons (t := 1) rfl (.cons (t := 2) rfl (.cons (t := 9) rfl (.cons (t := 10) rfl (.cons (t := 12) rfl (.cons (t := 35) rfl (.cons (t := 36) rfl (.cons (t := 37) rfl .nil))))))))) ?_
      refine swl_nil ?_
      refine then_n ?_
      refine swp_region ?_
      refine s_pu (pu_move rfl) ?_
      refine s_pu (pu_move rfl) ?_
      refine s_ef (ef_fn (put_w p2 X.n (seedS (ys.take i)) c) rfl rfl (by repeat (first | exact Split.nil | (apply Split.cons; (repeat (first | with_reducible exact Take.here | apply Take.there)))))) ?_
      rintro v43 L1 ⟨rfl, rfl⟩
      refine swl_app ?_
      refine swl_sub _ (.cons (t := 0) rfl (.cons (t := 1) rfl (.cons (t := 2) rfl (.cons (t := 9) rfl (.cons (t := 10) rfl (.cons (t := 35) rfl (.cons (t := 36) rfl (.cons (t := 37) rfl .nil)))))))) ?_
      rw [seedS_put hcr, show ys.take i ++ [c] = ys.take (i + 1) by rw [List.take_add_one, hc]; rfl]
      refine swl_nil ?_
      refine block_n ?_
      refine then_n ?_
      refine swp_region ?_
      refine s_pu (pu_add_as ((i + 1 : Nat) : Int) rfl rfl (by omega) (by omega) (by omega)) ?_
      refine s_pu (pu_move rfl) ?_
      refine swl_sub _ (.cons (t := 0) rfl (.cons (t := 1) rfl (.cons (t := 2) rfl (.cons (t := 9) rfl (.cons (t := 10) rfl (.cons (t := 35) rfl (.cons (t := 36) rfl (.cons (t := 37) rfl .nil)))))))) ?_
      refine swl_nil ?_
      exact then_n ⟨i + 1, ⟨rfl, rfl, h38'⟩, by omega⟩
    · skip   -- 38 F
      have h38' := of_decide_eq_false h38
      obtain rfl : i = ys.length := by omega
      rw [List.take_length]
      refine swp_exit ?_
      refine then_x ?_
      refine then_x ?_
      refine block_hit rfl ?_
      refine then_n ?_
      refine swp_seq ?_
      refine swp_seq ?_
      refine swp_region ?_
      refine s_pu (pu_move rfl) ?_
      refine s_pu (pu_len rfl) ?_
      refine s_pu (pu_move rfl) ?_
      refine swl_sub _ (.cons (t := 0) rfl (.cons (t := 1) rfl (.cons (t := 2) rfl (.cons (t := 9) rfl (.cons (t := 10) rfl (.cons (t := 45) rfl (.cons (t := 46) rfl (.cons (t := 47) rfl .nil)))))))) ?_
      refine swl_nil ?_
      refine then_n ?_
      refine swp_block ?_
      refine swp_ent (Split.ent' (K := [mset p1 X.n (seedS []), mset p2 X.n (seedS ys), X.A s0 μ1, ro μ1]) (by repeat (first | exact Split.nil | (apply Split.cons; (repeat (first | with_reducible exact Take.here | apply Take.there)))))) ?_
      refine swp_loop (ι := Nat) (fun i env L => env = [(0, X.sv), (1, .slice A1 xs.length c1), (2, .slice A2 ys.length c2), (9, .pointer (some ⟨p1, 0, none⟩)), (10, .pointer (some ⟨p2, 0, none⟩)), (45, .slice A1 xs.length c1), (46, .int .i64 (xs.length : Nat)), (47, .int .i64 (i : Nat))] ∧ L = [mset p1 X.n (seedS (xs.take i)), mset p2 X.n (seedS ys), X.A s0 μ1, ro μ1] ∧ i ≤ xs.length) (fun i => xs.length - i) 0 ⟨rfl, rfl, Nat.zero_le _⟩ ?_
      rintro i env L ⟨rfl, rfl, hi⟩
      refine swp_seq ?_
      refine swp_region ?_
      refine s_pu (pu_lss rfl rfl) ?_
      refine swl_sub _ (.cons (t := 0) rfl (.cons (t := 1) rfl (.cons (t := 2) rfl (.cons (t := 9) rfl (.cons (t := 10) rfl (.cons (t := 45) rfl (.cons (t := 46) rfl (.cons (t := 47) rfl (.cons (t := 48) rfl .nil))))))))) ?_
      refine swl_nil ?_
      refine then_n ?_
      refine swp_seq ?_
      refine swp_cond (b := _) rfl (fun h48 => ?_) (fun h48 => ?_)
      · skip   -- 48 T
        have h48' : i < xs.length := by have := of_decide_eq_true h48; omega
        obtain ⟨c, hc⟩ : ∃ c, xs[i]? = some c := ⟨_, List.getElem?_eq_getElem h48'⟩
        obtain ⟨pb, po, pc, hpv, hpc⟩ := (hv.le h1).at_ hc
        have hcr := hx c (List.mem_of_getElem? hc)
        refine swp_skip ?_
        refine then_n ?_
        refine swp_seq ?_
        refine swp_block ?_
        refine swp_seq ?_
        refine swp_region ?_
        refine s_pu (pu_indexAddr (po + i * 1) (congrArg some hpv) rfl (by omega) (by omega) (by rw [Int.toNat_natCast])) ?_
        refine s_rd (rd_ro rfl hpc) ?_
        refine s_pu (pu_assign rfl) ?_
        refine swl_sub _ (.cons (t := 0) rfl (.cons (t := 1) rfl (.cons (t := 2) rfl (.cons (t := 9) rfl (.cons (t := 10) rfl (.cons (t := 14) rfl (.cons (t := 45) rfl (.cons (t := 46) rfl (.cons (t := 47) rfl .nil))))))))) ?_
        refine swl_nil ?_
        refine then_n ?_
        refine swp_region ?_
        refine s_pu (pu_move rfl) ?_
        refine s_pu (pu_move rfl) ?_
        refine s_ef (ef_fn (put_w p1 X.n (seedS (xs.take i)) c) rfl rfl (by repeat (first | exact Split.nil | (apply Split.cons; (repeat (first | with_reducible exact Take.here | apply Take.there)))))) ?_
        rintro v53 L1 ⟨rfl, rfl⟩
        refine swl_app ?_
        refine swl_sub _ (.cons (t := 0) rfl (.cons (t := 1) rfl (.cons (t := 2) rfl (.cons (t := 9) rfl (.cons (t := 10) rfl (.cons (t := 45) rfl (.cons (t := 46) rfl (.cons (t := 47) rfl .nil)))))))) ?_
        rw [seedS_put hcr, show xs.take i ++ [c] = xs.take (i + 1) by rw [List.take_add_one, hc]; rfl]
        refine swl_nil ?_
        refine block_n ?_
        refine then_n ?_
        refine swp_region ?_
        refine s_pu (pu_add_as ((i + 1 : Nat) : Int) rfl rfl (by omega) (by omega) (by omega)) ?_
        refine s_pu (pu_move rfl) ?_
        refine swl_sub _ (.cons (t := 0) rfl (.cons (t := 1) rfl (.cons (t := 2) rfl (.cons (t := 9) rfl (.cons (t := 10) rfl (.cons (t := 45) rfl (.cons (t := 46) rfl (.cons (t := 47) rfl .nil)))))))) ?_
        refine swl_nil ?_
        exact then_n ⟨i + 1, ⟨rfl, rfl, h48'⟩, by omega⟩
      · skip   -- 48 F
        have h48' := of_decide_eq_false h48
        obtain rfl : i = xs.length := by omega
        rw [List.take_length]
        refine swp_exit ?_
        refine then_x ?_
        refine then_x ?_
        refine block_hit rfl ?_
        refine then_n ?_
        refine swp_seq ?_
        refine swp_region ?_
        refine s_pu (pu_move rfl) ?_
        refine s_ef (ef_bldS (qs := []) rfl rfl rfl) ?_
        intro b56
        refine swl_ent (own_empty (e := 3) (n := 1)) ?_
        refine s_pu (pu_move rfl) ?_
        refine s_ef (ef_append_ro (hv.le h1) rfl rfl (by repeat (first | exact Split.nil | (apply Split.cons; (repeat (first | with_reducible exact Take.here | apply Take.there))))) (icsk_one _) (by simp only [maxLen]; omega) (by omega)) ?_
        rintro v58 -
        rw [Nat.zero_add, List.nil_append]
        refine s_pu (pu_move rfl) ?_
        refine s_ef (ef_append_ro (hu.le h1) rfl rfl (by repeat (first | exact Split.nil | (apply Split.cons; (repeat (first | with_reducible exact Take.here | apply Take.there))))) (icsk_one _) (by simp only [maxLen]; omega) (by omega)) ?_
        rintro v60 -
        rw [← List.flatMap_append, ← List.length_append]
        refine swl_share_own (v := v60) (μ := μ1) (by repeat (first | exact Split.nil | (apply Split.cons; (repeat (first | with_reducible exact Take.here | apply Take.there))))) fun μ2 h2 r2 => ?_
        refine swl_ent (X.up (s := s0) h2 (by repeat (first | exact Split.nil | (apply Split.cons; (repeat (first | with_reducible exact Take.here | apply Take.there)))))) ?_
        refine s_ef (ef_fn (newWalker_spec X s0 μ2 v60 (xs ++ ys) (ro μ2) (Ints.row r2)) rfl rfl (by repeat (first | exact Split.nil | (apply Split.cons; (repeat (first | with_reducible exact Take.here | apply Take.there)))))) ?_
        rintro v61 L1 ⟨w, sp, q, rfl, ok0, rfl⟩
        refine swl_app ?_
        refine s_pu (pu_assign rfl) ?_
        refine swl_sub _ (.cons (t := 0) rfl (.cons (t := 9) rfl (.cons (t := 10) rfl (.cons (t := 15) rfl .nil)))) ?_
        refine swl_nil ?_
        refine then_n ?_
        refine swp_seq ?_
        refine swp_seq ?_
        obtain ⟨kI, kN⟩ := wk_start (n := X.g.length) (xs ++ ys)
        have kI' : WkI X.g.length X.g.length (addAll X.n wk0 (xs ++ ys)) := kI
        have kN' : ∀ k : Nat, (k : Int) ∈ xs ∨ (k : Int) ∈ ys → (addAll X.n wk0 (xs ++ ys)).1 k = true := fun k hk => by
          have hr : 0 ≤ (k : Int) ∧ (k : Int) < X.g.length := hk.elim (hx k) (hy k)
          exact (kI'.seen k (by omega)).2 ((kN k).2 (inRng_mem.2 ⟨List.mem_append.2 hk, hr⟩))
        clear kI kN
        generalize addAll X.n wk0 (xs ++ ys) = st0 at *
        have hq0 := falls_len ok0.falls ok0.lt
        refine swp_region ?_
        refine s_pu (pu_move rfl) ?_
        first | refine s_pu (pu_nilCheck rfl) ?_ | refine s_pu (pu_nilCheck_fn rfl) ?_ | refine s_pu (pu_nilCheck_if rfl) ?_
        first | refine s_pu (pu_fieldAddr0 rfl) ?_ | refine s_pu (pu_fieldAddr rfl) ?_
        refine s_rd (rd_load rfl rfl) ?_
        refine s_ef (ef_fn (pop_any q (seenN X.n st0.1) st0.2 (by omega)) rfl rfl (by repeat (first | exact Split.nil | (apply Split.cons; (repeat (first | with_reducible exact Take.here | apply Take.there)))))) ?_
        rintro v67 L1 ⟨rfl, rfl⟩
        refine swl_app ?_
        refine s_pu (pu_move rfl) ?_
        first | refine s_pu (pu_extractL rfl) ?_ | refine s_pu (pu_extract rfl rfl) ?_
        first | refine s_pu (pu_extractL rfl) ?_ | refine s_pu (pu_extract rfl rfl) ?_
        refine s_pu (pu_assign rfl) ?_
        refine s_pu (pu_assign rfl) ?_
        refine swl_sub _ (.cons (t := 0) rfl (.cons (t := 9) rfl (.cons (t := 10) rfl (.cons (t := 15) rfl (.cons (t := 16) rfl (.cons (t := 17) rfl .nil)))))) ?_
        refine swl_nil ?_
        refine then_n ?_
        refine swp_block ?_
        refine swp_ent (Split.ent' (K := [wkB w sp q X.sv, mset sp X.n st0.1, Wq.cq q st0.2.tail (seenN X.n st0.1), mset p1 X.n (seedS xs), mset p2 X.n (seedS ys), X.A s0 μ2, ro μ2]) (by repeat (first | exact Split.nil | (apply Split.cons; (repeat (first | with_reducible exact Take.here | apply Take.there)))))) ?_
        refine swp_loop (ι := Nat × PH × List Nat × Wk × (Nat → Bool) × (Nat → Bool)) (fun k env L => env = [(0, X.sv), (9, .pointer (some ⟨p1, 0, none⟩)), (10, .pointer (some ⟨p2, 0, none⟩)), (15, .pointer (some ⟨w, 0, none⟩)), (16, .int .i64 (k.2.2.2.1.2.headD 0 : Nat)), (17, .bool (!k.2.2.2.1.2.isEmpty))]
          ∧ L = [wkB w sp q X.sv, mset sp X.n k.2.2.2.1.1, Wq.cq q k.2.2.2.1.2.tail (seenN X.n k.2.2.2.1.1), mset p1 X.n k.2.2.2.2.1, mset p2 X.n k.2.2.2.2.2, X.A (k.2.2.1.foldl X.step s0) k.2.1, ro k.2.1]
          ∧ WkI X.g.length k.1 k.2.2.2.1 ∧ k.1 ≤ X.g.length ∧ (∀ y ∈ k.2.2.1, k.1 ≤ y) ∧ WkOk X.n k.2.2.2.1 ∧ askedIn X.n k.2.2.1 ∧ Le μ k.2.1
          ∧ (∀ j, k.2.2.2.2.1 j = true → k.2.2.2.1.1 j = true) ∧ (∀ j, k.2.2.2.2.2 j = true → k.2.2.2.1.1 j = true)
          ∧ upF X.g k.1 k.2.2.2.2.1 = anyUp X.g X.g.length xs ∧ upF X.g k.1 k.2.2.2.2.2 = anyUp X.g X.g.length ys) (fun k => k.1) (X.g.length, μ2, [], st0, seedS xs, seedS ys)
          ⟨rfl, rfl, kI', Nat.le_refl _, fun y hy => (by cases hy), ok0, ⟨List.nodup_nil, fun y hy => by cases hy⟩, h1.trans h2, fun j hj => kN' j (.inl (of_decide_eq_true hj)), fun j hj => kN' j (.inr (of_decide_eq_true hj)), rfl, rfl⟩ ?_
        rintro ⟨m, μ3, zs, ⟨S, Q⟩, T, U⟩ env L ⟨rfl, rfl, hI, hmn, hym, hokk, hask, hle, hTS, hUS, hTR, hUR⟩
        dsimp only at hI hmn hym hokk hask hle hTS hUS hTR hUR ⊢
        refine swp_seq ?_
        refine swp_seq ?_
        refine swp_region ?_
        refine s_pu (pu_move rfl) ?_
        refine swl_sub _ (.cons (t := 0) rfl (.cons (t := 9) rfl (.cons (t := 10) rfl (.cons (t := 15) rfl (.cons (t := 16) rfl (.cons (t := 70) rfl .nil)))))) ?_
        refine swl_nil ?_
        refine then_n ?_
        refine swp_cond (b := _) rfl (fun h70 => ?_) (fun h70 => ?_)
        · skip   -- 70 T
          obtain ⟨c, Q, rfl⟩ : ∃ c Q', Q = c :: Q' := by
            cases Q with
            | nil => cases h70
            | cons c Q => exact ⟨c, Q, rfl⟩
          have hcm : c < m := hI.lt c (List.mem_cons_self ..)
          have hrow : ∀ p ∈ rowOf X.g c, 0 ≤ p ∧ p < c := fun p hp => ⟨(row_good X.hg hp).1, (row_good X.hg hp).2.1⟩
          obtain ⟨hI2, hQ2, hS2⟩ := hI.pop.addAll hrow (by omega)
          have hok2 : WkOk X.n (S, Q) := ⟨(List.pairwise_cons.1 hokk.falls).2, fun k hk => hokk.lt k (List.mem_cons_of_mem _ hk), fun k hk => hokk.sub k (List.mem_cons_of_mem _ hk)⟩
          have hcy : c ∉ zs := fun hy => by have := hym c hy; omega
          simp only [List.tail_cons, List.headD_cons]
          refine swp_skip ?_
          refine then_n ?_
          refine swp_seq ?_
          refine swp_block ?_
          refine swp_seq ?_
          refine swp_region ?_
          refine s_pu (pu_move rfl) ?_
          refine s_pu (pu_move rfl) ?_
          refine s_ef (ef_invS rfl X.hd (X.parents (zs.foldl X.step s0) μ3 c (h0.trans hle) (by omega) (hf zs c hask.1 hcy (fun y hy => hask.2 y hy) (by omega))) rfl (by repeat (first | exact Split.nil | (apply Split.cons; (repeat (first | with_reducible exact Take.here | apply Take.there)))))) ?_
          rintro v81 L1 ⟨μ4, hμ4, hr, rfl⟩
          refine swl_app ?_
          refine s_pu (pu_assign rfl) ?_
          refine swl_sub _ (.cons (t := 0) rfl (.cons (t := 9) rfl (.cons (t := 10) rfl (.cons (t := 15) rfl (.cons (t := 16) rfl (.cons (t := 18) rfl .nil)))))) ?_
          refine swl_nil ?_
          refine then_n ?_
          refine swp_seq ?_
          refine swp_region ?_
          refine s_pu (pu_move rfl) ?_
          refine s_pu (pu_move rfl) ?_
          refine s_ef (ef_fn (add_spec w sp q X.n X.sv v81 (S, Q) (rowOf X.g c) (ro μ4) hn (Ints.row hr) hok2) rfl rfl (by repeat (first | exact Split.nil | (apply Split.cons; (repeat (first | with_reducible exact Take.here | apply Take.there)))))) ?_
          rintro v84 L1 ⟨rfl, hok3, rfl⟩
          refine swl_app ?_
          refine swl_sub _ (.cons (t := 0) rfl (.cons (t := 9) rfl (.cons (t := 10) rfl (.cons (t := 15) rfl (.cons (t := 16) rfl (.cons (t := 18) rfl .nil)))))) ?_
          refine swl_nil ?_
          refine then_n ?_
          refine swp_seq ?_
          have hI3 : WkI X.g.length c (addAll X.n (S, Q) (rowOf X.g c)) := hI2
          have hS3 : ∀ k, (addAll X.n (S, Q) (rowOf X.g c)).1 k = true ↔ S k = true ∨ (k : Int) ∈ rowOf X.g c := hS2
          have hd1 := goes_down hI hTS hTR
          have hd2 := goes_down hI hUS hUR
          clear hI2 hS2 hQ2
          generalize addAll X.n (S, Q) (rowOf X.g c) = st at *
          refine swp_region ?_
          refine s_pu (pu_move rfl) ?_
          refine s_pu (pu_len_row hr rfl) ?_
          refine s_pu (pu_move rfl) ?_
          refine swl_sub _ (.cons (t := 0) rfl (.cons (t := 9) rfl (.cons (t := 10) rfl (.cons (t := 15) rfl (.cons (t := 16) rfl (.cons (t := 85) rfl (.cons (t := 86) rfl (.cons (t := 87) rfl .nil)))))))) ?_
          refine swl_nil ?_
          refine then_n ?_
          refine swp_block ?_
          refine swp_ent (Split.ent' (K := [mset p1 X.n (partS T c []), mset p2 X.n (partS U c []), wkB w sp q X.sv, mset sp X.n st.1, Wq.cq q st.2 (seenN X.n st.1), X.A (X.step (zs.foldl X.step s0) c) μ4, ro μ4]) (by rw [partS_nil, partS_nil]; exact (by repeat (first | exact Split.nil | (apply Split.cons; (repeat (first | with_reducible exact Take.here | apply Take.there))))))) ?_
          refine swp_loop (ι := Nat) (fun i env L => env = [(0, X.sv), (9, .pointer (some ⟨p1, 0, none⟩)), (10, .pointer (some ⟨p2, 0, none⟩)), (15, .pointer (some ⟨w, 0, none⟩)), (16, .int .i64 (c : Nat)), (85, v81), (86, .int .i64 ((rowOf X.g c).length : Nat)), (87, .int .i64 (i : Nat))] ∧ L = [mset p1 X.n (partS T c ((rowOf X.g c).take i)), mset p2 X.n (partS U c ((rowOf X.g c).take i)), wkB w sp q X.sv, mset sp X.n st.1, Wq.cq q st.2 (seenN X.n st.1), X.A (X.step (zs.foldl X.step s0) c) μ4, ro μ4] ∧ i ≤ (rowOf X.g c).length) (fun i => (rowOf X.g c).length - i) 0 ⟨rfl, rfl, Nat.zero_le _⟩ ?_
          rintro i env L ⟨rfl, rfl, hi⟩
          refine swp_seq ?_
          refine swp_region ?_
          refine s_pu (pu_lss rfl rfl) ?_
          refine swl_sub _ (.cons (t := 0) rfl (.cons (t := 9) rfl (.cons (t := 10) rfl (.cons (t := 15) rfl (.cons (t := 16) rfl (.cons (t := 85) rfl (.cons (t := 86) rfl (.cons (t := 87) rfl (.cons (t := 88) rfl .nil))))))))) ?_
          refine swl_nil ?_
          refine then_n ?_
          refine swp_seq ?_
          refine swp_cond (b := _) rfl (fun h88 => ?_) (fun h88 => ?_)
          · skip   -- 88 T
            have h88' : i < (rowOf X.g c).length := by have := of_decide_eq_true h88; omega
            obtain ⟨p, hp⟩ : ∃ p, (rowOf X.g c)[i]? = some p := ⟨_, List.getElem?_eq_getElem h88'⟩
            obtain ⟨pb, po, pc, hpv, hpc⟩ := hr.at_ hp
            have hpr := hrow p (List.mem_of_getElem? hp)
            have htk : (rowOf X.g c).take (i + 1) = (rowOf X.g c).take i ++ [p] := by rw [List.take_add_one, hp]; rfl
            have hrs := hr.small
            refine swp_skip ?_
            refine then_n ?_
            refine swp_seq ?_
            refine swp_block ?_
            refine swp_seq ?_
            refine swp_region ?_
            refine s_pu (pu_indexAddr (po + i * 1) (congrArg some hpv) rfl (by omega) (by omega) (by rw [Int.toNat_natCast])) ?_
            refine s_rd (rd_ro rfl hpc) ?_
            refine s_pu (pu_assign rfl) ?_
            refine swl_sub _ (.cons (t := 0) rfl (.cons (t := 9) rfl (.cons (t := 10) rfl (.cons (t := 15) rfl (.cons (t := 16) rfl (.cons (t := 20) rfl (.cons (t := 85) rfl (.cons (t := 86) rfl (.cons (t := 87) rfl .nil))))))))) ?_
            refine swl_nil ?_
            refine then_n ?_
            refine swp_cut (fun env L => env = [(0, X.sv), (9, .pointer (some ⟨p1, 0, none⟩)), (10, .pointer (some ⟨p2, 0, none⟩)), (15, .pointer (some ⟨w, 0, none⟩)), (16, .int .i64 (c : Nat)), (20, .int .i64 p), (85, v81), (86, .int .i64 ((rowOf X.g c).length : Nat)), (87, .int .i64 (i : Nat))] ∧ L = [mset p1 X.n (partS T c ((rowOf X.g c).take (i + 1))), mset p2 X.n (partS U c ((rowOf X.g c).take i)), wkB w sp q X.sv, mset sp X.n st.1, Wq.cq q st.2 (seenN X.n st.1), X.A (X.step (zs.foldl X.step s0) c) μ4, ro μ4]) ?_ ?_
            · skip
              refine swp_seq ?_
              refine swp_region ?_
              refine s_pu (pu_move rfl) ?_
              refine s_pu (pu_move rfl) ?_
              refine s_ef (ef_fn (has_w p1 X.n (partS T c ((rowOf X.g c).take i)) c) rfl rfl (by repeat (first | exact Split.nil | (apply Split.cons; (repeat (first | with_reducible exact Take.here | apply Take.there)))))) ?_
              rintro v93 L1 ⟨rfl, rfl⟩
              refine swl_app ?_
              refine swl_sub _ (.cons (t := 0) rfl (.cons (t := 9) rfl (.cons (t := 10) rfl (.cons (t := 15) rfl (.cons (t := 16) rfl (.cons (t := 20) rfl (.cons (t := 85) rfl (.cons (t := 86) rfl (.cons (t := 87) rfl (.cons (t := 93) rfl .nil)))))))))) ?_
              refine swl_nil ?_
              refine then_n ?_
              refine swp_cond (b := _) rfl (fun h93 => ?_) (fun h93 => ?_)
              · skip   -- 93 T
                refine swp_region ?_
                refine s_pu (pu_move rfl) ?_
                refine s_pu (pu_move rfl) ?_
                refine s_ef (ef_fn (put_w p1 X.n (partS T c ((rowOf X.g c).take i)) p) rfl rfl (by repeat (first | exact Split.nil | (apply Split.cons; (repeat (first | with_reducible exact Take.here | apply Take.there)))))) ?_
                rintro v96 L1 ⟨rfl, rfl⟩
                refine swl_app ?_
                refine swl_sub _ (.cons (t := 0) rfl (.cons (t := 9) rfl (.cons (t := 10) rfl (.cons (t := 15) rfl (.cons (t := 16) rfl (.cons (t := 20) rfl (.cons (t := 85) rfl (.cons (t := 86) rfl (.cons (t := 87) rfl .nil))))))))) ?_
                rw [partS_put (by rw [partS_c] at h93; exact h93) (by omega), ← htk]
                refine swl_nil ?_
                exact then_n ⟨rfl, rfl⟩
              · skip   -- 93 F
                rw [show partS T c ((rowOf X.g c).take i) = partS T c ((rowOf X.g c).take (i + 1)) by rw [partS_c] at h93; rw [partS_no h93, partS_no h93]]
                refine swp_sub _ (.cons (t := 0) rfl (.cons (t := 9) rfl (.cons (t := 10) rfl (.cons (t := 15) rfl (.cons (t := 16) rfl (.cons (t := 20) rfl (.cons (t := 85) rfl (.cons (t := 86) rfl (.cons (t := 87) rfl .nil))))))))) ?_
                refine swp_skip ?_
                exact then_n ⟨rfl, rfl⟩
            rintro env L ⟨rfl, rfl⟩
            refine swp_seq ?_
            refine swp_region ?_
            refine s_pu (pu_move rfl) ?_
            refine s_pu (pu_move rfl) ?_
            refine s_ef (ef_fn (has_w p2 X.n (partS U c ((rowOf X.g c).take i)) c) rfl rfl (by repeat (first | exact Split.nil | (apply Split.cons; (repeat (first | with_reducible exact Take.here | apply Take.there)))))) ?_
            rintro v99 L1 ⟨rfl, rfl⟩
            refine swl_app ?_
            refine swl_sub _ (.cons (t := 0) rfl (.cons (t := 9) rfl (.cons (t := 10) rfl (.cons (t := 15) rfl (.cons (t := 16) rfl (.cons (t := 20) rfl (.cons (t := 85) rfl (.cons (t := 86) rfl (.cons (t := 87) rfl (.cons (t := 99) rfl .nil)))))))))) ?_
            refine swl_nil ?_
            refine then_n ?_
            refine swp_cond (b := _) rfl (fun h99 => ?_) (fun h99 => ?_)
            · skip   -- 99 T
              refine swp_region ?_
              refine s_pu (pu_move rfl) ?_
              refine s_pu (pu_move rfl) ?_
              refine s_ef (ef_fn (put_w p2 X.n (partS U c ((rowOf X.g c).take i)) p) rfl rfl (by repeat (first | exact Split.nil | (apply Split.cons; (repeat (first | with_reducible exact Take.here | apply Take.there)))))) ?_
              rintro v102 L1 ⟨rfl, rfl⟩
              refine swl_app ?_
              refine swl_sub _ (.cons (t := 0) rfl (.cons (t := 9) rfl (.cons (t := 10) rfl (.cons (t := 15) rfl (.cons (t := 16) rfl (.cons (t := 85) rfl (.cons (t := 86) rfl (.cons (t := 87) rfl .nil)))))))) ?_
              rw [partS_put (by rw [partS_c] at h99; exact h99) (by omega), ← htk]
              refine swl_nil ?_
              refine block_n ?_
              refine then_n ?_
              refine swp_region ?_
              refine s_pu (pu_add_as ((i + 1 : Nat) : Int) rfl rfl (by omega) (by omega) (by omega)) ?_
              refine s_pu (pu_move rfl) ?_
              refine swl_sub _ (.cons (t := 0) rfl (.cons (t := 9) rfl (.cons (t := 10) rfl (.cons (t := 15) rfl (.cons (t := 16) rfl (.cons (t := 85) rfl (.cons (t := 86) rfl (.cons (t := 87) rfl .nil)))))))) ?_
              refine swl_ent (Split.ent' (K := [mset p1 X.n (partS T c ((rowOf X.g c).take (i + 1))), mset p2 X.n (partS U c ((rowOf X.g c).take (i + 1))), wkB w sp q X.sv, mset sp X.n st.1, Wq.cq q st.2 (seenN X.n st.1), X.A (X.step (zs.foldl X.step s0) c) μ4, ro μ4]) (by repeat (first | exact Split.nil | (apply Split.cons; (repeat (first | with_reducible exact Take.here | apply Take.there)))))) ?_
              refine swl_nil ?_
              exact then_n ⟨i + 1, ⟨rfl, rfl, h88'⟩, by omega⟩
            · skip   -- 99 F
              rw [show partS U c ((rowOf X.g c).take i) = partS U c ((rowOf X.g c).take (i + 1)) by rw [partS_c] at h99; rw [partS_no h99, partS_no h99]]
              refine swp_skip ?_
              refine block_n ?_
              refine then_n ?_
              refine swp_region ?_
              refine s_pu (pu_add_as ((i + 1 : Nat) : Int) rfl rfl (by omega) (by omega) (by omega)) ?_
              refine s_pu (pu_move rfl) ?_
              refine swl_sub _ (.cons (t := 0) rfl (.cons (t := 9) rfl (.cons (t := 10) rfl (.cons (t := 15) rfl (.cons (t := 16) rfl (.cons (t := 85) rfl (.cons (t := 86) rfl (.cons (t := 87) rfl .nil)))))))) ?_
              refine swl_ent (Split.ent' (K := [mset p1 X.n (partS T c ((rowOf X.g c).take (i + 1))), mset p2 X.n (partS U c ((rowOf X.g c).take (i + 1))), wkB w sp q X.sv, mset sp X.n st.1, Wq.cq q st.2 (seenN X.n st.1), X.A (X.step (zs.foldl X.step s0) c) μ4, ro μ4]) (by repeat (first | exact Split.nil | (apply Split.cons; (repeat (first | with_reducible exact Take.here | apply Take.there)))))) ?_
              refine swl_nil ?_
              exact then_n ⟨i + 1, ⟨rfl, rfl, h88'⟩, by omega⟩
          · skip   -- 88 F
            have h88' := of_decide_eq_false h88
            obtain rfl : i = (rowOf X.g c).length := by omega
            rw [List.take_length, partS_row, partS_row]
            have hq3 := falls_len hok3.falls hok3.lt
            refine swp_exit ?_
            refine then_x ?_
            refine then_x ?_
            refine block_hit rfl ?_
            refine block_n ?_
            refine then_n ?_
            refine swp_region ?_
            refine s_pu (pu_move rfl) ?_
            first | refine s_pu (pu_nilCheck rfl) ?_ | refine s_pu (pu_nilCheck_fn rfl) ?_ | refine s_pu (pu_nilCheck_if rfl) ?_
            first | refine s_pu (pu_fieldAddr0 rfl) ?_ | refine s_pu (pu_fieldAddr rfl) ?_
            refine s_rd (rd_load rfl rfl) ?_
            refine s_ef (ef_fn (pop_any q (seenN X.n st.1) st.2 (by omega)) rfl rfl (by repeat (first | exact Split.nil | (apply Split.cons; (repeat (first | with_reducible exact Take.here | apply Take.there)))))) ?_
            rintro v76 L1 ⟨rfl, rfl⟩
            refine swl_app ?_
            refine s_pu (pu_move rfl) ?_
            first | refine s_pu (pu_extractL rfl) ?_ | refine s_pu (pu_extract rfl rfl) ?_
            first | refine s_pu (pu_extractL rfl) ?_ | refine s_pu (pu_extract rfl rfl) ?_
            refine s_pu (pu_assign rfl) ?_
            refine s_pu (pu_assign rfl) ?_
            refine swl_sub _ (.cons (t := 0) rfl (.cons (t := 9) rfl (.cons (t := 10) rfl (.cons (t := 15) rfl (.cons (t := 16) rfl (.cons (t := 17) rfl .nil)))))) ?_
            refine swl_ent (Split.ent' (K := [wkB w sp q X.sv, mset sp X.n st.1, Wq.cq q st.2.tail (seenN X.n st.1), mset p1 X.n (stepUp X.g c T), mset p2 X.n (stepUp X.g c U), X.A (X.step (zs.foldl X.step s0) c) μ4, ro μ4]) (by repeat (first | exact Split.nil | (apply Split.cons; (repeat (first | with_reducible exact Take.here | apply Take.there)))))) ?_
            refine swl_nil ?_
            have sub : ∀ V : Nat → Bool, (∀ j, V j = true → S j = true) → ∀ j, stepUp X.g c V j = true → st.1 j = true := fun V hV j hj => by
              rw [hS3]
              unfold stepUp at hj
              rw [Bool.or_eq_true, Bool.and_eq_true] at hj
              exact hj.elim (fun h => .inl (hV j h)) (fun h => .inr (of_decide_eq_true h.2))
            refine then_n ⟨(c, μ4, zs ++ [c], st, stepUp X.g c T, stepUp X.g c U), ⟨rfl, ?_, hI3, by show c ≤ _; omega, fun y hy => ?_, hok3, ⟨?_, fun y hy => ?_⟩, hle.trans hμ4, sub T hTS, sub U hUS, hd1, hd2⟩, hcm⟩
            · rw [List.foldl_append]; rfl
            · rcases List.mem_append.1 hy with hy | hy
              · have := hym y hy; show c ≤ y; omega
              · rw [List.mem_singleton.1 hy]; exact Nat.le_refl _
            · rw [List.nodup_append]
              exact ⟨hask.1, by simp, fun x hx y hy e => by rw [List.mem_singleton.1 hy] at e; subst e; exact hcy hx⟩
            · rcases List.mem_append.1 hy with hy | hy
              · exact hask.2 y hy
              · rw [List.mem_singleton.1 hy]; show c < X.g.length; omega
        · skip   -- 70 F
          obtain rfl : Q = [] := by
            cases Q with
            | nil => rfl
            | cons c Q => cases h70
          rw [goes_end hI hTS hTR, goes_end hI hUS hUR]
          refine swp_exit ?_
          refine then_x ?_
          refine then_x ?_
          refine block_hit rfl ?_
          refine then_n ?_
          refine swp_seq ?_
          refine swp_region ?_
          refine s_pu (pu_move rfl) ?_
          refine s_pu (pu_move rfl) ?_
          refine s_ef (ef_fn (only_less X p1 p2 xs ys) rfl rfl (by repeat (first | exact Split.nil | (apply Split.cons; (repeat (first | with_reducible exact Take.here | apply Take.there)))))) ?_
          rintro v106 L1 ⟨rfl, rfl⟩
          refine swl_app ?_
          refine swl_sub _ (.cons (t := 9) rfl .nil) ?_
          refine swl_nil ?_
          refine then_n ?_
          refine swp_seq ?_
          refine swp_region ?_
          refine s_pu (pu_move rfl) ?_
          refine s_ef (ef_fn (list_m μ3 p1 X.n (onlyS X.g xs ys) (hT.le hle)) rfl rfl (by repeat (first | exact Split.nil | (apply Split.cons; (repeat (first | with_reducible exact Take.here | apply Take.there)))))) ?_
          rintro v108 L1 rfl
          refine swl_app ?_
          refine s_pu (pu_assign rfl) ?_
          refine s_pu (pu_assign rfl) ?_
          refine swl_sub _ (.cons (t := 6) rfl (.cons (t := 7) rfl .nil)) ?_
          refine swl_nil ?_
          refine then_n ?_
          refine swp_ret ?_
          refine done_retE [own 3 1 v108 (onlyA X.g xs ys).length ((onlyA X.g xs ys).flatMap (icsk .i64)), X.A (zs.foldl X.step s0) μ3, ro μ3] (.tmp rfl (.tmp rfl .nil)) ⟨_, zs, μ3, hask, hle, by rw [he]; rfl, rfl⟩ ?_
          rw [onlyA, if_pos he]
          exact Split.ent' (by repeat (first | exact Split.nil | (apply Split.cons; (repeat (first | with_reducible exact Take.here | apply Take.there)))))
end SX
namespace SX
open Go Go.Proofs

theorem elsTo_ext {n : Nat} {S T : Nat → Bool} (h : ∀ k, k < n → S k = T k) : elsTo n S = elsTo n T := by
  unfold elsTo
  rw [List.filter_congr fun k hk => h k (List.mem_range.1 hk)]
theorem down_any {g : List (List Int)} (hg : Good g) {xs : List Int} (hx : ∀ p ∈ xs, 0 ≤ p ∧ p < g.length) (j : Nat) : decide (j ∈ downL g xs) = anyUp g g.length xs j := by
  rw [Bool.eq_iff_iff, decide_eq_true_eq, (downL_spec hg xs).2.2, anyUp_iff hg (fun p hp => (hx p hp).2)]
  constructor
  · rintro ⟨q, hq, hr⟩; exact ⟨q, (inRng_mem.1 hq).1, hr⟩
  · rintro ⟨q, hq, hr⟩; exact ⟨q, inRng_mem.2 ⟨hq, hx _ hq⟩, hr⟩
theorem reachA_any {g : List (List Int)} (hg : Good g) (xs : List Int) : reachA g xs = if reachE g xs = 0 then elsTo g.length (anyUp g g.length xs) else [] := by
  unfold reachA
  by_cases h : reachE g xs = 0
  · rw [if_pos h, if_pos h]
    exact elsTo_ext fun k _ => down_any hg (askedE_in (l := xs) h (by simp)) k
  · rw [if_neg h, if_neg h]
end SX
namespace SX
open Go Go.Proofs

theorem own_full {e n b : Nat} {xs : List Value} {L : List Assn} (h : xs.length = n) (hm : n ≤ maxLen) : Ent (blk b e xs :: L) (own e 1 (.slice (some ⟨b, 0, none⟩) n n) n xs :: L) := by
  have := own_close (e := e) (n := 1) (b := b) (l := n) (cap := n) (xs := xs) (ex := []) (L := L) (by omega) (by simp) (Nat.le_refl _) hm
  rwa [List.append_nil] at this
def noAsk : Nat → Nat := fun _ => 0
end SX
namespace SX
open Go Go.Proofs

theorem ncs_of (a : List Int) : a.flatMap (icsk .i64) = ncs a.length (fun j => a.getD j 0) := by
  apply List.ext_getElem?
  intro j
  by_cases h : j < a.length
  · rw [icells_get' (List.getElem?_eq_getElem h), ncs_get _ h, List.getD_eq_getElem?_getD, List.getElem?_eq_getElem h]; rfl
  · rw [List.getElem?_eq_none (by rw [icells_len']; omega), List.getElem?_eq_none (by rw [ncs_len]; omega)]
theorem ncs_cut (k : Nat) (a : List Int) : (cutG k a).flatMap (icsk .i64) = ncs a.length (fun j => if j < k then a.getD j 0 else 1024) := by
  unfold cutG ncs
  rw [List.flatMap_map]
  generalize List.range a.length = l
  induction l with
  | nil => rfl
  | cons x l ih => rw [List.flatMap_cons, List.map_cons, ih]; rfl
theorem ncs_ext {n : Nat} {c d : Nat → Int} (h : ∀ j, j < n → c j = d j) : ncs n c = ncs n d := by
  unfold ncs
  apply List.map_congr_left
  intro j hj
  rw [h j (List.mem_range.1 hj)]
/-- the source of a graph -/
def gSrc (p : Nat) (vg vn : Value) (G : List (Value × List Int)) (μ : PH) (hG : Graph μ vg G) (hg : Good (nums G)) (hn : G.length ≤ 65536) (hr : ∀ x ∈ G, x.2.length ≤ 17592186043904) : Src where
  t := 25
  v := .pointer (some ⟨p, 0, none⟩)
  d := 0
  hd := Nat.zero_le _
  g := nums G
  hg := hg
  hn := by rw [List.length_map]; exact hn
  σ := Nat → Nat
  A := fun a _ => gA p vg vn G.length a
  mono := fun _ => Ent.refl _
  ok := fun a c => a c ≤ 4611686018427387904
  step := ask1
  μ0 := μ
  commits := fun a _ => by
    have h := gcommits_spec p G.length vg vn a hG.1.sl
    refine InvS.of ?_
    rwa [show (nums G).length = G.length from List.length_map _]
  parents := fun a μ' c h hc ha => InvS.of (gparents_spec μ' p vg vn a G c (hG.le h) (by rwa [show (nums G).length = G.length from List.length_map _] at hc) ha hr)
theorem ask_no {c : Nat} : ∀ {ys : List Nat} {a : Nat → Nat}, c ∉ ys → (ys.foldl ask1 a) c = a c
  | [], _, _ => rfl
  | y :: ys, a, h => by
    rw [List.foldl_cons, ask_no (fun hc => h (List.mem_cons_of_mem _ hc))]
    unfold ask1
    rw [if_neg (fun e => h (by rw [e]; exact List.mem_cons_self ..))]
theorem ask_le {m c : Nat} : ∀ {ys : List Nat} {a : Nat → Nat}, ys.Nodup → a c ≤ m → (ys.foldl ask1 a) c ≤ m + 1
  | [], _, _, h => by show _ ≤ _; exact Nat.le_succ_of_le h
  | y :: ys, a, hn, h => by
    rw [List.foldl_cons]
    obtain ⟨h1, h2⟩ := List.nodup_cons.1 hn
    by_cases e : c = y
    · subst e
      rw [ask_no h1]
      unfold ask1
      rw [if_pos rfl]; omega
    · exact ask_le h2 (by unfold ask1; rw [if_neg e]; exact h)
section
variable {p : Nat} {vg vn : Value} {G : List (Value × List Int)} {μ : PH} {hG : Graph μ vg G} {hg : Good (nums G)} {hn : G.length ≤ 65536} {hr : ∀ x ∈ G, x.2.length ≤ 17592186043904}
theorem gSrc_fine {a : Nat → Nat} (ha : ∀ c, a c ≤ 4611686018427387904) : (gSrc p vg vn G μ hG hg hn hr).fine a := fun ys c _ hc _ _ => by
  show (ys.foldl ask1 a) c ≤ _
  rw [ask_no hc]; exact ha c
theorem gSrc_gen {gs : List Int} (hv : Row μ vn 1 gs.length (gs.flatMap (icsk .i64))) : GenOf (gSrc p vg vn G μ hG hg hn hr) (genOf gs) where
  ask := fun a μ' c h => show InvS Tryd.prog 0 25 (.pointer (some ⟨p, 0, none⟩)) "Gen" [.int .i64 c] [gA p vg vn G.length a, ro μ'] _ from InvS.of (ggen_spec μ' p G.length vg vn a gs c (hv.le h))
end
/-- generations never bar the way -/
theorem gens_may {g : List (List Int)} {gs : List Int} (h : moreG [] g = some gs) (k : Nat) {a b : Nat} (hr : Reach g a b) (hne : a ≠ b) : mayG (genOf (cutG k gs) (a : Nat)) (genOf (cutG k gs) (b : Nat)) = true := by
  have hg := gens_good h
  have hl := gens_len h
  have hlt := hr.lt hg hne
  have e : ∀ x : Nat, x < g.length → ∃ z, (cutG k gs)[x]? = some z ∧ genOf (cutG k gs) (x : Nat) = z := fun x hx => by
    have hx' : x < (cutG k gs).length := by rw [cutG_len, hl]; exact hx
    refine ⟨_, List.getElem?_eq_getElem hx', ?_⟩
    unfold genOf
    rw [if_pos (by omega), Int.toNat_natCast, List.getD_eq_getElem?_getD, List.getElem?_eq_getElem hx']; rfl
  obtain ⟨x, hx, ex⟩ := e a hlt.2
  obtain ⟨y, hy, ey⟩ := e b (by omega)
  rw [ex, ey]
  exact reach_may h hr hne hx hy
set_option maxHeartbeats 2000000 in
theorem good_spec (μ : PH) (v : Value) (G : List (Value × List Int)) (mo : Nat) (kn : Int) (hG : Graph μ v G) (hn : G.length ≤ 17592186043904) (hmo : mo ≤ 1048576) (hrows : ∀ x ∈ G, x.2.length ≤ 17592186043904) :
    Spec Tryd.prog 14 [v, .int .i64 (mo : Nat), .int .i64 kn] [ro μ] (fun r L => ∃ μ', Le μ μ' ∧
      ((¬ chkFrom 0 (nums (G.take (min G.length mo))) = 0 ∧ r = .pointer none ∧ L = [ro μ'])
       ∨ ∃ p v' vn gs, r = .pointer (some ⟨p, 0, none⟩) ∧ Graph μ' v' (G.take (min G.length mo)) ∧ moreG [] (nums (G.take (min G.length mo))) = some gs ∧ Row μ' vn 1 (cutG kn.toNat gs).length ((cutG kn.toNat gs).flatMap (icsk .i64)) ∧ L = [gA p v' vn (min G.length mo) noAsk, ro μ'])) := by
  refine Spec.of 42 Tryd.func14 rfl rfl rfl ?_
  refine swp_seq ?_
  refine swp_region ?_
  refine s_pu (pu_assign rfl) ?_
  refine swl_sub _ (.cons (t := 0) rfl (.cons (t := 1) rfl (.cons (t := 2) rfl .nil))) ?_
  refine swl_nil ?_
  refine then_n ?_
  refine swp_seq ?_
  obtain ⟨v', hG1, hsl⟩ := graph_take (P := Tryd.prog) (tG := 22) hG (min G.length mo) (Nat.min_le_left _ _)
  have hmn : (min (G.length : Int) (mo : Int)) = ((min G.length mo : Nat) : Int) := by omega
  have hrows1 : ∀ x ∈ G.take (min G.length mo), x.2.length ≤ 17592186043904 := fun x hx => hrows x (List.mem_of_mem_take hx)
  have hlen1 : (G.take (min G.length mo)).length = min G.length mo := by rw [List.length_take]; omega
  have hml : min G.length mo ≤ 1048576 := by omega
  generalize hm : min G.length mo = m at *
  generalize G.take m = Gm at *
  refine swp_region ?_
  refine s_pu (pu_move rfl) ?_
  refine s_pu (pu_move rfl) ?_
  refine s_pu (pu_len_row hG.1 rfl) ?_
  refine s_pu (pu_move rfl) ?_
  refine s_pu (pu_min2 rfl rfl) ?_
  rw [hmn]
  refine s_pu (hsl _ _ _ .i64 _ rfl rfl rfl) ?_
  refine s_pu (pu_assign rfl) ?_
  refine swl_sub _ (.cons (t := 0) rfl (.cons (t := 2) rfl .nil)) ?_
  refine swl_nil ?_
  refine then_n ?_
  refine swp_seq ?_
  refine swp_seq ?_
  refine swp_region ?_
  refine s_pu (pu_move rfl) ?_
  refine s_ef (ef_fn (rcheck_spec μ v' Gm hG1 (by omega)) rfl rfl (by repeat (first | exact Split.nil | (apply Split.cons; (repeat (first | with_reducible exact Take.here | apply Take.there)))))) ?_
  rintro v17 L1 ⟨rfl, rfl⟩
  refine swl_app ?_
  refine s_pu (pu_neq rfl rfl) ?_
  refine swl_sub _ (.cons (t := 0) rfl (.cons (t := 2) rfl (.cons (t := 18) rfl .nil))) ?_
  refine swl_nil ?_
  refine then_n ?_
  refine swp_cond (b := _) rfl (fun h18 => ?_) (fun h18 => ?_)
  · skip   -- 18 T
    have hc : ¬ chkFrom 0 (nums Gm) = 0 := by simpa using h18
    refine swp_seq ?_
    refine swp_region ?_
    refine s_pu (pu_assign rfl) ?_
    refine swl_sub _ (.cons (t := 6) rfl .nil) ?_
    refine swl_nil ?_
    refine then_n ?_
    refine swp_ret ?_
    refine then_r ?_
    exact done_ret [ro μ] (.tmp rfl .nil) ⟨μ, Le.refl _, .inl ⟨hc, rfl, rfl⟩⟩ (by repeat (first | exact Split.nil | (apply Split.cons; (repeat (first | with_reducible exact Take.here | apply Take.there)))))
  · skip   -- 18 F
    have hc : chkFrom 0 (nums Gm) = 0 := by simpa using h18
    obtain ⟨a, ha⟩ : ∃ a, moreG [] (nums Gm) = some a := by
      have hs : (moreG [] (nums Gm)).isSome = true ↔ chkFrom 0 (nums Gm) = 0 := moreG_chk (all := [])
      exact Option.isSome_iff_exists.1 (hs.2 hc)
    have hal : a.length = m := by rw [gens_len ha, List.length_map, hlen1]
    have hyes := moreL_some ha
    refine swp_skip ?_
    refine then_n ?_
    refine swp_seq ?_
    refine swp_region ?_
    refine s_pu (pu_move rfl) ?_
    refine s_ef (ef_fn (rall_spec μ v' Gm hG1 (by omega) hrows1) rfl rfl (by repeat (first | exact Split.nil | (apply Split.cons; (repeat (first | with_reducible exact Take.here | apply Take.there)))))) ?_
    rintro v21 L1 ⟨lv, rfl, rfl⟩
    refine swl_app ?_
    rw [hyes.1, hyes.2, show a.drop ([] : List Int).length = a from rfl]
    refine swl_fact (fun m h => own_shape .here h) fun hs1 => ?_
    have hform := shape_len hs1
    refine s_pu (pu_move rfl) ?_
    first | refine s_pu (pu_extractL rfl) ?_ | refine s_pu (pu_extract rfl rfl) ?_
    first | refine s_pu (pu_extractL rfl) ?_ | refine s_pu (pu_extract rfl rfl) ?_
    refine s_pu (pu_assign rfl) ?_
    refine s_pu (pu_assign rfl) ?_
    refine swl_sub _ (.cons (t := 0) rfl (.cons (t := 2) rfl (.cons (t := 7) rfl .nil))) ?_
    refine swl_nil ?_
    refine then_n ?_
    refine swp_seq ?_
    refine swp_seq ?_
    refine swp_region ?_
    refine s_pu (pu_move rfl) ?_
    refine s_pu (pu_max2 rfl rfl) ?_
    rw [show max kn 0 = ((kn.toNat : Nat) : Int) by omega]
    generalize kn.toNat = kk at *
    refine s_pu (pu_assign rfl) ?_
    refine swl_sub _ (.cons (t := 0) rfl (.cons (t := 7) rfl (.cons (t := 9) rfl .nil))) ?_
    refine swl_nil ?_
    refine then_n ?_
    refine swp_block ?_
    rw [ncs_of, ncs_ext (d := fun j => if kk ≤ j ∧ j < kk then 1024 else a.getD j 0) (fun j _ => (if_neg (by omega)).symm)]
    refine swp_sub _ (.cons (t := 0) rfl (.cons (t := 7) rfl (.cons (t := 9) rfl .nil))) ?_
    refine swp_loop (ι := Nat) (fun i env L => env = [(0, v'), (7, lv), (9, .int .i64 (i : Nat))] ∧ L = [own 3 1 lv a.length (ncs a.length (fun j => if kk ≤ j ∧ j < i then 1024 else a.getD j 0)), ro μ] ∧ kk ≤ i) (fun i => a.length - i) kk ⟨rfl, rfl, Nat.le_refl _⟩ ?_
    rintro i env L ⟨rfl, rfl, hi⟩
    refine swp_seq ?_
    refine swp_seq ?_
    refine swp_region ?_
    refine s_pu (pu_move rfl) ?_
    refine s_pu (pu_move rfl) ?_
    refine s_pu (pu_len_own hform rfl) ?_
    refine s_pu (pu_lss rfl rfl) ?_
    refine swl_sub _ (.cons (t := 0) rfl (.cons (t := 7) rfl (.cons (t := 9) rfl (.cons (t := 29) rfl .nil)))) ?_
    refine swl_nil ?_
    refine then_n ?_
    refine swp_cond (b := _) rfl (fun h29 => ?_) (fun h29 => ?_)
    · skip   -- 29 T
      have h29' : i < a.length := by have := of_decide_eq_true h29; omega
      refine swp_own (fun h0 l0 _ => by omega) (fun b1 c1 ex1 hv1 w1 w2 w3 w4 => ?_)
      subst hv1
      refine swp_skip ?_
      refine then_n ?_
      refine swp_seq ?_
      refine swp_block ?_
      refine swp_region ?_
      refine s_pu (pu_move rfl) ?_
      refine s_pu (pu_move rfl) ?_
      refine s_pu (pu_indexAddr i rfl rfl (by omega) (by omega) (by omega)) ?_
      refine s_ef0 (ef_storeP rfl rfl rfl (by rw [List.length_append, ncs_len]; omega)) ?_
      refine swl_sub _ (.cons (t := 0) rfl (.cons (t := 7) rfl (.cons (t := 9) rfl .nil))) ?_
      rw [List.set_append_left (h := by rw [ncs_len]; exact h29'), ncs_set (d := fun j => if kk ≤ j ∧ j < i + 1 then 1024 else a.getD j 0) (fun j => by
        by_cases e : j = i
        · subst e; rw [if_pos rfl, if_pos ⟨hi, Nat.lt_succ_self _⟩]
        · rw [if_neg e]
          by_cases h : kk ≤ j ∧ j < i
          · rw [if_pos h, if_pos (by omega)]
          · rw [if_neg h, if_neg (by omega)])]
      refine swl_ent (own_close (n := 1) (by rw [ncs_len]; omega) w4 w1 w2) ?_
      refine swl_nil ?_
      refine block_n ?_
      refine then_n ?_
      refine swp_region ?_
      refine s_pu (pu_move rfl) ?_
      refine s_pu (pu_add_as ((i + 1 : Nat) : Int) rfl rfl (by omega) (by omega) (by omega)) ?_
      refine s_pu (pu_assign rfl) ?_
      refine swl_sub _ (.cons (t := 0) rfl (.cons (t := 7) rfl (.cons (t := 9) rfl .nil))) ?_
      refine swl_nil ?_
      exact then_n ⟨i + 1, ⟨rfl, rfl, by omega⟩, by omega⟩
    · skip   -- 29 F
      have h29' := of_decide_eq_false h29
      rw [ncs_ext (d := fun j => if j < kk then a.getD j 0 else 1024) (fun j hj => by
        by_cases h : j < kk
        · rw [if_pos h, if_neg (by omega)]
        · rw [if_neg h, if_pos (by omega)]), ← ncs_cut]
      have hcl := cutG_len kk a
      rw [← hcl]
      refine swp_share_own (μ := μ) (by repeat (first | exact Split.nil | (apply Split.cons; (repeat (first | with_reducible exact Take.here | apply Take.there))))) fun μ4 h4 r4 => ?_
      obtain ⟨A9, c9, rfl⟩ := r4.sl
      obtain ⟨A8, c8, rfl⟩ := hG1.1.sl
      refine swp_exit ?_
      refine then_x ?_
      refine then_x ?_
      refine block_hit rfl ?_
      refine then_n ?_
      refine swp_seq ?_
      refine swp_region ?_
      refine s_pu (pu_move rfl) ?_
      refine s_pu (pu_move rfl) ?_
      refine s_pu (pu_move rfl) ?_
      refine s_pu (pu_len_row hG1.1 rfl) ?_
      refine s_ef (ef_make1 m rfl rfl (by rw [hlen1]) (by omega) (by simp only [maxLen]; omega)) ?_
      rintro b39
      skip
      refine s_pu (pu_bld (qs := [(0, _), (1, _), (2, _)]) rfl) ?_
      refine s_ef (ef_box rfl rfl) ?_
      intro b41
      refine s_pu (pu_assign rfl) ?_
      refine swl_sub _ (.cons (t := 6) rfl .nil) ?_
      rw [show List.replicate m (Value.int .i64 0) = askV m noAsk from ncs_zero m]
      refine swl_ent (Split.ent' (K := [blk b39 3 (askV m noAsk), blk b41 33 [.slice A8 Gm.length c8, .slice A9 (cutG kk a).length c9, .slice (some ⟨b39, 0, none⟩) m m], ro μ4]) (by repeat (first | exact Split.nil | (apply Split.cons; (repeat (first | with_reducible exact Take.here | apply Take.there)))))) ?_
      refine swl_ent (own_full (by unfold askV; rw [ncs_len]) (by simp only [maxLen]; omega)) ?_
      refine swl_nil ?_
      refine then_n ?_
      refine swp_ret ?_
      refine done_retE [gA b41 (.slice A8 Gm.length c8) (.slice A9 (cutG kk a).length c9) m noAsk, ro μ4] (.tmp rfl .nil) ⟨μ4, h4, .inr ⟨b41, _, _, a, rfl, hG1.le h4, ha, r4, rfl⟩⟩ ?_
      exact (Ent.perm (.swap _ _ _)).trans gA_close
end SX
namespace SX
open Go Go.Proofs

/-- a good source -/
structure GS (μ : PH) (vg vn : Value) (G : List (Value × List Int)) (gs : List Int) (k : Nat) : Prop where
  hG : Graph μ vg G
  ha : moreG [] (nums G) = some gs
  hv : Row μ vn 1 (cutG k gs).length ((cutG k gs).flatMap (icsk .i64))
  hn : G.length ≤ 65536
  hr : ∀ x ∈ G, x.2.length ≤ 17592186043904
theorem GS.le {μ μ' : PH} {vg vn : Value} {G : List (Value × List Int)} {gs : List Int} {k : Nat} (h : GS μ vg vn G gs k) (l : Le μ μ') : GS μ' vg vn G gs k := ⟨h.hG.le l, h.ha, h.hv.le l, h.hn, h.hr⟩
abbrev gV (p : Nat) : Value := .iface 25 (.pointer (some ⟨p, 0, none⟩))
section
variable {μ : PH} {vg vn : Value} {G : List (Value × List Int)} {gs : List Int} {k : Nat}
theorem GS.good (h : GS μ vg vn G gs k) : Good (nums G) := gens_good h.ha
theorem g_isanc (h : GS μ vg vn G gs k) (p : Nat) (a0 : Nat → Nat) (h0 : ∀ c, a0 c ≤ 4611686018427387904) (a b : Int) :
    Spec Tryd.prog 15 [gV p, .int .i64 a, .int .i64 b] [gA p vg vn G.length a0, ro μ] (fun r L => ∃ ys μ', askedOk (nums G).length (genOf (cutG k gs)) a ys ∧ Le μ μ' ∧ r = .tuple #[.bool (isAnc (nums G) a b), .int .i64 (askedE (nums G).length [[a, b]])] ∧ L = [gA p vg vn G.length (ys.foldl ask1 a0), ro μ']) :=
  isanc_spec (gSrc p vg vn G μ h.hG h.good h.hn h.hr) _ (gSrc_gen h.hv) a0 μ a b (Le.refl _) (gSrc_fine h0) (fun _ _ hr hne => gens_may h.ha k hr hne)
theorem g_only (h : GS μ vg vn G gs k) (p : Nat) (a0 : Nat → Nat) (h0 : ∀ c, a0 c ≤ 4611686018427387904) (v u : Value) (xs ys : List Int) (hT : RowAt μ 0 0 tabV) (hv : Row μ v 1 xs.length (xs.flatMap (icsk .i64))) (hu : Row μ u 1 ys.length (ys.flatMap (icsk .i64)))
    (hl : xs.length ≤ 1048576) (hl2 : ys.length ≤ 1048576) :
    Spec Tryd.prog 27 [gV p, v, u] [gA p vg vn G.length a0, ro μ] (fun r L => ∃ lv zs μ', askedIn (nums G).length zs ∧ Le μ μ' ∧ r = .tuple #[lv, .int .i64 (onlyE (nums G) xs ys)] ∧ L = [own 3 1 lv (onlyA (nums G) xs ys).length ((onlyA (nums G) xs ys).flatMap (icsk .i64)), gA p vg vn G.length (zs.foldl ask1 a0), ro μ']) :=
  only_spec (gSrc p vg vn G μ h.hG h.good h.hn h.hr) a0 μ v u xs ys hT hv hu hl hl2 (Le.refl _) (gSrc_fine h0)
theorem g_reach (h : GS μ vg vn G gs k) (p : Nat) (a0 : Nat → Nat) (h0 : ∀ c, a0 c ≤ 4611686018427387904) (v : Value) (xs : List Int) (hT : RowAt μ 0 0 tabV) (hv : Row μ v 1 xs.length (xs.flatMap (icsk .i64))) (hl : xs.length ≤ 1048576) :
    Spec Tryd.prog 24 [gV p, v] [gA p vg vn G.length a0, ro μ] (fun r L => ∃ lv zs μ', askedIn (nums G).length zs ∧ Le μ μ' ∧ r = .tuple #[lv, .int .i64 (reachE (nums G) xs)] ∧ L = [own 3 1 lv (reachA (nums G) xs).length ((reachA (nums G) xs).flatMap (icsk .i64)), gA p vg vn G.length (zs.foldl ask1 a0), ro μ']) := by
  have hd := downL_spec h.good xs
  have s := reachable_spec (gSrc p vg vn G μ h.hG h.good h.hn h.hr) a0 μ v xs hT hv hl (Le.refl _) ((gSrc_fine h0).down xs)
  refine Spec.ent3 s fun r L ⟨lv, μ', h1, h2, h3⟩ => ⟨L, Ent.refl _, lv, if reachE (nums G) xs = 0 then downL (nums G) xs else [], μ', ?_, h1, h2, ?_⟩
  · split
    · exact ⟨falls_nodup hd.1, hd.2.1⟩
    · exact ⟨List.nodup_nil, fun y hy => by cases hy⟩
  · rw [h3]
    show [_, gA p vg vn G.length (if reachE (nums G) xs = 0 then (downL (nums G) xs).foldl ask1 a0 else a0), _] = _
    split <;> rfl
end
theorem walks_all : chkFrom 0 [[], [0], [0], [1, 2], [2, 1]] = 0 ∧ isAnc [[], [0], [0], [1, 2], [2, 1]] 1 4 = true ∧ isAnc [[], [0], [0], [1, 2], [2, 1]] 3 4 = false
    ∧ askedE 5 [[1, 4]] = 0 ∧ askedE 5 [[3, 4]] = 0 ∧ onlyE [[], [0], [0], [1, 2], [2, 1]] [3] [1] = 0 ∧ onlyA [[], [0], [0], [1, 2], [2, 1]] [3] [1] = [2, 3] := by decide +kernel
abbrev LawOk (μ : PH) (r : Value) (L : List Assn) : Prop := r = .bool true ∧ ∃ μ' R, Le μ μ' ∧ L = ro μ' :: R
set_option maxHeartbeats 2000000 in
theorem walks_spec (μ : PH) (hT : RowAt μ 0 0 tabV) : Spec Tryd.prog 13 [] [ro μ] (fun r L => r = .bool true ∧ ∃ μ', Le μ μ' ∧ L = [ro μ']) := by
  refine Spec.of 56 Tryd.func13 rfl rfl rfl ?_
  refine swp_seq ?_
  refine swp_region ?_
  refine s_pu (pu_assign rfl) ?_
  refine swl_sub _ .nil ?_
  refine swl_nil ?_
  refine then_n ?_
  refine swp_seq ?_
  refine swp_region ?_
  refine s_ef (ef_bldS (qs := [(0, _)]) rfl rfl rfl) ?_
  intro b8
  refine s_ef (ef_bldS (qs := [(0, _)]) rfl rfl rfl) ?_
  intro b9
  refine s_ef (ef_bldS (qs := [(0, _), (1, _)]) rfl rfl rfl) ?_
  intro b10
  refine s_ef (ef_bldS (qs := [(0, _), (1, _)]) rfl rfl rfl) ?_
  intro b11
  refine s_ef (ef_bldS (qs := [(0, _), (1, _), (2, _), (3, _), (4, _)]) rfl rfl rfl) ?_
  intro b12
  refine swl_share (b := b8) (μ := μ) (by repeat (first | exact Split.nil | (apply Split.cons; (repeat (first | with_reducible exact Take.here | apply Take.there))))) fun μ1 h1 k1 => ?_
  refine swl_share (b := b9) (μ := μ1) (by repeat (first | exact Split.nil | (apply Split.cons; (repeat (first | with_reducible exact Take.here | apply Take.there))))) fun μ2 h2 k2 => ?_
  refine swl_share (b := b10) (μ := μ2) (by repeat (first | exact Split.nil | (apply Split.cons; (repeat (first | with_reducible exact Take.here | apply Take.there))))) fun μ3 h3 k3 => ?_
  refine swl_share (b := b11) (μ := μ3) (by repeat (first | exact Split.nil | (apply Split.cons; (repeat (first | with_reducible exact Take.here | apply Take.there))))) fun μ4 h4 k4 => ?_
  refine swl_share (b := b12) (μ := μ4) (by repeat (first | exact Split.nil | (apply Split.cons; (repeat (first | with_reducible exact Take.here | apply Take.there))))) fun μ5 h5 k5 => ?_
  have r1 := (row_of_blk (n := 1) (l := 1) (cs := [0].flatMap (icsk .i64)) k1 (by rfl) (by decide)).le (h2.trans (h3.trans (h4.trans h5)))
  have r2 := (row_of_blk (n := 1) (l := 1) (cs := [0].flatMap (icsk .i64)) k2 (by rfl) (by decide)).le (h3.trans (h4.trans h5))
  have r3 := (row_of_blk (n := 1) (l := 2) (cs := [1, 2].flatMap (icsk .i64)) k3 (by rfl) (by decide)).le (h4.trans h5)
  have r4 := (row_of_blk (n := 1) (l := 2) (cs := [2, 1].flatMap (icsk .i64)) k4 (by rfl) (by decide)).le h5
  have hG : Graph μ5 (.slice (some ⟨b12, 0, none⟩) 5 5) [(.slice none 0 0, []), (.slice (some ⟨b8, 0, none⟩) 1 1, [0]), (.slice (some ⟨b9, 0, none⟩) 1 1, [0]), (.slice (some ⟨b10, 0, none⟩) 2 2, [1, 2]), (.slice (some ⟨b11, 0, none⟩) 2 2, [2, 1])] := by
    refine ⟨row_of_blk k5 (by rfl) (by decide), fun x hx => ?_⟩
    rcases List.mem_cons.1 hx with rfl | hx
    · exact Row.nil _ _
    rcases List.mem_cons.1 hx with rfl | hx
    · exact r1
    rcases List.mem_cons.1 hx with rfl | hx
    · exact r2
    rcases List.mem_cons.1 hx with rfl | hx
    · exact r3
    obtain rfl := List.mem_singleton.1 hx
    exact r4
  have hrs : ∀ x ∈ [((.slice none 0 0 : Value), ([] : List Int)), (.slice (some ⟨b8, 0, none⟩) 1 1, [0]), (.slice (some ⟨b9, 0, none⟩) 1 1, [0]), (.slice (some ⟨b10, 0, none⟩) 2 2, [1, 2]), (.slice (some ⟨b11, 0, none⟩) 2 2, [2, 1])], x.2.length ≤ 17592186043904 := fun x hx => by simp at hx; rcases hx with rfl | rfl | rfl | rfl | rfl <;> simp
  have hle := h1.trans (h2.trans (h3.trans (h4.trans h5)))
  obtain ⟨G0, hG0, hnum, hr0, hlen⟩ : ∃ G0, Graph μ5 (.slice (some ⟨b12, 0, none⟩) 5 5) G0 ∧ nums G0 = [[], [0], [0], [1, 2], [2, 1]] ∧ (∀ x ∈ G0, x.2.length ≤ 17592186043904) ∧ G0.length = 5 := ⟨_, hG, rfl, hrs, rfl⟩
  clear hG hrs
  refine s_ef (ef_fn (good_spec μ5 _ G0 9 9 hG0 (by omega) (by decide) hr0) rfl rfl (by repeat (first | exact Split.nil | (apply Split.cons; (repeat (first | with_reducible exact Take.here | apply Take.there)))))) ?_
  rintro v13 L1 ⟨μ6, h6, hgd⟩
  rw [show min G0.length 9 = G0.length by omega, List.take_length] at hgd
  obtain ⟨p, v', vn, gs, rfl, hG', ha, hv, rfl⟩ : ∃ p v' vn gs, v13 = .pointer (some ⟨p, 0, none⟩) ∧ Graph μ6 v' G0 ∧ moreG [] (nums G0) = some gs ∧ Row μ6 vn 1 (cutG 9 gs).length ((cutG 9 gs).flatMap (icsk .i64)) ∧ L1 = [gA p v' vn G0.length noAsk, ro μ6] := by
    rcases hgd with ⟨h, _⟩ | h
    · rw [hnum] at h; exact absurd walks_all.1 h
    · exact h
  refine swl_app ?_
  have hS : GS μ6 v' vn G0 gs 9 := ⟨hG', ha, hv, by omega, hr0⟩
  have hl5 : (nums G0).length = 5 := by rw [List.length_map, hlen]
  obtain ⟨w1, w2, w3, w4, w5, w6, w7⟩ := walks_all
  refine s_pu (pu_assign rfl) ?_
  refine swl_sub _ (.cons (t := 1) rfl .nil) ?_
  refine swl_nil ?_
  refine then_n ?_
  refine swp_seq ?_
  refine swp_region ?_
  refine s_pu (pu_move rfl) ?_
  refine s_pu (pu_iface rfl) ?_
  refine s_ef (ef_fn (g_isanc hS p noAsk (fun _ => Nat.zero_le _) 1 4) rfl rfl (by repeat (first | exact Split.nil | (apply Split.cons; (repeat (first | with_reducible exact Take.here | apply Take.there)))))) ?_
  rintro v17 L1 ⟨ys1, μ7, hy1, h7, rfl, rfl⟩
  refine swl_app ?_
  rw [hl5, hnum, w2, w4]
  have b1 : ∀ c, (ys1.foldl ask1 noAsk) c ≤ 0 + 1 := fun c => ask_le hy1.1 (Nat.le_refl _)
  refine s_pu (pu_move rfl) ?_
  first | refine s_pu (pu_extractL rfl) ?_ | refine s_pu (pu_extract rfl rfl) ?_
  first | refine s_pu (pu_extractL rfl) ?_ | refine s_pu (pu_extract rfl rfl) ?_
  refine s_pu (pu_assign rfl) ?_
  refine s_pu (pu_assign rfl) ?_
  refine swl_sub _ (.cons (t := 1) rfl (.cons (t := 2) rfl (.cons (t := 3) rfl .nil))) ?_
  refine swl_nil ?_
  refine then_n ?_
  refine swp_seq ?_
  refine swp_region ?_
  refine s_pu (pu_move rfl) ?_
  refine s_pu (pu_iface rfl) ?_
  refine s_ef (ef_fn (g_isanc (hS.le h7) p (ys1.foldl ask1 noAsk) (fun c => by have := b1 c; omega) 3 4) rfl rfl (by repeat (first | exact Split.nil | (apply Split.cons; (repeat (first | with_reducible exact Take.here | apply Take.there)))))) ?_
  rintro v23 L1 ⟨ys2, μ8, hy2, h8, rfl, rfl⟩
  refine swl_app ?_
  rw [hl5, hnum, w3, w5]
  have b2 : ∀ c, (ys2.foldl ask1 (ys1.foldl ask1 noAsk)) c ≤ 1 + 1 := fun c => ask_le hy2.1 (b1 c)
  refine s_pu (pu_move rfl) ?_
  first | refine s_pu (pu_extractL rfl) ?_ | refine s_pu (pu_extract rfl rfl) ?_
  first | refine s_pu (pu_extractL rfl) ?_ | refine s_pu (pu_extract rfl rfl) ?_
  refine s_pu (pu_assign rfl) ?_
  refine s_pu (pu_assign rfl) ?_
  refine swl_sub _ (.cons (t := 1) rfl (.cons (t := 2) rfl (.cons (t := 3) rfl (.cons (t := 4) rfl (.cons (t := 5) rfl .nil))))) ?_
  refine swl_nil ?_
  refine then_n ?_
  refine swp_seq ?_
  refine swp_region ?_
  refine s_pu (pu_move rfl) ?_
  refine s_pu (pu_iface rfl) ?_
  refine s_ef (ef_bldS (qs := [(0, _)]) rfl rfl rfl) ?_
  intro b29
  refine s_ef (ef_bldS (qs := [(0, _)]) rfl rfl rfl) ?_
  intro b30
  refine swl_share (b := b29) (μ := μ8) (by repeat (first | exact Split.nil | (apply Split.cons; (repeat (first | with_reducible exact Take.here | apply Take.there))))) fun μ9 h9 k9 => ?_
  refine swl_share (b := b30) (μ := μ9) (by repeat (first | exact Split.nil | (apply Split.cons; (repeat (first | with_reducible exact Take.here | apply Take.there))))) fun μ10 h10 k10 => ?_
  have q1 := (row_of_blk (n := 1) (l := 1) (cs := [3].flatMap (icsk .i64)) k9 (by rfl) (by decide)).le h10
  have q2 := row_of_blk (n := 1) (l := 1) (cs := [1].flatMap (icsk .i64)) k10 (by rfl) (by decide)
  have hle2 := hle.trans (h6.trans (h7.trans (h8.trans (h9.trans h10))))
  refine s_ef (ef_fn (g_only ((hS.le h7).le (h8.trans (h9.trans h10))) p (ys2.foldl ask1 (ys1.foldl ask1 noAsk)) (fun c => by have := b2 c; omega) _ _ [3] [1] (hT.le hle2) q1 q2 (by simp) (by simp)) rfl rfl (by repeat (first | exact Split.nil | (apply Split.cons; (repeat (first | with_reducible exact Take.here | apply Take.there)))))) ?_
  rintro v31 L1 ⟨lv, zs, μ11, hz, h11, rfl, rfl⟩
  refine swl_app ?_
  rw [hnum, w6, w7]
  refine swl_fact (fun m h => own_shape .here h) fun hs => ?_
  refine s_pu (pu_move rfl) ?_
  first | refine s_pu (pu_extractL rfl) ?_ | refine s_pu (pu_extract rfl rfl) ?_
  first | refine s_pu (pu_extractL rfl) ?_ | refine s_pu (pu_extract rfl rfl) ?_
  refine s_pu (pu_assign rfl) ?_
  refine s_pu (pu_assign rfl) ?_
  refine swl_sub _ (.cons (t := 2) rfl (.cons (t := 3) rfl (.cons (t := 4) rfl (.cons (t := 5) rfl (.cons (t := 6) rfl (.cons (t := 7) rfl .nil)))))) ?_
  refine swl_nil ?_
  refine then_n ?_
  refine swp_seq ?_
  refine swp_region ?_
  refine s_pu (pu_move rfl) ?_
  refine s_pu (pu_move rfl) ?_
  refine s_on rfl rfl ?_
  refine s_pu (pu_move rfl) ?_
  refine s_on rfl rfl ?_
  refine s_pu (pu_not rfl) ?_
  first | refine s_pu (pu_pick_t rfl rfl) ?_ | refine s_pu (pu_pick_f rfl rfl) ?_
  refine s_pu (pu_move rfl) ?_
  refine s_on rfl rfl ?_
  refine s_pu (pu_move rfl) ?_
  refine s_on rfl rfl ?_
  refine s_pu (pu_eql rfl rfl) ?_
  first | refine s_pu (pu_pick_t rfl rfl) ?_ | refine s_pu (pu_pick_f rfl rfl) ?_
  refine s_pu (pu_move rfl) ?_
  refine s_on rfl rfl ?_
  refine s_pu (pu_move rfl) ?_
  refine s_on rfl rfl ?_
  refine s_pu (pu_eql rfl rfl) ?_
  first | refine s_pu (pu_pick_t rfl rfl) ?_ | refine s_pu (pu_pick_f rfl rfl) ?_
  refine s_pu (pu_move rfl) ?_
  refine s_on rfl rfl ?_
  refine s_pu (pu_move rfl) ?_
  refine s_on rfl rfl ?_
  refine s_pu (pu_eql rfl rfl) ?_
  first | refine s_pu (pu_pick_t rfl rfl) ?_ | refine s_pu (pu_pick_f rfl rfl) ?_
  refine s_pu (pu_move rfl) ?_
  refine s_on rfl rfl ?_
  refine s_pu (pu_move rfl) ?_
  refine s_on rfl rfl ?_
  refine s_ef (ef_bldS (qs := [(0, _), (1, _)]) rfl rfl rfl) ?_
  intro b53
  refine s_on rfl rfl ?_
  refine s_ef (ef_fn (samelist_i lv _ ([2, 3] : List Int) ([2, 3] : List Int) _ (ints_own hs (by repeat (first | with_reducible exact Take.here | apply Take.there))) (ints_blk (cs := [2, 3]) rfl (by show 2 ≤ _; decide))) rfl rfl Split.all) ?_
  rintro v54 L1 ⟨rfl, rfl⟩
  refine swl_app ?_
  first | refine s_pu (pu_pick_t rfl rfl) ?_ | refine s_pu (pu_pick_f rfl rfl) ?_
  refine s_pu (pu_assign rfl) ?_
  refine swl_sub _ (.cons (t := 0) rfl .nil) ?_
  refine swl_nil ?_
  refine then_n ?_
  refine swp_ret ?_
  exact done_ret [ro μ11] (.tmp rfl .nil) ⟨rfl, μ11, hle2.trans h11, rfl⟩ (by repeat (first | exact Split.nil | (apply Split.cons; (repeat (first | with_reducible exact Take.here | apply Take.there)))))
end SX
namespace SX
open Go Go.Proofs

def GoodIs (G : List (Value × List Int)) (mo : Nat) (kn : Int) (μ' : PH) (o : Option Addr) (A : Assn) : Prop :=
  (o = none ∧ ¬ chkFrom 0 (nums (G.take (min G.length mo))) = 0) ∨ ∃ p v' vn gs, o = some ⟨p, 0, none⟩ ∧ GS μ' v' vn (G.take (min G.length mo)) gs kn.toNat ∧ A = gA p v' vn (G.take (min G.length mo)).length noAsk
theorem good2_spec (μ : PH) (v : Value) (G : List (Value × List Int)) (mo : Nat) (kn : Int) (hG : Graph μ v G) (hn : G.length ≤ 17592186043904) (hmo : mo ≤ 65536) (hrows : ∀ x ∈ G, x.2.length ≤ 17592186043904) :
    Spec Tryd.prog 14 [v, .int .i64 (mo : Nat), .int .i64 kn] [ro μ] (fun r L => ∃ μ' o A, Le μ μ' ∧ r = .pointer o ∧ L = [A, ro μ'] ∧ GoodIs G mo kn μ' o A) := by
  refine Spec.ent3 (good_spec μ v G mo kn hG hn (by omega) hrows) fun r L ⟨μ', h1, h2⟩ => ?_
  have hl : (G.take (min G.length mo)).length = min G.length mo := by rw [List.length_take]; omega
  rcases h2 with ⟨k1, rfl, rfl⟩ | ⟨p, v', vn, gs, rfl, k1, k2, k3, rfl⟩
  · exact ⟨_, star_close (K := []) (L := [ro μ']), μ', none, star [], h1, rfl, rfl, .inl ⟨rfl, k1⟩⟩
  · exact ⟨_, Ent.refl _, μ', _, _, h1, rfl, rfl, .inr ⟨p, v', vn, gs, rfl, ⟨k1, k2, k3, by omega, fun x hx => hrows x (List.mem_of_mem_take hx)⟩, by rw [hl]⟩⟩
end SX
namespace SX
open Go Go.Proofs

end SX
namespace SX
open Go Go.Proofs

theorem reachA_len (g : List (List Int)) (xs : List Int) : (reachA g xs).length ≤ g.length := by
  unfold reachA
  by_cases h : reachE g xs = 0
  · rw [if_pos h]; exact elsTo_len _ _
  · rw [if_neg h]; exact Nat.zero_le _
end SX
namespace SX
open Go Go.Proofs

theorem asked_le {n m : Nat} {zs : List Nat} {a : Nat → Nat} (h : askedIn n zs) (ha : ∀ c, a c ≤ m) : ∀ c, (zs.foldl ask1 a) c ≤ m + 1 := fun c => ask_le h.1 (ha c)
theorem elsTo_mem {n : Nat} {S : Nat → Bool} {c : Int} : c ∈ elsTo n S ↔ ∃ k : Nat, c = k ∧ k < n ∧ S k = true := by
  unfold elsTo numsI
  rw [List.mem_map]
  constructor
  · rintro ⟨k, hk, rfl⟩
    rw [List.mem_filter, List.mem_range] at hk
    exact ⟨k, rfl, hk⟩
  · rintro ⟨k, rfl, h⟩
    exact ⟨k, by rw [List.mem_filter, List.mem_range]; exact h, rfl⟩
end SX
namespace SX
open Go Go.Proofs

theorem anyUp_one {g : List (List Int)} (hg : Good g) {b : Nat} (hb : b < g.length) (j : Nat) : anyUp g g.length [(b : Int)] j = up g b j := by
  rw [Bool.eq_iff_iff, anyUp_iff hg (fun p hp => by obtain rfl := List.mem_singleton.1 hp; omega), up_iff hg]
  constructor
  · rintro ⟨q, hq, hr⟩
    obtain rfl : q = b := by have := List.mem_singleton.1 hq; omega
    exact hr
  · exact fun h => ⟨b, List.mem_singleton.2 rfl, h⟩
theorem reachE_one {g : List (List Int)} {b : Nat} (hb : b < g.length) : reachE g [(b : Int)] = 0 := by
  unfold reachE askedE inR
  simp [hb]
theorem reachA_one {g : List (List Int)} (hg : Good g) {b : Nat} (hb : b < g.length) {j : Nat} (hj : j < g.length) : decide ((j : Int) ∈ reachA g [(b : Int)]) = up g b j := by
  rw [reachA_any hg, if_pos (reachE_one hb), Bool.eq_iff_iff, decide_eq_true_eq, elsTo_mem]
  constructor
  · rintro ⟨k, e, _, h⟩
    obtain rfl : k = j := by omega
    rwa [anyUp_one hg hb] at h
  · exact fun h => ⟨j, rfl, hj, by rwa [anyUp_one hg hb]⟩
theorem reachA_le {g : List (List Int)} (hg : Good g) {b : Nat} (hb : b < g.length) {c : Int} (hc : c ∈ reachA g [(b : Int)]) : 0 ≤ c ∧ c ≤ b := by
  rw [reachA_any hg, if_pos (reachE_one hb)] at hc
  obtain ⟨k, rfl, _, h⟩ := elsTo_mem.1 hc
  rw [anyUp_one hg hb] at h
  have := up_le hg h
  omega
theorem askedE_pair {n a b : Nat} (ha : a < n) (hb : b < n) : askedE n [[(a : Int), (b : Int)]] = 0 := by
  unfold askedE inR
  simp [ha, hb]
theorem isAnc_in {g : List (List Int)} {a b : Nat} (ha : a < g.length) (hb : b < g.length) : isAnc g (a : Nat) (b : Nat) = up g b a := by
  unfold isAnc
  rw [askedE_pair ha hb, Int.toNat_natCast, Int.toNat_natCast]; rfl
/-- a bound for how often it was asked -/
@[irreducible] def cA : Nat := 18000000000000
@[irreducible] def cB : Nat := 260000000000000
theorem cA_eq : cA = 18000000000000 := by unfold cA; rfl
theorem cB_eq : cB = 260000000000000 := by unfold cB; rfl
def wpK (b a i : Nat) : Nat := b * cB + a * cA + i
theorem wpK_s {x b a i : Nat} (h : x ≤ wpK b a i + 1) : x ≤ wpK b a (i + 1) := by
  unfold wpK at *
  generalize b * cB + a * cA = z at *
  omega
theorem wpK_i {x b a i : Nat} (h : x ≤ wpK b a (i + 2) + 1) : x ≤ wpK b a (i + 1 + 2) := by
  unfold wpK at *
  generalize b * cB + a * cA = z at *
  omega
theorem wpK_a {x b a l : Nat} (h : x ≤ wpK b a (l + 2)) (hl : l ≤ 17592186043904) : x ≤ wpK b (a + 1) 1 := by
  unfold wpK at *
  rw [Nat.succ_mul]
  have := cA_eq
  generalize b * cB = z at *
  generalize a * cA = y at *
  omega
theorem wpK_b {x b a : Nat} (h : x ≤ wpK b a 1) (ha : a ≤ 14) : x ≤ wpK (b + 1) 0 0 := by
  unfold wpK at *
  rw [Nat.succ_mul]
  have h1 := cA_eq
  have h2 := cB_eq
  have h3 : a * cA ≤ 14 * cA := Nat.mul_le_mul_right _ ha
  generalize b * cB = z at *
  generalize a * cA = y at *
  omega
theorem wpK_top {x b a i : Nat} (h : x ≤ wpK b a i) (hb : b ≤ 14) (ha : a ≤ 14) (hi : i ≤ 17592186043910) : x ≤ 4000000000000000 := by
  unfold wpK at *
  have h1 := cA_eq
  have h2 := cB_eq
  have h3 : a * cA ≤ 14 * cA := Nat.mul_le_mul_right _ ha
  have h4 : b * cB ≤ 14 * cB := Nat.mul_le_mul_right _ hb
  generalize b * cB = z at *
  generalize a * cA = y at *
  omega
set_option maxHeartbeats 4000000 in
theorem walkpairs_spec (μ : PH) (v : Value) (G : List (Value × List Int)) (kn : Int) (hT : RowAt μ 0 0 tabV) (hG : Graph μ v G) (hn : G.length ≤ 17592186043904) (hrows : ∀ x ∈ G, x.2.length ≤ 17592186043904) (hkn : 0 ≤ kn ∧ kn ≤ 255) :
    Spec Tryd.prog 6 [v, .int .u8 kn] [ro μ] (LawOk μ) := by
  refine Spec.of 130 Tryd.func6 rfl rfl rfl ?_
  refine swp_seq ?_
  refine swp_region ?_
  refine s_pu (pu_assign rfl) ?_
  refine swl_sub _ (.cons (t := 0) rfl (.cons (t := 1) rfl .nil)) ?_
  refine swl_nil ?_
  refine then_n ?_
  refine swp_seq ?_
  refine swp_seq ?_
  refine swp_region ?_
  refine s_ef (ef_fn (walks_spec μ hT) rfl rfl (by repeat (first | exact Split.nil | (apply Split.cons; (repeat (first | with_reducible exact Take.here | apply Take.there)))))) ?_
  rintro v20 L1 ⟨rfl, μ1, h1, rfl⟩
  refine swl_app ?_
  refine s_pu (pu_not rfl) ?_
  refine swl_sub _ (.cons (t := 0) rfl (.cons (t := 1) rfl (.cons (t := 21) rfl .nil))) ?_
  refine swl_nil ?_
  refine then_n ?_
  refine swp_cond (b := _) rfl (fun h21 => by cases h21) (fun h21 => ?_)
  refine swp_skip ?_
  refine then_n ?_
  refine swp_seq ?_
  refine swp_region ?_
  refine s_pu (pu_move rfl) ?_
  refine s_pu (pu_move rfl) ?_
  refine s_pu (pu_conv_i64 rfl (by omega) (by omega)) ?_
  refine s_ef (ef_fn (good2_spec μ1 v G 14 kn (hG.le h1) hn (by decide) hrows) rfl rfl (by repeat (first | exact Split.nil | (apply Split.cons; (repeat (first | with_reducible exact Take.here | apply Take.there)))))) ?_
  rintro v25 L1 ⟨μ2, o, A0, h2, rfl, rfl, hgd⟩
  refine swl_app ?_
  refine s_pu (pu_assign rfl) ?_
  refine swl_sub _ (.cons (t := 5) rfl .nil) ?_
  refine swl_nil ?_
  refine then_n ?_
  refine swp_seq ?_
  refine swp_seq ?_
  refine swp_region ?_
  refine s_pu (pu_move rfl) ?_
  refine s_pu (pu_ptr_eq_nil rfl rfl) ?_
  refine swl_sub _ (.cons (t := 5) rfl (.cons (t := 27) rfl .nil)) ?_
  refine swl_nil ?_
  refine then_n ?_
  refine swp_cond (b := _) rfl (fun h27 => ?_) (fun h27 => ?_)
  · skip   -- 27 T
    refine swp_seq ?_
    refine swp_region ?_
    refine s_pu (pu_assign rfl) ?_
    refine swl_sub _ (.cons (t := 4) rfl .nil) ?_
    refine swl_nil ?_
    refine then_n ?_
    refine swp_ret ?_
    refine then_r ?_
    exact done_ret [ro μ2] (.tmp rfl .nil) ⟨rfl, μ2, [], h1.trans h2, rfl⟩ (by repeat (first | exact Split.nil | (apply Split.cons; (repeat (first | with_reducible exact Take.here | apply Take.there)))))
  · skip   -- 27 F
    obtain ⟨p, v', vn, gs, rfl, hS, hm, rfl⟩ : ∃ p v' vn gs, o = some ⟨p, 0, none⟩ ∧ GS μ2 v' vn (G.take (min G.length 14)) gs kn.toNat ∧ (G.take (min G.length 14)).length ≤ 14 ∧ A0 = gA p v' vn (G.take (min G.length 14)).length noAsk := by
      rcases hgd with ⟨rfl, _⟩ | ⟨p, v', vn, gs, k1, k2, k3⟩
      · cases h27
      · exact ⟨p, v', vn, gs, k1, k2, by rw [List.length_take]; omega, k3⟩
    have hrm : ∀ x ∈ G.take (min G.length 14), x.2.length ≤ 17592186043904 := fun x hx => hrows x (List.mem_of_mem_take hx)
    generalize G.take (min G.length 14) = Gm at *
    have hT2 := (hT.le h1).le h2
    have hln : (nums Gm).length = Gm.length := List.length_map _
    have hgood := hS.good
    refine swp_ent (Split.ent' (K := [gA p v' vn Gm.length noAsk, ro μ2]) (by repeat (first | exact Split.nil | (apply Split.cons; (repeat (first | with_reducible exact Take.here | apply Take.there)))))) ?_
    refine swp_ex fun va0 => ?_
    simp only [List.cons_append, List.nil_append]
    refine swp_skip ?_
    refine then_n ?_
    refine swp_seq ?_
    refine swp_seq ?_
    refine swp_region ?_
    refine s_pu (pu_move rfl) ?_
    first | refine s_pu (pu_nilCheck rfl) ?_ | refine s_pu (pu_nilCheck_fn rfl) ?_ | refine s_pu (pu_nilCheck_if rfl) ?_
    first | refine s_pu (pu_fieldAddr0 rfl) ?_ | refine s_pu (pu_fieldAddr rfl) ?_
    refine s_rd (rd_load rfl rfl) ?_
    refine s_pu (pu_len_row hS.hG.1 rfl) ?_
    refine s_pu (pu_move rfl) ?_
    refine swl_sub _ (.cons (t := 5) rfl (.cons (t := 32) rfl (.cons (t := 33) rfl .nil))) ?_
    refine swl_nil ?_
    refine then_n ?_
    refine swp_block ?_
    refine swp_ent gA_close ?_
    refine swp_sub _ (.cons (t := 5) rfl (.cons (t := 32) rfl (.cons (t := 33) rfl .nil))) ?_
    refine swp_loop (ι := Nat × PH × (Nat → Nat)) (fun k env L => env = [(5, .pointer (some ⟨p, 0, none⟩)), (32, .int .i64 (Gm.length : Nat)), (33, .int .i64 (k.1 : Nat))] ∧ L = [gA p v' vn Gm.length k.2.2, ro k.2.1] ∧ k.1 ≤ Gm.length ∧ Le μ2 k.2.1 ∧ ∀ c, k.2.2 c ≤ wpK k.1 0 0) (fun k => Gm.length - k.1) (0, μ2, noAsk) ⟨rfl, rfl, Nat.zero_le _, Le.refl _, fun c => Nat.zero_le _⟩ ?_
    rintro ⟨b, μb, ab⟩ env L ⟨rfl, rfl, hb, hlb, hab⟩
    dsimp only at hb hlb hab ⊢
    refine swp_seq ?_
    refine swp_region ?_
    refine s_pu (pu_lss rfl rfl) ?_
    refine swl_sub _ (.cons (t := 5) rfl (.cons (t := 32) rfl (.cons (t := 33) rfl (.cons (t := 34) rfl .nil)))) ?_
    refine swl_nil ?_
    refine then_n ?_
    refine swp_seq ?_
    refine swp_cond (b := _) rfl (fun h34 => ?_) (fun h34 => ?_)
    · skip   -- 34 T
      have h34' : b < Gm.length := by have := of_decide_eq_true h34; omega
      have hbn : b < (nums Gm).length := by omega
      refine swp_skip ?_
      refine then_n ?_
      refine swp_seq ?_
      refine swp_block ?_
      refine swp_seq ?_
      refine swp_region ?_
      refine s_pu (pu_move rfl) ?_
      refine s_pu (pu_assign rfl) ?_
      refine swl_sub _ (.cons (t := 5) rfl (.cons (t := 6) rfl (.cons (t := 32) rfl (.cons (t := 33) rfl .nil)))) ?_
      refine swl_nil ?_
      refine then_n ?_
      refine swp_seq ?_
      refine swp_region ?_
      refine s_pu (pu_move rfl) ?_
      refine s_pu (pu_iface rfl) ?_
      refine s_pu (pu_move rfl) ?_
      refine s_ef (ef_bldS (qs := [(0, _)]) rfl rfl rfl) ?_
      intro b40
      refine swl_share (b := b40) (μ := μb) (by repeat (first | exact Split.nil | (apply Split.cons; (repeat (first | with_reducible exact Take.here | apply Take.there))))) fun μ3 h3 k3 => ?_
      have r3 := row_of_blk (n := 1) (l := 1) (cs := [(b : Int)].flatMap (icsk .i64)) k3 (by rfl) (by decide)
      have l23 := hlb.trans h3
      refine s_ef (ef_fn (g_reach (hS.le l23) p ab (fun c => by have := wpK_top (hab c) (by omega) (by omega) (by omega); omega) _ [(b : Int)] (hT2.le l23) r3 (by simp)) rfl rfl (by repeat (first | exact Split.nil | (apply Split.cons; (repeat (first | with_reducible exact Take.here | apply Take.there)))))) ?_
      rintro v41 L1 ⟨la, z1, μ4, hz1, h4, rfl, rfl⟩
      refine swl_app ?_
      rw [reachE_one hbn]
      have a1 := asked_le hz1 hab
      generalize z1.foldl ask1 ab = A1 at *
      have hRle : ∀ c ∈ reachA (nums Gm) [(b : Int)], 0 ≤ c ∧ c ≤ b := fun c hc => reachA_le hgood hbn hc
      have hRup : ∀ j, j < Gm.length → decide ((j : Int) ∈ reachA (nums Gm) [(b : Int)]) = up (nums Gm) b j := fun j hj => reachA_one hgood hbn (by omega)
      have hRl := reachA_len (nums Gm) [(b : Int)]
      generalize reachA (nums Gm) [(b : Int)] = RA at *
      refine swl_share_own (v := la) (μ := μ4) (by repeat (first | exact Split.nil | (apply Split.cons; (repeat (first | with_reducible exact Take.here | apply Take.there))))) fun μ5 h5 ra => ?_
      have l25 := l23.trans (h4.trans h5)
      refine s_pu (pu_move rfl) ?_
      first | refine s_pu (pu_extractL rfl) ?_ | refine s_pu (pu_extract rfl rfl) ?_
      first | refine s_pu (pu_extractL rfl) ?_ | refine s_pu (pu_extract rfl rfl) ?_
      refine s_pu (pu_assign rfl) ?_
      refine s_pu (pu_assign rfl) ?_
      refine swl_sub _ (.cons (t := 5) rfl (.cons (t := 6) rfl (.cons (t := 7) rfl (.cons (t := 8) rfl (.cons (t := 32) rfl (.cons (t := 33) rfl .nil)))))) ?_
      refine swl_nil ?_
      refine then_n ?_
      refine swp_seq ?_
      refine swp_seq ?_
      refine swp_region ?_
      refine s_pu (pu_move rfl) ?_
      refine s_pu (pu_neq rfl rfl) ?_
      refine swl_sub _ (.cons (t := 5) rfl (.cons (t := 6) rfl (.cons (t := 7) rfl (.cons (t := 32) rfl (.cons (t := 33) rfl (.cons (t := 45) rfl .nil)))))) ?_
      refine swl_nil ?_
      refine then_n ?_
      refine swp_cond (b := _) rfl (fun h45 => by exfalso; simp at h45) (fun h45 => ?_)
      refine swp_skip ?_
      refine then_n ?_
      refine swp_seq ?_
      refine swp_ent (Split.ent' (K := [gA p v' vn Gm.length A1, ro μ5]) (by repeat (first | exact Split.nil | (apply Split.cons; (repeat (first | with_reducible exact Take.here | apply Take.there)))))) ?_
      refine swp_ex fun va1 => ?_
      simp only [List.cons_append, List.nil_append]
      refine swp_region ?_
      refine s_pu (pu_move rfl) ?_
      first | refine s_pu (pu_nilCheck rfl) ?_ | refine s_pu (pu_nilCheck_fn rfl) ?_ | refine s_pu (pu_nilCheck_if rfl) ?_
      first | refine s_pu (pu_fieldAddr0 rfl) ?_ | refine s_pu (pu_fieldAddr rfl) ?_
      refine s_rd (rd_load rfl rfl) ?_
      refine s_pu (pu_len_row hS.hG.1 rfl) ?_
      refine s_ef (ef_make1 Gm.length rfl rfl rfl (by omega) (by simp only [maxLen]; omega)) ?_
      rintro b51
      skip
      refine s_pu (pu_assign rfl) ?_
      refine swl_sub _ (.cons (t := 5) rfl (.cons (t := 6) rfl (.cons (t := 7) rfl (.cons (t := 9) rfl (.cons (t := 32) rfl (.cons (t := 33) rfl .nil)))))) ?_
      refine swl_nil ?_
      refine then_n ?_
      refine swp_seq ?_
      refine swp_seq ?_
      refine swp_region ?_
      refine s_pu (pu_move rfl) ?_
      refine s_pu (pu_len_row ra rfl) ?_
      refine s_pu (pu_move rfl) ?_
      refine swl_sub _ (.cons (t := 5) rfl (.cons (t := 6) rfl (.cons (t := 9) rfl (.cons (t := 32) rfl (.cons (t := 33) rfl (.cons (t := 52) rfl (.cons (t := 53) rfl (.cons (t := 54) rfl .nil)))))))) ?_
      refine swl_nil ?_
      refine then_n ?_
      refine swp_block ?_
      refine swp_ent (Split.ent' (K := [blk p 33 [v', vn, va1], own 3 1 va1 Gm.length (askV Gm.length A1), blk b51 4 (List.replicate Gm.length (.bool false)), ro μ5]) (by repeat (first | exact Split.nil | (apply Split.cons; (repeat (first | with_reducible exact Take.here | apply Take.there)))))) ?_
      refine swp_ent gA_close ?_
      rw [show List.replicate Gm.length (Value.bool false) = rbs Gm.length (fun j => decide ((j : Int) ∈ RA.take 0)) by rw [rbs_false]; exact rbs_ext fun j _ => by simp]
      refine swp_sub _ (.cons (t := 5) rfl (.cons (t := 6) rfl (.cons (t := 9) rfl (.cons (t := 32) rfl (.cons (t := 33) rfl (.cons (t := 52) rfl (.cons (t := 53) rfl (.cons (t := 54) rfl .nil)))))))) ?_
      refine swp_loop (ι := Nat) (fun i env L => env = [(5, .pointer (some ⟨p, 0, none⟩)), (6, .int .i64 (b : Nat)), (9, .slice (some ⟨b51, 0, none⟩) Gm.length Gm.length), (32, .int .i64 (Gm.length : Nat)), (33, .int .i64 (b : Nat)), (52, la), (53, .int .i64 (RA.length : Nat)), (54, .int .i64 (i : Nat))] ∧ L = [gA p v' vn Gm.length A1, blk b51 4 (rbs Gm.length (fun j => decide ((j : Int) ∈ RA.take i))), ro μ5] ∧ i ≤ RA.length) (fun i => RA.length - i) 0 ⟨rfl, rfl, Nat.zero_le _⟩ ?_
      rintro i env L ⟨rfl, rfl, hi⟩
      refine swp_seq ?_
      refine swp_region ?_
      refine s_pu (pu_lss rfl rfl) ?_
      refine swl_sub _ (.cons (t := 5) rfl (.cons (t := 6) rfl (.cons (t := 9) rfl (.cons (t := 32) rfl (.cons (t := 33) rfl (.cons (t := 52) rfl (.cons (t := 53) rfl (.cons (t := 54) rfl (.cons (t := 55) rfl .nil))))))))) ?_
      refine swl_nil ?_
      refine then_n ?_
      refine swp_seq ?_
      refine swp_cond (b := _) rfl (fun h55 => ?_) (fun h55 => ?_)
      · skip   -- 55 T
        have h55' : i < RA.length := by have := of_decide_eq_true h55; omega
        obtain ⟨c, hc⟩ : ∃ c, RA[i]? = some c := ⟨_, List.getElem?_eq_getElem h55'⟩
        obtain ⟨pb, po, pc, hpv, hpc⟩ := ra.at_ hc
        have hcr := hRle c (List.mem_of_getElem? hc)
        obtain ⟨c, rfl⟩ : ∃ k : Nat, c = k := ⟨c.toNat, by omega⟩
        refine swp_skip ?_
        refine then_n ?_
        refine swp_seq ?_
        refine swp_block ?_
        refine swp_seq ?_
        refine swp_region ?_
        refine s_pu (pu_indexAddr (po + i * 1) (congrArg some hpv) rfl (by omega) (by omega) (by rw [Int.toNat_natCast])) ?_
        refine s_rd (rd_ro rfl hpc) ?_
        refine s_pu (pu_assign rfl) ?_
        refine swl_sub _ (.cons (t := 5) rfl (.cons (t := 6) rfl (.cons (t := 9) rfl (.cons (t := 11) rfl (.cons (t := 32) rfl (.cons (t := 33) rfl (.cons (t := 52) rfl (.cons (t := 53) rfl (.cons (t := 54) rfl .nil))))))))) ?_
        refine swl_nil ?_
        refine then_n ?_
        refine swp_seq ?_
        refine swp_seq ?_
        refine swp_region ?_
        refine s_pu (pu_move rfl) ?_
        refine s_pu (pu_lss rfl rfl) ?_
        refine s_pu (pu_move rfl) ?_
        refine s_split 60 rfl (fun h60 => by exfalso; have := of_decide_eq_true h60; omega) (fun h60 => ?_)
        refine s_on rfl rfl ?_
        refine s_pu (pu_move rfl) ?_
        refine s_on rfl rfl ?_
        refine s_pu (pu_move rfl) ?_
        refine s_on rfl rfl ?_
        refine s_pu (pu_gtr rfl rfl) ?_
        first | refine s_pu (pu_pick_t rfl rfl) ?_ | refine s_pu (pu_pick_f rfl rfl) ?_
        refine swl_sub _ (.cons (t := 5) rfl (.cons (t := 6) rfl (.cons (t := 9) rfl (.cons (t := 11) rfl (.cons (t := 32) rfl (.cons (t := 33) rfl (.cons (t := 52) rfl (.cons (t := 53) rfl (.cons (t := 54) rfl (.cons (t := 64) rfl .nil)))))))))) ?_
        refine swl_nil ?_
        refine then_n ?_
        refine swp_cond (b := _) rfl (fun h64 => by exfalso; have := of_decide_eq_true h64; omega) (fun h64 => ?_)
        refine swp_skip ?_
        refine then_n ?_
        refine swp_region ?_
        refine s_pu (pu_move rfl) ?_
        refine s_pu (pu_move rfl) ?_
        refine s_pu (pu_indexAddr c rfl rfl (by omega) (by omega) (by omega)) ?_
        refine s_ef0 (ef_storeP rfl rfl rfl (by rw [rbs_len]; omega)) ?_
        refine swl_sub _ (.cons (t := 5) rfl (.cons (t := 6) rfl (.cons (t := 9) rfl (.cons (t := 32) rfl (.cons (t := 33) rfl (.cons (t := 52) rfl (.cons (t := 53) rfl (.cons (t := 54) rfl .nil)))))))) ?_
        rw [rbs_set (T := fun j => decide ((j : Int) ∈ RA.take (i + 1))) (fun y hy => by
          rw [List.take_add_one, hc]
          by_cases e : y = c
          · subst e; simp
          · have : (y : Int) ≠ c := by omega
            simp [e, this])]
        refine swl_nil ?_
        refine block_n ?_
        refine then_n ?_
        refine swp_region ?_
        refine s_pu (pu_add_as ((i + 1 : Nat) : Int) rfl rfl (by omega) (by omega) (by omega)) ?_
        refine s_pu (pu_move rfl) ?_
        refine swl_sub _ (.cons (t := 5) rfl (.cons (t := 6) rfl (.cons (t := 9) rfl (.cons (t := 32) rfl (.cons (t := 33) rfl (.cons (t := 52) rfl (.cons (t := 53) rfl (.cons (t := 54) rfl .nil)))))))) ?_
        refine swl_nil ?_
        exact then_n ⟨i + 1, ⟨rfl, rfl, h55'⟩, by omega⟩
      · skip   -- 55 F
        have h55' := of_decide_eq_false h55
        obtain rfl : i = RA.length := by omega
        rw [List.take_length, rbs_ext hRup]
        refine swp_exit ?_
        refine then_x ?_
        refine then_x ?_
        refine block_hit rfl ?_
        refine then_n ?_
        refine swp_seq ?_
        refine swp_ent (Split.ent' (K := [gA p v' vn Gm.length A1, blk b51 4 (rbs Gm.length (up (nums Gm) b)), ro μ5]) (by repeat (first | exact Split.nil | (apply Split.cons; (repeat (first | with_reducible exact Take.here | apply Take.there)))))) ?_
        refine swp_ex fun va2 => ?_
        simp only [List.cons_append, List.nil_append]
        refine swp_region ?_
        refine s_pu (pu_move rfl) ?_
        first | refine s_pu (pu_nilCheck rfl) ?_ | refine s_pu (pu_nilCheck_fn rfl) ?_ | refine s_pu (pu_nilCheck_if rfl) ?_
        first | refine s_pu (pu_fieldAddr0 rfl) ?_ | refine s_pu (pu_fieldAddr rfl) ?_
        refine s_rd (rd_load rfl rfl) ?_
        refine s_pu (pu_len_row hS.hG.1 rfl) ?_
        refine s_pu (pu_move rfl) ?_
        refine swl_sub _ (.cons (t := 5) rfl (.cons (t := 6) rfl (.cons (t := 9) rfl (.cons (t := 32) rfl (.cons (t := 33) rfl (.cons (t := 73) rfl (.cons (t := 74) rfl .nil))))))) ?_
        refine swl_nil ?_
        refine then_n ?_
        refine swp_block ?_
        refine swp_ent gA_close ?_
        refine swp_sub _ (.cons (t := 5) rfl (.cons (t := 6) rfl (.cons (t := 9) rfl (.cons (t := 32) rfl (.cons (t := 33) rfl (.cons (t := 73) rfl (.cons (t := 74) rfl .nil))))))) ?_
        refine swp_loop (ι := Nat × PH × (Nat → Nat)) (fun k env L => env = [(5, .pointer (some ⟨p, 0, none⟩)), (6, .int .i64 (b : Nat)), (9, .slice (some ⟨b51, 0, none⟩) Gm.length Gm.length), (32, .int .i64 (Gm.length : Nat)), (33, .int .i64 (b : Nat)), (73, .int .i64 (Gm.length : Nat)), (74, .int .i64 (k.1 : Nat))] ∧ L = [gA p v' vn Gm.length k.2.2, blk b51 4 (rbs Gm.length (up (nums Gm) b)), ro k.2.1] ∧ k.1 ≤ Gm.length ∧ Le μ2 k.2.1 ∧ ∀ c, k.2.2 c ≤ wpK b k.1 1) (fun k => Gm.length - k.1) (0, μ5, A1) ⟨rfl, rfl, Nat.zero_le _, l25, fun c => wpK_s (i := 0) (a1 c)⟩ ?_
        rintro ⟨a, μa, aa⟩ env L ⟨rfl, rfl, ha, hla, haa⟩
        dsimp only at ha hla haa ⊢
        refine swp_seq ?_
        refine swp_region ?_
        refine s_pu (pu_lss rfl rfl) ?_
        refine swl_sub _ (.cons (t := 5) rfl (.cons (t := 6) rfl (.cons (t := 9) rfl (.cons (t := 32) rfl (.cons (t := 33) rfl (.cons (t := 73) rfl (.cons (t := 74) rfl (.cons (t := 75) rfl .nil)))))))) ?_
        refine swl_nil ?_
        refine then_n ?_
        refine swp_seq ?_
        refine swp_cond (b := _) rfl (fun h75 => ?_) (fun h75 => ?_)
        · skip   -- 75 T
          have h75' : a < Gm.length := by have := of_decide_eq_true h75; omega
          have han : a < (nums Gm).length := by omega
          refine swp_skip ?_
          refine then_n ?_
          refine swp_seq ?_
          refine swp_block ?_
          refine swp_seq ?_
          refine swp_region ?_
          refine s_pu (pu_move rfl) ?_
          refine s_pu (pu_assign rfl) ?_
          refine swl_sub _ (.cons (t := 5) rfl (.cons (t := 6) rfl (.cons (t := 9) rfl (.cons (t := 12) rfl (.cons (t := 32) rfl (.cons (t := 33) rfl (.cons (t := 73) rfl (.cons (t := 74) rfl .nil)))))))) ?_
          refine swl_nil ?_
          refine then_n ?_
          refine swp_seq ?_
          refine swp_region ?_
          refine s_pu (pu_move rfl) ?_
          refine s_pu (pu_iface rfl) ?_
          refine s_pu (pu_move rfl) ?_
          refine s_pu (pu_move rfl) ?_
          refine s_ef (ef_fn (g_isanc (hS.le hla) p aa (fun c => by have := wpK_top (haa c) (by omega) (by omega) (by omega); omega) a b) rfl rfl (by repeat (first | exact Split.nil | (apply Split.cons; (repeat (first | with_reducible exact Take.here | apply Take.there)))))) ?_
          rintro v82 L1 ⟨z2, μ6, hz2, h6, rfl, rfl⟩
          refine swl_app ?_
          rw [isAnc_in han hbn, askedE_pair han hbn]
          have a2 : ∀ c, (z2.foldl ask1 aa) c ≤ _ := fun c => ask_le hz2.1 (haa c)
          generalize z2.foldl ask1 aa = A2 at *
          have l26 := hla.trans h6
          refine s_pu (pu_move rfl) ?_
          first | refine s_pu (pu_extractL rfl) ?_ | refine s_pu (pu_extract rfl rfl) ?_
          first | refine s_pu (pu_extractL rfl) ?_ | refine s_pu (pu_extract rfl rfl) ?_
          refine s_pu (pu_assign rfl) ?_
          refine s_pu (pu_assign rfl) ?_
          refine swl_sub _ (.cons (t := 5) rfl (.cons (t := 6) rfl (.cons (t := 9) rfl (.cons (t := 12) rfl (.cons (t := 13) rfl (.cons (t := 14) rfl (.cons (t := 32) rfl (.cons (t := 33) rfl (.cons (t := 73) rfl (.cons (t := 74) rfl .nil)))))))))) ?_
          refine swl_nil ?_
          refine then_n ?_
          refine swp_seq ?_
          refine swp_region ?_
          refine s_pu (pu_move rfl) ?_
          refine s_pu (pu_move rfl) ?_
          refine s_pu (pu_eql rfl rfl) ?_
          refine s_pu (pu_assign rfl) ?_
          refine swl_sub _ (.cons (t := 5) rfl (.cons (t := 6) rfl (.cons (t := 9) rfl (.cons (t := 12) rfl (.cons (t := 13) rfl (.cons (t := 14) rfl (.cons (t := 15) rfl (.cons (t := 32) rfl (.cons (t := 33) rfl (.cons (t := 73) rfl (.cons (t := 74) rfl .nil))))))))))) ?_
          refine swl_nil ?_
          refine then_n ?_
          refine swp_seq ?_
          refine swp_seq ?_
          refine swp_ent (Split.ent' (K := [gA p v' vn Gm.length A2, blk b51 4 (rbs Gm.length (up (nums Gm) b)), ro μ6]) (by repeat (first | exact Split.nil | (apply Split.cons; (repeat (first | with_reducible exact Take.here | apply Take.there)))))) ?_
          refine swp_ex fun va3 => ?_
          simp only [List.cons_append, List.nil_append]
          obtain ⟨gb, off, cap, x, hgv, hx, hxc, hxr, hnx⟩ := row_at (hS.le l26).hG h34'
          have hxl := hrm x (List.mem_of_getElem? hx)
          have hxo := rowOf_at hnx
          have hxg := hgood b _ hnx
          refine swp_region ?_
          refine s_pu (pu_move rfl) ?_
          first | refine s_pu (pu_nilCheck rfl) ?_ | refine s_pu (pu_nilCheck_fn rfl) ?_ | refine s_pu (pu_nilCheck_if rfl) ?_
          first | refine s_pu (pu_fieldAddr0 rfl) ?_ | refine s_pu (pu_fieldAddr rfl) ?_
          refine s_rd (rd_load rfl rfl) ?_
          refine s_pu (pu_move rfl) ?_
          refine s_pu (pu_indexAddr (off + b * 1) (congrArg some hgv) rfl (by omega) (by omega) (by rw [Int.toNat_natCast])) ?_
          refine s_rd (rd_ro rfl hxc) ?_
          refine s_pu (pu_len_row hxr rfl) ?_
          refine s_pu (pu_move rfl) ?_
          refine swl_sub _ (.cons (t := 5) rfl (.cons (t := 6) rfl (.cons (t := 9) rfl (.cons (t := 12) rfl (.cons (t := 13) rfl (.cons (t := 14) rfl (.cons (t := 15) rfl (.cons (t := 32) rfl (.cons (t := 33) rfl (.cons (t := 73) rfl (.cons (t := 74) rfl (.cons (t := 94) rfl (.cons (t := 95) rfl (.cons (t := 96) rfl .nil)))))))))))))) ?_
          refine swl_nil ?_
          refine then_n ?_
          refine swp_block ?_
          refine swp_ent (Split.ent' (K := [blk p 33 [v', vn, va3], own 3 1 va3 Gm.length (askV Gm.length A2), blk b51 4 (rbs Gm.length (up (nums Gm) b)), ro μ6]) (by repeat (first | exact Split.nil | (apply Split.cons; (repeat (first | with_reducible exact Take.here | apply Take.there)))))) ?_
          refine swp_ent gA_close ?_
          refine swp_sub _ (.cons (t := 5) rfl (.cons (t := 6) rfl (.cons (t := 9) rfl (.cons (t := 12) rfl (.cons (t := 13) rfl (.cons (t := 14) rfl (.cons (t := 15) rfl (.cons (t := 32) rfl (.cons (t := 33) rfl (.cons (t := 73) rfl (.cons (t := 74) rfl (.cons (t := 94) rfl (.cons (t := 95) rfl (.cons (t := 96) rfl .nil)))))))))))))) ?_
          refine swp_loop (ι := Nat × PH × (Nat → Nat)) (fun k env L => env = [(5, .pointer (some ⟨p, 0, none⟩)), (6, .int .i64 (b : Nat)), (9, .slice (some ⟨b51, 0, none⟩) Gm.length Gm.length), (12, .int .i64 (a : Nat)), (13, .bool (up (nums Gm) b a)), (14, .int .i64 0), (15, .bool (decide ((a : Int) = b) || (x.2.take k.1).any fun q => up (nums Gm) q.toNat a)), (32, .int .i64 (Gm.length : Nat)), (33, .int .i64 (b : Nat)), (73, .int .i64 (Gm.length : Nat)), (74, .int .i64 (a : Nat)), (94, x.1), (95, .int .i64 (x.2.length : Nat)), (96, .int .i64 (k.1 : Nat))] ∧ L = [gA p v' vn Gm.length k.2.2, blk b51 4 (rbs Gm.length (up (nums Gm) b)), ro k.2.1] ∧ k.1 ≤ x.2.length ∧ Le μ6 k.2.1 ∧ ∀ c, k.2.2 c ≤ wpK b a (k.1 + 2)) (fun k => x.2.length - k.1) (0, μ6, A2) ⟨by simp, rfl, Nat.zero_le _, Le.refl _, fun c => wpK_s (i := 1) (a2 c)⟩ ?_
          rintro ⟨i, μi, ai⟩ env L ⟨rfl, rfl, hi, hli, hai⟩
          dsimp only at hi hli hai ⊢
          refine swp_seq ?_
          refine swp_region ?_
          refine s_pu (pu_lss rfl rfl) ?_
          refine swl_sub _ (.cons (t := 5) rfl (.cons (t := 6) rfl (.cons (t := 9) rfl (.cons (t := 12) rfl (.cons (t := 13) rfl (.cons (t := 14) rfl (.cons (t := 15) rfl (.cons (t := 32) rfl (.cons (t := 33) rfl (.cons (t := 73) rfl (.cons (t := 74) rfl (.cons (t := 94) rfl (.cons (t := 95) rfl (.cons (t := 96) rfl (.cons (t := 97) rfl .nil))))))))))))))) ?_
          refine swl_nil ?_
          refine then_n ?_
          refine swp_seq ?_
          refine swp_cond (b := _) rfl (fun h97 => ?_) (fun h97 => ?_)
          · skip   -- 97 T
            have h97' : i < x.2.length := by have := of_decide_eq_true h97; omega
            obtain ⟨c, hc⟩ : ∃ c, x.2[i]? = some c := ⟨_, List.getElem?_eq_getElem h97'⟩
            obtain ⟨pb, po, pc, hpv, hpc⟩ := hxr.at_ hc
            have hcr := hxg c (List.mem_of_getElem? hc)
            obtain ⟨c, rfl⟩ : ∃ k : Nat, c = k := ⟨c.toNat, by omega⟩
            have hcn : c < (nums Gm).length := by omega
            have hany : (x.2.take (i + 1)).any (fun q => up (nums Gm) q.toNat a) = ((x.2.take i).any (fun q => up (nums Gm) q.toNat a) || up (nums Gm) c a) := by
              rw [List.take_add_one, hc, List.any_append]; simp
            refine swp_skip ?_
            refine then_n ?_
            refine swp_seq ?_
            refine swp_block ?_
            refine swp_seq ?_
            refine swp_region ?_
            refine s_pu (pu_indexAddr (po + i * 1) (congrArg some hpv) rfl (by omega) (by omega) (by rw [Int.toNat_natCast])) ?_
            refine s_rd (rd_ro rfl (hpc.le hli)) ?_
            refine s_pu (pu_assign rfl) ?_
            refine swl_sub _ (.cons (t := 5) rfl (.cons (t := 6) rfl (.cons (t := 9) rfl (.cons (t := 12) rfl (.cons (t := 13) rfl (.cons (t := 14) rfl (.cons (t := 15) rfl (.cons (t := 17) rfl (.cons (t := 32) rfl (.cons (t := 33) rfl (.cons (t := 73) rfl (.cons (t := 74) rfl (.cons (t := 94) rfl (.cons (t := 95) rfl (.cons (t := 96) rfl .nil))))))))))))))) ?_
            refine swl_nil ?_
            refine then_n ?_
            refine swp_seq ?_
            refine swp_region ?_
            refine s_pu (pu_move rfl) ?_
            refine s_pu (pu_iface rfl) ?_
            refine s_pu (pu_move rfl) ?_
            refine s_pu (pu_move rfl) ?_
            refine s_ef (ef_fn (g_isanc (hS.le (l26.trans hli)) p ai (fun c => by have := wpK_top (hai c) (by omega) (by omega) (by omega); omega) a c) rfl rfl (by repeat (first | exact Split.nil | (apply Split.cons; (repeat (first | with_reducible exact Take.here | apply Take.there)))))) ?_
            rintro v105 L1 ⟨z3, μ7, hz3, h7, rfl, rfl⟩
            refine swl_app ?_
            rw [isAnc_in han hcn, askedE_pair han hcn]
            have a3 : ∀ c, (z3.foldl ask1 ai) c ≤ _ := fun c => ask_le hz3.1 (hai c)
            generalize z3.foldl ask1 ai = A3 at *
            refine s_pu (pu_move rfl) ?_
            first | refine s_pu (pu_extractL rfl) ?_ | refine s_pu (pu_extract rfl rfl) ?_
            first | refine s_pu (pu_extractL rfl) ?_ | refine s_pu (pu_extract rfl rfl) ?_
            refine s_pu (pu_assign rfl) ?_
            refine s_pu (pu_assign rfl) ?_
            refine swl_sub _ (.cons (t := 5) rfl (.cons (t := 6) rfl (.cons (t := 9) rfl (.cons (t := 12) rfl (.cons (t := 13) rfl (.cons (t := 14) rfl (.cons (t := 15) rfl (.cons (t := 18) rfl (.cons (t := 32) rfl (.cons (t := 33) rfl (.cons (t := 73) rfl (.cons (t := 74) rfl (.cons (t := 94) rfl (.cons (t := 95) rfl (.cons (t := 96) rfl .nil))))))))))))))) ?_
            refine swl_nil ?_
            refine then_n ?_
            refine swp_region ?_
            refine s_pu (pu_move rfl) ?_
            refine s_pu (pu_move rfl) ?_
            refine s_split 109 rfl (fun h109 => ?_) (fun h109 => ?_)
            · skip   -- 109 T
              refine s_off rfl rfl rfl ?_
              first | refine s_pu (pu_pick_t rfl rfl) ?_ | refine s_pu (pu_pick_f rfl rfl) ?_
              refine s_pu (pu_assign rfl) ?_
              refine swl_sub _ (.cons (t := 5) rfl (.cons (t := 6) rfl (.cons (t := 9) rfl (.cons (t := 12) rfl (.cons (t := 13) rfl (.cons (t := 14) rfl (.cons (t := 15) rfl (.cons (t := 32) rfl (.cons (t := 33) rfl (.cons (t := 73) rfl (.cons (t := 74) rfl (.cons (t := 94) rfl (.cons (t := 95) rfl (.cons (t := 96) rfl .nil)))))))))))))) ?_
              refine swl_nil ?_
              refine block_n ?_
              refine then_n ?_
              refine swp_region ?_
              refine swl_ent (Split.ent' (K := [gA p v' vn Gm.length A3, blk b51 4 (rbs Gm.length (up (nums Gm) b)), ro μ7]) (by repeat (first | exact Split.nil | (apply Split.cons; (repeat (first | with_reducible exact Take.here | apply Take.there)))))) ?_
              refine s_pu (pu_add_as ((i + 1 : Nat) : Int) rfl rfl (by omega) (by omega) (by omega)) ?_
              refine s_pu (pu_move rfl) ?_
              refine swl_sub _ (.cons (t := 5) rfl (.cons (t := 6) rfl (.cons (t := 9) rfl (.cons (t := 12) rfl (.cons (t := 13) rfl (.cons (t := 14) rfl (.cons (t := 15) rfl (.cons (t := 32) rfl (.cons (t := 33) rfl (.cons (t := 73) rfl (.cons (t := 74) rfl (.cons (t := 94) rfl (.cons (t := 95) rfl (.cons (t := 96) rfl .nil)))))))))))))) ?_
              refine swl_nil ?_
              have hk : ∀ c, A3 c ≤ wpK b a (i + 1 + 2) := fun c => wpK_i (a3 c)
              exact then_n ⟨(i + 1, μ7, A3), ⟨by rw [hany, ← Bool.or_assoc, h109]; rfl, rfl, h97', hli.trans h7, hk⟩, by show x.2.length - (i + 1) < x.2.length - i; omega⟩
            · skip   -- 109 F
              refine s_on rfl rfl ?_
              refine s_pu (pu_move rfl) ?_
              first | refine s_pu (pu_pick_t rfl rfl) ?_ | refine s_pu (pu_pick_f rfl rfl) ?_
              refine s_pu (pu_assign rfl) ?_
              refine swl_sub _ (.cons (t := 5) rfl (.cons (t := 6) rfl (.cons (t := 9) rfl (.cons (t := 12) rfl (.cons (t := 13) rfl (.cons (t := 14) rfl (.cons (t := 15) rfl (.cons (t := 32) rfl (.cons (t := 33) rfl (.cons (t := 73) rfl (.cons (t := 74) rfl (.cons (t := 94) rfl (.cons (t := 95) rfl (.cons (t := 96) rfl .nil)))))))))))))) ?_
              refine swl_nil ?_
              refine block_n ?_
              refine then_n ?_
              refine swp_region ?_
              refine swl_ent (Split.ent' (K := [gA p v' vn Gm.length A3, blk b51 4 (rbs Gm.length (up (nums Gm) b)), ro μ7]) (by repeat (first | exact Split.nil | (apply Split.cons; (repeat (first | with_reducible exact Take.here | apply Take.there)))))) ?_
              refine s_pu (pu_add_as ((i + 1 : Nat) : Int) rfl rfl (by omega) (by omega) (by omega)) ?_
              refine s_pu (pu_move rfl) ?_
              refine swl_sub _ (.cons (t := 5) rfl (.cons (t := 6) rfl (.cons (t := 9) rfl (.cons (t := 12) rfl (.cons (t := 13) rfl (.cons (t := 14) rfl (.cons (t := 15) rfl (.cons (t := 32) rfl (.cons (t := 33) rfl (.cons (t := 73) rfl (.cons (t := 74) rfl (.cons (t := 94) rfl (.cons (t := 95) rfl (.cons (t := 96) rfl .nil)))))))))))))) ?_
              refine swl_nil ?_
              have hk : ∀ c, A3 c ≤ wpK b a (i + 1 + 2) := fun c => wpK_i (a3 c)
              exact then_n ⟨(i + 1, μ7, A3), ⟨by rw [hany, ← Bool.or_assoc, h109]; rfl, rfl, h97', hli.trans h7, hk⟩, by show x.2.length - (i + 1) < x.2.length - i; omega⟩
          · skip   -- 97 F
            have h97' := of_decide_eq_false h97
            obtain rfl : i = x.2.length := by omega
            rw [List.take_length, show (decide ((a : Int) = b) || x.2.any fun q => up (nums Gm) q.toNat a) = up (nums Gm) b a by
              rw [up_through hgood b a, hxo, show decide ((a : Int) = b) = decide (b = a) by rw [Bool.eq_iff_iff, decide_eq_true_eq, decide_eq_true_eq]; omega]]
            refine swp_exit ?_
            refine then_x ?_
            refine then_x ?_
            refine block_hit rfl ?_
            refine then_n ?_
            refine swp_seq ?_
            refine swp_region ?_
            refine s_pu (pu_move rfl) ?_
            refine s_pu (pu_neq rfl rfl) ?_
            refine s_pu (pu_move rfl) ?_
            refine s_split 115 rfl (fun h115 => by exfalso; simp at h115) (fun h115 => ?_)
            refine s_on rfl rfl ?_
            refine s_pu (pu_move rfl) ?_
            refine s_on rfl rfl ?_
            refine s_pu (pu_move rfl) ?_
            refine s_on rfl rfl ?_
            refine s_pu (pu_bool_ne rfl rfl) ?_
            first | refine s_pu (pu_pick_t rfl rfl) ?_ | refine s_pu (pu_pick_f rfl rfl) ?_
            refine s_pu (pu_move rfl) ?_
            refine s_split 120 rfl (fun h120 => by exfalso; simp at h120) (fun h120 => ?_)
            refine s_on rfl rfl ?_
            refine s_pu (pu_move rfl) ?_
            refine s_on rfl rfl ?_
            refine s_pu (pu_move rfl) ?_
            refine s_on rfl rfl ?_
            refine s_pu (pu_move rfl) ?_
            refine s_on rfl rfl ?_
            refine s_pu (pu_indexAddr a rfl rfl (by omega) (by omega) (by omega)) ?_
            refine s_on rfl rfl ?_
            refine s_rd (rd_load rfl (rbs_get _ (by omega))) ?_
            refine s_on rfl rfl ?_
            refine s_pu (pu_bool_ne rfl rfl) ?_
            first | refine s_pu (pu_pick_t rfl rfl) ?_ | refine s_pu (pu_pick_f rfl rfl) ?_
            refine swl_sub _ (.cons (t := 5) rfl (.cons (t := 6) rfl (.cons (t := 9) rfl (.cons (t := 32) rfl (.cons (t := 33) rfl (.cons (t := 73) rfl (.cons (t := 74) rfl (.cons (t := 127) rfl .nil)))))))) ?_
            refine swl_nil ?_
            refine then_n ?_
            refine swp_cond (b := _) rfl (fun h127 => by exfalso; simp at h127) (fun h127 => ?_)
            refine swp_skip ?_
            refine block_n ?_
            refine then_n ?_
            refine swp_region ?_
            refine swl_ent (Split.ent' (K := [gA p v' vn Gm.length ai, blk b51 4 (rbs Gm.length (up (nums Gm) b)), ro μi]) (by repeat (first | exact Split.nil | (apply Split.cons; (repeat (first | with_reducible exact Take.here | apply Take.there)))))) ?_
            refine s_pu (pu_add_as ((a + 1 : Nat) : Int) rfl rfl (by omega) (by omega) (by omega)) ?_
            refine s_pu (pu_move rfl) ?_
            refine swl_sub _ (.cons (t := 5) rfl (.cons (t := 6) rfl (.cons (t := 9) rfl (.cons (t := 32) rfl (.cons (t := 33) rfl (.cons (t := 73) rfl (.cons (t := 74) rfl .nil))))))) ?_
            refine swl_nil ?_
            have hk : ∀ c, ai c ≤ wpK b (a + 1) 1 := fun c => wpK_a (hai c) hxl
            exact then_n ⟨(a + 1, μi, ai), ⟨rfl, rfl, h75', l26.trans hli, hk⟩, by show Gm.length - (a + 1) < Gm.length - a; omega⟩
        · skip   -- 75 F
          have h75' := of_decide_eq_false h75
          refine swp_exit ?_
          refine then_x ?_
          refine then_x ?_
          refine block_hit rfl ?_
          refine block_n ?_
          refine then_n ?_
          refine swp_region ?_
          refine swl_ent (Split.ent' (K := [gA p v' vn Gm.length aa, ro μa]) (by repeat (first | exact Split.nil | (apply Split.cons; (repeat (first | with_reducible exact Take.here | apply Take.there)))))) ?_
          refine s_pu (pu_add_as ((b + 1 : Nat) : Int) rfl rfl (by omega) (by omega) (by omega)) ?_
          refine s_pu (pu_move rfl) ?_
          refine swl_sub _ (.cons (t := 5) rfl (.cons (t := 32) rfl (.cons (t := 33) rfl .nil))) ?_
          refine swl_nil ?_
          have hk : ∀ c, aa c ≤ wpK (b + 1) 0 0 := fun c => wpK_b (haa c) (by omega)
          exact then_n ⟨(b + 1, μa, aa), ⟨rfl, rfl, h34', hla, hk⟩, by show Gm.length - (b + 1) < Gm.length - b; omega⟩
    · skip   -- 34 F
      refine swp_exit ?_
      refine then_x ?_
      refine then_x ?_
      refine block_hit rfl ?_
      refine then_n ?_
      refine swp_seq ?_
      refine swp_region ?_
      refine s_pu (pu_assign rfl) ?_
      refine swl_sub _ (.cons (t := 4) rfl .nil) ?_
      refine swl_nil ?_
      refine then_n ?_
      refine swp_ret ?_
      exact done_ret [ro μb] (.tmp rfl .nil) ⟨rfl, μb, [], h1.trans (h2.trans hlb), rfl⟩ (by repeat (first | exact Split.nil | (apply Split.cons; (repeat (first | with_reducible exact Take.here | apply Take.there)))))
end SX
namespace Go.Proofs.YtieggbckcacihaaDoor
open Go.ChangeShapes Go.WideShapes Go.ChangeAt Go.RowKit
theorem ownKnobF : ownKnob Tryd.prog.godebug = none := by kernel_rfl
theorem gTab : Tryd.prog.globalNamed "math/bits.deBruijn64tab" = some 0 := by kernel_rfl
theorem tTab : (Tryd.prog.globals[0]?).map (·.type) = some 136 := by kernel_rfl
theorem datum {H : Type} : (Rows.laid_math_bits_deBruijn64tab : DataW H) = .agg (Lib.deBruijn64tab.map fun n => .lit (.int .u8 (n : Nat))) := rfl
theorem tab_of {W : World} (h : laidMetH Tryd.prog Rows.walkAncestorRow.laid W) : SX.RowAt (fun b => W.heap[b]?) 0 0 SX.tabV := by
  rw [MakeChecks.laidMetH_plain _ _ _ (by kernel_rfl)] at h
  obtain ⟨ps, ⟨g0, t0, cs0, f0, p0, q0, hg0, ht0, hv0, hd0, _, _⟩, _, _⟩ := h
  obtain rfl := Option.some.inj (gTab.symm.trans hg0)
  obtain rfl := Option.some.inj (tTab.symm.trans ht0)
  obtain ⟨xs, m, rfl, hx, _, hn, hel⟩ := DataW.trod_array Tryd.underlying136 hd0
  simp only [Prod.mk.injEq] at hx
  have hx1 := hx.1
  rw [datum] at hx1
  simp only [DataW.agg.injEq] at hx1
  have c5 : Tryd.prog.cellsOf 5 = 1 := by kernel_rfl
  have hlen : Lib.deBruijn64tab.length = 64 := rfl
  intro j u hj
  have hj64 : j < 64 := by
    have := (List.getElem?_eq_some_iff.1 hj).1
    simpa [SX.tabV, hlen] using this
  obtain ⟨k, hk⟩ : ∃ k, Lib.deBruijn64tab[j]? = some k := ⟨_, List.getElem?_eq_getElem (by omega)⟩
  have hu : u = .int .u8 (k : Nat) := by
    unfold SX.tabV at hj
    rw [List.getElem?_map, hk] at hj
    exact (Option.some.inj hj).symm
  obtain ⟨y, hy⟩ : ∃ y, xs[j]? = some y := ⟨_, List.getElem?_eq_getElem (by omega)⟩
  have h1 := hel j hj64
  rw [hy, c5, Nat.mul_one] at h1
  obtain ⟨n, e1, e2, _⟩ := DataW.trod_int Tryd.underlying5 h1
  have e3 : (xs.map (·.1))[j]? = some (.lit (.int .u8 n)) := by rw [List.getElem?_map, hy, e2]; rfl
  rw [← hx1, List.getElem?_map, hk] at e3
  have hnk : n = (k : Int) := by
    have := Option.some.inj e3
    simpa using this.symm
  have hc := World.var?_cell hg0 hv0 j
  have hcs : cs0[j]? = some (.int .u8 n) := by
    have : (cs0.toList.drop j)[0]? = some (.int .u8 n) := by
      have := congrArg (·[0]?) e1
      simpa [List.getElem?_take] using this
    rw [List.getElem?_drop, Nat.add_zero] at this
    simpa using this
  rw [hcs] at hc
  rw [Nat.zero_add, hu, ← hnk]
  exact (SX.spot_of_cell hc).2
theorem door_met (os : Os) (args : Array Value) : laidMetH Tryd.prog Rows.walkAncestorRow.laid ((World.doorLaid Tryd.prog 400 os).forCall (fun _ _ => 0) ⟨#[], args, []⟩).memory :=
  laidMetH_of_parts3 (fuel := 8) (laidMet_of_run' 8 (by kernel_rfl) (by kernel_rfl)) (by kernel_rfl) (by kernel_rfl)
end Go.Proofs.YtieggbckcacihaaDoor
