/- A part of the proof: walks of the program's functions, and the rules by which they go. -/
import Derived.Test.YtieggbckcacihaaDoorB62a17060
import Derived.Test.YtieggbckcacihaaDoorB1f44c22b
import Derived.Test.YtieggbckcacihaaDoorRows
import Derived.ProofKit
import Derived.LaidMore
import Derived.OpenShut
import Derived.Stop.Joined
namespace SX
open Go Go.Proofs

/-- it may be asked for any commits, each once -/
def Src.fine (X : Src) (s0 : X.σ) : Prop := ∀ (ys : List Nat) (c : Nat), ys.Nodup → c ∉ ys → (∀ y ∈ ys, y < X.g.length) → c < X.g.length → X.ok (ys.foldl X.step s0) c
theorem falls_nodup {l : List Nat} (h : Falls l) : l.Nodup := h.imp fun h e => by omega
theorem Src.fine.down {X : Src} {s0 : X.σ} (h : X.fine s0) (xs : List Int) : ∀ pre x post, downL X.g xs = pre ++ x :: post → X.ok (pre.foldl X.step s0) x := fun pre x post e => by
  obtain ⟨h1, h2, _⟩ := downL_spec X.hg xs
  rw [e] at h1 h2
  have hn := falls_nodup h1
  rw [List.nodup_append] at hn
  exact h pre x hn.1 (fun hx => hn.2.2 x hx x (List.mem_cons_self ..) rfl) (fun y hy => h2 y (List.mem_append_left _ hy)) (h2 x (List.mem_append_right _ (List.mem_cons_self ..)))
/-- a source that knows generations -/
structure GenOf (X : Src) (gen : Int → Int) where
  ask : ∀ s μ c, Le X.μ0 μ → InvS Tryd.prog X.d X.t X.v "Gen" [.int .i64 c] [X.A s μ, ro μ] (fun r L => r = .int .i64 (gen c) ∧ L = [X.A s μ, ro μ])
/-- of what the parents were asked, for one question -/
def askedOk (n : Nat) (gen : Int → Int) (a : Int) (ys : List Nat) : Prop := ys.Nodup ∧ ∀ y ∈ ys, y < n ∧ a < (y : Int) ∧ mayG (gen y) (gen a) = true
def isAnc (g : List (List Int)) (a b : Int) : Bool := decide (askedE g.length [[a, b]] = 0) && up g b.toNat a.toNat
set_option maxHeartbeats 2000000 in
theorem isanc_spec (X : Src) (gen : Int → Int) (Y : GenOf X gen) (s0 : X.σ) (μ : PH) (a b : Int) (h0 : Le X.μ0 μ) (hf : X.fine s0)
    (hmay : ∀ c k : Nat, Reach X.g c k → c ≠ k → mayG (gen c) (gen k) = true) :
    Spec Tryd.prog 15 [X.sv, .int .i64 a, .int .i64 b] [X.A s0 μ, ro μ] (fun r L => ∃ ys μ', askedOk X.n gen a ys ∧ Le μ μ' ∧ r = .tuple #[.bool (isAnc X.g a b), .int .i64 (askedE X.n [[a, b]])] ∧ L = [X.A (ys.foldl X.step s0) μ', ro μ']) := by
  have hn := X.hn
  refine Spec.of 64 Tryd.func15 rfl rfl rfl ?_
  refine swp_seq ?_
  refine swp_region ?_
  refine s_pu (pu_assign rfl) ?_
  refine s_pu (pu_assign rfl) ?_
  refine swl_sub _ (.cons (t := 0) rfl (.cons (t := 1) rfl (.cons (t := 2) rfl .nil))) ?_
  refine swl_nil ?_
  refine then_n ?_
  refine swp_seq ?_
  refine swp_seq ?_
  refine swp_region ?_
  refine s_pu (pu_move rfl) ?_
  refine s_pu (pu_move rfl) ?_
  refine s_pu (pu_move rfl) ?_
  refine s_ef (ef_bldS (qs := [(0, _), (1, _)]) rfl rfl rfl) ?_
  intro b16
  refine s_ef (ef_bldS (qs := [(0, _)]) rfl rfl rfl) ?_
  intro b17
  refine swl_share (b := b16) (μ := μ) (by repeat (first | exact Split.nil | (apply Split.cons; (repeat (first | with_reducible exact Take.here | apply Take.there))))) fun μ0 h1a k0 => ?_
  refine swl_share (b := b17) (μ := μ0) (by repeat (first | exact Split.nil | (apply Split.cons; (repeat (first | with_reducible exact Take.here | apply Take.there))))) fun μ1 h1b k1 => ?_
  have h1 := h1a.trans h1b
  refine swl_ent (X.up (s := s0) h1 (by repeat (first | exact Split.nil | (apply Split.cons; (repeat (first | with_reducible exact Take.here | apply Take.there)))))) ?_
  have r1 := (row_of_blk (n := 1) (l := 2) (cs := [a, b].flatMap (icsk .i64)) k0 (by rfl) (by decide)).le h1b
  have hG : Graph μ1 (.slice (some ⟨b17, 0, none⟩) 1 1) [(.slice (some ⟨b16, 0, none⟩) 2 2, [a, b])] := ⟨row_of_blk k1 (by rfl) (by decide), fun x hx => by obtain rfl := List.mem_singleton.1 hx; exact r1⟩
  refine s_ef (ef_fn (asked_spec X s0 μ1 _ _ hG) rfl rfl (by repeat (first | exact Split.nil | (apply Split.cons; (repeat (first | with_reducible exact Take.here | apply Take.there)))))) ?_
  rintro v18 L1 ⟨rfl, rfl⟩
  refine swl_app ?_
  rw [show askedE X.n (nums [(Value.slice (some ⟨b16, 0, none⟩) 2 2, [a, b])]) = askedE X.n [[a, b]] from rfl]
  refine s_pu (pu_assign rfl) ?_
  refine swl_sub _ (.cons (t := 0) rfl (.cons (t := 1) rfl (.cons (t := 2) rfl (.cons (t := 8) rfl .nil)))) ?_
  refine swl_nil ?_
  refine then_n ?_
  refine swp_seq ?_
  refine swp_region ?_
  refine s_pu (pu_move rfl) ?_
  refine s_pu (pu_neq rfl rfl) ?_
  refine swl_sub _ (.cons (t := 0) rfl (.cons (t := 1) rfl (.cons (t := 2) rfl (.cons (t := 8) rfl (.cons (t := 20) rfl .nil))))) ?_
  refine swl_nil ?_
  refine then_n ?_
  refine swp_cond (b := _) rfl (fun h20 => ?_) (fun h20 => ?_)
  · skip   -- 20 T
    have he : askedE X.n [[a, b]] ≠ 0 := by simpa using h20
    refine swp_seq ?_
    refine swp_region ?_
    refine s_pu (pu_move rfl) ?_
    refine s_pu (pu_assign rfl) ?_
    refine s_pu (pu_assign rfl) ?_
    refine swl_sub _ (.cons (t := 6) rfl (.cons (t := 7) rfl .nil)) ?_
    refine swl_nil ?_
    refine then_n ?_
    refine swp_ret ?_
    refine then_r ?_
    refine done_ret [X.A s0 μ1, ro μ1] (.tmp rfl (.tmp rfl .nil)) ⟨[], μ1, ⟨List.nodup_nil, fun y hy => by cases hy⟩, h1, ?_, rfl⟩ (by repeat (first | exact Split.nil | (apply Split.cons; (repeat (first | with_reducible exact Take.here | apply Take.there)))))
    unfold isAnc
    rw [decide_eq_false he]; rfl
  · skip   -- 20 F
    have he : askedE X.n [[a, b]] = 0 := by simpa using h20
    have hab : (0 ≤ a ∧ a < X.g.length) ∧ (0 ≤ b ∧ b < X.g.length) := by
      unfold askedE at he
      split at he
      · rename_i h
        simp [inR] at h
        exact h
      · cases he
    obtain ⟨a, rfl⟩ : ∃ k : Nat, a = k := ⟨a.toNat, by omega⟩
    obtain ⟨b, rfl⟩ : ∃ k : Nat, b = k := ⟨b.toNat, by omega⟩
    refine swp_skip ?_
    refine then_n ?_
    refine swp_seq ?_
    refine swp_region ?_
    refine s_pu (pu_move rfl) ?_
    refine s_pu (pu_move rfl) ?_
    refine s_ef (ef_invS rfl X.hd (Y.ask s0 μ1 a (h0.trans h1)) rfl (by repeat (first | exact Split.nil | (apply Split.cons; (repeat (first | with_reducible exact Take.here | apply Take.there)))))) ?_
    rintro v24 L1 ⟨rfl, rfl⟩
    refine swl_app ?_
    refine s_pu (pu_assign rfl) ?_
    refine swl_sub _ (.cons (t := 0) rfl (.cons (t := 1) rfl (.cons (t := 2) rfl (.cons (t := 9) rfl .nil)))) ?_
    refine swl_nil ?_
    refine then_n ?_
    refine swp_seq ?_
    refine swp_region ?_
    refine s_pu (pu_move rfl) ?_
    refine s_pu (pu_move rfl) ?_
    refine s_ef (ef_bldS (qs := [(0, _)]) rfl rfl rfl) ?_
    intro b27
    refine s_ef (ef_fn (newWalker_spec X s0 μ1 (.slice (some ⟨b27, 0, none⟩) 1 1) [(b : Int)] (blk b27 3 [.int .i64 (b : Nat)]) (ints_blk (cs := [(b : Int)]) rfl (by rw [List.length_singleton]; decide))) rfl rfl (by repeat (first | exact Split.nil | (apply Split.cons; (repeat (first | with_reducible exact Take.here | apply Take.there)))))) ?_
    rintro v28 L1 ⟨w, sp, q, rfl, ok0, rfl⟩
    refine swl_app ?_
    refine s_pu (pu_assign rfl) ?_
    refine swl_sub _ (.cons (t := 0) rfl (.cons (t := 1) rfl (.cons (t := 9) rfl (.cons (t := 10) rfl .nil)))) ?_
    refine swl_nil ?_
    refine then_n ?_
    refine swp_seq ?_
    refine swp_seq ?_
    obtain ⟨kI, kN⟩ := wk_start (n := X.g.length) [(b : Int)]
    have kI' : WkI X.g.length X.g.length (addAll X.n wk0 [(b : Int)]) := kI
    have kN' : ∀ k, k ∈ (addAll X.n wk0 [(b : Int)]).2 ↔ k = b := fun k => (kN k).trans (by rw [inRng_mem]; simp; omega)
    clear kI kN
    generalize addAll X.n wk0 [(b : Int)] = st0 at *
    have hq0 := falls_len ok0.falls ok0.lt
    have hXn : X.n = X.g.length := rfl
    refine swp_region ?_
    refine s_pu (pu_move rfl) ?_
    first | refine s_pu (pu_nilCheck rfl) ?_ | refine s_pu (pu_nilCheck_fn rfl) ?_ | refine s_pu (pu_nilCheck_if rfl) ?_
    first | refine s_pu (pu_fieldAddr0 rfl) ?_ | refine s_pu (pu_fieldAddr rfl) ?_
    refine s_rd (rd_load rfl rfl) ?_
    refine s_ef (ef_fn (pop_any q (seenN X.n st0.1) st0.2 (by omega)) rfl rfl (by repeat (first | exact Split.nil | (apply Split.cons; (repeat (first | with_reducible exact Take.here | apply Take.there)))))) ?_
    rintro v34 L1 ⟨rfl, rfl⟩
    refine swl_app ?_
    refine s_pu (pu_move rfl) ?_
    first | refine s_pu (pu_extractL rfl) ?_ | refine s_pu (pu_extract rfl rfl) ?_
    first | refine s_pu (pu_extractL rfl) ?_ | refine s_pu (pu_extract rfl rfl) ?_
    refine s_pu (pu_assign rfl) ?_
    refine s_pu (pu_assign rfl) ?_
    refine swl_sub _ (.cons (t := 0) rfl (.cons (t := 1) rfl (.cons (t := 9) rfl (.cons (t := 10) rfl (.cons (t := 11) rfl (.cons (t := 12) rfl .nil)))))) ?_
    refine swl_nil ?_
    refine then_n ?_
    refine swp_block ?_
    refine swp_ent (Split.ent' (K := [wkB w sp q X.sv, mset sp X.n st0.1, Wq.cq q st0.2.tail (seenN X.n st0.1), X.A s0 μ1, ro μ1]) (by repeat (first | exact Split.nil | (apply Split.cons; (repeat (first | with_reducible exact Take.here | apply Take.there)))))) ?_
    refine swp_loop (ι := Nat × PH × List Nat × Wk) (fun k env L => env = [(0, X.sv), (1, .int .i64 (a : Nat)), (9, .int .i64 (gen (a : Nat))), (10, .pointer (some ⟨w, 0, none⟩)), (11, .int .i64 (k.2.2.2.2.headD 0 : Nat)), (12, .bool (!k.2.2.2.2.isEmpty))]
      ∧ L = [wkB w sp q X.sv, mset sp X.n k.2.2.2.1, Wq.cq q k.2.2.2.2.tail (seenN X.n k.2.2.2.1), X.A (k.2.2.1.foldl X.step s0) k.2.1, ro k.2.1]
      ∧ WkI X.g.length k.1 k.2.2.2 ∧ k.1 ≤ X.g.length ∧ (∀ y ∈ k.2.2.1, k.1 ≤ y) ∧ WkOk X.n k.2.2.2 ∧ askedOk X.n gen a k.2.2.1 ∧ Le μ k.2.1 ∧ (∀ q ∈ k.2.2.2.2, Reach X.g b q) ∧ (Reach X.g b a → ∃ q ∈ k.2.2.2.2, Reach X.g q a)) (fun k => k.1) (X.g.length, μ1, [], st0)
      ⟨rfl, rfl, kI', Nat.le_refl _, fun y hy => (by cases hy), ok0, ⟨List.nodup_nil, fun y hy => by cases hy⟩, h1, fun q hq => by rw [(kN' q).1 hq]; exact .refl _, fun hr => ⟨b, (kN' b).2 rfl, hr⟩⟩ ?_
    rintro ⟨m, μ2, ys, S, Q⟩ env L ⟨rfl, rfl, hI, hmn, hym, hokk, hask, hle, hsnd, hcov⟩
    dsimp only at hI hmn hym hokk hask hle hsnd hcov ⊢
    refine swp_seq ?_
    refine swp_seq ?_
    refine swp_region ?_
    refine s_pu (pu_move rfl) ?_
    refine swl_sub _ (.cons (t := 0) rfl (.cons (t := 1) rfl (.cons (t := 9) rfl (.cons (t := 10) rfl (.cons (t := 11) rfl (.cons (t := 37) rfl .nil)))))) ?_
    refine swl_nil ?_
    refine then_n ?_
    refine swp_cond (b := _) rfl (fun h37 => ?_) (fun h37 => ?_)
    · skip   -- 37 T
      obtain ⟨c, Q, rfl⟩ : ∃ c Q', Q = c :: Q' := by
        cases Q with
        | nil => cases h37
        | cons c Q => exact ⟨c, Q, rfl⟩
      have hcm : c < m := hI.lt c (List.mem_cons_self ..)
      have hrow : ∀ p ∈ rowOf X.g c, 0 ≤ p ∧ p < c := fun p hp => ⟨(row_good X.hg hp).1, (row_good X.hg hp).2.1⟩
      obtain ⟨hI2, hQ2, _⟩ := hI.pop.addAll hrow (by omega)
      have hok2 : WkOk X.n (S, Q) := ⟨(List.pairwise_cons.1 hokk.falls).2, fun k hk => hokk.lt k (List.mem_cons_of_mem _ hk), fun k hk => hokk.sub k (List.mem_cons_of_mem _ hk)⟩
      have hsc := hsnd c (List.mem_cons_self ..)
      simp only [List.tail_cons, List.headD_cons]
      refine swp_skip ?_
      refine then_n ?_
      refine swp_cut (fun env L => ∃ (ys' : List Nat) (μ' : PH) (st : Wk), env = [(0, X.sv), (1, .int .i64 (a : Nat)), (9, .int .i64 (gen (a : Nat))), (10, .pointer (some ⟨w, 0, none⟩))] ∧ L = [wkB w sp q X.sv, mset sp X.n st.1, Wq.cq q st.2 (seenN X.n st.1), X.A (ys'.foldl X.step s0) μ', ro μ'] ∧ WkI X.g.length c st ∧ (∀ y ∈ ys', c ≤ y) ∧ WkOk X.n st ∧ askedOk X.n gen a ys' ∧ Le μ μ' ∧ (∀ q ∈ st.2, Reach X.g b q) ∧ (Reach X.g b a → ∃ q ∈ st.2, Reach X.g q a)) ?_ ?_
      · skip
        refine swp_block ?_
        refine swp_seq ?_
        refine swp_seq ?_
        refine swp_region ?_
        refine s_pu (pu_move rfl) ?_
        refine s_pu (pu_move rfl) ?_
        refine s_pu (pu_eql rfl rfl) ?_
        refine swl_sub _ (.cons (t := 0) rfl (.cons (t := 1) rfl (.cons (t := 9) rfl (.cons (t := 10) rfl (.cons (t := 11) rfl (.cons (t := 48) rfl .nil)))))) ?_
        refine swl_nil ?_
        refine then_n ?_
        refine swp_cond (b := _) rfl (fun h48 => ?_) (fun h48 => ?_)
        · skip   -- 48 T
          obtain rfl : c = a := by have := of_decide_eq_true h48; omega
          refine swp_seq ?_
          refine swp_region ?_
          refine s_pu (pu_assign rfl) ?_
          refine s_pu (pu_assign rfl) ?_
          refine swl_sub _ (.cons (t := 6) rfl (.cons (t := 7) rfl .nil)) ?_
          refine swl_nil ?_
          refine then_n ?_
          refine swp_ret ?_
          refine then_r ?_
          refine block_r ?_
          refine then_r ?_
          refine then_r ?_
          refine block_r ?_
          refine then_r ?_
          refine done_ret [X.A (ys.foldl X.step s0) μ2, ro μ2] (.tmp rfl (.tmp rfl .nil)) ⟨ys, μ2, hask, hle, ?_, rfl⟩ (by repeat (first | exact Split.nil | (apply Split.cons; (repeat (first | with_reducible exact Take.here | apply Take.there)))))
          unfold isAnc
          rw [show askedE X.n [[(c : Int), (b : Int)]] = 0 from he, Int.toNat_natCast, Int.toNat_natCast, (up_iff X.hg b c).2 hsc]; rfl
        · skip   -- 48 F
          have hca : c ≠ a := fun e => by have := of_decide_eq_false h48; omega
          refine swp_skip ?_
          refine then_n ?_
          refine swp_seq ?_
          refine swp_region ?_
          refine s_pu (pu_move rfl) ?_
          refine s_pu (pu_move rfl) ?_
          refine s_pu (pu_gtr rfl rfl) ?_
          refine s_pu (pu_move rfl) ?_
          refine s_split 52 rfl (fun h52 => ?_) (fun h52 => ?_)
          · skip   -- 52 T
            refine s_on rfl rfl ?_
            refine s_pu (pu_move rfl) ?_
            refine s_on rfl rfl ?_
            refine s_pu (pu_move rfl) ?_
            refine s_on rfl rfl ?_
            refine s_ef (ef_invS rfl X.hd (Y.ask (ys.foldl X.step s0) μ2 c (h0.trans hle)) rfl (by repeat (first | exact Split.nil | (apply Split.cons; (repeat (first | with_reducible exact Take.here | apply Take.there)))))) ?_
            rintro v55 L1 ⟨rfl, rfl⟩
            refine swl_app ?_
            refine s_on rfl rfl ?_
            refine s_pu (pu_move rfl) ?_
            refine s_on rfl rfl ?_
            refine s_ef (ef_fn (may_spec (gen c) (gen a)) rfl rfl (by repeat (first | exact Split.nil | (apply Split.cons; (repeat (first | with_reducible exact Take.here | apply Take.there)))))) ?_
            rintro v57 L1 ⟨rfl, rfl⟩
            refine swl_app ?_
            first | refine s_pu (pu_pick_t rfl rfl) ?_ | refine s_pu (pu_pick_f rfl rfl) ?_
            refine swl_sub _ (.cons (t := 0) rfl (.cons (t := 1) rfl (.cons (t := 9) rfl (.cons (t := 10) rfl (.cons (t := 11) rfl (.cons (t := 58) rfl .nil)))))) ?_
            refine swl_nil ?_
            refine then_n ?_
            refine swp_cond (b := _) rfl (fun h58 => ?_) (fun h58 => ?_)
            · skip   -- 58 T
              have h52' : a < c := by have := of_decide_eq_true h52; omega
              have hcy : c ∉ ys := fun hy => by have := hym c hy; omega
              refine swp_region ?_
              refine s_pu (pu_move rfl) ?_
              refine s_pu (pu_move rfl) ?_
              refine s_pu (pu_move rfl) ?_
              refine s_ef (ef_invS rfl X.hd (X.parents (ys.foldl X.step s0) μ2 c (h0.trans hle) (by omega) (hf ys c hask.1 hcy (fun y hy => (hask.2 y hy).1) (by omega))) rfl (by repeat (first | exact Split.nil | (apply Split.cons; (repeat (first | with_reducible exact Take.here | apply Take.there)))))) ?_
              rintro v62 L1 ⟨μ3, hμ3, hr, rfl⟩
              refine swl_app ?_
              refine s_ef (ef_fn (add_spec w sp q X.n X.sv v62 (S, Q) (rowOf X.g c) (ro μ3) hn (Ints.row hr) hok2) rfl rfl (by repeat (first | exact Split.nil | (apply Split.cons; (repeat (first | with_reducible exact Take.here | apply Take.there)))))) ?_
              rintro v63 L1 ⟨rfl, hok3, rfl⟩
              refine swl_app ?_
              refine swl_sub _ (.cons (t := 0) rfl (.cons (t := 1) rfl (.cons (t := 9) rfl (.cons (t := 10) rfl .nil)))) ?_
              refine swl_ent (Split.ent' (K := [wkB w sp q X.sv, mset sp X.n (addAll X.n (S, Q) (rowOf X.g c)).1, Wq.cq q (addAll X.n (S, Q) (rowOf X.g c)).2 (seenN X.n (addAll X.n (S, Q) (rowOf X.g c)).1), X.A (X.step (ys.foldl X.step s0) c) μ3, ro μ3]) (by repeat (first | exact Split.nil | (apply Split.cons; (repeat (first | with_reducible exact Take.here | apply Take.there)))))) ?_
              refine swl_nil ?_
              refine block_n ?_
              refine then_n ⟨ys ++ [c], μ3, addAll X.n (S, Q) (rowOf X.g c), rfl, ?_, hI2, fun y hy => ?_, hok3, ⟨?_, fun y hy => ?_⟩, hle.trans hμ3, fun k hk => ?_, fun hr => ?_⟩
              · rw [List.foldl_append]; rfl
              · rcases List.mem_append.1 hy with hy | hy
                · have := hym y hy; omega
                · rw [List.mem_singleton.1 hy]; exact Nat.le_refl _
              · rw [List.nodup_append]
                exact ⟨hask.1, by simp, fun x hx y hy e => by rw [List.mem_singleton.1 hy] at e; subst e; exact hcy hx⟩
              · rcases List.mem_append.1 hy with hy | hy
                · exact hask.2 y hy
                · rw [List.mem_singleton.1 hy]; exact ⟨by omega, by omega, h58⟩
              · rcases (hQ2 k).1 hk with hk | hk
                · exact hsnd k (List.mem_cons_of_mem _ hk)
                · exact hsc.trans (.step hk (.refl _))
              · obtain ⟨x, hx, hxr⟩ := hcov hr
                rcases List.mem_cons.1 hx with rfl | hx
                · cases hxr with
                  | refl => exact absurd rfl hca
                  | step hp hr2 => exact ⟨_, (hQ2 _).2 (.inr hp), hr2⟩
                · exact ⟨x, (hQ2 x).2 (.inl hx), hxr⟩
            · skip   -- 58 F
              refine swp_sub _ (.cons (t := 0) rfl (.cons (t := 1) rfl (.cons (t := 9) rfl (.cons (t := 10) rfl .nil)))) ?_
              refine swp_ent (Split.ent' (K := [wkB w sp q X.sv, mset sp X.n S, Wq.cq q Q (seenN X.n S), X.A (ys.foldl X.step s0) μ2, ro μ2]) (by repeat (first | exact Split.nil | (apply Split.cons; (repeat (first | with_reducible exact Take.here | apply Take.there)))))) ?_
              refine swp_skip ?_
              refine block_n ?_
              refine then_n ⟨ys, μ2, (S, Q), rfl, rfl, hI.pop, fun y hy => by have := hym y hy; omega, hok2, hask, hle, fun k hk => hsnd k (List.mem_cons_of_mem _ hk), fun hr => ?_⟩
              obtain ⟨x, hx, hxr⟩ := hcov hr
              rcases List.mem_cons.1 hx with rfl | hx
              · rw [hmay _ _ hxr hca] at h58; cases h58
              · exact ⟨x, hx, hxr⟩
          · skip   -- 52 F
            refine s_off rfl rfl rfl ?_
            refine s_off rfl rfl rfl ?_
            refine s_off rfl rfl rfl ?_
            refine s_off rfl rfl rfl ?_
            refine s_off rfl rfl rfl ?_
            first | refine s_pu (pu_pick_t rfl rfl) ?_ | refine s_pu (pu_pick_f rfl rfl) ?_
            refine swl_sub _ (.cons (t := 0) rfl (.cons (t := 1) rfl (.cons (t := 9) rfl (.cons (t := 10) rfl (.cons (t := 11) rfl (.cons (t := 58) rfl .nil)))))) ?_
            refine swl_nil ?_
            refine then_n ?_
            refine swp_cond (b := _) rfl (fun h58 => by cases h58) (fun h58 => ?_)
            refine swp_sub _ (.cons (t := 0) rfl (.cons (t := 1) rfl (.cons (t := 9) rfl (.cons (t := 10) rfl .nil)))) ?_
            refine swp_ent (Split.ent' (K := [wkB w sp q X.sv, mset sp X.n S, Wq.cq q Q (seenN X.n S), X.A (ys.foldl X.step s0) μ2, ro μ2]) (by repeat (first | exact Split.nil | (apply Split.cons; (repeat (first | with_reducible exact Take.here | apply Take.there)))))) ?_
            refine swp_skip ?_
            refine block_n ?_
            refine then_n ⟨ys, μ2, (S, Q), rfl, rfl, hI.pop, fun y hy => by have := hym y hy; omega, hok2, hask, hle, fun k hk => hsnd k (List.mem_cons_of_mem _ hk), fun hr => ?_⟩
            obtain ⟨x, hx, hxr⟩ := hcov hr
            rcases List.mem_cons.1 hx with rfl | hx
            · have := hxr.le X.hg
              have := of_decide_eq_false h52
              omega
            · exact ⟨x, hx, hxr⟩
      rintro env L ⟨ys', μ', st, rfl, rfl, hI', hym', hok', hask', hle', hsnd', hcov'⟩
      have hq3 := falls_len hok'.falls hok'.lt
      refine swp_region ?_
      refine s_pu (pu_move rfl) ?_
      first | refine s_pu (pu_nilCheck rfl) ?_ | refine s_pu (pu_nilCheck_fn rfl) ?_ | refine s_pu (pu_nilCheck_if rfl) ?_
      first | refine s_pu (pu_fieldAddr0 rfl) ?_ | refine s_pu (pu_fieldAddr rfl) ?_
      refine s_rd (rd_load rfl rfl) ?_
      refine s_ef (ef_fn (pop_any q (seenN X.n st.1) st.2 (by omega)) rfl rfl (by repeat (first | exact Split.nil | (apply Split.cons; (repeat (first | with_reducible exact Take.here | apply Take.there)))))) ?_
      rintro v43 L1 ⟨rfl, rfl⟩
      refine swl_app ?_
      refine s_pu (pu_move rfl) ?_
      first | refine s_pu (pu_extractL rfl) ?_ | refine s_pu (pu_extract rfl rfl) ?_
      first | refine s_pu (pu_extractL rfl) ?_ | refine s_pu (pu_extract rfl rfl) ?_
      refine s_pu (pu_assign rfl) ?_
      refine s_pu (pu_assign rfl) ?_
      refine swl_sub _ (.cons (t := 0) rfl (.cons (t := 1) rfl (.cons (t := 9) rfl (.cons (t := 10) rfl (.cons (t := 11) rfl (.cons (t := 12) rfl .nil)))))) ?_
      refine swl_ent (Split.ent' (K := [wkB w sp q X.sv, mset sp X.n st.1, Wq.cq q st.2.tail (seenN X.n st.1), X.A (ys'.foldl X.step s0) μ', ro μ']) (by repeat (first | exact Split.nil | (apply Split.cons; (repeat (first | with_reducible exact Take.here | apply Take.there)))))) ?_
      refine swl_nil ?_
      exact then_n ⟨(c, μ', ys', st), ⟨rfl, rfl, hI', by show c ≤ _; omega, hym', hok', hask', hle', hsnd', hcov'⟩, hcm⟩
    · skip   -- 37 F
      obtain rfl : Q = [] := by
        cases Q with
        | nil => rfl
        | cons c Q => cases h37
      refine swp_exit ?_
      refine then_x ?_
      refine then_x ?_
      refine block_hit rfl ?_
      refine then_n ?_
      refine swp_seq ?_
      refine swp_region ?_
      refine s_pu (pu_assign rfl) ?_
      refine s_pu (pu_assign rfl) ?_
      refine swl_sub _ (.cons (t := 6) rfl (.cons (t := 7) rfl .nil)) ?_
      refine swl_nil ?_
      refine then_n ?_
      refine swp_ret ?_
      refine done_ret [X.A (ys.foldl X.step s0) μ2, ro μ2] (.tmp rfl (.tmp rfl .nil)) ⟨ys, μ2, hask, hle, ?_, rfl⟩ (by repeat (first | exact Split.nil | (apply Split.cons; (repeat (first | with_reducible exact Take.here | apply Take.there)))))
      have hno : up X.g b a = false := by
        cases hu : up X.g b a with
        | false => rfl
        | true =>
          obtain ⟨x, hx, _⟩ := hcov ((up_iff X.hg b a).1 hu)
          cases hx
      unfold isAnc
      rw [show askedE X.n [[(a : Int), (b : Int)]] = 0 from he, Int.toNat_natCast, Int.toNat_natCast, hno, Bool.and_false]; rfl
end SX
namespace SX
open Go Go.Proofs

theorem has_w (p n : Nat) (S : Nat → Bool) (k : Nat) : Spec Tryd.prog 58 [.pointer (some ⟨p, 0, none⟩), .int .i64 (k : Nat)] [mset p n S] (fun r L => r = .bool (S k) ∧ L = [mset p n S]) := by
  have h := has_m p n S (k : Int)
  rw [decide_eq_true (show (0 : Int) ≤ (k : Int) by omega), Int.toNat_natCast, Bool.true_and] at h
  exact h
/-- what only some reach -/
def onlyE (g : List (List Int)) (xs ys : List Int) : Int := askedE g.length [xs, ys]
def onlyS (g : List (List Int)) (xs ys : List Int) : Nat → Bool := fun k => decide (k < g.length) && (anyUp g g.length xs k && !anyUp g g.length ys k)
def onlyA (g : List (List Int)) (xs ys : List Int) : List Int := if onlyE g xs ys = 0 then elsTo g.length (onlyS g xs ys) else []
theorem only_less (X : Src) (p1 p2 : Nat) (xs ys : List Int) : Spec Tryd.prog 59 [.pointer (some ⟨p1, 0, none⟩), .pointer (some ⟨p2, 0, none⟩)] [mset p1 X.n (anyUp X.g X.g.length xs), mset p2 X.n (anyUp X.g X.g.length ys)] (fun r L => r = .tuple #[] ∧ L = [mset p1 X.n (onlyS X.g xs ys), mset p2 X.n (anyUp X.g X.g.length ys)]) :=
  less_m p1 X.n p2 X.n (anyUp X.g X.g.length xs) (anyUp X.g X.g.length ys)
def askedIn (n : Nat) (zs : List Nat) : Prop := zs.Nodup ∧ ∀ y ∈ zs, y < n
theorem askedE_in {n : Nat} {ls : List (List Int)} (h : askedE n ls = 0) {l : List Int} (hl : l ∈ ls) : ∀ p ∈ l, 0 ≤ p ∧ p < n := by
  unfold askedE at h
  split at h
  · rename_i ha
    intro p hp
    have := List.all_eq_true.1 (List.all_eq_true.1 ha l hl) p hp
    simpa [inR] using this
  · cases h
set_option maxHeartbeats 4000000 in
theorem only_spec (X : Src) (s0 : X.σ) (μ : PH) (v u : Value) (xs ys : List Int) (hT : RowAt μ 0 0 tabV) (hv : Row μ v 1 xs.length (xs.flatMap (icsk .i64))) (hu : Row μ u 1 ys.length (ys.flatMap (icsk .i64)))
    (hl : xs.length ≤ 1048576) (hl2 : ys.length ≤ 1048576) (h0 : Le X.μ0 μ) (hf : X.fine s0) :
    Spec Tryd.prog 27 [X.sv, v, u] [X.A s0 μ, ro μ] (fun r L => ∃ lv zs μ', askedIn X.n zs ∧ Le μ μ' ∧ r = .tuple #[lv, .int .i64 (onlyE X.g xs ys)] ∧ L = [own 3 1 lv (onlyA X.g xs ys).length ((onlyA X.g xs ys).flatMap (icsk .i64)), X.A (zs.foldl X.step s0) μ', ro μ']) := by
  have hn := X.hn
  have hXn : X.n = X.g.length := rfl
  obtain ⟨A1, c1, rfl⟩ := hv.sl
  obtain ⟨A2, c2, rfl⟩ := hu.sl
  refine Spec.of 109 Tryd.func27 rfl rfl rfl ?_
  refine swp_seq ?_
  refine swp_region ?_
  refine s_pu (pu_assign rfl) ?_
  refine s_pu (pu_assign rfl) ?_
  refine swl_sub _ (.cons (t := 0) rfl (.cons (t := 1) rfl (.cons (t := 2) rfl .nil))) ?_
  refine swl_nil ?_
  refine then_n ?_
  refine swp_seq ?_
  refine swp_seq ?_
  refine swp_region ?_
  refine s_pu (pu_move rfl) ?_
  refine s_pu (pu_move rfl) ?_
  refine s_pu (pu_move rfl) ?_
  refine s_ef (ef_bldS (qs := [(0, _), (1, _)]) rfl rfl rfl) ?_
  intro b24
  refine swl_share (b := b24) (μ := μ) (by repeat (first | exact Split.nil | (apply Split.cons; (repeat (first | with_reducible exact Take.here | apply Take.there))))) fun μ1 h1 k1 => ?_
  refine swl_ent (X.up (s := s0) h1 (by repeat (first | exact Split.nil | (apply Split.cons; (repeat (first | with_reducible exact Take.here | apply Take.there)))))) ?_
  have hG : Graph μ1 (.slice (some ⟨b24, 0, none⟩) 2 2) [(.slice A1 xs.length c1, xs), (.slice A2 ys.length c2, ys)] := ⟨row_of_blk k1 (by rfl) (by decide), fun x hx => by
    rcases List.mem_cons.1 hx with rfl | hx
    · exact hv.le h1
    · obtain rfl := List.mem_singleton.1 hx; exact hu.le h1⟩
  refine s_ef (ef_fn (asked_spec X s0 μ1 _ _ hG) rfl rfl (by repeat (first | exact Split.nil | (apply Split.cons; (repeat (first | with_reducible exact Take.here | apply Take.there)))))) ?_
  rintro v25 L1 ⟨rfl, rfl⟩
  refine swl_app ?_
  rw [show askedE X.n (nums [(Value.slice A1 xs.length c1, xs), (Value.slice A2 ys.length c2, ys)]) = onlyE X.g xs ys from rfl]
  refine s_pu (pu_assign rfl) ?_
  refine swl_sub _ (.cons (t := 0) rfl (.cons (t := 1) rfl (.cons (t := 2) rfl (.cons (t := 8) rfl .nil)))) ?_
  refine swl_nil ?_
  refine then_n ?_
  refine swp_seq ?_
  refine swp_region ?_
  refine s_pu (pu_move rfl) ?_
  refine s_pu (pu_neq rfl rfl) ?_
  refine swl_sub _ (.cons (t := 0) rfl (.cons (t := 1) rfl (.cons (t := 2) rfl (.cons (t := 8) rfl (.cons (t := 27) rfl .nil))))) ?_
  refine swl_nil ?_
  refine then_n ?_
  refine swp_cond (b := _) rfl (fun h27 => ?_) (fun h27 => ?_)
  · skip   -- 27 T
    have he : onlyE X.g xs ys ≠ 0 := by simpa using h27
    refine swp_seq ?_
    refine swp_region ?_
    refine s_pu (pu_move rfl) ?_
    refine s_pu (pu_assign rfl) ?_
    refine s_pu (pu_assign rfl) ?_
    refine swl_sub _ (.cons (t := 6) rfl (.cons (t := 7) rfl .nil)) ?_
    refine swl_nil ?_
    refine then_n ?_
    refine swp_ret ?_
    refine then_r ?_
    refine done_retE [own 3 1 (.slice none 0 0) (onlyA X.g xs ys).length ((onlyA X.g xs ys).flatMap (icsk .i64)), X.A s0 μ1, ro μ1] (.tmp rfl (.tmp rfl .nil)) ⟨_, [], μ1, ⟨List.nodup_nil, fun y hy => by cases hy⟩, h1, rfl, rfl⟩ ?_
    rw [onlyA, if_neg he]
    exact (Split.ent' (K := [X.A s0 μ1, ro μ1]) (by repeat (first | exact Split.nil | (apply Split.cons; (repeat (first | with_reducible exact Take.here | apply Take.there)))))).trans own_nil_ent
  · skip   -- 27 F
    have he : onlyE X.g xs ys = 0 := by simpa using h27
    have hx := askedE_in (l := xs) he (by simp)
    have hy := askedE_in (l := ys) he (by simp)
    refine swp_skip ?_
    refine then_n ?_
    refine swp_seq ?_
    refine swp_region ?_
    refine s_pu (pu_move rfl) ?_
    refine s_ef (ef_fn (commits_spec X s0 μ1) rfl rfl (by repeat (first | exact Split.nil | (apply Split.cons; (repeat (first | with_reducible exact Take.here | apply Take.there)))))) ?_
    rintro v30 L1 ⟨rfl, rfl⟩
    refine swl_app ?_
    refine s_ef (ef_fn (new_m (X.n : Nat)) rfl rfl (by repeat (first | exact Split.nil | (apply Split.cons; (repeat (first | with_reducible exact Take.here | apply Take.there)))))) ?_
    rintro v31 L1 ⟨p1, rfl, rfl⟩
    refine swl_app ?_
    refine s_pu (pu_move rfl) ?_
    refine s_ef (ef_fn (commits_spec X s0 μ1) rfl rfl (by repeat (first | exact Split.nil | (apply Split.cons; (repeat (first | with_reducible exact Take.here | apply Take.there)))))) ?_
    rintro v33 L1 ⟨rfl, rfl⟩
    refine swl_app ?_
    refine s_ef (ef_fn (new_m (X.n : Nat)) rfl rfl (by repeat (first | exact Split.nil | (apply Split.cons; (repeat (first | with_reducible exact Take.here | apply Take.there)))))) ?_
    rintro v34 L1 ⟨p2, rfl, rfl⟩
    refine swl_app ?_
    refine s_pu (pu_assign rfl) ?_
    refine s_pu (pu_assign rfl) ?_
    refine swl_sub _ (.cons (t := 0) rfl (.cons (t := 1) rfl (.cons (t := 2) rfl (.cons (t := 9) rfl (.cons (t := 10) rfl .nil))))) ?_
    rw [clampM_id hn, show (fun _ : Nat => false) = seedS [] from funext fun j => by simp [seedS]]
    refine swl_nil ?_
    refine then_n ?_
    refine swp_seq ?_
    refine swp_seq ?_
    refine swp_region ?_
    refine s_pu (pu_move rfl) ?_
    refine s_pu (pu_len rfl) ?_
    refine s_pu (pu_move rfl) ?_
    refine swl_sub _ (.cons (t := 0) rfl (.cons (t := 1) rfl (.cons (t := 2) rfl (.cons (t := 9) rfl (.cons (t := 10) rfl (.cons (t := 35) rfl (.cons (t := 36) rfl (.cons (t := 37) rfl .nil)))))))) ?_
    refine swl_nil ?_
    refine then_n ?_
    refine swp_block ?_
    refine swp_ent (Split.ent' (K := [mset p2 X.n (seedS []), mset p1 X.n (seedS []), X.A s0 μ1, ro μ1]) (by repeat (first | exact Split.nil | (apply Split.cons; (repeat (first | with_reducible exact Take.here | apply Take.there)))))) ?_
    refine swp_loop (ι := Nat) (fun i env L => env = [(0, X.sv), (1, .slice A1 xs.length c1), (2, .slice A2 ys.length c2), (9, .pointer (some ⟨p1, 0, none⟩)), (10, .pointer (some ⟨p2, 0, none⟩)), (35, .slice A2 ys.length c2), (36, .int .i64 (ys.length : Nat)), (37, .int .i64 (i : Nat))] ∧ L = [mset p2 X.n (seedS (ys.take i)), mset p1 X.n (seedS []), X.A s0 μ1, ro μ1] ∧ i ≤ ys.length) (fun i => ys.length - i) 0 ⟨rfl, rfl, Nat.zero_le _⟩ ?_
    rintro i env L ⟨rfl, rfl, hi⟩
    refine swp_seq ?_
    refine swp_region ?_
    refine s_pu (pu_lss rfl rfl) ?_
    refine swl_sub _ (.cons (t := 0) rfl (.cons (t := 1) rfl (.cons (t := 2) rfl (.cons (t := 9) rfl (.cons (t := 10) rfl (.cons (t := 35) rfl (.cons (t := 36) rfl (.cons (t := 37) rfl (.cons (t := 38) rfl .nil))))))))) ?_
    refine swl_nil ?_
    refine then_n ?_
    refine swp_seq ?_
    refine swp_cond (b := _) rfl (fun h38 => ?_) (fun h38 => ?_)
    · skip   -- 38 T
      have h38' : i < ys.length := by have := of_decide_eq_true h38; omega
      obtain ⟨c, hc⟩ : ∃ c, ys[i]? = some c := ⟨_, List.getElem?_eq_getElem h38'⟩
      obtain ⟨pb, po, pc, hpv, hpc⟩ := (hu.le h1).at_ hc
      have hcr := hy c (List.mem_of_getElem? hc)
      refine swp_skip ?_
      refine then_n ?_
      refine swp_seq ?_
      refine swp_block ?_
      refine swp_seq ?_
      refine swp_region ?_
      refine s_pu (pu_indexAddr (po + i * 1) (congrArg some hpv) rfl (by omega) (by omega) (by rw [Int.toNat_natCast])) ?_
      refine s_rd (rd_ro rfl hpc) ?_
      refine s_pu (pu_assign rfl) ?_
      refine swl_sub _ (.cons (t := 0) rfl (.cons (t := 1) rfl (.cons (t := 2) rfl (.cons (t := 9) rfl (.cons (t := 10) rfl (.cons (t := 12) rfl (.cons (t := 35) rfl (.cons (t := 36) rfl (.cons (t := 37) rfl .nil))))))))) ?_
      refine swl_nil ?_
      refine then_n ?_
      refine swp_region ?_
      refine s_pu (pu_move rfl) ?_
      refine s_pu (pu_move rfl) ?_
      refine s_ef (ef_fn (put_w p2 X.n (seedS (ys.take i)) c) rfl rfl (by repeat (first | exact Split.nil | (apply Split.cons; (repeat (first | with_reducible exact Take.here | apply Take.there)))))) ?_
      rintro v43 L1 ⟨rfl, rfl⟩
      refine swl_app ?_
      refine swl_sub _ (.cons (t := 0) rfl (.cons (t := 1) rfl (.cons (t := 2) rfl (.cons (t := 9) rfl (.cons (t := 10) rfl (.cons (t := 35) rfl (.cons (t := 36) rfl (.cons (t := 37) rfl .nil)))))))) ?_
      rw [seedS_put hcr, show ys.take i ++ [c] = ys.take (i + 1) by rw [List.take_add_one, hc]; rfl]
      refine swl_nil ?_
      refine block_n ?_
      refine then_n ?_
      refine swp_region ?_
      refine s_pu (pu_add_as ((i + 1 : Nat) : Int) rfl rfl (by omega) (by omega) (by omega)) ?_
      refine s_pu (pu_move rfl) ?_
      refine swl_sub _ (.cons (t := 0) rfl (.cons (t := 1) rfl (.cons (t := 2) rfl (.cons (t := 9) rfl (.cons (t := 10) rfl (.cons (t := 35) rfl (.cons (t := 36) rfl (.cons (t := 37) rfl .nil)))))))) ?_
      refine swl_nil ?_
      exact then_n ⟨i + 1, ⟨rfl, rfl, h38'⟩, by omega⟩
    · skip   -- 38 F
      have h38' := of_decide_eq_false h38
      obtain rfl : i = ys.length := by omega
      rw [List.take_length]
      refine swp_exit ?_
      refine then_x ?_
      refine then_x ?_
      refine block_hit rfl ?_
      refine then_n ?_
      refine swp_seq ?_
      refine swp_seq ?_
      refine swp_region ?_
      refine s_pu (pu_move rfl) ?_
      refine s_pu (pu_len rfl) ?_
      refine s_pu (pu_move rfl) ?_
      refine swl_sub _ (.cons (t := 0) rfl (.cons (t := 1) rfl (.cons (t := 2) rfl (.cons (t := 9) rfl (.cons (t := 10) rfl (.cons (t := 45) rfl (.cons (t := 46) rfl (.cons (t := 47) rfl .nil)))))))) ?_
      refine swl_nil ?_
      refine then_n ?_
      refine swp_block ?_
      refine swp_ent (Split.ent' (K := [mset p1 X.n (seedS []), mset p2 X.n (seedS ys), X.A s0 μ1, ro μ1]) (by repeat (first | exact Split.nil | (apply Split.cons; (repeat (first | with_reducible exact Take.here | apply Take.there)))))) ?_
      refine swp_loop (ι := Nat) (fun i env L => env = [(0, X.sv), (1, .slice A1 xs.length c1), (2, .slice A2 ys.length c2), (9, .pointer (some ⟨p1, 0, none⟩)), (10, .pointer (some ⟨p2, 0, none⟩)), (45, .slice A1 xs.length c1), (46, .int .i64 (xs.length : Nat)), (47, .int .i64 (i : Nat))] ∧ L = [mset p1 X.n (seedS (xs.take i)), mset p2 X.n (seedS ys), X.A s0 μ1, ro μ1] ∧ i ≤ xs.length) (fun i => xs.length - i) 0 ⟨rfl, rfl, Nat.zero_le _⟩ ?_
      rintro i env L ⟨rfl, rfl, hi⟩
      refine swp_seq ?_
      refine swp_region ?_
      refine s_pu (pu_lss rfl rfl) ?_
      refine swl_sub _ (.cons (t := 0) rfl (.cons (t := 1) rfl (.cons (t := 2) rfl (.cons (t := 9) rfl (.cons (t := 10) rfl (.cons (t := 45) rfl (.cons (t := 46) rfl (.cons (t := 47) rfl (.cons (t := 48) rfl .nil))))))))) ?_
      refine swl_nil ?_
      refine then_n ?_
      refine swp_seq ?_
      refine swp_cond (b := _) rfl (fun h48 => ?_) (fun h48 => ?_)
      · skip   -- 48 T
        have h48' : i < xs.length := by have := of_decide_eq_true h48; omega
        obtain ⟨c, hc⟩ : ∃ c, xs[i]? = some c := ⟨_, List.getElem?_eq_getElem h48'⟩
        obtain ⟨pb, po, pc, hpv, hpc⟩ := (hv.le h1).at_ hc
        have hcr := hx c (List.mem_of_getElem? hc)
        refine swp_skip ?_
        refine then_n ?_
        refine swp_seq ?_
        refine swp_block ?_
        refine swp_seq ?_
        refine swp_region ?_
        refine s_pu (pu_indexAddr (po + i * 1) (congrArg some hpv) rfl (by omega) (by omega) (by rw [Int.toNat_natCast])) ?_
        refine s_rd (rd_ro rfl hpc) ?_
        refine s_pu (pu_assign rfl) ?_
        refine swl_sub _ (.cons (t := 0) rfl (.cons (t := 1) rfl (.cons (t := 2) rfl (.cons (t := 9) rfl (.cons (t := 10) rfl (.cons (t := 14) rfl (.cons (t := 45) rfl (.cons (t := 46) rfl (.cons (t := 47) rfl .nil))))))))) ?_
        refine swl_nil ?_
        refine then_n ?_
        refine swp_region ?_
        refine s_pu (pu_move rfl) ?_
        refine s_pu (pu_move rfl) ?_
        refine s_ef (ef_fn (put_w p1 X.n (seedS (xs.take i)) c) rfl rfl (by repeat (first | exact Split.nil | (apply Split.cons; (repeat (first | with_reducible exact Take.here | apply Take.there)))))) ?_
        rintro v53 L1 ⟨rfl, rfl⟩
        refine swl_app ?_
        refine swl_sub _ (.cons (t := 0) rfl (.cons (t := 1) rfl (.cons (t := 2) rfl (.cons (t := 9) rfl (.cons (t := 10) rfl (.cons (t := 45) rfl (.cons (t := 46) rfl (.cons (t := 47) rfl .nil)))))))) ?_
        rw [seedS_put hcr, show xs.take i ++ [c] = xs.take (i + 1) by rw [List.take_add_one, hc]; rfl]
        refine swl_nil ?_
        refine block_n ?_
        refine then_n ?_
        refine swp_region ?_
        refine s_pu (pu_add_as ((i + 1 : Nat) : Int) rfl rfl (by omega) (by omega) (by omega)) ?_
        refine s_pu (pu_move rfl) ?_
        refine swl_sub _ (.cons (t := 0) rfl (.cons (t := 1) rfl (.cons (t := 2) rfl (.cons (t := 9) rfl (.cons (t := 10) rfl (.cons (t := 45) rfl (.cons (t := 46) rfl (.cons (t := 47) rfl .nil)))))))) ?_
        refine swl_nil ?_
        exact then_n ⟨i + 1, ⟨rfl, rfl, h48'⟩, by omega⟩
      · skip   -- 48 F
        have h48' := of_decide_eq_false h48
        obtain rfl : i = xs.length := by omega
        rw [List.take_length]
        refine swp_exit ?_
        refine then_x ?_
        refine then_x ?_
        refine block_hit rfl ?_
        refine then_n ?_
        refine swp_seq ?_
        refine swp_region ?_
        refine s_pu (pu_move rfl) ?_
        refine s_ef (ef_bldS (qs := []) rfl rfl rfl) ?_
        intro b56
        refine swl_ent (own_empty (e := 3) (n := 1)) ?_
        refine s_pu (pu_move rfl) ?_
        refine s_ef (ef_append_ro (hv.le h1) rfl rfl (by repeat (first | exact Split.nil | (apply Split.cons; (repeat (first | with_reducible exact Take.here | apply Take.there))))) (icsk_one _) (by simp only [maxLen]; omega) (by omega)) ?_
        rintro v58 -
        rw [Nat.zero_add, List.nil_append]
        refine s_pu (pu_move rfl) ?_
        refine s_ef (ef_append_ro (hu.le h1) rfl rfl (by repeat (first | exact Split.nil | (apply Split.cons; (repeat (first | with_reducible exact Take.here | apply Take.there))))) (icsk_one _) (by simp only [maxLen]; omega) (by omega)) ?_
        rintro v60 -
        rw [← List.flatMap_append, ← List.length_append]
        refine swl_share_own (v := v60) (μ := μ1) (by repeat (first | exact Split.nil | (apply Split.cons; (repeat (first | with_reducible exact Take.here | apply Take.there))))) fun μ2 h2 r2 => ?_
        refine swl_ent (X.up (s := s0) h2 (by repeat (first | exact Split.nil | (apply Split.cons; (repeat (first | with_reducible exact Take.here | apply Take.there)))))) ?_
        refine s_ef (ef_fn (newWalker_spec X s0 μ2 v60 (xs ++ ys) (ro μ2) (Ints.row r2)) rfl rfl (by repeat (first | exact Split.nil | (apply Split.cons; (repeat (first | with_reducible exact Take.here | apply Take.there)))))) ?_
        rintro v61 L1 ⟨w, sp, q, rfl, ok0, rfl⟩
        refine swl_app ?_
        refine s_pu (pu_assign rfl) ?_
        refine swl_sub _ (.cons (t := 0) rfl (.cons (t := 9) rfl (.cons (t := 10) rfl (.cons (t := 15) rfl .nil)))) ?_
        refine swl_nil ?_
        refine then_n ?_
        refine swp_seq ?_
        refine swp_seq ?_
        obtain ⟨kI, kN⟩ := wk_start (n := X.g.length) (xs ++ ys)
        have kI' : WkI X.g.length X.g.length (addAll X.n wk0 (xs ++ ys)) := kI
        have kN' : ∀ k : Nat, (k : Int) ∈ xs ∨ (k : Int) ∈ ys → (addAll X.n wk0 (xs ++ ys)).1 k = true := fun k hk => by
          have hr : 0 ≤ (k : Int) ∧ (k : Int) < X.g.length := hk.elim (hx k) (hy k)
          exact (kI'.seen k (by omega)).2 ((kN k).2 (inRng_mem.2 ⟨List.mem_append.2 hk, hr⟩))
        clear kI kN
        generalize addAll X.n wk0 (xs ++ ys) = st0 at *
        have hq0 := falls_len ok0.falls ok0.lt
        refine swp_region ?_
        refine s_pu (pu_move rfl) ?_
        first | refine s_pu (pu_nilCheck rfl) ?_ | refine s_pu (pu_nilCheck_fn rfl) ?_ | refine s_pu (pu_nilCheck_if rfl) ?_
        first | refine s_pu (pu_fieldAddr0 rfl) ?_ | refine s_pu (pu_fieldAddr rfl) ?_
        refine s_rd (rd_load rfl rfl) ?_
        refine s_ef (ef_fn (pop_any q (seenN X.n st0.1) st0.2 (by omega)) rfl rfl (by repeat (first | exact Split.nil | (apply Split.cons; (repeat (first | with_reducible exact Take.here | apply Take.there)))))) ?_
        rintro v67 L1 ⟨rfl, rfl⟩
        refine swl_app ?_
        refine s_pu (pu_move rfl) ?_
        first | refine s_pu (pu_extractL rfl) ?_ | refine s_pu (pu_extract rfl rfl) ?_
        first | refine s_pu (pu_extractL rfl) ?_ | refine s_pu (pu_extract rfl rfl) ?_
        refine s_pu (pu_assign rfl) ?_
        refine s_pu (pu_assign rfl) ?_
        refine swl_sub _ (.cons (t := 0) rfl (.cons (t := 9) rfl (.cons (t := 10) rfl (.cons (t := 15) rfl (.cons (t := 16) rfl (.cons (t := 17) rfl .nil)))))) ?_
        refine swl_nil ?_
        refine then_n ?_
        refine swp_block ?_
        refine swp_ent (Split.ent' (K := [wkB w sp q X.sv, mset sp X.n st0.1, Wq.cq q st0.2.tail (seenN X.n st0.1), mset p1 X.n (seedS xs), mset p2 X.n (seedS ys), X.A s0 μ2, ro μ2]) (by repeat (first | exact Split.nil | (apply Split.cons; (repeat (first | with_reducible exact Take.here | apply Take.there)))))) ?_
        refine swp_loop (ι := Nat × PH × List Nat × Wk × (Nat → Bool) × (Nat → Bool)) (fun k env L => env = [(0, X.sv), (9, .pointer (some ⟨p1, 0, none⟩)), (10, .pointer (some ⟨p2, 0, none⟩)), (15, .pointer (some ⟨w, 0, none⟩)), (16, .int .i64 (k.2.2.2.1.2.headD 0 : Nat)), (17, .bool (!k.2.2.2.1.2.isEmpty))]
          ∧ L = [wkB w sp q X.sv, mset sp X.n k.2.2.2.1.1, Wq.cq q k.2.2.2.1.2.tail (seenN X.n k.2.2.2.1.1), mset p1 X.n k.2.2.2.2.1, mset p2 X.n k.2.2.2.2.2, X.A (k.2.2.1.foldl X.step s0) k.2.1, ro k.2.1]
          ∧ WkI X.g.length k.1 k.2.2.2.1 ∧ k.1 ≤ X.g.length ∧ (∀ y ∈ k.2.2.1, k.1 ≤ y) ∧ WkOk X.n k.2.2.2.1 ∧ askedIn X.n k.2.2.1 ∧ Le μ k.2.1
          ∧ (∀ j, k.2.2.2.2.1 j = true → k.2.2.2.1.1 j = true) ∧ (∀ j, k.2.2.2.2.2 j = true → k.2.2.2.1.1 j = true)
          ∧ upF X.g k.1 k.2.2.2.2.1 = anyUp X.g X.g.length xs ∧ upF X.g k.1 k.2.2.2.2.2 = anyUp X.g X.g.length ys) (fun k => k.1) (X.g.length, μ2, [], st0, seedS xs, seedS ys)
          ⟨rfl, rfl, kI', Nat.le_refl _, fun y hy => (by cases hy), ok0, ⟨List.nodup_nil, fun y hy => by cases hy⟩, h1.trans h2, fun j hj => kN' j (.inl (of_decide_eq_true hj)), fun j hj => kN' j (.inr (of_decide_eq_true hj)), rfl, rfl⟩ ?_
        rintro ⟨m, μ3, zs, ⟨S, Q⟩, T, U⟩ env L ⟨rfl, rfl, hI, hmn, hym, hokk, hask, hle, hTS, hUS, hTR, hUR⟩
        dsimp only at hI hmn hym hokk hask hle hTS hUS hTR hUR ⊢
        refine swp_seq ?_
        refine swp_seq ?_
        refine swp_region ?_
        refine s_pu (pu_move rfl) ?_
        refine swl_sub _ (.cons (t := 0) rfl (.cons (t := 9) rfl (.cons (t := 10) rfl (.cons (t := 15) rfl (.cons (t := 16) rfl (.cons (t := 70) rfl .nil)))))) ?_
        refine swl_nil ?_
        refine then_n ?_
        refine swp_cond (b := _) rfl (fun h70 => ?_) (fun h70 => ?_)
        · skip   -- 70 T
          obtain ⟨c, Q, rfl⟩ : ∃ c Q', Q = c :: Q' := by
            cases Q with
            | nil => cases h70
            | cons c Q => exact ⟨c, Q, rfl⟩
          have hcm : c < m := hI.lt c (List.mem_cons_self ..)
          have hrow : ∀ p ∈ rowOf X.g c, 0 ≤ p ∧ p < c := fun p hp => ⟨(row_good X.hg hp).1, (row_good X.hg hp).2.1⟩
          obtain ⟨hI2, hQ2, hS2⟩ := hI.pop.addAll hrow (by omega)
          have hok2 : WkOk X.n (S, Q) := ⟨(List.pairwise_cons.1 hokk.falls).2, fun k hk => hokk.lt k (List.mem_cons_of_mem _ hk), fun k hk => hokk.sub k (List.mem_cons_of_mem _ hk)⟩
          have hcy : c ∉ zs := fun hy => by have := hym c hy; omega
          simp only [List.tail_cons, List.headD_cons]
          refine swp_skip ?_
          refine then_n ?_
          refine swp_seq ?_
          refine swp_block ?_
          refine swp_seq ?_
          refine swp_region ?_
          refine s_pu (pu_move rfl) ?_
          refine s_pu (pu_move rfl) ?_
          refine s_ef (ef_invS rfl X.hd (X.parents (zs.foldl X.step s0) μ3 c (h0.trans hle) (by omega) (hf zs c hask.1 hcy (fun y hy => hask.2 y hy) (by omega))) rfl (by repeat (first | exact Split.nil | (apply Split.cons; (repeat (first | with_reducible exact Take.here | apply Take.there)))))) ?_
          rintro v81 L1 ⟨μ4, hμ4, hr, rfl⟩
          refine swl_app ?_
          refine s_pu (pu_assign rfl) ?_
          refine swl_sub _ (.cons (t := 0) rfl (.cons (t := 9) rfl (.cons (t := 10) rfl (.cons (t := 15) rfl (.cons (t := 16) rfl (.cons (t := 18) rfl .nil)))))) ?_
          refine swl_nil ?_
          refine then_n ?_
          refine swp_seq ?_
          refine swp_region ?_
          refine s_pu (pu_move rfl) ?_
          refine s_pu (pu_move rfl) ?_
          refine s_ef (ef_fn (add_spec w sp q X.n X.sv v81 (S, Q) (rowOf X.g c) (ro μ4) hn (Ints.row hr) hok2) rfl rfl (by repeat (first | exact Split.nil | (apply Split.cons; (repeat (first | with_reducible exact Take.here | apply Take.there)))))) ?_
          rintro v84 L1 ⟨rfl, hok3, rfl⟩
          refine swl_app ?_
          refine swl_sub _ (.cons (t := 0) rfl (.cons (t := 9) rfl (.cons (t := 10) rfl (.cons (t := 15) rfl (.cons (t := 16) rfl (.cons (t := 18) rfl .nil)))))) ?_
          refine swl_nil ?_
          refine then_n ?_
          refine swp_seq ?_
          have hI3 : WkI X.g.length c (addAll X.n (S, Q) (rowOf X.g c)) := hI2
          have hS3 : ∀ k, (addAll X.n (S, Q) (rowOf X.g c)).1 k = true ↔ S k = true ∨ (k : Int) ∈ rowOf X.g c := hS2
          have hd1 := goes_down hI hTS hTR
          have hd2 := goes_down hI hUS hUR
          clear hI2 hS2 hQ2
          generalize addAll X.n (S, Q) (rowOf X.g c) = st at *
          refine swp_region ?_
          refine s_pu (pu_move rfl) ?_
          refine s_pu (pu_len_row hr rfl) ?_
          refine s_pu (pu_move rfl) ?_
          refine swl_sub _ (.cons (t := 0) rfl (.cons (t := 9) rfl (.cons (t := 10) rfl (.cons (t := 15) rfl (.cons (t := 16) rfl (.cons (t := 85) rfl (.cons (t := 86) rfl (.cons (t := 87) rfl .nil)))))))) ?_
          refine swl_nil ?_
          refine then_n ?_
          refine swp_block ?_
          refine swp_ent (Split.ent' (K := [mset p1 X.n (partS T c []), mset p2 X.n (partS U c []), wkB w sp q X.sv, mset sp X.n st.1, Wq.cq q st.2 (seenN X.n st.1), X.A (X.step (zs.foldl X.step s0) c) μ4, ro μ4]) (by rw [partS_nil, partS_nil]; exact (by repeat (first | exact Split.nil | (apply Split.cons; (repeat (first | with_reducible exact Take.here | apply Take.there))))))) ?_
          refine swp_loop (ι := Nat) (fun i env L => env = [(0, X.sv), (9, .pointer (some ⟨p1, 0, none⟩)), (10, .pointer (some ⟨p2, 0, none⟩)), (15, .pointer (some ⟨w, 0, none⟩)), (16, .int .i64 (c : Nat)), (85, v81), (86, .int .i64 ((rowOf X.g c).length : Nat)), (87, .int .i64 (i : Nat))] ∧ L = [mset p1 X.n (partS T c ((rowOf X.g c).take i)), mset p2 X.n (partS U c ((rowOf X.g c).take i)), wkB w sp q X.sv, mset sp X.n st.1, Wq.cq q st.2 (seenN X.n st.1), X.A (X.step (zs.foldl X.step s0) c) μ4, ro μ4] ∧ i ≤ (rowOf X.g c).length) (fun i => (rowOf X.g c).length - i) 0 ⟨rfl, rfl, Nat.zero_le _⟩ ?_
          rintro i env L ⟨rfl, rfl, hi⟩
          refine swp_seq ?_
          refine swp_region ?_
          refine s_pu (pu_lss rfl rfl) ?_
          refine swl_sub _ (.cons (t := 0) rfl (.cons (t := 9) rfl (.cons (t := 10) rfl (.cons (t := 15) rfl (.cons (t := 16) rfl (.cons (t := 85) rfl (.cons (t := 86) rfl (.cons (t := 87) rfl (.cons (t := 88) rfl .nil))))))))) ?_
          refine swl_nil ?_
          refine then_n ?_
          refine swp_seq ?_
          refine swp_cond (b := _) rfl (fun h88 => ?_) (fun h88 => ?_)
          · skip   -- 88 T
            have h88' : i < (rowOf X.g c).length := by have := of_decide_eq_true h88; omega
            obtain ⟨p, hp⟩ : ∃ p, (rowOf X.g c)[i]? = some p := ⟨_, List.getElem?_eq_getElem h88'⟩
            obtain ⟨pb, po, pc, hpv, hpc⟩ := hr.at_ hp
            have hpr := hrow p (List.mem_of_getElem? hp)
            have htk : (rowOf X.g c).take (i + 1) = (rowOf X.g c).take i ++ [p] := by rw [List.take_add_one, hp]; rfl
            have hrs := hr.small
            refine swp_skip ?_
            refine then_n ?_
            refine swp_seq ?_
            refine swp_block ?_
            refine swp_seq ?_
            refine swp_region ?_
            refine s_pu (pu_indexAddr (po + i * 1) (congrArg some hpv) rfl (by omega) (by omega) (by rw [Int.toNat_natCast])) ?_
            refine s_rd (rd_ro rfl hpc) ?_
            refine s_pu (pu_assign rfl) ?_
            refine swl_sub _ (.cons (t := 0) rfl (.cons (t := 9) rfl (.cons (t := 10) rfl (.cons (t := 15) rfl (.cons (t := 16) rfl (.cons (t := 20) rfl (.cons (t := 85) rfl (.cons (t := 86) rfl (.cons (t := 87) rfl .nil))))))))) ?_
            refine swl_nil ?_
            refine then_n ?_
            refine swp_cut (fun env L => env = [(0, X.sv), (9, .pointer (some ⟨p1, 0, none⟩)), (10, .pointer (some ⟨p2, 0, none⟩)), (15, .pointer (some ⟨w, 0, none⟩)), (16, .int .i64 (c : Nat)), (20, .int .i64 p), (85, v81), (86, .int .i64 ((rowOf X.g c).length : Nat)), (87, .int .i64 (i : Nat))] ∧ L = [mset p1 X.n (partS T c ((rowOf X.g c).take (i + 1))), mset p2 X.n (partS U c ((rowOf X.g c).take i)), wkB w sp q X.sv, mset sp X.n st.1, Wq.cq q st.2 (seenN X.n st.1), X.A (X.step (zs.foldl X.step s0) c) μ4, ro μ4]) ?_ ?_
            · skip
              refine swp_seq ?_
              refine swp_region ?_
              refine s_pu (pu_move rfl) ?_
              refine s_pu (pu_move rfl) ?_
              refine s_ef (ef_fn (has_w p1 X.n (partS T c ((rowOf X.g c).take i)) c) rfl rfl (by repeat (first | exact Split.nil | (apply Split.cons; (repeat (first | with_reducible exact Take.here | apply Take.there)))))) ?_
              rintro v93 L1 ⟨rfl, rfl⟩
              refine swl_app ?_
              refine swl_sub _ (.cons (t := 0) rfl (.cons (t := 9) rfl (.cons (t := 10) rfl (.cons (t := 15) rfl (.cons (t := 16) rfl (.cons (t := 20) rfl (.cons (t := 85) rfl (.cons (t := 86) rfl (.cons (t := 87) rfl (.cons (t := 93) rfl .nil)))))))))) ?_
              refine swl_nil ?_
              refine then_n ?_
              refine swp_cond (b := _) rfl (fun h93 => ?_) (fun h93 => ?_)
              · skip   -- 93 T
                refine swp_region ?_
                refine s_pu (pu_move rfl) ?_
                refine s_pu (pu_move rfl) ?_
                refine s_ef (ef_fn (put_w p1 X.n (partS T c ((rowOf X.g c).take i)) p) rfl rfl (by repeat (first | exact Split.nil | (apply Split.cons; (repeat (first | with_reducible exact Take.here | apply Take.there)))))) ?_
                rintro v96 L1 ⟨rfl, rfl⟩
                refine swl_app ?_
                refine swl_sub _ (.cons (t := 0) rfl (.cons (t := 9) rfl (.cons (t := 10) rfl (.cons (t := 15) rfl (.cons (t := 16) rfl (.cons (t := 20) rfl (.cons (t := 85) rfl (.cons (t := 86) rfl (.cons (t := 87) rfl .nil))))))))) ?_
                rw [partS_put (by rw [partS_c] at h93; exact h93) (by omega), ← htk]
                refine swl_nil ?_
                exact then_n ⟨rfl, rfl⟩
              · skip   -- 93 F
                rw [show partS T c ((rowOf X.g c).take i) = partS T c ((rowOf X.g c).take (i + 1)) by rw [partS_c] at h93; rw [partS_no h93, partS_no h93]]
                refine swp_sub _ (.cons (t := 0) rfl (.cons (t := 9) rfl (.cons (t := 10) rfl (.cons (t := 15) rfl (.cons (t := 16) rfl (.cons (t := 20) rfl (.cons (t := 85) rfl (.cons (t := 86) rfl (.cons (t := 87) rfl .nil))))))))) ?_
                refine swp_skip ?_
                exact then_n ⟨rfl, rfl⟩
            rintro env L ⟨rfl, rfl⟩
            refine swp_seq ?_
            refine swp_region ?_
            refine s_pu (pu_move rfl) ?_
            refine s_pu (pu_move rfl) ?_
            refine s_ef (ef_fn (has_w p2 X.n (partS U c ((rowOf X.g c).take i)) c) rfl rfl (by repeat (first | exact Split.nil | (apply Split.cons; (repeat (first | with_reducible exact Take.here | apply Take.there)))))) ?_
            rintro v99 L1 ⟨rfl, rfl⟩
            refine swl_app ?_
            refine swl_sub _ (.cons (t := 0) rfl (.cons (t := 9) rfl (.cons (t := 10) rfl (.cons (t := 15) rfl (.cons (t := 16) rfl (.cons (t := 20) rfl (.cons (t := 85) rfl (.cons (t := 86) rfl (.cons (t := 87) rfl (.cons (t := 99) rfl .nil)))))))))) ?_
            refine swl_nil ?_
            refine then_n ?_
            refine swp_cond (b := _) rfl (fun h99 => ?_) (fun h99 => ?_)
            · skip   -- 99 T
              refine swp_region ?_
              refine s_pu (pu_move rfl) ?_
              refine s_pu (pu_move rfl) ?_
              refine s_ef (ef_fn (put_w p2 X.n (partS U c ((rowOf X.g c).take i)) p) rfl rfl (by repeat (first | exact Split.nil | (apply Split.cons; (repeat (first | with_reducible exact Take.here | apply Take.there)))))) ?_
              rintro v102 L1 ⟨rfl, rfl⟩
              refine swl_app ?_
              refine swl_sub _ (.cons (t := 0) rfl (.cons (t := 9) rfl (.cons (t := 10) rfl (.cons (t := 15) rfl (.cons (t := 16) rfl (.cons (t := 85) rfl (.cons (t := 86) rfl (.cons (t := 87) rfl .nil)))))))) ?_
              rw [partS_put (by rw [partS_c] at h99; exact h99) (by omega), ← htk]
              refine swl_nil ?_
              refine block_n ?_
              refine then_n ?_
              refine swp_region ?_
              refine s_pu (pu_add_as ((i + 1 : Nat) : Int) rfl rfl (by omega) (by omega) (by omega)) ?_
              refine s_pu (pu_move rfl) ?_
              refine swl_sub _ (.cons (t := 0) rfl (.cons (t := 9) rfl (.cons (t := 10) rfl (.cons (t := 15) rfl (.cons (t := 16) rfl (.cons (t := 85) rfl (.cons (t := 86) rfl (.cons (t := 87) rfl .nil)))))))) ?_
              refine swl_ent (Split.ent' (K := [mset p1 X.n (partS T c ((rowOf X.g c).take (i + 1))), mset p2 X.n (partS U c ((rowOf X.g c).take (i + 1))), wkB w sp q X.sv, mset sp X.n st.1, Wq.cq q st.2 (seenN X.n st.1), X.A (X.step (zs.foldl X.step s0) c) μ4, ro μ4]) (by repeat (first | exact Split.nil | (apply Split.cons; (repeat (first | with_reducible exact Take.here | apply Take.there)))))) ?_
              refine swl_nil ?_
              exact then_n ⟨i + 1, ⟨rfl, rfl, h88'⟩, by omega⟩
            · skip   -- 99 F
              rw [show partS U c ((rowOf X.g c).take i) = partS U c ((rowOf X.g c).take (i + 1)) by rw [partS_c] at h99; rw [partS_no h99, partS_no h99]]
              refine swp_skip ?_
              refine block_n ?_
              refine then_n ?_
              refine swp_region ?_
              refine s_pu (pu_add_as ((i + 1 : Nat) : Int) rfl rfl (by omega) (by omega) (by omega)) ?_
              refine s_pu (pu_move rfl) ?_
              refine swl_sub _ (.cons (t := 0) rfl (.cons (t := 9) rfl (.cons (t := 10) rfl (.cons (t := 15) rfl (.cons (t := 16) rfl (.cons (t := 85) rfl (.cons (t := 86) rfl (.cons (t := 87) rfl .nil)))))))) ?_
              refine swl_ent (Split.ent' (K := [mset p1 X.n (partS T c ((rowOf X.g c).take (i + 1))), mset p2 X.n (partS U c ((rowOf X.g c).take (i + 1))), wkB w sp q X.sv, mset sp X.n st.1, Wq.cq q st.2 (seenN X.n st.1), X.A (X.step (zs.foldl X.step s0) c) μ4, ro μ4]) (by repeat (first | exact Split.nil | (apply Split.cons; (repeat (first | with_reducible exact Take.here | apply Take.there)))))) ?_
              refine swl_nil ?_
              exact then_n ⟨i + 1, ⟨rfl, rfl, h88'⟩, by omega⟩
          · skip   -- 88 F
            have h88' := of_decide_eq_false h88
            obtain rfl : i = (rowOf X.g c).length := by omega
            rw [List.take_length, partS_row, partS_row]
            have hq3 := falls_len hok3.falls hok3.lt
            refine swp_exit ?_
            refine then_x ?_
            refine then_x ?_
            refine block_hit rfl ?_
            refine block_n ?_
            refine then_n ?_
            refine swp_region ?_
            refine s_pu (pu_move rfl) ?_
            first | refine s_pu (pu_nilCheck rfl) ?_ | refine s_pu (pu_nilCheck_fn rfl) ?_ | refine s_pu (pu_nilCheck_if rfl) ?_
            first | refine s_pu (pu_fieldAddr0 rfl) ?_ | refine s_pu (pu_fieldAddr rfl) ?_
            refine s_rd (rd_load rfl rfl) ?_
            refine s_ef (ef_fn (pop_any q (seenN X.n st.1) st.2 (by omega)) rfl rfl (by repeat (first | exact Split.nil | (apply Split.cons; (repeat (first | with_reducible exact Take.here | apply Take.there)))))) ?_
            rintro v76 L1 ⟨rfl, rfl⟩
            refine swl_app ?_
            refine s_pu (pu_move rfl) ?_
            first | refine s_pu (pu_extractL rfl) ?_ | refine s_pu (pu_extract rfl rfl) ?_
            first | refine s_pu (pu_extractL rfl) ?_ | refine s_pu (pu_extract rfl rfl) ?_
            refine s_pu (pu_assign rfl) ?_
            refine s_pu (pu_assign rfl) ?_
            refine swl_sub _ (.cons (t := 0) rfl (.cons (t := 9) rfl (.cons (t := 10) rfl (.cons (t := 15) rfl (.cons (t := 16) rfl (.cons (t := 17) rfl .nil)))))) ?_
            refine swl_ent (Split.ent' (K := [wkB w sp q X.sv, mset sp X.n st.1, Wq.cq q st.2.tail (seenN X.n st.1), mset p1 X.n (stepUp X.g c T), mset p2 X.n (stepUp X.g c U), X.A (X.step (zs.foldl X.step s0) c) μ4, ro μ4]) (by repeat (first | exact Split.nil | (apply Split.cons; (repeat (first | with_reducible exact Take.here | apply Take.there)))))) ?_
            refine swl_nil ?_
            have sub : ∀ V : Nat → Bool, (∀ j, V j = true → S j = true) → ∀ j, stepUp X.g c V j = true → st.1 j = true := fun V hV j hj => by
              rw [hS3]
              unfold stepUp at hj
              rw [Bool.or_eq_true, Bool.and_eq_true] at hj
              exact hj.elim (fun h => .inl (hV j h)) (fun h => .inr (of_decide_eq_true h.2))
            refine then_n ⟨(c, μ4, zs ++ [c], st, stepUp X.g c T, stepUp X.g c U), ⟨rfl, ?_, hI3, by show c ≤ _; omega, fun y hy => ?_, hok3, ⟨?_, fun y hy => ?_⟩, hle.trans hμ4, sub T hTS, sub U hUS, hd1, hd2⟩, hcm⟩
            · rw [List.foldl_append]; rfl
            · rcases List.mem_append.1 hy with hy | hy
              · have := hym y hy; show c ≤ y; omega
              · rw [List.mem_singleton.1 hy]; exact Nat.le_refl _
            · rw [List.nodup_append]
              exact ⟨hask.1, by simp, fun x hx y hy e => by rw [List.mem_singleton.1 hy] at e; subst e; exact hcy hx⟩
            · rcases List.mem_append.1 hy with hy | hy
              · exact hask.2 y hy
              · rw [List.mem_singleton.1 hy]; show c < X.g.length; omega
        · skip   -- 70 F
          obtain rfl : Q = [] := by
            cases Q with
            | nil => rfl
            | cons c Q => cases h70
          rw [goes_end hI hTS hTR, goes_end hI hUS hUR]
          refine swp_exit ?_
          refine then_x ?_
          refine then_x ?_
          refine block_hit rfl ?_
          refine then_n ?_
          refine swp_seq ?_
          refine swp_region ?_
          refine s_pu (pu_move rfl) ?_
          refine s_pu (pu_move rfl) ?_
          refine s_ef (ef_fn (only_less X p1 p2 xs ys) rfl rfl (by repeat (first | exact Split.nil | (apply Split.cons; (repeat (first | with_reducible exact Take.here | apply Take.there)))))) ?_
          rintro v106 L1 ⟨rfl, rfl⟩
          refine swl_app ?_
          refine swl_sub _ (.cons (t := 9) rfl .nil) ?_
          refine swl_nil ?_
          refine then_n ?_
          refine swp_seq ?_
          refine swp_region ?_
          refine s_pu (pu_move rfl) ?_
          refine s_ef (ef_fn (list_m μ3 p1 X.n (onlyS X.g xs ys) (hT.le hle)) rfl rfl (by repeat (first | exact Split.nil | (apply Split.cons; (repeat (first | with_reducible exact Take.here | apply Take.there)))))) ?_
          rintro v108 L1 rfl
          refine swl_app ?_
          refine s_pu (pu_assign rfl) ?_
          refine s_pu (pu_assign rfl) ?_
          refine swl_sub _ (.cons (t := 6) rfl (.cons (t := 7) rfl .nil)) ?_
          refine swl_nil ?_
          refine then_n ?_
          refine swp_ret ?_
          refine done_retE [own 3 1 v108 (onlyA X.g xs ys).length ((onlyA X.g xs ys).flatMap (icsk .i64)), X.A (zs.foldl X.step s0) μ3, ro μ3] (.tmp rfl (.tmp rfl .nil)) ⟨_, zs, μ3, hask, hle, by rw [he]; rfl, rfl⟩ ?_
          rw [onlyA, if_pos he]
          exact Split.ent' (by repeat (first | exact Split.nil | (apply Split.cons; (repeat (first | with_reducible exact Take.here | apply Take.there)))))
end SX
namespace SX
open Go Go.Proofs

def unkB (n : Nat) (xs : List Int) : Bool := !(xs.all (inR n))
theorem unknown_spec (gv lv : Value) (n : Nat) (xs : List Int) (L0 : List Assn) (hg : ∃ A c, gv = .slice A n c) (hv : Ints Tryd.prog 3 L0 lv xs) : Spec Tryd.prog 29 [gv, lv] L0 (fun r L => r = .bool (unkB n xs) ∧ L = L0) := by
  obtain ⟨A, c, rfl⟩ := hg
  obtain ⟨B, cb, rfl, hlb, hb⟩ := hv
  refine Spec.of 26 Tryd.func29 rfl rfl rfl ?_
  refine swp_seq ?_
  refine swp_region ?_
  refine s_pu (pu_assign rfl) ?_
  refine swl_sub _ (.cons (t := 0) rfl (.cons (t := 1) rfl .nil)) ?_
  refine swl_nil ?_
  refine then_n ?_
  refine swp_seq ?_
  refine swp_seq ?_
  refine swp_region ?_
  refine s_pu (pu_assign rfl) ?_
  refine swl_sub _ (.cons (t := 0) rfl (.cons (t := 1) rfl (.cons (t := 5) rfl .nil))) ?_
  refine swl_nil ?_
  refine then_n ?_
  refine swp_block ?_
  refine swp_loop (ι := Nat) (fun i env L => env = [(0, .slice A n c), (1, .slice B xs.length cb), (5, .int .i64 (i : Nat))] ∧ L = L0 ∧ i ≤ xs.length ∧ (xs.take i).all (inR n) = true) (fun i => xs.length - i) 0 ⟨rfl, rfl, Nat.zero_le _, rfl⟩ ?_
  rintro i env L ⟨rfl, rfl, hi, hall⟩
  refine swp_seq ?_
  refine swp_seq ?_
  refine swp_region ?_
  refine s_pu (pu_move rfl) ?_
  refine s_pu (pu_move rfl) ?_
  refine s_pu (pu_len rfl) ?_
  refine s_pu (pu_lss rfl rfl) ?_
  refine swl_sub _ (.cons (t := 0) rfl (.cons (t := 1) rfl (.cons (t := 5) rfl (.cons (t := 9) rfl .nil)))) ?_
  refine swl_nil ?_
  refine then_n ?_
  refine swp_cond (b := _) rfl (fun h9 => ?_) (fun h9 => ?_)
  · skip   -- 9 T
    have h9' : i < xs.length := by have := of_decide_eq_true h9; omega
    obtain ⟨x, hx⟩ : ∃ x, xs[i]? = some x := ⟨_, List.getElem?_eq_getElem h9'⟩
    obtain ⟨bb, bo, rfl, hxl⟩ := hb (by omega)
    have hbad : inR n x = false → xs.all (inR n) = false := fun h => by
      rw [List.all_eq_false]
      exact ⟨x, List.mem_of_getElem? hx, by rw [h]; exact Bool.false_ne_true⟩
    refine swp_skip ?_
    refine then_n ?_
    refine swp_seq ?_
    refine swp_block ?_
    refine swp_seq ?_
    refine swp_region ?_
    refine s_pu (pu_move rfl) ?_
    refine s_pu (pu_move rfl) ?_
    refine s_pu (pu_indexAddr (bo + i * 1) rfl rfl (by omega) (by omega) (by rw [Int.toNat_natCast])) ?_
    refine s_rd (rd_of_ld rfl (by rw [Nat.mul_one]; exact hxl i x hx)) ?_
    refine s_pu (pu_lss rfl rfl) ?_
    refine s_pu (pu_move rfl) ?_
    refine s_split 17 rfl (fun h17 => ?_) (fun h17 => ?_)
    · skip   -- 17 T
      refine s_off rfl rfl rfl ?_
      refine s_off rfl rfl rfl ?_
      refine s_off rfl rfl rfl ?_
      refine s_off rfl rfl rfl ?_
      refine s_off rfl rfl rfl ?_
      refine s_off rfl rfl rfl ?_
      refine s_off rfl rfl rfl ?_
      first | refine s_pu (pu_pick_t rfl rfl) ?_ | refine s_pu (pu_pick_f rfl rfl) ?_
      refine swl_sub _ (.cons (t := 0) rfl (.cons (t := 1) rfl (.cons (t := 5) rfl (.cons (t := 25) rfl .nil)))) ?_
      refine swl_nil ?_
      refine then_n ?_
      refine swp_cond (b := _) rfl (fun h25 => ?_) (fun h25 => by cases h25)
      refine swp_seq ?_
      refine swp_region ?_
      refine s_pu (pu_assign rfl) ?_
      refine swl_sub _ (.cons (t := 4) rfl .nil) ?_
      refine swl_nil ?_
      refine then_n ?_
      refine swp_ret ?_
      refine block_r ?_
      refine then_r ?_
      refine then_r ?_
      refine block_r ?_
      refine then_r ?_
      have h17' := of_decide_eq_true h17
      exact done_ret _ (.tmp rfl .nil) ⟨by unfold unkB; rw [hbad (by unfold inR; rw [decide_eq_false (by omega)]; rfl)]; rfl, rfl⟩ Split.all
    · skip   -- 17 F
      refine s_on rfl rfl ?_
      refine s_pu (pu_move rfl) ?_
      refine s_on rfl rfl ?_
      refine s_pu (pu_move rfl) ?_
      refine s_on rfl rfl ?_
      refine s_pu (pu_indexAddr (bo + i * 1) rfl rfl (by omega) (by omega) (by rw [Int.toNat_natCast])) ?_
      refine s_on rfl rfl ?_
      refine s_rd (rd_of_ld rfl (by rw [Nat.mul_one]; exact hxl i x hx)) ?_
      refine s_on rfl rfl ?_
      refine s_pu (pu_move rfl) ?_
      refine s_on rfl rfl ?_
      refine s_pu (pu_len rfl) ?_
      refine s_on rfl rfl ?_
      refine s_pu (pu_geq rfl rfl) ?_
      first | refine s_pu (pu_pick_t rfl rfl) ?_ | refine s_pu (pu_pick_f rfl rfl) ?_
      refine swl_sub _ (.cons (t := 0) rfl (.cons (t := 1) rfl (.cons (t := 5) rfl (.cons (t := 25) rfl .nil)))) ?_
      refine swl_nil ?_
      refine then_n ?_
      refine swp_cond (b := _) rfl (fun h25 => ?_) (fun h25 => ?_)
      · skip   -- 25 T
        refine swp_seq ?_
        refine swp_region ?_
        refine s_pu (pu_assign rfl) ?_
        refine swl_sub _ (.cons (t := 4) rfl .nil) ?_
        refine swl_nil ?_
        refine then_n ?_
        refine swp_ret ?_
        refine block_r ?_
        refine then_r ?_
        refine then_r ?_
        refine block_r ?_
        refine then_r ?_
        have h25' := of_decide_eq_true h25
        exact done_ret _ (.tmp rfl .nil) ⟨by unfold unkB; rw [hbad (by unfold inR; rw [decide_eq_false (p := x < (n : Int)) (by omega), Bool.and_false])]; rfl, rfl⟩ Split.all
      · skip   -- 25 F
        refine swp_skip ?_
        refine block_n ?_
        refine then_n ?_
        refine swp_region ?_
        refine s_pu (pu_move rfl) ?_
        refine s_pu (pu_add_as ((i + 1 : Nat) : Int) rfl rfl (by omega) (by omega) (by omega)) ?_
        refine s_pu (pu_assign rfl) ?_
        refine swl_sub _ (.cons (t := 0) rfl (.cons (t := 1) rfl (.cons (t := 5) rfl .nil))) ?_
        refine swl_nil ?_
        have h17' := of_decide_eq_false h17
        have h25' := of_decide_eq_false h25
        refine then_n ⟨i + 1, ⟨rfl, rfl, h9', ?_⟩, by omega⟩
        rw [List.take_add_one, hx, List.all_append, hall]
        show (true && ([x].all _)) = true
        simp only [List.all_cons, List.all_nil, Bool.and_true, Bool.true_and]
        unfold inR
        rw [decide_eq_true (show 0 ≤ x by omega), decide_eq_true (show x < (n : Int) by omega)]; rfl
  · skip   -- 9 F
    have h9' := of_decide_eq_false h9
    obtain rfl : i = xs.length := by omega
    rw [List.take_length] at hall
    refine swp_exit ?_
    refine then_x ?_
    refine then_x ?_
    refine block_hit rfl ?_
    refine then_n ?_
    refine swp_seq ?_
    refine swp_region ?_
    refine s_pu (pu_assign rfl) ?_
    refine swl_sub _ (.cons (t := 4) rfl .nil) ?_
    refine swl_nil ?_
    refine then_n ?_
    refine swp_ret ?_
    exact done_ret _ (.tmp rfl .nil) ⟨by unfold unkB; rw [hall]; rfl, rfl⟩ Split.all
set_option maxHeartbeats 1000000 in
theorem any_spec (μ : PH) (v lv : Value) (G : List (Value × List Int)) (xs : List Int) (hG : Graph μ v G) (hbig : G.length ≤ 1099511627776) (hg : Good (nums G)) (hv : Row μ lv 1 xs.length (xs.flatMap (icsk .i64))) (hxs : ∀ p ∈ xs, 0 ≤ p ∧ p < G.length) :
    Spec Tryd.prog 51 [v, lv] [ro μ] (fun r L => ∃ b, r = .slice (some ⟨b, 0, none⟩) G.length G.length ∧ L = [blk b 4 (rbs G.length (anyUp (nums G) G.length xs)), ro μ]) := by
  have hsm := hv.small
  refine Spec.of 54 Tryd.func51 rfl rfl rfl ?_
  refine swp_seq ?_
  refine swp_region ?_
  refine s_pu (pu_assign rfl) ?_
  refine swl_sub _ (.cons (t := 0) rfl (.cons (t := 1) rfl .nil)) ?_
  refine swl_nil ?_
  refine then_n ?_
  refine swp_seq ?_
  refine swp_region ?_
  refine s_pu (pu_move rfl) ?_
  refine s_pu (pu_len_row hG.1 rfl) ?_
  refine s_ef (ef_make1 G.length rfl rfl rfl (by omega) (by simp only [maxLen]; omega)) ?_
  rintro b11
  skip
  refine s_pu (pu_assign rfl) ?_
  refine swl_sub _ (.cons (t := 0) rfl (.cons (t := 1) rfl (.cons (t := 5) rfl .nil))) ?_
  refine swl_nil ?_
  refine then_n ?_
  refine swp_seq ?_
  refine swp_seq ?_
  refine swp_region ?_
  refine s_pu (pu_assign rfl) ?_
  refine swl_sub _ (.cons (t := 0) rfl (.cons (t := 1) rfl (.cons (t := 5) rfl (.cons (t := 6) rfl .nil)))) ?_
  refine swl_nil ?_
  refine then_n ?_
  refine swp_block ?_
  rw [show List.replicate G.length (Value.bool false) = rbs G.length (seedS (xs.take 0)) by rw [rbs_false]; exact rbs_ext fun j _ => by simp [seedS]]
  refine swp_loop (ι := Nat) (fun i env L => env = [(0, v), (1, lv), (5, .slice (some ⟨b11, 0, none⟩) G.length G.length), (6, .int .i64 (i : Nat))] ∧ L = [blk b11 4 (rbs G.length (seedS (xs.take i))), ro μ] ∧ i ≤ xs.length) (fun i => xs.length - i) 0 ⟨rfl, rfl, Nat.zero_le _⟩ ?_
  rintro i env L ⟨rfl, rfl, hi⟩
  refine swp_seq ?_
  refine swp_seq ?_
  refine swp_region ?_
  refine s_pu (pu_move rfl) ?_
  refine s_pu (pu_move rfl) ?_
  refine s_pu (pu_len_row hv rfl) ?_
  refine s_pu (pu_lss rfl rfl) ?_
  refine swl_sub _ (.cons (t := 0) rfl (.cons (t := 1) rfl (.cons (t := 5) rfl (.cons (t := 6) rfl (.cons (t := 15) rfl .nil))))) ?_
  refine swl_nil ?_
  refine then_n ?_
  refine swp_cond (b := _) rfl (fun h15 => ?_) (fun h15 => ?_)
  · skip   -- 15 T
    have h15' : i < xs.length := by have := of_decide_eq_true h15; omega
    obtain ⟨x, hx⟩ : ∃ x, xs[i]? = some x := ⟨_, List.getElem?_eq_getElem h15'⟩
    obtain ⟨pb, po, pc, hpv, hpc⟩ := hv.at_ hx
    have hxr := hxs x (List.mem_of_getElem? hx)
    obtain ⟨k, rfl⟩ : ∃ k : Nat, x = k := ⟨x.toNat, by omega⟩
    refine swp_skip ?_
    refine then_n ?_
    refine swp_seq ?_
    refine swp_block ?_
    refine swp_region ?_
    refine s_pu (pu_move rfl) ?_
    refine s_pu (pu_move rfl) ?_
    refine s_pu (pu_move rfl) ?_
    refine s_pu (pu_indexAddr (po + i * 1) (congrArg some hpv) rfl (by omega) (by omega) (by rw [Int.toNat_natCast])) ?_
    refine s_rd (rd_ro rfl hpc) ?_
    refine s_pu (pu_indexAddr k rfl rfl (by omega) (by omega) (by omega)) ?_
    refine s_ef0 (ef_storeP rfl rfl rfl (by rw [rbs_len]; omega)) ?_
    refine swl_sub _ (.cons (t := 0) rfl (.cons (t := 1) rfl (.cons (t := 5) rfl (.cons (t := 6) rfl .nil)))) ?_
    rw [rbs_set (T := seedS (xs.take (i + 1))) (fun y _ => by
      rw [List.take_add_one, hx]
      unfold seedS
      by_cases e : y = k
      · subst e; simp
      · have : (y : Int) ≠ k := by omega
        simp [e, this])]
    refine swl_nil ?_
    refine block_n ?_
    refine then_n ?_
    refine swp_region ?_
    refine s_pu (pu_move rfl) ?_
    refine s_pu (pu_add_as ((i + 1 : Nat) : Int) rfl rfl (by omega) (by omega) (by omega)) ?_
    refine s_pu (pu_assign rfl) ?_
    refine swl_sub _ (.cons (t := 0) rfl (.cons (t := 1) rfl (.cons (t := 5) rfl (.cons (t := 6) rfl .nil)))) ?_
    refine swl_nil ?_
    exact then_n ⟨i + 1, ⟨rfl, rfl, h15'⟩, by omega⟩
  · skip   -- 15 F
    have h15' := of_decide_eq_false h15
    obtain rfl : i = xs.length := by omega
    rw [List.take_length]
    refine swp_exit ?_
    refine then_x ?_
    refine then_x ?_
    refine block_hit rfl ?_
    refine then_n ?_
    refine swp_seq ?_
    refine swp_seq ?_
    refine swp_region ?_
    refine s_pu (pu_move rfl) ?_
    refine s_pu (pu_len_row hG.1 rfl) ?_
    refine s_pu (pu_sub_as ((G.length : Nat) - 1 : Int) rfl rfl (by omega) (by omega) (by omega)) ?_
    refine s_pu (pu_assign rfl) ?_
    refine swl_sub _ (.cons (t := 0) rfl (.cons (t := 5) rfl (.cons (t := 7) rfl .nil))) ?_
    refine swl_nil ?_
    refine then_n ?_
    refine swp_block ?_
    refine swp_sub _ (.cons (t := 0) rfl (.cons (t := 5) rfl (.cons (t := 7) rfl .nil))) ?_
    refine swp_loop (ι := Nat × (Nat → Bool)) (fun k env L => env = [(0, v), (5, .slice (some ⟨b11, 0, none⟩) G.length G.length), (7, .int .i64 ((k.1 : Nat) - 1 : Int))] ∧ L = [blk b11 4 (rbs G.length k.2), ro μ] ∧ k.1 ≤ G.length ∧ upF (nums G) k.1 k.2 = anyUp (nums G) G.length xs) (fun k => k.1) (G.length, seedS xs) ⟨rfl, rfl, Nat.le_refl _, rfl⟩ ?_
    rintro ⟨k, S⟩ env L ⟨rfl, rfl, hk, hup⟩
    dsimp only at hk hup ⊢
    refine swp_seq ?_
    refine swp_seq ?_
    refine swp_region ?_
    refine s_pu (pu_move rfl) ?_
    refine s_pu (pu_geq rfl rfl) ?_
    refine swl_sub _ (.cons (t := 0) rfl (.cons (t := 5) rfl (.cons (t := 7) rfl (.cons (t := 28) rfl .nil)))) ?_
    refine swl_nil ?_
    refine then_n ?_
    refine swp_cond (b := _) rfl (fun h28 => ?_) (fun h28 => ?_)
    · skip   -- 28 T
      have h28' := of_decide_eq_true h28
      obtain ⟨c, rfl⟩ : ∃ c, k = c + 1 := ⟨k - 1, by omega⟩
      rw [show (((c + 1 : Nat) : Int) - 1) = c by omega]
      obtain ⟨gb, off, cap, x, hgv, hx, hxc, hxr, hnx⟩ := row_at hG (show c < G.length by omega)
      have hxo := rowOf_at hnx
      have hxg := hg c _ hnx
      have hxs' := hxr.small
      replace hup : upF (nums G) c (stepUp (nums G) c S) = anyUp (nums G) G.length xs := hup
      refine swp_skip ?_
      refine then_n ?_
      refine swp_seq ?_
      refine swp_block ?_
      refine swp_seq ?_
      refine swp_region ?_
      refine s_pu (pu_move rfl) ?_
      refine s_pu (pu_move rfl) ?_
      refine s_pu (pu_indexAddr c rfl rfl (by omega) (by omega) (by omega)) ?_
      refine s_rd (rd_load rfl (rbs_get S (by omega))) ?_
      refine swl_sub _ (.cons (t := 0) rfl (.cons (t := 5) rfl (.cons (t := 7) rfl (.cons (t := 34) rfl .nil)))) ?_
      refine swl_nil ?_
      refine then_n ?_
      refine swp_cond (b := _) rfl (fun h34 => ?_) (fun h34 => ?_)
      · skip   -- 34 T
        refine swp_seq ?_
        refine swp_region ?_
        refine s_pu (pu_assign rfl) ?_
        refine swl_sub _ (.cons (t := 0) rfl (.cons (t := 5) rfl (.cons (t := 7) rfl (.cons (t := 8) rfl .nil)))) ?_
        refine swl_nil ?_
        refine then_n ?_
        refine swp_block ?_
        refine swp_sub _ (.cons (t := 0) rfl (.cons (t := 5) rfl (.cons (t := 7) rfl (.cons (t := 8) rfl .nil)))) ?_
        have e0 : rbs G.length S = rbs G.length (fun y => S y || decide ((y : Int) ∈ x.2.take 0)) := rbs_ext fun j _ => by simp
        rw [e0]
        refine swp_loop (ι := Nat) (fun j env L => env = [(0, v), (5, .slice (some ⟨b11, 0, none⟩) G.length G.length), (7, .int .i64 (c : Nat)), (8, .int .i64 (j : Nat))] ∧ L = [blk b11 4 (rbs G.length (fun y => S y || decide ((y : Int) ∈ x.2.take j))), ro μ] ∧ j ≤ x.2.length) (fun j => x.2.length - j) 0 ⟨rfl, rfl, Nat.zero_le _⟩ ?_
        rintro j env L ⟨rfl, rfl, hj⟩
        refine swp_seq ?_
        refine swp_seq ?_
        refine swp_region ?_
        refine s_pu (pu_move rfl) ?_
        refine s_pu (pu_move rfl) ?_
        refine s_pu (pu_move rfl) ?_
        refine s_pu (pu_indexAddr (off + c * 1) (congrArg some hgv) rfl (by omega) (by omega) (by rw [Int.toNat_natCast])) ?_
        refine s_rd (rd_ro rfl hxc) ?_
        refine s_pu (pu_len_row hxr rfl) ?_
        refine s_pu (pu_lss rfl rfl) ?_
        refine swl_sub _ (.cons (t := 0) rfl (.cons (t := 5) rfl (.cons (t := 7) rfl (.cons (t := 8) rfl (.cons (t := 41) rfl .nil))))) ?_
        refine swl_nil ?_
        refine then_n ?_
        refine swp_cond (b := _) rfl (fun h41 => ?_) (fun h41 => ?_)
        · skip   -- 41 T
          have h41' : j < x.2.length := by have := of_decide_eq_true h41; omega
          obtain ⟨p, hp⟩ : ∃ p, x.2[j]? = some p := ⟨_, List.getElem?_eq_getElem h41'⟩
          obtain ⟨pb, poff, pcap, hpv, hpk⟩ := hxr.at_ hp
          have hpg := hxg p (List.mem_of_getElem? hp)
          obtain ⟨i, rfl⟩ : ∃ i : Nat, p = i := ⟨p.toNat, by omega⟩
          refine swp_skip ?_
          refine then_n ?_
          refine swp_seq ?_
          refine swp_block ?_
          refine swp_region ?_
          refine s_pu (pu_move rfl) ?_
          refine s_pu (pu_move rfl) ?_
          refine s_pu (pu_move rfl) ?_
          refine s_pu (pu_indexAddr (off + c * 1) (congrArg some hgv) rfl (by omega) (by omega) (by rw [Int.toNat_natCast])) ?_
          refine s_rd (rd_ro rfl hxc) ?_
          refine s_pu (pu_move rfl) ?_
          refine s_pu (pu_indexAddr (poff + j * 1) (congrArg some hpv) rfl (by omega) (by omega) (by rw [Int.toNat_natCast])) ?_
          refine s_rd (rd_ro rfl hpk) ?_
          refine s_pu (pu_indexAddr i rfl rfl (by omega) (by omega) (by omega)) ?_
          refine s_ef0 (ef_storeP rfl rfl rfl (by rw [rbs_len]; omega)) ?_
          refine swl_sub _ (.cons (t := 0) rfl (.cons (t := 5) rfl (.cons (t := 7) rfl (.cons (t := 8) rfl .nil)))) ?_
          rw [rbs_set (T := fun y => S y || decide ((y : Int) ∈ x.2.take (j + 1))) (fun y hy => by
            rw [List.take_add_one, hp]
            by_cases e : y = i
            · subst e; simp
            · have : (y : Int) ≠ i := by omega
              simp [e, this])]
          refine swl_nil ?_
          refine block_n ?_
          refine then_n ?_
          refine swp_region ?_
          refine s_pu (pu_move rfl) ?_
          refine s_pu (pu_add_as ((j + 1 : Nat) : Int) rfl rfl (by omega) (by omega) (by omega)) ?_
          refine s_pu (pu_assign rfl) ?_
          refine swl_sub _ (.cons (t := 0) rfl (.cons (t := 5) rfl (.cons (t := 7) rfl (.cons (t := 8) rfl .nil)))) ?_
          refine swl_nil ?_
          exact then_n ⟨j + 1, ⟨rfl, rfl, h41'⟩, by omega⟩
        · skip   -- 41 F
          have h41' := of_decide_eq_false h41
          obtain rfl : j = x.2.length := by omega
          have e1 : rbs G.length (fun y => S y || decide ((y : Int) ∈ x.2.take x.2.length)) = rbs G.length (stepUp (nums G) c S) := rbs_ext fun j _ => by
            unfold stepUp; rw [h34, hxo, List.take_length, Bool.true_and]
          rw [e1]
          refine swp_exit ?_
          refine then_x ?_
          refine then_x ?_
          refine block_hit rfl ?_
          refine block_n ?_
          refine then_n ?_
          refine swp_region ?_
          refine s_pu (pu_move rfl) ?_
          refine s_pu (pu_sub_as ((c : Nat) - 1 : Int) rfl rfl (by omega) (by omega) (by omega)) ?_
          refine s_pu (pu_assign rfl) ?_
          refine swl_sub _ (.cons (t := 0) rfl (.cons (t := 5) rfl (.cons (t := 7) rfl .nil))) ?_
          refine swl_nil ?_
          exact then_n ⟨(c, stepUp (nums G) c S), ⟨rfl, rfl, by omega, hup⟩, by show c < c + 1; omega⟩
      · skip   -- 34 F
        have e1 : rbs G.length S = rbs G.length (stepUp (nums G) c S) := rbs_ext fun j _ => by unfold stepUp; rw [h34, Bool.false_and, Bool.or_false]
        rw [e1]
        refine swp_skip ?_
        refine block_n ?_
        refine then_n ?_
        refine swp_region ?_
        refine s_pu (pu_move rfl) ?_
        refine s_pu (pu_sub_as ((c : Nat) - 1 : Int) rfl rfl (by omega) (by omega) (by omega)) ?_
        refine s_pu (pu_assign rfl) ?_
        refine swl_sub _ (.cons (t := 0) rfl (.cons (t := 5) rfl (.cons (t := 7) rfl .nil))) ?_
        refine swl_nil ?_
        exact then_n ⟨(c, stepUp (nums G) c S), ⟨rfl, rfl, by omega, hup⟩, by show c < c + 1; omega⟩
    · skip   -- 28 F
      refine swp_exit ?_
      refine then_x ?_
      refine then_x ?_
      refine block_hit rfl ?_
      refine then_n ?_
      refine swp_seq ?_
      refine swp_region ?_
      refine s_pu (pu_move rfl) ?_
      refine s_pu (pu_assign rfl) ?_
      refine swl_sub _ (.cons (t := 4) rfl .nil) ?_
      refine swl_nil ?_
      refine then_n ?_
      refine swp_ret ?_
      have h28' := of_decide_eq_false h28
      obtain rfl : k = 0 := by omega
      replace hup : S = anyUp (nums G) G.length xs := hup
      subst hup
      exact done_ret [blk b11 4 (rbs G.length (anyUp (nums G) G.length xs)), ro μ] (.tmp rfl .nil) ⟨b11, rfl, rfl⟩ (by repeat (first | exact Split.nil | (apply Split.cons; (repeat (first | with_reducible exact Take.here | apply Take.there)))))
theorem rlist_spec (b n : Nat) (S : Nat → Bool) (hn : n ≤ 1048576) : Spec Tryd.prog 50 [.slice (some ⟨b, 0, none⟩) n n] [blk b 4 (rbs n S)] (fun r L => L = [own 3 1 r (elsTo n S).length ((elsTo n S).flatMap (icsk .i64)), blk b 4 (rbs n S)]) := by
  refine Spec.of 20 Tryd.func50 rfl rfl rfl ?_
  refine swp_seq ?_
  refine swp_region ?_
  refine s_pu (pu_assign rfl) ?_
  refine swl_sub _ (.cons (t := 0) rfl .nil) ?_
  refine swl_nil ?_
  refine then_n ?_
  refine swp_seq ?_
  refine swp_region ?_
  refine s_pu (pu_assign rfl) ?_
  refine swl_sub _ (.cons (t := 0) rfl (.cons (t := 3) rfl .nil)) ?_
  refine swl_ent (own_nil_ent (e := 3) (n := 1)) ?_
  refine swl_nil ?_
  refine then_n ?_
  refine swp_seq ?_
  refine swp_seq ?_
  refine swp_region ?_
  refine s_pu (pu_assign rfl) ?_
  refine swl_sub _ (.cons (t := 0) rfl (.cons (t := 3) rfl (.cons (t := 4) rfl .nil))) ?_
  refine swl_nil ?_
  refine then_n ?_
  refine swp_block ?_
  refine swp_loop (ι := Nat × Value) (fun k env L => env = [(0, .slice (some ⟨b, 0, none⟩) n n), (3, k.2), (4, .int .i64 (k.1 : Nat))] ∧ L = [own 3 1 k.2 (elsTo k.1 S).length ((elsTo k.1 S).flatMap (icsk .i64)), blk b 4 (rbs n S)] ∧ k.1 ≤ n) (fun k => n - k.1) (0, .slice none 0 0) ⟨rfl, rfl, Nat.zero_le _⟩ ?_
  rintro ⟨k, lv⟩ env L ⟨rfl, rfl, hk⟩
  dsimp only at hk ⊢
  refine swp_seq ?_
  refine swp_seq ?_
  refine swp_region ?_
  refine s_pu (pu_move rfl) ?_
  refine s_pu (pu_move rfl) ?_
  refine s_pu (pu_len rfl) ?_
  refine s_pu (pu_lss rfl rfl) ?_
  refine swl_sub _ (.cons (t := 0) rfl (.cons (t := 3) rfl (.cons (t := 4) rfl (.cons (t := 8) rfl .nil)))) ?_
  refine swl_nil ?_
  refine then_n ?_
  refine swp_cond (b := _) rfl (fun h8 => ?_) (fun h8 => ?_)
  · skip   -- 8 T
    have h8' : k < n := by have := of_decide_eq_true h8; omega
    have hel := elsTo_len k S
    refine swp_skip ?_
    refine then_n ?_
    refine swp_seq ?_
    refine swp_block ?_
    refine swp_seq ?_
    refine swp_region ?_
    refine s_pu (pu_move rfl) ?_
    refine s_pu (pu_move rfl) ?_
    refine s_pu (pu_indexAddr k rfl rfl (by omega) (by omega) (by omega)) ?_
    refine s_rd (rd_load rfl (rbs_get S h8')) ?_
    refine swl_sub _ (.cons (t := 0) rfl (.cons (t := 3) rfl (.cons (t := 4) rfl (.cons (t := 14) rfl .nil)))) ?_
    refine swl_nil ?_
    refine then_n ?_
    refine swp_cond (b := _) rfl (fun h14 => ?_) (fun h14 => ?_)
    · skip   -- 14 T
      refine swp_region ?_
      refine s_pu (pu_move rfl) ?_
      refine s_pu (pu_move rfl) ?_
      refine s_ef (ef_bldS (qs := [(0, _)]) rfl rfl rfl) ?_
      intro b17
      refine s_ef (ef_append_lit (l := (elsTo k S).length) (m := 1) rfl rfl (by repeat (first | exact Split.nil | (apply Split.cons; (repeat (first | with_reducible exact Take.here | apply Take.there))))) (by simp only [maxLen]; omega) (by omega)) ?_
      rintro v' hv'
      skip
      refine s_pu (pu_assign rfl) ?_
      refine swl_sub _ (.cons (t := 0) rfl (.cons (t := 3) rfl (.cons (t := 4) rfl .nil))) ?_
      rw [show (elsTo k S).flatMap (icsk .i64) ++ [.int .i64 (k : Nat)] = (elsTo (k + 1) S).flatMap (icsk .i64) by rw [elsTo_succ h14, List.flatMap_append]; rfl, show (elsTo k S).length + 1 = (elsTo (k + 1) S).length by rw [elsTo_succ h14, List.length_append]; rfl]
      refine swl_nil ?_
      refine block_n ?_
      refine then_n ?_
      refine swp_region ?_
      refine s_pu (pu_move rfl) ?_
      refine s_pu (pu_add_as ((k + 1 : Nat) : Int) rfl rfl (by omega) (by omega) (by omega)) ?_
      refine s_pu (pu_assign rfl) ?_
      refine swl_sub _ (.cons (t := 0) rfl (.cons (t := 3) rfl (.cons (t := 4) rfl .nil))) ?_
      refine swl_nil ?_
      exact then_n ⟨(k + 1, v'), ⟨rfl, rfl, h8'⟩, by show n - (k + 1) < n - k; omega⟩
    · skip   -- 14 F
      rw [show elsTo k S = elsTo (k + 1) S from (elsTo_skip (Nat.le_succ k) (fun i h1 h2 => by rw [show i = k by omega]; exact h14)).symm]
      refine swp_skip ?_
      refine block_n ?_
      refine then_n ?_
      refine swp_region ?_
      refine s_pu (pu_move rfl) ?_
      refine s_pu (pu_add_as ((k + 1 : Nat) : Int) rfl rfl (by omega) (by omega) (by omega)) ?_
      refine s_pu (pu_assign rfl) ?_
      refine swl_sub _ (.cons (t := 0) rfl (.cons (t := 3) rfl (.cons (t := 4) rfl .nil))) ?_
      refine swl_nil ?_
      exact then_n ⟨(k + 1, lv), ⟨rfl, rfl, h8'⟩, by show n - (k + 1) < n - k; omega⟩
  · skip   -- 8 F
    have h8' := of_decide_eq_false h8
    obtain rfl : k = n := by omega
    refine swp_exit ?_
    refine then_x ?_
    refine then_x ?_
    refine block_hit rfl ?_
    refine then_n ?_
    refine swp_seq ?_
    refine swp_region ?_
    refine s_pu (pu_move rfl) ?_
    refine s_pu (pu_assign rfl) ?_
    refine swl_sub _ (.cons (t := 2) rfl .nil) ?_
    refine swl_nil ?_
    refine then_n ?_
    refine swp_ret ?_
    exact done_ret [own 3 1 lv (elsTo k S).length ((elsTo k S).flatMap (icsk .i64)), blk b 4 (rbs k S)] (.tmp rfl .nil) rfl (by repeat (first | exact Split.nil | (apply Split.cons; (repeat (first | with_reducible exact Take.here | apply Take.there)))))
theorem elsTo_ext {n : Nat} {S T : Nat → Bool} (h : ∀ k, k < n → S k = T k) : elsTo n S = elsTo n T := by
  unfold elsTo
  rw [List.filter_congr fun k hk => h k (List.mem_range.1 hk)]
theorem down_any {g : List (List Int)} (hg : Good g) {xs : List Int} (hx : ∀ p ∈ xs, 0 ≤ p ∧ p < g.length) (j : Nat) : decide (j ∈ downL g xs) = anyUp g g.length xs j := by
  rw [Bool.eq_iff_iff, decide_eq_true_eq, (downL_spec hg xs).2.2, anyUp_iff hg (fun p hp => (hx p hp).2)]
  constructor
  · rintro ⟨q, hq, hr⟩; exact ⟨q, (inRng_mem.1 hq).1, hr⟩
  · rintro ⟨q, hq, hr⟩; exact ⟨q, inRng_mem.2 ⟨hq, hx _ hq⟩, hr⟩
theorem reachA_any {g : List (List Int)} (hg : Good g) (xs : List Int) : reachA g xs = if reachE g xs = 0 then elsTo g.length (anyUp g g.length xs) else [] := by
  unfold reachA
  by_cases h : reachE g xs = 0
  · rw [if_pos h, if_pos h]
    exact elsTo_ext fun k _ => down_any hg (askedE_in (l := xs) h (by simp)) k
  · rw [if_neg h, if_neg h]
theorem askedE_one (n : Nat) (l : List Int) : askedE n [l] = if unkB n l = true then 9 else 0 := by
  unfold askedE unkB
  cases h : l.all (inR n) <;> simp [h]
theorem rreach_spec (μ : PH) (v lv : Value) (G : List (Value × List Int)) (xs : List Int) (hG : Graph μ v G) (hbig : G.length ≤ 1048576) (hg : Good (nums G)) (hv : Row μ lv 1 xs.length (xs.flatMap (icsk .i64))) :
    Spec Tryd.prog 20 [v, lv] [ro μ] (fun r L => ∃ rv, r = .tuple #[rv, .int .i64 (reachE (nums G) xs)] ∧ L = [own 3 1 rv (reachA (nums G) xs).length ((reachA (nums G) xs).flatMap (icsk .i64)), ro μ]) := by
  have hln : (nums G).length = G.length := List.length_map _
  refine Spec.of 13 Tryd.func20 rfl rfl rfl ?_
  refine swp_seq ?_
  refine swp_region ?_
  refine s_pu (pu_assign rfl) ?_
  refine s_pu (pu_assign rfl) ?_
  refine swl_sub _ (.cons (t := 0) rfl (.cons (t := 1) rfl .nil)) ?_
  refine swl_nil ?_
  refine then_n ?_
  refine swp_seq ?_
  refine swp_seq ?_
  refine swp_region ?_
  refine s_pu (pu_move rfl) ?_
  refine s_pu (pu_move rfl) ?_
  refine s_ef (ef_fn (unknown_spec v lv G.length xs [ro μ] hG.1.sl (Ints.row hv)) rfl rfl (by repeat (first | exact Split.nil | (apply Split.cons; (repeat (first | with_reducible exact Take.here | apply Take.there)))))) ?_
  rintro v8 L1 ⟨rfl, rfl⟩
  refine swl_app ?_
  refine swl_sub _ (.cons (t := 0) rfl (.cons (t := 1) rfl (.cons (t := 8) rfl .nil))) ?_
  refine swl_nil ?_
  refine then_n ?_
  refine swp_cond (b := _) rfl (fun h8 => ?_) (fun h8 => ?_)
  · skip   -- 8 T
    have he : reachE (nums G) xs = 9 := by rw [reachE, askedE_one, hln, if_pos h8]
    refine swp_seq ?_
    refine swp_region ?_
    refine s_pu (pu_assign rfl) ?_
    refine s_pu (pu_assign rfl) ?_
    refine swl_sub _ (.cons (t := 4) rfl (.cons (t := 5) rfl .nil)) ?_
    refine swl_nil ?_
    refine then_n ?_
    refine swp_ret ?_
    refine then_r ?_
    refine done_retE [own 3 1 (.slice none 0 0) (reachA (nums G) xs).length ((reachA (nums G) xs).flatMap (icsk .i64)), ro μ] (.tmp rfl (.tmp rfl .nil)) ⟨_, by rw [he]; rfl, rfl⟩ ?_
    rw [reachA, if_neg (by rw [he]; decide)]
    exact own_nil_ent
  · skip   -- 8 F
    have he : reachE (nums G) xs = 0 := by rw [reachE, askedE_one, hln, if_neg (by rw [h8]; exact Bool.false_ne_true)]
    have hx := askedE_in (l := xs) he (by simp)
    rw [hln] at hx
    refine swp_skip ?_
    refine then_n ?_
    refine swp_seq ?_
    refine swp_region ?_
    refine s_pu (pu_move rfl) ?_
    refine s_pu (pu_move rfl) ?_
    refine s_ef (ef_fn (any_spec μ v lv G xs hG (by omega) hg hv hx) rfl rfl (by repeat (first | exact Split.nil | (apply Split.cons; (repeat (first | with_reducible exact Take.here | apply Take.there)))))) ?_
    rintro v11 L1 ⟨c, rfl, rfl⟩
    refine swl_app ?_
    refine s_ef (ef_fn (rlist_spec c G.length (anyUp (nums G) G.length xs) hbig) rfl rfl (by repeat (first | exact Split.nil | (apply Split.cons; (repeat (first | with_reducible exact Take.here | apply Take.there)))))) ?_
    rintro v12 L1 rfl
    refine swl_app ?_
    refine s_pu (pu_assign rfl) ?_
    refine s_pu (pu_assign rfl) ?_
    refine swl_sub _ (.cons (t := 4) rfl (.cons (t := 5) rfl .nil)) ?_
    refine swl_nil ?_
    refine then_n ?_
    refine swp_ret ?_
    refine done_retE [own 3 1 v12 (reachA (nums G) xs).length ((reachA (nums G) xs).flatMap (icsk .i64)), ro μ] (.tmp rfl (.tmp rfl .nil)) ⟨_, by rw [he]; rfl, rfl⟩ ?_
    rw [reachA_any hg, if_pos he, hln]
    exact Split.ent' (by repeat (first | exact Split.nil | (apply Split.cons; (repeat (first | with_reducible exact Take.here | apply Take.there)))))
end SX
namespace SX
open Go Go.Proofs

/-- was one asked more than once? -/
def twiceB (n : Nat) (a : Nat → Nat) : Bool := (List.range n).any fun j => decide (1 < a j)
theorem twice_spec (p n : Nat) (vg vn : Value) (a : Nat → Nat) (hn : n ≤ 1048576) : Spec Tryd.prog 17 [.pointer (some ⟨p, 0, none⟩)] [gA p vg vn n a] (fun r L => r = .bool (twiceB n a) ∧ L = [gA p vg vn n a]) := by
  refine Spec.exA' fun va => ?_
  simp only [List.cons_append, List.nil_append]
  refine Spec.fact' (p := ∃ A c, va = .slice A n c) (fun m h => own_form (Sat.perm (.swap _ _ _) _ h)) fun ⟨A, c, hva⟩ => ?_
  refine Spec.ent3 (post := fun r L => r = .bool (twiceB n a) ∧ L = [blk p 33 [vg, vn, va], own 3 1 va n (askV n a)]) ?_ (fun v L ⟨h1, h2⟩ => ⟨_, by rw [h2]; exact gA_close, h1, rfl⟩)
  refine Spec.of 17 Tryd.func17 rfl rfl rfl ?_
  refine swp_seq ?_
  refine swp_region ?_
  refine s_pu (pu_assign rfl) ?_
  refine swl_sub _ (.cons (t := 0) rfl .nil) ?_
  refine swl_nil ?_
  refine then_n ?_
  refine swp_seq ?_
  refine swp_seq ?_
  refine swp_region ?_
  refine s_pu (pu_move rfl) ?_
  first | refine s_pu (pu_nilCheck rfl) ?_ | refine s_pu (pu_nilCheck_fn rfl) ?_ | refine s_pu (pu_nilCheck_if rfl) ?_
  first | refine s_pu (pu_fieldAddr0 rfl) ?_ | refine s_pu (pu_fieldAddr rfl) ?_
  refine s_rd (rd_load rfl rfl) ?_
  refine s_pu (pu_len_own ⟨A, c, hva⟩ rfl) ?_
  refine s_pu (pu_move rfl) ?_
  refine swl_sub _ (.cons (t := 8) rfl (.cons (t := 9) rfl (.cons (t := 10) rfl .nil))) ?_
  refine swl_nil ?_
  refine then_n ?_
  refine swp_block ?_
  refine swp_ent (Split.ent' (K := [own 3 1 va n (askV n a), blk p 33 [vg, vn, va]]) (by repeat (first | exact Split.nil | (apply Split.cons; (repeat (first | with_reducible exact Take.here | apply Take.there)))))) ?_
  refine swp_loop (ι := Nat) (fun i env L => env = [(8, va), (9, .int .i64 (n : Nat)), (10, .int .i64 (i : Nat))] ∧ L = [own 3 1 va n (askV n a), blk p 33 [vg, vn, va]] ∧ i ≤ n ∧ ∀ j, j < i → a j ≤ 1) (fun i => n - i) 0 ⟨rfl, rfl, Nat.zero_le _, fun j h => by omega⟩ ?_
  rintro i env L ⟨rfl, rfl, hi, hlo⟩
  refine swp_seq ?_
  refine swp_region ?_
  refine s_pu (pu_lss rfl rfl) ?_
  refine swl_sub _ (.cons (t := 8) rfl (.cons (t := 9) rfl (.cons (t := 10) rfl (.cons (t := 11) rfl .nil)))) ?_
  refine swl_nil ?_
  refine then_n ?_
  refine swp_seq ?_
  refine swp_cond (b := _) rfl (fun h11 => ?_) (fun h11 => ?_)
  · skip   -- 11 T
    have h11' : i < n := by have := of_decide_eq_true h11; omega
    refine swp_own (fun h0 l0 _ => by omega) (fun b1 c1 ex1 hv1 w1 w2 w3 w4 => ?_)
    refine swp_skip ?_
    refine then_n ?_
    refine swp_seq ?_
    refine swp_block ?_
    refine swp_seq ?_
    refine swp_region ?_
    refine s_pu (pu_indexAddr i (congrArg some hv1) rfl (by omega) (by omega) (by omega)) ?_
    refine s_rd (rd_load rfl (by rw [List.getElem?_append_left (by unfold askV; rw [ncs_len]; exact h11')]; exact ncs_get _ h11')) ?_
    refine s_pu (pu_assign rfl) ?_
    refine swl_sub _ (.cons (t := 4) rfl (.cons (t := 8) rfl (.cons (t := 9) rfl (.cons (t := 10) rfl .nil)))) ?_
    refine swl_ent (own_close (n := 1) (l := n) (by unfold askV; rw [ncs_len]; omega) w4 w1 w2) ?_
    rw [← hv1]
    refine swl_nil ?_
    refine then_n ?_
    refine swp_seq ?_
    refine swp_region ?_
    refine s_pu (pu_move rfl) ?_
    refine s_pu (pu_gtr rfl rfl) ?_
    refine swl_sub _ (.cons (t := 8) rfl (.cons (t := 9) rfl (.cons (t := 10) rfl (.cons (t := 15) rfl .nil)))) ?_
    refine swl_nil ?_
    refine then_n ?_
    refine swp_cond (b := _) rfl (fun h15 => ?_) (fun h15 => ?_)
    · skip   -- 15 T
      have h15' := of_decide_eq_true h15
      refine swp_seq ?_
      refine swp_region ?_
      refine s_pu (pu_assign rfl) ?_
      refine swl_sub _ (.cons (t := 2) rfl .nil) ?_
      refine swl_nil ?_
      refine then_n ?_
      refine swp_ret ?_
      refine block_r ?_
      refine then_r ?_
      refine then_r ?_
      refine block_r ?_
      refine then_r ?_
      refine done_ret [blk p 33 [vg, vn, va], own 3 1 va n (askV n a)] (.tmp rfl .nil) ⟨?_, rfl⟩ (by repeat (first | exact Split.nil | (apply Split.cons; (repeat (first | with_reducible exact Take.here | apply Take.there)))))
      unfold twiceB
      rw [List.any_eq_true.2 ⟨i, List.mem_range.2 h11', decide_eq_true (by omega)⟩]; rfl
    · skip   -- 15 F
      refine swp_skip ?_
      refine block_n ?_
      refine then_n ?_
      refine swp_region ?_
      refine s_pu (pu_add_as ((i + 1 : Nat) : Int) rfl rfl (by omega) (by omega) (by omega)) ?_
      refine s_pu (pu_move rfl) ?_
      refine swl_sub _ (.cons (t := 8) rfl (.cons (t := 9) rfl (.cons (t := 10) rfl .nil))) ?_
      refine swl_nil ?_
      have h15' := of_decide_eq_false h15
      exact then_n ⟨i + 1, ⟨rfl, rfl, h11', fun j hj => by
        by_cases e : j = i
        · subst e; omega
        · exact hlo j (by omega)⟩, by omega⟩
  · skip   -- 11 F
    have h11' := of_decide_eq_false h11
    obtain rfl : i = n := by omega
    refine swp_exit ?_
    refine then_x ?_
    refine then_x ?_
    refine block_hit rfl ?_
    refine then_n ?_
    refine swp_seq ?_
    refine swp_region ?_
    refine s_pu (pu_assign rfl) ?_
    refine swl_sub _ (.cons (t := 2) rfl .nil) ?_
    refine swl_nil ?_
    refine then_n ?_
    refine swp_ret ?_
    refine done_ret [blk p 33 [vg, vn, va], own 3 1 va i (askV i a)] (.tmp rfl .nil) ⟨?_, rfl⟩ (by repeat (first | exact Split.nil | (apply Split.cons; (repeat (first | with_reducible exact Take.here | apply Take.there)))))
    unfold twiceB
    rw [show ((List.range i).any fun j => decide (1 < a j)) = false from List.any_eq_false.2 fun j hj => by
      have := hlo j (List.mem_range.1 hj)
      rw [decide_eq_true_eq]; omega]; rfl
theorem own_full {e n b : Nat} {xs : List Value} {L : List Assn} (h : xs.length = n) (hm : n ≤ maxLen) : Ent (blk b e xs :: L) (own e 1 (.slice (some ⟨b, 0, none⟩) n n) n xs :: L) := by
  have := own_close (e := e) (n := 1) (b := b) (l := n) (cap := n) (xs := xs) (ex := []) (L := L) (by omega) (by simp) (Nat.le_refl _) hm
  rwa [List.append_nil] at this
def noAsk : Nat → Nat := fun _ => 0
theorem forget_spec (p n : Nat) (vg vn : Value) (a : Nat → Nat) (hn : n ≤ 1048576) (hg : ∃ A c, vg = .slice A n c) : Spec Tryd.prog 22 [.pointer (some ⟨p, 0, none⟩)] [gA p vg vn n a] (fun r L => r = .tuple #[] ∧ L = [gA p vg vn n noAsk]) := by
  obtain ⟨A, c, rfl⟩ := hg
  refine Spec.exA' fun va => ?_
  simp only [List.cons_append, List.nil_append]
  refine Spec.ent3 (post := fun r L => ∃ va, r = .tuple #[] ∧ L = [blk p 33 [.slice A n c, vn, va], own 3 1 va n (askV n noAsk)]) ?_ (fun v L ⟨va, h1, h2⟩ => ⟨_, by rw [h2]; exact gA_close, h1, rfl⟩)
  refine Spec.of 11 Tryd.func22 rfl rfl rfl ?_
  refine swp_region ?_
  refine s_pu (pu_move rfl) ?_
  refine s_pu (pu_move rfl) ?_
  first | refine s_pu (pu_nilCheck rfl) ?_ | refine s_pu (pu_nilCheck_fn rfl) ?_ | refine s_pu (pu_nilCheck_if rfl) ?_
  first | refine s_pu (pu_fieldAddr0 rfl) ?_ | refine s_pu (pu_fieldAddr rfl) ?_
  refine s_rd (rd_load rfl rfl) ?_
  refine s_pu (pu_len rfl) ?_
  refine s_ef (ef_make1 n rfl rfl rfl (by omega) (by simp only [maxLen]; omega)) ?_
  rintro b8
  skip
  first | refine s_pu (pu_nilCheck rfl) ?_ | refine s_pu (pu_nilCheck_fn rfl) ?_ | refine s_pu (pu_nilCheck_if rfl) ?_
  first | refine s_pu (pu_fieldAddr0 rfl) ?_ | refine s_pu (pu_fieldAddr rfl) ?_
  refine s_ef0 (ef_store rfl rfl rfl) ?_
  refine swl_sub _ .nil ?_
  rw [show List.replicate n (Value.int .i64 0) = askV n noAsk from ncs_zero n]
  refine swl_ent (own_full (by unfold askV; rw [ncs_len]) (by simp only [maxLen]; omega)) ?_
  refine swl_nil ?_
  exact done_end [blk p 33 [.slice A n c, vn, .slice (some ⟨b8, 0, none⟩) n n], own 3 1 (.slice (some ⟨b8, 0, none⟩) n n) n (askV n noAsk)] .nil ⟨_, rfl, rfl⟩ (by repeat (first | exact Split.nil | (apply Split.cons; (repeat (first | with_reducible exact Take.here | apply Take.there)))))
end SX
namespace SX
open Go Go.Proofs

theorem ncs_of (a : List Int) : a.flatMap (icsk .i64) = ncs a.length (fun j => a.getD j 0) := by
  apply List.ext_getElem?
  intro j
  by_cases h : j < a.length
  · rw [icells_get' (List.getElem?_eq_getElem h), ncs_get _ h, List.getD_eq_getElem?_getD, List.getElem?_eq_getElem h]; rfl
  · rw [List.getElem?_eq_none (by rw [icells_len']; omega), List.getElem?_eq_none (by rw [ncs_len]; omega)]
theorem ncs_cut (k : Nat) (a : List Int) : (cutG k a).flatMap (icsk .i64) = ncs a.length (fun j => if j < k then a.getD j 0 else 1024) := by
  unfold cutG ncs
  rw [List.flatMap_map]
  generalize List.range a.length = l
  induction l with
  | nil => rfl
  | cons x l ih => rw [List.flatMap_cons, List.map_cons, ih]; rfl
theorem ncs_ext {n : Nat} {c d : Nat → Int} (h : ∀ j, j < n → c j = d j) : ncs n c = ncs n d := by
  unfold ncs
  apply List.map_congr_left
  intro j hj
  rw [h j (List.mem_range.1 hj)]
/-- the source of a graph -/
def gSrc (p : Nat) (vg vn : Value) (G : List (Value × List Int)) (μ : PH) (hG : Graph μ vg G) (hg : Good (nums G)) (hn : G.length ≤ 65536) (hr : ∀ x ∈ G, x.2.length ≤ 17592186043904) : Src where
  t := 25
  v := .pointer (some ⟨p, 0, none⟩)
  d := 0
  hd := Nat.zero_le _
  g := nums G
  hg := hg
  hn := by rw [List.length_map]; exact hn
  σ := Nat → Nat
  A := fun a _ => gA p vg vn G.length a
  mono := fun _ => Ent.refl _
  ok := fun a c => a c ≤ 4611686018427387904
  step := ask1
  μ0 := μ
  commits := fun a _ => by
    have h := gcommits_spec p G.length vg vn a hG.1.sl
    refine InvS.of ?_
    rwa [show (nums G).length = G.length from List.length_map _]
  parents := fun a μ' c h hc ha => InvS.of (gparents_spec μ' p vg vn a G c (hG.le h) (by rwa [show (nums G).length = G.length from List.length_map _] at hc) ha hr)
theorem ask_no {c : Nat} : ∀ {ys : List Nat} {a : Nat → Nat}, c ∉ ys → (ys.foldl ask1 a) c = a c
  | [], _, _ => rfl
  | y :: ys, a, h => by
    rw [List.foldl_cons, ask_no (fun hc => h (List.mem_cons_of_mem _ hc))]
    unfold ask1
    rw [if_neg (fun e => h (by rw [e]; exact List.mem_cons_self ..))]
theorem ask_le {m c : Nat} : ∀ {ys : List Nat} {a : Nat → Nat}, ys.Nodup → a c ≤ m → (ys.foldl ask1 a) c ≤ m + 1
  | [], _, _, h => by show _ ≤ _; exact Nat.le_succ_of_le h
  | y :: ys, a, hn, h => by
    rw [List.foldl_cons]
    obtain ⟨h1, h2⟩ := List.nodup_cons.1 hn
    by_cases e : c = y
    · subst e
      rw [ask_no h1]
      unfold ask1
      rw [if_pos rfl]; omega
    · exact ask_le h2 (by unfold ask1; rw [if_neg e]; exact h)
theorem twice_no {n : Nat} {ys : List Nat} (h : ys.Nodup) : twiceB n (ys.foldl ask1 noAsk) = false := by
  unfold twiceB
  refine List.any_eq_false.2 fun j _ => ?_
  have : (ys.foldl ask1 noAsk) j ≤ 0 + 1 := ask_le h (Nat.le_refl _)
  rw [decide_eq_true_eq]; omega
section
variable {p : Nat} {vg vn : Value} {G : List (Value × List Int)} {μ : PH} {hG : Graph μ vg G} {hg : Good (nums G)} {hn : G.length ≤ 65536} {hr : ∀ x ∈ G, x.2.length ≤ 17592186043904}
theorem gSrc_fine {a : Nat → Nat} (ha : ∀ c, a c ≤ 4611686018427387904) : (gSrc p vg vn G μ hG hg hn hr).fine a := fun ys c _ hc _ _ => by
  show (ys.foldl ask1 a) c ≤ _
  rw [ask_no hc]; exact ha c
theorem gSrc_gen {gs : List Int} (hv : Row μ vn 1 gs.length (gs.flatMap (icsk .i64))) : GenOf (gSrc p vg vn G μ hG hg hn hr) (genOf gs) where
  ask := fun a μ' c h => show InvS Tryd.prog 0 25 (.pointer (some ⟨p, 0, none⟩)) "Gen" [.int .i64 c] [gA p vg vn G.length a, ro μ'] _ from InvS.of (ggen_spec μ' p G.length vg vn a gs c (hv.le h))
end
/-- generations never bar the way -/
theorem gens_may {g : List (List Int)} {gs : List Int} (h : moreG [] g = some gs) (k : Nat) {a b : Nat} (hr : Reach g a b) (hne : a ≠ b) : mayG (genOf (cutG k gs) (a : Nat)) (genOf (cutG k gs) (b : Nat)) = true := by
  have hg := gens_good h
  have hl := gens_len h
  have hlt := hr.lt hg hne
  have e : ∀ x : Nat, x < g.length → ∃ z, (cutG k gs)[x]? = some z ∧ genOf (cutG k gs) (x : Nat) = z := fun x hx => by
    have hx' : x < (cutG k gs).length := by rw [cutG_len, hl]; exact hx
    refine ⟨_, List.getElem?_eq_getElem hx', ?_⟩
    unfold genOf
    rw [if_pos (by omega), Int.toNat_natCast, List.getD_eq_getElem?_getD, List.getElem?_eq_getElem hx']; rfl
  obtain ⟨x, hx, ex⟩ := e a hlt.2
  obtain ⟨y, hy, ey⟩ := e b (by omega)
  rw [ex, ey]
  exact reach_may h hr hne hx hy
set_option maxHeartbeats 2000000 in
theorem good_spec (μ : PH) (v : Value) (G : List (Value × List Int)) (mo : Nat) (kn : Int) (hG : Graph μ v G) (hn : G.length ≤ 17592186043904) (hmo : mo ≤ 1048576) (hrows : ∀ x ∈ G, x.2.length ≤ 17592186043904) :
    Spec Tryd.prog 14 [v, .int .i64 (mo : Nat), .int .i64 kn] [ro μ] (fun r L => ∃ μ', Le μ μ' ∧
      ((¬ chkFrom 0 (nums (G.take (min G.length mo))) = 0 ∧ r = .pointer none ∧ L = [ro μ'])
       ∨ ∃ p v' vn gs, r = .pointer (some ⟨p, 0, none⟩) ∧ Graph μ' v' (G.take (min G.length mo)) ∧ moreG [] (nums (G.take (min G.length mo))) = some gs ∧ Row μ' vn 1 (cutG kn.toNat gs).length ((cutG kn.toNat gs).flatMap (icsk .i64)) ∧ L = [gA p v' vn (min G.length mo) noAsk, ro μ'])) := by
  refine Spec.of 42 Tryd.func14 rfl rfl rfl ?_
  refine swp_seq ?_
  refine swp_region ?_
  refine s_pu (pu_assign rfl) ?_
  refine swl_sub _ (.cons (t := 0) rfl (.cons (t := 1) rfl (.cons (t := 2) rfl .nil))) ?_
  refine swl_nil ?_
  refine then_n ?_
  refine swp_seq ?_
  obtain ⟨v', hG1, hsl⟩ := graph_take (P := Tryd.prog) (tG := 22) hG (min G.length mo) (Nat.min_le_left _ _)
  have hmn : (min (G.length : Int) (mo : Int)) = ((min G.length mo : Nat) : Int) := by omega
  have hrows1 : ∀ x ∈ G.take (min G.length mo), x.2.length ≤ 17592186043904 := fun x hx => hrows x (List.mem_of_mem_take hx)
  have hlen1 : (G.take (min G.length mo)).length = min G.length mo := by rw [List.length_take]; omega
  have hml : min G.length mo ≤ 1048576 := by omega
  generalize hm : min G.length mo = m at *
  generalize G.take m = Gm at *
  refine swp_region ?_
  refine s_pu (pu_move rfl) ?_
  refine s_pu (pu_move rfl) ?_
  refine s_pu (pu_len_row hG.1 rfl) ?_
  refine s_pu (pu_move rfl) ?_
  refine s_pu (pu_min2 rfl rfl) ?_
  rw [hmn]
  refine s_pu (hsl _ _ _ .i64 _ rfl rfl rfl) ?_
  refine s_pu (pu_assign rfl) ?_
  refine swl_sub _ (.cons (t := 0) rfl (.cons (t := 2) rfl .nil)) ?_
  refine swl_nil ?_
  refine then_n ?_
  refine swp_seq ?_
  refine swp_seq ?_
  refine swp_region ?_
  refine s_pu (pu_move rfl) ?_
  refine s_ef (ef_fn (rcheck_spec μ v' Gm hG1 (by omega)) rfl rfl (by repeat (first | exact Split.nil | (apply Split.cons; (repeat (first | with_reducible exact Take.here | apply Take.there)))))) ?_
  rintro v17 L1 ⟨rfl, rfl⟩
  refine swl_app ?_
  refine s_pu (pu_neq rfl rfl) ?_
  refine swl_sub _ (.cons (t := 0) rfl (.cons (t := 2) rfl (.cons (t := 18) rfl .nil))) ?_
  refine swl_nil ?_
  refine then_n ?_
  refine swp_cond (b := _) rfl (fun h18 => ?_) (fun h18 => ?_)
  · skip   -- 18 T
    have hc : ¬ chkFrom 0 (nums Gm) = 0 := by simpa using h18
    refine swp_seq ?_
    refine swp_region ?_
    refine s_pu (pu_assign rfl) ?_
    refine swl_sub _ (.cons (t := 6) rfl .nil) ?_
    refine swl_nil ?_
    refine then_n ?_
    refine swp_ret ?_
    refine then_r ?_
    exact done_ret [ro μ] (.tmp rfl .nil) ⟨μ, Le.refl _, .inl ⟨hc, rfl, rfl⟩⟩ (by repeat (first | exact Split.nil | (apply Split.cons; (repeat (first | with_reducible exact Take.here | apply Take.there)))))
  · skip   -- 18 F
    have hc : chkFrom 0 (nums Gm) = 0 := by simpa using h18
    obtain ⟨a, ha⟩ : ∃ a, moreG [] (nums Gm) = some a := by
      have hs : (moreG [] (nums Gm)).isSome = true ↔ chkFrom 0 (nums Gm) = 0 := moreG_chk (all := [])
      exact Option.isSome_iff_exists.1 (hs.2 hc)
    have hal : a.length = m := by rw [gens_len ha, List.length_map, hlen1]
    have hyes := moreL_some ha
    refine swp_skip ?_
    refine then_n ?_
    refine swp_seq ?_
    refine swp_region ?_
    refine s_pu (pu_move rfl) ?_
    refine s_ef (ef_fn (rall_spec μ v' Gm hG1 (by omega) hrows1) rfl rfl (by repeat (first | exact Split.nil | (apply Split.cons; (repeat (first | with_reducible exact Take.here | apply Take.there)))))) ?_
    rintro v21 L1 ⟨lv, rfl, rfl⟩
    refine swl_app ?_
    rw [hyes.1, hyes.2, show a.drop ([] : List Int).length = a from rfl]
    refine swl_fact (fun m h => own_shape .here h) fun hs1 => ?_
    have hform := shape_len hs1
    refine s_pu (pu_move rfl) ?_
    first | refine s_pu (pu_extractL rfl) ?_ | refine s_pu (pu_extract rfl rfl) ?_
    first | refine s_pu (pu_extractL rfl) ?_ | refine s_pu (pu_extract rfl rfl) ?_
    refine s_pu (pu_assign rfl) ?_
    refine s_pu (pu_assign rfl) ?_
    refine swl_sub _ (.cons (t := 0) rfl (.cons (t := 2) rfl (.cons (t := 7) rfl .nil))) ?_
    refine swl_nil ?_
    refine then_n ?_
    refine swp_seq ?_
    refine swp_seq ?_
    refine swp_region ?_
    refine s_pu (pu_move rfl) ?_
    refine s_pu (pu_max2 rfl rfl) ?_
    rw [show max kn 0 = ((kn.toNat : Nat) : Int) by omega]
    generalize kn.toNat = kk at *
    refine s_pu (pu_assign rfl) ?_
    refine swl_sub _ (.cons (t := 0) rfl (.cons (t := 7) rfl (.cons (t := 9) rfl .nil))) ?_
    refine swl_nil ?_
    refine then_n ?_
    refine swp_block ?_
    rw [ncs_of, ncs_ext (d := fun j => if kk ≤ j ∧ j < kk then 1024 else a.getD j 0) (fun j _ => (if_neg (by omega)).symm)]
    refine swp_sub _ (.cons (t := 0) rfl (.cons (t := 7) rfl (.cons (t := 9) rfl .nil))) ?_
    refine swp_loop (ι := Nat) (fun i env L => env = [(0, v'), (7, lv), (9, .int .i64 (i : Nat))] ∧ L = [own 3 1 lv a.length (ncs a.length (fun j => if kk ≤ j ∧ j < i then 1024 else a.getD j 0)), ro μ] ∧ kk ≤ i) (fun i => a.length - i) kk ⟨rfl, rfl, Nat.le_refl _⟩ ?_
    rintro i env L ⟨rfl, rfl, hi⟩
    refine swp_seq ?_
    refine swp_seq ?_
    refine swp_region ?_
    refine s_pu (pu_move rfl) ?_
    refine s_pu (pu_move rfl) ?_
    refine s_pu (pu_len_own hform rfl) ?_
    refine s_pu (pu_lss rfl rfl) ?_
    refine swl_sub _ (.cons (t := 0) rfl (.cons (t := 7) rfl (.cons (t := 9) rfl (.cons (t := 29) rfl .nil)))) ?_
    refine swl_nil ?_
    refine then_n ?_
    refine swp_cond (b := _) rfl (fun h29 => ?_) (fun h29 => ?_)
    · skip   -- 29 T
      have h29' : i < a.length := by have := of_decide_eq_true h29; omega
      refine swp_own (fun h0 l0 _ => by omega) (fun b1 c1 ex1 hv1 w1 w2 w3 w4 => ?_)
      subst hv1
      refine swp_skip ?_
      refine then_n ?_
      refine swp_seq ?_
      refine swp_block ?_
      refine swp_region ?_
      refine s_pu (pu_move rfl) ?_
      refine s_pu (pu_move rfl) ?_
      refine s_pu (pu_indexAddr i rfl rfl (by omega) (by omega) (by omega)) ?_
      refine s_ef0 (ef_storeP rfl rfl rfl (by rw [List.length_append, ncs_len]; omega)) ?_
      refine swl_sub _ (.cons (t := 0) rfl (.cons (t := 7) rfl (.cons (t := 9) rfl .nil))) ?_
      rw [List.set_append_left (h := by rw [ncs_len]; exact h29'), ncs_set (d := fun j => if kk ≤ j ∧ j < i + 1 then 1024 else a.getD j 0) (fun j => by
        by_cases e : j = i
        · subst e; rw [if_pos rfl, if_pos ⟨hi, Nat.lt_succ_self _⟩]
        · rw [if_neg e]
          by_cases h : kk ≤ j ∧ j < i
          · rw [if_pos h, if_pos (by omega)]
          · rw [if_neg h, if_neg (by omega)])]
      refine swl_ent (own_close (n := 1) (by rw [ncs_len]; omega) w4 w1 w2) ?_
      refine swl_nil ?_
      refine block_n ?_
      refine then_n ?_
      refine swp_region ?_
      refine s_pu (pu_move rfl) ?_
      refine s_pu (pu_add_as ((i + 1 : Nat) : Int) rfl rfl (by omega) (by omega) (by omega)) ?_
      refine s_pu (pu_assign rfl) ?_
      refine swl_sub _ (.cons (t := 0) rfl (.cons (t := 7) rfl (.cons (t := 9) rfl .nil))) ?_
      refine swl_nil ?_
      exact then_n ⟨i + 1, ⟨rfl, rfl, by omega⟩, by omega⟩
    · skip   -- 29 F
      have h29' := of_decide_eq_false h29
      rw [ncs_ext (d := fun j => if j < kk then a.getD j 0 else 1024) (fun j hj => by
        by_cases h : j < kk
        · rw [if_pos h, if_neg (by omega)]
        · rw [if_neg h, if_pos (by omega)]), ← ncs_cut]
      have hcl := cutG_len kk a
      rw [← hcl]
      refine swp_share_own (μ := μ) (by repeat (first | exact Split.nil | (apply Split.cons; (repeat (first | with_reducible exact Take.here | apply Take.there))))) fun μ4 h4 r4 => ?_
      obtain ⟨A9, c9, rfl⟩ := r4.sl
      obtain ⟨A8, c8, rfl⟩ := hG1.1.sl
      refine swp_exit ?_
      refine then_x ?_
      refine then_x ?_
      refine block_hit rfl ?_
      refine then_n ?_
      refine swp_seq ?_
      refine swp_region ?_
      refine s_pu (pu_move rfl) ?_
      refine s_pu (pu_move rfl) ?_
      refine s_pu (pu_move rfl) ?_
      refine s_pu (pu_len_row hG1.1 rfl) ?_
      refine s_ef (ef_make1 m rfl rfl (by rw [hlen1]) (by omega) (by simp only [maxLen]; omega)) ?_
      rintro b39
      skip
      refine s_pu (pu_bld (qs := [(0, _), (1, _), (2, _)]) rfl) ?_
      refine s_ef (ef_box rfl rfl) ?_
      intro b41
      refine s_pu (pu_assign rfl) ?_
      refine swl_sub _ (.cons (t := 6) rfl .nil) ?_
      rw [show List.replicate m (Value.int .i64 0) = askV m noAsk from ncs_zero m]
      refine swl_ent (Split.ent' (K := [blk b39 3 (askV m noAsk), blk b41 33 [.slice A8 Gm.length c8, .slice A9 (cutG kk a).length c9, .slice (some ⟨b39, 0, none⟩) m m], ro μ4]) (by repeat (first | exact Split.nil | (apply Split.cons; (repeat (first | with_reducible exact Take.here | apply Take.there)))))) ?_
      refine swl_ent (own_full (by unfold askV; rw [ncs_len]) (by simp only [maxLen]; omega)) ?_
      refine swl_nil ?_
      refine then_n ?_
      refine swp_ret ?_
      refine done_retE [gA b41 (.slice A8 Gm.length c8) (.slice A9 (cutG kk a).length c9) m noAsk, ro μ4] (.tmp rfl .nil) ⟨μ4, h4, .inr ⟨b41, _, _, a, rfl, hG1.le h4, ha, r4, rfl⟩⟩ ?_
      exact (Ent.perm (.swap _ _ _)).trans gA_close
end SX
namespace SX
open Go Go.Proofs

/-- a good source -/
structure GS (μ : PH) (vg vn : Value) (G : List (Value × List Int)) (gs : List Int) (k : Nat) : Prop where
  hG : Graph μ vg G
  ha : moreG [] (nums G) = some gs
  hv : Row μ vn 1 (cutG k gs).length ((cutG k gs).flatMap (icsk .i64))
  hn : G.length ≤ 65536
  hr : ∀ x ∈ G, x.2.length ≤ 17592186043904
theorem GS.le {μ μ' : PH} {vg vn : Value} {G : List (Value × List Int)} {gs : List Int} {k : Nat} (h : GS μ vg vn G gs k) (l : Le μ μ') : GS μ' vg vn G gs k := ⟨h.hG.le l, h.ha, h.hv.le l, h.hn, h.hr⟩
abbrev gV (p : Nat) : Value := .iface 25 (.pointer (some ⟨p, 0, none⟩))
section
variable {μ : PH} {vg vn : Value} {G : List (Value × List Int)} {gs : List Int} {k : Nat}
theorem GS.good (h : GS μ vg vn G gs k) : Good (nums G) := gens_good h.ha
theorem g_isanc (h : GS μ vg vn G gs k) (p : Nat) (a0 : Nat → Nat) (h0 : ∀ c, a0 c ≤ 4611686018427387904) (a b : Int) :
    Spec Tryd.prog 15 [gV p, .int .i64 a, .int .i64 b] [gA p vg vn G.length a0, ro μ] (fun r L => ∃ ys μ', askedOk (nums G).length (genOf (cutG k gs)) a ys ∧ Le μ μ' ∧ r = .tuple #[.bool (isAnc (nums G) a b), .int .i64 (askedE (nums G).length [[a, b]])] ∧ L = [gA p vg vn G.length (ys.foldl ask1 a0), ro μ']) :=
  isanc_spec (gSrc p vg vn G μ h.hG h.good h.hn h.hr) _ (gSrc_gen h.hv) a0 μ a b (Le.refl _) (gSrc_fine h0) (fun _ _ hr hne => gens_may h.ha k hr hne)
theorem g_only (h : GS μ vg vn G gs k) (p : Nat) (a0 : Nat → Nat) (h0 : ∀ c, a0 c ≤ 4611686018427387904) (v u : Value) (xs ys : List Int) (hT : RowAt μ 0 0 tabV) (hv : Row μ v 1 xs.length (xs.flatMap (icsk .i64))) (hu : Row μ u 1 ys.length (ys.flatMap (icsk .i64)))
    (hl : xs.length ≤ 1048576) (hl2 : ys.length ≤ 1048576) :
    Spec Tryd.prog 27 [gV p, v, u] [gA p vg vn G.length a0, ro μ] (fun r L => ∃ lv zs μ', askedIn (nums G).length zs ∧ Le μ μ' ∧ r = .tuple #[lv, .int .i64 (onlyE (nums G) xs ys)] ∧ L = [own 3 1 lv (onlyA (nums G) xs ys).length ((onlyA (nums G) xs ys).flatMap (icsk .i64)), gA p vg vn G.length (zs.foldl ask1 a0), ro μ']) :=
  only_spec (gSrc p vg vn G μ h.hG h.good h.hn h.hr) a0 μ v u xs ys hT hv hu hl hl2 (Le.refl _) (gSrc_fine h0)
end
theorem walks_all : chkFrom 0 [[], [0], [0], [1, 2], [2, 1]] = 0 ∧ isAnc [[], [0], [0], [1, 2], [2, 1]] 1 4 = true ∧ isAnc [[], [0], [0], [1, 2], [2, 1]] 3 4 = false
    ∧ askedE 5 [[1, 4]] = 0 ∧ askedE 5 [[3, 4]] = 0 ∧ onlyE [[], [0], [0], [1, 2], [2, 1]] [3] [1] = 0 ∧ onlyA [[], [0], [0], [1, 2], [2, 1]] [3] [1] = [2, 3] := by decide +kernel
abbrev LawOk (μ : PH) (r : Value) (L : List Assn) : Prop := r = .bool true ∧ ∃ μ' R, Le μ μ' ∧ L = ro μ' :: R
set_option maxHeartbeats 2000000 in
theorem walks_spec (μ : PH) (hT : RowAt μ 0 0 tabV) : Spec Tryd.prog 13 [] [ro μ] (fun r L => r = .bool true ∧ ∃ μ', Le μ μ' ∧ L = [ro μ']) := by
  refine Spec.of 56 Tryd.func13 rfl rfl rfl ?_
  refine swp_seq ?_
  refine swp_region ?_
  refine s_pu (pu_assign rfl) ?_
  refine swl_sub _ .nil ?_
  refine swl_nil ?_
  refine then_n ?_
  refine swp_seq ?_
  refine swp_region ?_
  refine s_ef (ef_bldS (qs := [(0, _)]) rfl rfl rfl) ?_
  intro b8
  refine s_ef (ef_bldS (qs := [(0, _)]) rfl rfl rfl) ?_
  intro b9
  refine s_ef (ef_bldS (qs := [(0, _), (1, _)]) rfl rfl rfl) ?_
  intro b10
  refine s_ef (ef_bldS (qs := [(0, _), (1, _)]) rfl rfl rfl) ?_
  intro b11
  refine s_ef (ef_bldS (qs := [(0, _), (1, _), (2, _), (3, _), (4, _)]) rfl rfl rfl) ?_
  intro b12
  refine swl_share (b := b8) (μ := μ) (by repeat (first | exact Split.nil | (apply Split.cons; (repeat (first | with_reducible exact Take.here | apply Take.there))))) fun μ1 h1 k1 => ?_
  refine swl_share (b := b9) (μ := μ1) (by repeat (first | exact Split.nil | (apply Split.cons; (repeat (first | with_reducible exact Take.here | apply Take.there))))) fun μ2 h2 k2 => ?_
  refine swl_share (b := b10) (μ := μ2) (by repeat (first | exact Split.nil | (apply Split.cons; (repeat (first | with_reducible exact Take.here | apply Take.there))))) fun μ3 h3 k3 => ?_
  refine swl_share (b := b11) (μ := μ3) (by repeat (first | exact Split.nil | (apply Split.cons; (repeat (first | with_reducible exact Take.here | apply Take.there))))) fun μ4 h4 k4 => ?_
  refine swl_share (b := b12) (μ := μ4) (by repeat (first | exact Split.nil | (apply Split.cons; (repeat (first | with_reducible exact Take.here | apply Take.there))))) fun μ5 h5 k5 => ?_
  have r1 := (row_of_blk (n := 1) (l := 1) (cs := [0].flatMap (icsk .i64)) k1 (by rfl) (by decide)).le (h2.trans (h3.trans (h4.trans h5)))
  have r2 := (row_of_blk (n := 1) (l := 1) (cs := [0].flatMap (icsk .i64)) k2 (by rfl) (by decide)).le (h3.trans (h4.trans h5))
  have r3 := (row_of_blk (n := 1) (l := 2) (cs := [1, 2].flatMap (icsk .i64)) k3 (by rfl) (by decide)).le (h4.trans h5)
  have r4 := (row_of_blk (n := 1) (l := 2) (cs := [2, 1].flatMap (icsk .i64)) k4 (by rfl) (by decide)).le h5
  have hG : Graph μ5 (.slice (some ⟨b12, 0, none⟩) 5 5) [(.slice none 0 0, []), (.slice (some ⟨b8, 0, none⟩) 1 1, [0]), (.slice (some ⟨b9, 0, none⟩) 1 1, [0]), (.slice (some ⟨b10, 0, none⟩) 2 2, [1, 2]), (.slice (some ⟨b11, 0, none⟩) 2 2, [2, 1])] := by
    refine ⟨row_of_blk k5 (by rfl) (by decide), fun x hx => ?_⟩
    rcases List.mem_cons.1 hx with rfl | hx
    · exact Row.nil _ _
    rcases List.mem_cons.1 hx with rfl | hx
    · exact r1
    rcases List.mem_cons.1 hx with rfl | hx
    · exact r2
    rcases List.mem_cons.1 hx with rfl | hx
    · exact r3
    obtain rfl := List.mem_singleton.1 hx
    exact r4
  have hrs : ∀ x ∈ [((.slice none 0 0 : Value), ([] : List Int)), (.slice (some ⟨b8, 0, none⟩) 1 1, [0]), (.slice (some ⟨b9, 0, none⟩) 1 1, [0]), (.slice (some ⟨b10, 0, none⟩) 2 2, [1, 2]), (.slice (some ⟨b11, 0, none⟩) 2 2, [2, 1])], x.2.length ≤ 17592186043904 := fun x hx => by simp at hx; rcases hx with rfl | rfl | rfl | rfl | rfl <;> simp
  have hle := h1.trans (h2.trans (h3.trans (h4.trans h5)))
  obtain ⟨G0, hG0, hnum, hr0, hlen⟩ : ∃ G0, Graph μ5 (.slice (some ⟨b12, 0, none⟩) 5 5) G0 ∧ nums G0 = [[], [0], [0], [1, 2], [2, 1]] ∧ (∀ x ∈ G0, x.2.length ≤ 17592186043904) ∧ G0.length = 5 := ⟨_, hG, rfl, hrs, rfl⟩
  clear hG hrs
  refine s_ef (ef_fn (good_spec μ5 _ G0 9 9 hG0 (by omega) (by decide) hr0) rfl rfl (by repeat (first | exact Split.nil | (apply Split.cons; (repeat (first | with_reducible exact Take.here | apply Take.there)))))) ?_
  rintro v13 L1 ⟨μ6, h6, hgd⟩
  rw [show min G0.length 9 = G0.length by omega, List.take_length] at hgd
  obtain ⟨p, v', vn, gs, rfl, hG', ha, hv, rfl⟩ : ∃ p v' vn gs, v13 = .pointer (some ⟨p, 0, none⟩) ∧ Graph μ6 v' G0 ∧ moreG [] (nums G0) = some gs ∧ Row μ6 vn 1 (cutG 9 gs).length ((cutG 9 gs).flatMap (icsk .i64)) ∧ L1 = [gA p v' vn G0.length noAsk, ro μ6] := by
    rcases hgd with ⟨h, _⟩ | h
    · rw [hnum] at h; exact absurd walks_all.1 h
    · exact h
  refine swl_app ?_
  have hS : GS μ6 v' vn G0 gs 9 := ⟨hG', ha, hv, by omega, hr0⟩
  have hl5 : (nums G0).length = 5 := by rw [List.length_map, hlen]
  obtain ⟨w1, w2, w3, w4, w5, w6, w7⟩ := walks_all
  refine s_pu (pu_assign rfl) ?_
  refine swl_sub _ (.cons (t := 1) rfl .nil) ?_
  refine swl_nil ?_
  refine then_n ?_
  refine swp_seq ?_
  refine swp_region ?_
  refine s_pu (pu_move rfl) ?_
  refine s_pu (pu_iface rfl) ?_
  refine s_ef (ef_fn (g_isanc hS p noAsk (fun _ => Nat.zero_le _) 1 4) rfl rfl (by repeat (first | exact Split.nil | (apply Split.cons; (repeat (first | with_reducible exact Take.here | apply Take.there)))))) ?_
  rintro v17 L1 ⟨ys1, μ7, hy1, h7, rfl, rfl⟩
  refine swl_app ?_
  rw [hl5, hnum, w2, w4]
  have b1 : ∀ c, (ys1.foldl ask1 noAsk) c ≤ 0 + 1 := fun c => ask_le hy1.1 (Nat.le_refl _)
  refine s_pu (pu_move rfl) ?_
  first | refine s_pu (pu_extractL rfl) ?_ | refine s_pu (pu_extract rfl rfl) ?_
  first | refine s_pu (pu_extractL rfl) ?_ | refine s_pu (pu_extract rfl rfl) ?_
  refine s_pu (pu_assign rfl) ?_
  refine s_pu (pu_assign rfl) ?_
  refine swl_sub _ (.cons (t := 1) rfl (.cons (t := 2) rfl (.cons (t := 3) rfl .nil))) ?_
  refine swl_nil ?_
  refine then_n ?_
  refine swp_seq ?_
  refine swp_region ?_
  refine s_pu (pu_move rfl) ?_
  refine s_pu (pu_iface rfl) ?_
  refine s_ef (ef_fn (g_isanc (hS.le h7) p (ys1.foldl ask1 noAsk) (fun c => by have := b1 c; omega) 3 4) rfl rfl (by repeat (first | exact Split.nil | (apply Split.cons; (repeat (first | with_reducible exact Take.here | apply Take.there)))))) ?_
  rintro v23 L1 ⟨ys2, μ8, hy2, h8, rfl, rfl⟩
  refine swl_app ?_
  rw [hl5, hnum, w3, w5]
  have b2 : ∀ c, (ys2.foldl ask1 (ys1.foldl ask1 noAsk)) c ≤ 1 + 1 := fun c => ask_le hy2.1 (b1 c)
  refine s_pu (pu_move rfl) ?_
  first | refine s_pu (pu_extractL rfl) ?_ | refine s_pu (pu_extract rfl rfl) ?_
  first | refine s_pu (pu_extractL rfl) ?_ | refine s_pu (pu_extract rfl rfl) ?_
  refine s_pu (pu_assign rfl) ?_
  refine s_pu (pu_assign rfl) ?_
  refine swl_sub _ (.cons (t := 1) rfl (.cons (t := 2) rfl (.cons (t := 3) rfl (.cons (t := 4) rfl (.cons (t := 5) rfl .nil))))) ?_
  refine swl_nil ?_
  refine then_n ?_
  refine swp_seq ?_
  refine swp_region ?_
  refine s_pu (pu_move rfl) ?_
  refine s_pu (pu_iface rfl) ?_
  refine s_ef (ef_bldS (qs := [(0, _)]) rfl rfl rfl) ?_
  intro b29
  refine s_ef (ef_bldS (qs := [(0, _)]) rfl rfl rfl) ?_
  intro b30
  refine swl_share (b := b29) (μ := μ8) (by repeat (first | exact Split.nil | (apply Split.cons; (repeat (first | with_reducible exact Take.here | apply Take.there))))) fun μ9 h9 k9 => ?_
  refine swl_share (b := b30) (μ := μ9) (by repeat (first | exact Split.nil | (apply Split.cons; (repeat (first | with_reducible exact Take.here | apply Take.there))))) fun μ10 h10 k10 => ?_
  have q1 := (row_of_blk (n := 1) (l := 1) (cs := [3].flatMap (icsk .i64)) k9 (by rfl) (by decide)).le h10
  have q2 := row_of_blk (n := 1) (l := 1) (cs := [1].flatMap (icsk .i64)) k10 (by rfl) (by decide)
  have hle2 := hle.trans (h6.trans (h7.trans (h8.trans (h9.trans h10))))
  refine s_ef (ef_fn (g_only ((hS.le h7).le (h8.trans (h9.trans h10))) p (ys2.foldl ask1 (ys1.foldl ask1 noAsk)) (fun c => by have := b2 c; omega) _ _ [3] [1] (hT.le hle2) q1 q2 (by simp) (by simp)) rfl rfl (by repeat (first | exact Split.nil | (apply Split.cons; (repeat (first | with_reducible exact Take.here | apply Take.there)))))) ?_
  rintro v31 L1 ⟨lv, zs, μ11, hz, h11, rfl, rfl⟩
  refine swl_app ?_
  rw [hnum, w6, w7]
  refine swl_fact (fun m h => own_shape .here h) fun hs => ?_
  refine s_pu (pu_move rfl) ?_
  first | refine s_pu (pu_extractL rfl) ?_ | refine s_pu (pu_extract rfl rfl) ?_
  first | refine s_pu (pu_extractL rfl) ?_ | refine s_pu (pu_extract rfl rfl) ?_
  refine s_pu (pu_assign rfl) ?_
  refine s_pu (pu_assign rfl) ?_
  refine swl_sub _ (.cons (t := 2) rfl (.cons (t := 3) rfl (.cons (t := 4) rfl (.cons (t := 5) rfl (.cons (t := 6) rfl (.cons (t := 7) rfl .nil)))))) ?_
  refine swl_nil ?_
  refine then_n ?_
  refine swp_seq ?_
  refine swp_region ?_
  refine s_pu (pu_move rfl) ?_
  refine s_pu (pu_move rfl) ?_
  refine s_on rfl rfl ?_
  refine s_pu (pu_move rfl) ?_
  refine s_on rfl rfl ?_
  refine s_pu (pu_not rfl) ?_
  first | refine s_pu (pu_pick_t rfl rfl) ?_ | refine s_pu (pu_pick_f rfl rfl) ?_
  refine s_pu (pu_move rfl) ?_
  refine s_on rfl rfl ?_
  refine s_pu (pu_move rfl) ?_
  refine s_on rfl rfl ?_
  refine s_pu (pu_eql rfl rfl) ?_
  first | refine s_pu (pu_pick_t rfl rfl) ?_ | refine s_pu (pu_pick_f rfl rfl) ?_
  refine s_pu (pu_move rfl) ?_
  refine s_on rfl rfl ?_
  refine s_pu (pu_move rfl) ?_
  refine s_on rfl rfl ?_
  refine s_pu (pu_eql rfl rfl) ?_
  first | refine s_pu (pu_pick_t rfl rfl) ?_ | refine s_pu (pu_pick_f rfl rfl) ?_
  refine s_pu (pu_move rfl) ?_
  refine s_on rfl rfl ?_
  refine s_pu (pu_move rfl) ?_
  refine s_on rfl rfl ?_
  refine s_pu (pu_eql rfl rfl) ?_
  first | refine s_pu (pu_pick_t rfl rfl) ?_ | refine s_pu (pu_pick_f rfl rfl) ?_
  refine s_pu (pu_move rfl) ?_
  refine s_on rfl rfl ?_
  refine s_pu (pu_move rfl) ?_
  refine s_on rfl rfl ?_
  refine s_ef (ef_bldS (qs := [(0, _), (1, _)]) rfl rfl rfl) ?_
  intro b53
  refine s_on rfl rfl ?_
  refine s_ef (ef_fn (samelist_i lv _ ([2, 3] : List Int) ([2, 3] : List Int) _ (ints_own hs (by repeat (first | with_reducible exact Take.here | apply Take.there))) (ints_blk (cs := [2, 3]) rfl (by show 2 ≤ _; decide))) rfl rfl Split.all) ?_
  rintro v54 L1 ⟨rfl, rfl⟩
  refine swl_app ?_
  first | refine s_pu (pu_pick_t rfl rfl) ?_ | refine s_pu (pu_pick_f rfl rfl) ?_
  refine s_pu (pu_assign rfl) ?_
  refine swl_sub _ (.cons (t := 0) rfl .nil) ?_
  refine swl_nil ?_
  refine then_n ?_
  refine swp_ret ?_
  exact done_ret [ro μ11] (.tmp rfl .nil) ⟨rfl, μ11, hle2.trans h11, rfl⟩ (by repeat (first | exact Split.nil | (apply Split.cons; (repeat (first | with_reducible exact Take.here | apply Take.there)))))
end SX
namespace SX
open Go Go.Proofs

def GoodIs (G : List (Value × List Int)) (mo : Nat) (kn : Int) (μ' : PH) (o : Option Addr) (A : Assn) : Prop :=
  (o = none ∧ ¬ chkFrom 0 (nums (G.take (min G.length mo))) = 0) ∨ ∃ p v' vn gs, o = some ⟨p, 0, none⟩ ∧ GS μ' v' vn (G.take (min G.length mo)) gs kn.toNat ∧ A = gA p v' vn (G.take (min G.length mo)).length noAsk
theorem good2_spec (μ : PH) (v : Value) (G : List (Value × List Int)) (mo : Nat) (kn : Int) (hG : Graph μ v G) (hn : G.length ≤ 17592186043904) (hmo : mo ≤ 65536) (hrows : ∀ x ∈ G, x.2.length ≤ 17592186043904) :
    Spec Tryd.prog 14 [v, .int .i64 (mo : Nat), .int .i64 kn] [ro μ] (fun r L => ∃ μ' o A, Le μ μ' ∧ r = .pointer o ∧ L = [A, ro μ'] ∧ GoodIs G mo kn μ' o A) := by
  refine Spec.ent3 (good_spec μ v G mo kn hG hn (by omega) hrows) fun r L ⟨μ', h1, h2⟩ => ?_
  have hl : (G.take (min G.length mo)).length = min G.length mo := by rw [List.length_take]; omega
  rcases h2 with ⟨k1, rfl, rfl⟩ | ⟨p, v', vn, gs, rfl, k1, k2, k3, rfl⟩
  · exact ⟨_, star_close (K := []) (L := [ro μ']), μ', none, star [], h1, rfl, rfl, .inl ⟨rfl, k1⟩⟩
  · exact ⟨_, Ent.refl _, μ', _, _, h1, rfl, rfl, .inr ⟨p, v', vn, gs, rfl, ⟨k1, k2, k3, by omega, fun x hx => hrows x (List.mem_of_mem_take hx)⟩, by rw [hl]⟩⟩
end SX
namespace SX
open Go Go.Proofs

end SX
namespace SX
open Go Go.Proofs

theorem row_take {μ : PH} {v : Value} {xs : List Int} (hv : Row μ v 1 xs.length (xs.flatMap (icsk .i64))) (k : Nat) (hk : k ≤ xs.length) :
    ∃ v', Row μ v' 1 (xs.take k).length ((xs.take k).flatMap (icsk .i64)) ∧ ∀ (env : Env) (x y : Operand) (ki : IntKind) (hi : Int), evalE env x = some v → evalE env y = some (.int ki hi) → hi = (k : Int) → Pu Tryd.prog env (.slice 31 x none (some y) none) v' := by
  obtain ⟨v', hr, hp⟩ := Row.hi (P := Tryd.prog) (t := 31) hv k hk
  refine ⟨v', ?_, hp⟩
  rw [Nat.mul_one, flat_take (icsk_len .i64)] at hr
  rwa [List.length_take, Nat.min_eq_left hk]
theorem reachA_len (g : List (List Int)) (xs : List Int) : (reachA g xs).length ≤ g.length := by
  unfold reachA
  by_cases h : reachE g xs = 0
  · rw [if_pos h]; exact elsTo_len _ _
  · rw [if_neg h]; exact Nat.zero_le _
end SX
namespace SX
open Go Go.Proofs

theorem cutK {v : Value} {μ : PH} {xs : List Int} (m : Nat) (hv : Row μ v 1 xs.length (xs.flatMap (icsk .i64))) : ∃ (v' : Value) (ys : List Int), ys = xs.take (min xs.length m) ∧ ys.length ≤ m ∧ Row μ v' 1 ys.length (ys.flatMap (icsk .i64)) ∧ ∀ (env : Env) (x y : Operand) (ki : IntKind) (hi : Int), evalE env x = some v → evalE env y = some (.int ki hi) → hi = min (xs.length : Int) m → Pu Tryd.prog env (.slice 31 x none (some y) none) v' := by
  obtain ⟨v', h1, h2⟩ := row_take hv (min xs.length m) (Nat.min_le_left _ _)
  exact ⟨v', _, rfl, by rw [List.length_take]; omega, h1, fun env x y ki hi a b c => h2 env x y ki hi a b (by omega)⟩
end SX
namespace SX
open Go Go.Proofs

end SX
namespace SX
open Go Go.Proofs

theorem falls_els {n : Nat} {D : List Nat} (h : Falls D) (hn : ∀ j ∈ D, j < n) : elsTo n (fun j => decide (j ∈ D)) = numsI D.reverse := by
  unfold elsTo
  congr 1
  have key : ((List.range n).filter fun j => decide (j ∈ D)).reverse = D := by
    refine falls_ext ?_ h fun j => ?_
    · unfold Falls
      rw [List.pairwise_reverse]
      exact List.pairwise_lt_range.filter _
    · rw [List.mem_reverse, List.mem_filter, List.mem_range, decide_eq_true_eq]
      exact ⟨fun h => h.2, fun h => ⟨hn j h, h⟩⟩
  rw [← key, List.reverse_reverse, key]
theorem numsI_len (l : List Nat) : (numsI l).length = l.length := by unfold numsI; rw [List.length_map]
theorem numsI_rev {pre post : List Nat} {x : Nat} : (numsI (pre ++ x :: post).reverse)[post.length]? = some (x : Int) := by
  rw [List.reverse_append, List.reverse_cons]
  unfold numsI
  rw [List.map_append, List.map_append, List.append_assoc, List.getElem?_append_right (by simp)]
  simp
theorem downL_in (g : List (List Int)) (xs : List Int) : downL g (inRng g.length xs) = downL g xs := by
  unfold downL
  rw [← addAll_rng]
theorem inRng_all (n : Nat) (xs : List Int) : askedE n [inRng n xs] = 0 := by
  unfold askedE
  rw [if_pos]
  simp only [List.all_cons, List.all_nil, Bool.and_true, List.all_eq_true]
  intro p hp
  have := (inRng_mem.1 hp).2
  unfold inR
  rw [decide_eq_true this.1, decide_eq_true this.2]; rfl
theorem inRng_len (n : Nat) (xs : List Int) : (inRng n xs).length ≤ xs.length := List.length_filter_le ..
theorem inRng_take {n : Nat} {xs : List Int} {i : Nat} {c : Int} (h : xs[i]? = some c) : inRng n (xs.take (i + 1)) = inRng n (xs.take i) ++ if (decide (0 ≤ c) && decide (c < n)) = true then [c] else [] := by
  unfold inRng
  rw [List.take_add_one, h, List.filter_append]
  congr 1
  show List.filter _ [c] = _
  rw [List.filter_cons]
  split <;> rfl
/-- the last that came, or the number of commits -/
def lastOf (n : Nat) (l : List Nat) : Nat := l.getLast?.getD n
theorem lastOf_snoc (n : Nat) (l : List Nat) (x : Nat) : lastOf n (l ++ [x]) = x := by unfold lastOf; simp
theorem falls_last {n : Nat} {l : List Nat} (h : Falls l) : ∀ c ∈ l, lastOf n l ≤ c := by
  intro c hc
  rcases List.eq_nil_or_concat l with rfl | ⟨l', x, rfl⟩
  · cases hc
  · rw [List.concat_eq_append] at *
    rw [lastOf_snoc]
    unfold Falls at h
    rw [List.pairwise_append] at h
    rcases List.mem_append.1 hc with hc | hc
    · exact Nat.le_of_lt (h.2.2 c hc x (by simp))
    · rw [List.mem_singleton.1 hc]; exact Nat.le_refl _
theorem lastOf_le {n : Nat} {l : List Nat} (h : ∀ j ∈ l, j < n) : lastOf n l ≤ n := by
  rcases List.eq_nil_or_concat l with rfl | ⟨l', x, rfl⟩
  · exact Nat.le_refl _
  · rw [List.concat_eq_append] at *
    rw [lastOf_snoc]
    exact Nat.le_of_lt (h x (by simp))
theorem ent_open {α : Type} {F : α → List Assn} {L L' : List Assn} (h : ∀ x, Ent (F x ++ L) L') : Ent (exA F :: L) L' := fun m hm => by
  obtain ⟨x, hx⟩ := exA_open hm
  exact h x m hx
/-- what a break leaves -/
def brk (k : Nat) (W : Assn) : Nat → Assn := fun i => if i = k then W else (fun _ => False : Assn)
theorem brk_hit (k : Nat) (W : Assn) : brk k W k = W := if_pos rfl
theorem brk_miss {k i : Nat} (W : Assn) (h : ¬ i = k) {m : PH} (hm : brk k W i m) : False := by
  have e : brk k W i = (fun _ => False : Assn) := if_neg h
  rw [e] at hm; exact hm
abbrev wdP (n : Nat) (μ : PH) : Type := {k : Nat × List Nat × PH // k.1 ≤ n ∧ (∀ c, c < k.1 → c ∉ k.2.1) ∧ Le μ k.2.2}
def wdE (p b6 b17 : Nat) (v' vn : Value) (n : Nat) (μ : PH) : Assn := exA fun k : wdP n μ => [gA p v' vn n (k.1.2.1.foldl ask1 noAsk), blk b17 3 [.int .i64 (k.1.1 : Nat)], blk b6 4 [.bool false], ro k.1.2.2]
theorem wdE_close {p b6 b17 : Nat} {v' vn : Value} {n : Nat} {μ : PH} (l : Nat) (ys : List Nat) (m : PH) (h1 : l ≤ n) (h2 : ∀ c, c < l → c ∉ ys) (h3 : Le μ m) :
    Ent [gA p v' vn n (ys.foldl ask1 noAsk), blk b17 3 [.int .i64 (l : Nat)], blk b6 4 [.bool false], ro m] [wdE p b6 b17 v' vn n μ] :=
  ent_ex1 (F := fun k : wdP n μ => [gA p v' vn n (k.1.2.1.foldl ask1 noAsk), blk b17 3 [.int .i64 (k.1.1 : Nat)], blk b6 4 [.bool false], ro k.1.2.2]) ⟨(l, ys, m), h1, h2, h3⟩
theorem ask_zero {c : Nat} {ys : List Nat} (h : c ∉ ys) : (ys.foldl ask1 noAsk) c = 0 := ask_no h
def GS.src {μ : PH} {vg vn : Value} {G : List (Value × List Int)} {gs : List Int} {k : Nat} (h : GS μ vg vn G gs k) (p : Nat) : Src := gSrc p vg vn G μ h.hG h.good h.hn h.hr
theorem g_down {μ : PH} {vg vn : Value} {G : List (Value × List Int)} {gs : List Int} {k : Nat} (h : GS μ vg vn G gs k) (p b1 b2 : Nat) (μ' : PH) (h0 : Le μ μ') (v : Value) (xs : List Int) (h1 : CellAt μ' b1 0 (gV p)) (h2 : CellAt μ' b2 0 v) (hv : Row μ' v 1 xs.length (xs.flatMap (icsk .i64))) :
    IterG Tryd.prog 52 [.pointer (some ⟨b1, 0, none⟩), .pointer (some ⟨b2, 0, none⟩)] (fun x : Nat => [.int .i64 (x : Nat)]) (fun pre x => ∃ post, downL (nums G) xs = pre ++ x :: post) (fun ys => ys = downL (nums G) xs)
      [gA p vg vn G.length noAsk, ro μ'] (fun pre _ => (h.src p).at_ noAsk μ' pre) (fun pre _ => (h.src p).at_ noAsk μ' pre) (fun ys => (h.src p).at_ noAsk μ' ys) :=
  down_iter (h.src p) noAsk μ' b1 b2 v xs h1 h2 hv h0 ((gSrc_fine (fun _ => Nat.zero_le _)).down xs)
theorem g_at {μ : PH} {vg vn : Value} {G : List (Value × List Int)} {gs : List Int} {k : Nat} (h : GS μ vg vn G gs k) (p : Nat) (μ' : PH) (ys : List Nat) :
    (h.src p).at_ noAsk μ' ys = exA fun m : {m : PH // Le μ' m} => [gA p vg vn G.length (ys.foldl ask1 noAsk), ro m.1] := rfl
set_option maxHeartbeats 8000000 in
theorem walkdown_spec (μ : PH) (v v1 : Value) (G : List (Value × List Int)) (xs0 : List Int) (kn : Int) (hT : RowAt μ 0 0 tabV) (hG : Graph μ v G) (hn : G.length ≤ 17592186043904) (hrows : ∀ x ∈ G, x.2.length ≤ 17592186043904)
    (hx : Row μ v1 1 xs0.length (xs0.flatMap (icsk .i64))) (hkn : 0 ≤ kn ∧ kn ≤ 255) :
    Spec Tryd.prog 4 [v, v1, .int .u8 kn] [ro μ] (LawOk μ) := by
  obtain ⟨A1, c1, hv1⟩ := hx.sl
  subst hv1
  refine Spec.of 134 Tryd.func4 rfl rfl rfl ?_
  refine swp_seq ?_
  refine swp_region ?_
  refine s_ef (ef_box rfl rfl) ?_
  intro b5
  refine s_ef (ef_alloc) ?_
  intro b6
  refine swl_sub _ (.cons (t := 0) rfl (.cons (t := 1) rfl (.cons (t := 5) rfl (.cons (t := 6) rfl .nil)))) ?_
  refine swl_nil ?_
  refine then_n ?_
  refine swp_seq ?_
  refine swp_seq ?_
  refine swp_region ?_
  refine s_ef (ef_fn (walks_spec μ hT) rfl rfl (by repeat (first | exact Split.nil | (apply Split.cons; (repeat (first | with_reducible exact Take.here | apply Take.there)))))) ?_
  rintro v20 L1 ⟨rfl, μ1, h1, rfl⟩
  refine swl_app ?_
  refine s_pu (pu_not rfl) ?_
  refine swl_sub _ (.cons (t := 0) rfl (.cons (t := 1) rfl (.cons (t := 5) rfl (.cons (t := 6) rfl (.cons (t := 21) rfl .nil))))) ?_
  refine swl_nil ?_
  refine then_n ?_
  refine swp_cond (b := _) rfl (fun h21 => by cases h21) (fun h21 => ?_)
  refine swp_skip ?_
  refine then_n ?_
  refine swp_seq ?_
  refine swp_region ?_
  refine s_pu (pu_move rfl) ?_
  refine s_rd (rd_load rfl rfl) ?_
  refine s_pu (pu_conv_i64 rfl (by omega) (by omega)) ?_
  refine s_ef (ef_fn (good2_spec μ1 v G 3000 kn (hG.le h1) hn (by decide) hrows) rfl rfl (by repeat (first | exact Split.nil | (apply Split.cons; (repeat (first | with_reducible exact Take.here | apply Take.there)))))) ?_
  rintro v25 L1 ⟨μ2, o, A0, h2, rfl, rfl, hgd⟩
  refine swl_app ?_
  refine s_pu (pu_assign rfl) ?_
  refine swl_sub _ (.cons (t := 1) rfl (.cons (t := 5) rfl (.cons (t := 6) rfl (.cons (t := 7) rfl .nil)))) ?_
  refine swl_nil ?_
  refine then_n ?_
  refine swp_seq ?_
  refine swp_seq ?_
  refine swp_region ?_
  refine s_pu (pu_move rfl) ?_
  refine s_pu (pu_ptr_eq_nil rfl rfl) ?_
  refine swl_sub _ (.cons (t := 1) rfl (.cons (t := 5) rfl (.cons (t := 6) rfl (.cons (t := 7) rfl (.cons (t := 27) rfl .nil))))) ?_
  refine swl_nil ?_
  refine then_n ?_
  refine swp_cond (b := _) rfl (fun h27 => ?_) (fun h27 => ?_)
  · skip   -- 27 T
    refine swp_seq ?_
    refine swp_region ?_
    refine s_ef0 (ef_store rfl rfl rfl) ?_
    refine swl_sub _ (.cons (t := 6) rfl .nil) ?_
    refine swl_nil ?_
    refine then_n ?_
    refine swp_ret ?_
    refine then_r ?_
    exact done_ret [ro μ2] (.cell rfl (ld_one rfl) .nil) ⟨rfl, μ2, [], h1.trans h2, rfl⟩ (by repeat (first | exact Split.nil | (apply Split.cons; (repeat (first | with_reducible exact Take.here | apply Take.there)))))
  · skip   -- 27 F
    obtain ⟨p, v', vn, gs, rfl, hS, rfl⟩ : ∃ p v' vn gs, o = some ⟨p, 0, none⟩ ∧ GS μ2 v' vn (G.take (min G.length 3000)) gs kn.toNat ∧ A0 = gA p v' vn (G.take (min G.length 3000)).length noAsk := by
      rcases hgd with ⟨rfl, _⟩ | h
      · cases h27
      · exact h
    generalize G.take (min G.length 3000) = Gm at *
    have hml := hS.hn
    have hT2 := (hT.le h1).le h2
    have hln : (nums Gm).length = Gm.length := List.length_map _
    have hgood := hS.good
    obtain ⟨vx, xs, _, hxl, rx, sx⟩ := cutK 100 ((hx.le h1).le h2)
    obtain ⟨Ax, cx, hvx⟩ := rx.sl
    subst hvx
    refine swp_skip ?_
    refine then_n ?_
    refine swp_seq ?_
    refine swp_region ?_
    refine s_pu (pu_assign rfl) ?_
    refine swl_sub _ (.cons (t := 1) rfl (.cons (t := 5) rfl (.cons (t := 6) rfl (.cons (t := 7) rfl (.cons (t := 8) rfl .nil))))) ?_
    refine swl_nil ?_
    refine then_n ?_
    refine swp_seq ?_
    refine swp_seq ?_
    refine swp_region ?_
    refine s_pu (pu_move rfl) ?_
    refine s_pu (pu_move rfl) ?_
    refine s_pu (pu_len_row hx rfl) ?_
    refine s_pu (pu_min2 rfl rfl) ?_
    refine s_pu (sx _ _ _ .i64 _ rfl rfl rfl) ?_
    refine s_pu (pu_len_row rx rfl) ?_
    refine s_pu (pu_move rfl) ?_
    refine swl_sub _ (.cons (t := 1) rfl (.cons (t := 5) rfl (.cons (t := 6) rfl (.cons (t := 7) rfl (.cons (t := 8) rfl (.cons (t := 32) rfl (.cons (t := 33) rfl (.cons (t := 34) rfl .nil)))))))) ?_
    refine swl_nil ?_
    refine then_n ?_
    refine swp_block ?_
    refine swp_ent (own_nil_ent (e := 3) (n := 1)) ?_
    refine swp_sub _ (.cons (t := 1) rfl (.cons (t := 5) rfl (.cons (t := 6) rfl (.cons (t := 7) rfl (.cons (t := 8) rfl (.cons (t := 32) rfl (.cons (t := 33) rfl (.cons (t := 34) rfl .nil)))))))) ?_
    refine swp_loop (ι := Nat × Value) (fun k env L => env = [(1, .slice A1 xs0.length c1), (5, .pointer (some ⟨b5, 0, none⟩)), (6, .pointer (some ⟨b6, 0, none⟩)), (7, .pointer (some ⟨p, 0, none⟩)), (8, k.2), (32, .slice Ax xs.length cx), (33, .int .i64 (xs.length : Nat)), (34, .int .i64 (k.1 : Nat))]
      ∧ Ent L [own 3 1 k.2 (inRng Gm.length (xs.take k.1)).length ((inRng Gm.length (xs.take k.1)).flatMap (icsk .i64)), gA p v' vn Gm.length noAsk, blk b5 5 [.int .u8 kn], blk b6 4 [.bool false], ro μ2] ∧ k.1 ≤ xs.length) (fun k => xs.length - k.1) (0, .slice none 0 0) ⟨rfl, by
      show Ent _ [own 3 1 (.slice none 0 0) 0 [], gA p v' vn Gm.length noAsk, blk b5 5 [.int .u8 kn], blk b6 4 [.bool false], ro μ2]
      exact Split.ent' (by repeat (first | exact Split.nil | (apply Split.cons; (repeat (first | with_reducible exact Take.here | apply Take.there))))), Nat.zero_le _⟩ ?_
    rintro ⟨i, lv⟩ env L ⟨rfl, hL, hi⟩
    dsimp only at hL hi ⊢
    refine swp_ent hL ?_
    refine swp_seq ?_
    refine swp_region ?_
    refine s_pu (pu_lss rfl rfl) ?_
    refine swl_sub _ (.cons (t := 1) rfl (.cons (t := 5) rfl (.cons (t := 6) rfl (.cons (t := 7) rfl (.cons (t := 8) rfl (.cons (t := 32) rfl (.cons (t := 33) rfl (.cons (t := 34) rfl (.cons (t := 35) rfl .nil))))))))) ?_
    refine swl_nil ?_
    refine then_n ?_
    refine swp_seq ?_
    refine swp_cond (b := _) rfl (fun h35 => ?_) (fun h35 => ?_)
    · skip   -- 35 T
      have h35' : i < xs.length := by have := of_decide_eq_true h35; omega
      obtain ⟨c, hc⟩ : ∃ c, xs[i]? = some c := ⟨_, List.getElem?_eq_getElem h35'⟩
      obtain ⟨pb, po, pc, hpv, hpc⟩ := rx.at_ hc
      have hkl := inRng_len Gm.length (xs.take i)
      rw [List.length_take] at hkl
      have hsu := inRng_take (n := Gm.length) hc
      refine swp_skip ?_
      refine then_n ?_
      refine swp_seq ?_
      refine swp_block ?_
      refine swp_seq ?_
      refine swp_region ?_
      refine s_pu (pu_indexAddr (po + i * 1) (congrArg some hpv) rfl (by omega) (by omega) (by rw [Int.toNat_natCast])) ?_
      refine s_rd (rd_ro rfl hpc) ?_
      refine s_pu (pu_assign rfl) ?_
      refine swl_sub _ (.cons (t := 1) rfl (.cons (t := 5) rfl (.cons (t := 6) rfl (.cons (t := 7) rfl (.cons (t := 8) rfl (.cons (t := 10) rfl (.cons (t := 32) rfl (.cons (t := 33) rfl (.cons (t := 34) rfl .nil))))))))) ?_
      refine swl_nil ?_
      refine then_n ?_
      refine swp_seq ?_
      refine swp_ent (Split.ent' (K := [gA p v' vn Gm.length noAsk, own 3 1 lv (inRng Gm.length (xs.take i)).length ((inRng Gm.length (xs.take i)).flatMap (icsk .i64)), blk b5 5 [.int .u8 kn], blk b6 4 [.bool false], ro μ2]) (by repeat (first | exact Split.nil | (apply Split.cons; (repeat (first | with_reducible exact Take.here | apply Take.there)))))) ?_
      refine swp_ex fun va0 => ?_
      simp only [List.cons_append, List.nil_append]
      refine swp_region ?_
      refine s_pu (pu_move rfl) ?_
      refine s_pu (pu_geq rfl rfl) ?_
      refine s_pu (pu_move rfl) ?_
      refine s_split 40 rfl (fun h40 => ?_) (fun h40 => ?_)
      · skip   -- 40 T
        refine s_on rfl rfl ?_
        refine s_pu (pu_move rfl) ?_
        refine s_on rfl rfl ?_
        refine s_pu (pu_move rfl) ?_
        refine s_on rfl rfl ?_
        first | refine s_pu (pu_nilCheck rfl) ?_ | refine s_pu (pu_nilCheck_fn rfl) ?_ | refine s_pu (pu_nilCheck_if rfl) ?_
        refine s_on rfl rfl ?_
        first | refine s_pu (pu_fieldAddr0 rfl) ?_ | refine s_pu (pu_fieldAddr rfl) ?_
        refine s_on rfl rfl ?_
        refine s_rd (rd_load rfl rfl) ?_
        refine s_on rfl rfl ?_
        refine s_pu (pu_len_row hS.hG.1 rfl) ?_
        refine s_on rfl rfl ?_
        refine s_pu (pu_lss rfl rfl) ?_
        first | refine s_pu (pu_pick_t rfl rfl) ?_ | refine s_pu (pu_pick_f rfl rfl) ?_
        refine swl_sub _ (.cons (t := 1) rfl (.cons (t := 5) rfl (.cons (t := 6) rfl (.cons (t := 7) rfl (.cons (t := 8) rfl (.cons (t := 10) rfl (.cons (t := 32) rfl (.cons (t := 33) rfl (.cons (t := 34) rfl (.cons (t := 48) rfl .nil)))))))))) ?_
        refine swl_nil ?_
        refine then_n ?_
        refine swp_cond (b := _) rfl (fun h48 => ?_) (fun h48 => ?_)
        · skip   -- 48 T
          have hin : (decide (0 ≤ c) && decide (c < Gm.length)) = true := by simpa [h40] using h48
          rw [if_pos hin] at hsu
          refine swp_region ?_
          refine s_pu (pu_move rfl) ?_
          refine s_pu (pu_move rfl) ?_
          refine s_ef (ef_bldS (qs := [(0, _)]) rfl rfl rfl) ?_
          intro b51
          refine s_ef (ef_append_lit (l := (inRng Gm.length (xs.take i)).length) (m := 1) rfl rfl (by repeat (first | exact Split.nil | (apply Split.cons; (repeat (first | with_reducible exact Take.here | apply Take.there))))) (by simp only [maxLen]; omega) (by omega)) ?_
          rintro lw hlw
          skip
          refine s_pu (pu_assign rfl) ?_
          refine swl_sub _ (.cons (t := 1) rfl (.cons (t := 5) rfl (.cons (t := 6) rfl (.cons (t := 7) rfl (.cons (t := 8) rfl (.cons (t := 32) rfl (.cons (t := 33) rfl (.cons (t := 34) rfl .nil)))))))) ?_
          refine swl_nil ?_
          refine block_n ?_
          refine then_n ?_
          refine swp_region ?_
          refine s_pu (pu_add_as ((i + 1 : Nat) : Int) rfl rfl (by omega) (by omega) (by omega)) ?_
          refine s_pu (pu_move rfl) ?_
          refine swl_sub _ (.cons (t := 1) rfl (.cons (t := 5) rfl (.cons (t := 6) rfl (.cons (t := 7) rfl (.cons (t := 8) rfl (.cons (t := 32) rfl (.cons (t := 33) rfl (.cons (t := 34) rfl .nil)))))))) ?_
          refine swl_nil ?_
          refine then_n ⟨(i + 1, lw), ⟨rfl, ?_, h35'⟩, by show xs.length - (i + 1) < xs.length - i; omega⟩
          dsimp only
          rw [hsu, List.flatMap_append, List.length_append, show [c].length = 1 from rfl, show [c].flatMap (icsk .i64) = [.int .i64 c] from rfl]
          refine Ent.trans ?_ ((Ent.perm (.swap _ _ _)))
          refine Ent.trans ?_ (gA_close (va := va0))
          exact Split.ent' (by repeat (first | exact Split.nil | (apply Split.cons; (repeat (first | with_reducible exact Take.here | apply Take.there)))))
        · skip   -- 48 F
          have hin : (decide (0 ≤ c) && decide (c < Gm.length)) = false := by rw [h48, Bool.and_false]
          rw [if_neg (by rw [hin]; exact Bool.false_ne_true), List.append_nil] at hsu
          refine swp_skip ?_
          refine block_n ?_
          refine then_n ?_
          refine swp_region ?_
          refine s_pu (pu_add_as ((i + 1 : Nat) : Int) rfl rfl (by omega) (by omega) (by omega)) ?_
          refine s_pu (pu_move rfl) ?_
          refine swl_sub _ (.cons (t := 1) rfl (.cons (t := 5) rfl (.cons (t := 6) rfl (.cons (t := 7) rfl (.cons (t := 8) rfl (.cons (t := 32) rfl (.cons (t := 33) rfl (.cons (t := 34) rfl .nil)))))))) ?_
          refine swl_nil ?_
          refine then_n ⟨(i + 1, lv), ⟨rfl, ?_, h35'⟩, by show xs.length - (i + 1) < xs.length - i; omega⟩
          dsimp only
          rw [hsu]
          refine Ent.trans ?_ ((Ent.perm (.swap _ _ _)))
          refine Ent.trans ?_ (gA_close (va := va0))
          exact Split.ent' (by repeat (first | exact Split.nil | (apply Split.cons; (repeat (first | with_reducible exact Take.here | apply Take.there)))))
      · skip   -- 40 F
        have hin : (decide (0 ≤ c) && decide (c < Gm.length)) = false := by
          have h40' := of_decide_eq_false h40
          rw [decide_eq_false (by omega)]; rfl
        rw [if_neg (by rw [hin]; exact Bool.false_ne_true), List.append_nil] at hsu
        refine s_off rfl rfl rfl ?_
        refine s_off rfl rfl rfl ?_
        refine s_off rfl rfl rfl ?_
        refine s_off rfl rfl rfl ?_
        refine s_off rfl rfl rfl ?_
        refine s_off rfl rfl rfl ?_
        refine s_off rfl rfl rfl ?_
        first | refine s_pu (pu_pick_t rfl rfl) ?_ | refine s_pu (pu_pick_f rfl rfl) ?_
        refine swl_sub _ (.cons (t := 1) rfl (.cons (t := 5) rfl (.cons (t := 6) rfl (.cons (t := 7) rfl (.cons (t := 8) rfl (.cons (t := 10) rfl (.cons (t := 32) rfl (.cons (t := 33) rfl (.cons (t := 34) rfl (.cons (t := 48) rfl .nil)))))))))) ?_
        refine swl_nil ?_
        refine then_n ?_
        refine swp_cond (b := _) rfl (fun h48 => by cases h48) (fun h48 => ?_)
        refine swp_skip ?_
        refine block_n ?_
        refine then_n ?_
        refine swp_region ?_
        refine s_pu (pu_add_as ((i + 1 : Nat) : Int) rfl rfl (by omega) (by omega) (by omega)) ?_
        refine s_pu (pu_move rfl) ?_
        refine swl_sub _ (.cons (t := 1) rfl (.cons (t := 5) rfl (.cons (t := 6) rfl (.cons (t := 7) rfl (.cons (t := 8) rfl (.cons (t := 32) rfl (.cons (t := 33) rfl (.cons (t := 34) rfl .nil)))))))) ?_
        refine swl_nil ?_
        refine then_n ⟨(i + 1, lv), ⟨rfl, ?_, h35'⟩, by show xs.length - (i + 1) < xs.length - i; omega⟩
        dsimp only
        rw [hsu]
        refine Ent.trans ?_ ((Ent.perm (.swap _ _ _)))
        refine Ent.trans ?_ (gA_close (va := va0))
        exact Split.ent' (by repeat (first | exact Split.nil | (apply Split.cons; (repeat (first | with_reducible exact Take.here | apply Take.there)))))
    · skip   -- 35 F
      have h35' := of_decide_eq_false h35
      obtain rfl : i = xs.length := by omega
      rw [List.take_length]
      obtain ⟨known, hkn'⟩ : ∃ known, known = inRng Gm.length xs := ⟨_, rfl⟩
      rw [← hkn']
      have hkE : reachE (nums Gm) known = 0 := by rw [hkn', reachE, hln]; exact inRng_all _ _
      have hkD : downL (nums Gm) known = downL (nums Gm) xs := by rw [hkn', ← hln]; exact downL_in _ _
      have hkl : known.length ≤ 100 := by have := inRng_len Gm.length xs; rw [hkn']; omega
      obtain ⟨d1, d2, _⟩ := downL_spec hgood xs
      rw [hln] at d2
      have hW : reachA (nums Gm) known = numsI (downL (nums Gm) xs).reverse := by
        rw [reachA, if_pos hkE, hkD, hln]; exact falls_els d1 d2
      refine swp_share_own (v := lv) (μ := μ2) (by repeat (first | exact Split.nil | (apply Split.cons; (repeat (first | with_reducible exact Take.here | apply Take.there))))) fun μ3 h3 rk => ?_
      refine swp_exit ?_
      refine then_x ?_
      refine then_x ?_
      refine block_hit rfl ?_
      refine then_n ?_
      refine swp_seq ?_
      refine swp_ent (Split.ent' (K := [gA p v' vn Gm.length noAsk, blk b5 5 [.int .u8 kn], blk b6 4 [.bool false], ro μ3]) (by repeat (first | exact Split.nil | (apply Split.cons; (repeat (first | with_reducible exact Take.here | apply Take.there)))))) ?_
      refine swp_ex fun va1 => ?_
      simp only [List.cons_append, List.nil_append]
      refine swp_region ?_
      refine s_pu (pu_move rfl) ?_
      first | refine s_pu (pu_nilCheck rfl) ?_ | refine s_pu (pu_nilCheck_fn rfl) ?_ | refine s_pu (pu_nilCheck_if rfl) ?_
      first | refine s_pu (pu_fieldAddr0 rfl) ?_ | refine s_pu (pu_fieldAddr rfl) ?_
      refine s_rd (rd_load rfl rfl) ?_
      refine s_pu (pu_move rfl) ?_
      refine s_ef (ef_fn (rreach_spec μ3 v' lv Gm known (hS.le h3).hG (by omega) hgood rk) rfl rfl (by repeat (first | exact Split.nil | (apply Split.cons; (repeat (first | with_reducible exact Take.here | apply Take.there)))))) ?_
      rintro v60 L1 ⟨wv, rfl, rfl⟩
      refine swl_app ?_
      refine swl_fact (fun m h => own_form h) fun ⟨Aw, cw, hwf⟩ => ?_
      have hw1 : wv.oneCell' = true := by rw [hwf]; rfl
      refine s_pu (pu_move rfl) ?_
      first | refine s_pu (pu_extractL rfl) ?_ | refine s_pu (pu_extract rfl rfl) ?_
      first | refine s_pu (pu_extractL rfl) ?_ | refine s_pu (pu_extract rfl rfl) ?_
      refine s_ef (ef_alloc) ?_
      intro b11
      refine s_ef0 (ef_store rfl rfl hw1) ?_
      refine s_pu (pu_assign rfl) ?_
      refine swl_sub _ (.cons (t := 1) rfl (.cons (t := 5) rfl (.cons (t := 6) rfl (.cons (t := 7) rfl (.cons (t := 11) rfl .nil))))) ?_
      refine swl_nil ?_
      refine then_n ?_
      refine swp_seq ?_
      rw [hW]
      generalize hDe : downL (nums Gm) xs = D at *
      have hWl : (numsI D.reverse).length = D.length := by rw [numsI_len, List.length_reverse]
      have hDl : D.length ≤ Gm.length := by rw [← hWl, ← hW, ← hln]; exact reachA_len _ _
      refine swp_share_own (v := wv) (μ := μ3) (by repeat (first | exact Split.nil | (apply Split.cons; (repeat (first | with_reducible exact Take.here | apply Take.there))))) fun μ4 h4 rw4 => ?_
      have l24 := h3.trans h4
      refine swp_ent (Split.ent' (K := [blk p 33 [v', vn, va1], own 3 1 va1 Gm.length (askV Gm.length noAsk), blk b5 5 [.int .u8 kn], blk b6 4 [.bool false], blk b11 31 [wv], ro μ4]) (by repeat (first | exact Split.nil | (apply Split.cons; (repeat (first | with_reducible exact Take.here | apply Take.there)))))) ?_
      refine swp_ent gA_close ?_
      refine swp_region ?_
      refine s_pu (pu_move rfl) ?_
      refine s_pu (pu_iface rfl) ?_
      refine s_pu (pu_move rfl) ?_
      refine s_pu (pu_move rfl) ?_
      refine s_pu (pu_len_row hx rfl) ?_
      refine s_pu (pu_min2 rfl rfl) ?_
      refine s_pu (sx _ _ _ .i64 _ rfl rfl rfl) ?_
      refine s_ef (ef_fn (down_spec (gV p) μ4 _ xs (rx.le l24) (by omega) _ _ rfl) rfl rfl (by repeat (first | exact Split.nil | (apply Split.cons; (repeat (first | with_reducible exact Take.here | apply Take.there)))))) ?_
      rintro v70 L1 ⟨μ5, c1', c2', vd, rfl, h5, hc1, hc2, hrd, rfl⟩
      refine swl_app ?_
      refine s_pu (pu_assign rfl) ?_
      refine swl_sub _ (.cons (t := 5) rfl (.cons (t := 6) rfl (.cons (t := 7) rfl (.cons (t := 11) rfl (.cons (t := 13) rfl .nil))))) ?_
      refine swl_nil ?_
      refine then_n ?_
      refine swp_seq ?_
      refine swp_seq ?_
      refine swp_region ?_
      refine s_pu (pu_move rfl) ?_
      refine s_pu (pu_fn_eq_nil rfl rfl) ?_
      refine swl_sub _ (.cons (t := 5) rfl (.cons (t := 6) rfl (.cons (t := 7) rfl (.cons (t := 11) rfl (.cons (t := 13) rfl (.cons (t := 72) rfl .nil)))))) ?_
      refine swl_nil ?_
      refine then_n ?_
      refine swp_cond (b := _) rfl (fun h72 => by cases h72) (fun h72 => ?_)
      refine swp_skip ?_
      refine then_n ?_
      refine swp_seq ?_
      refine swp_seq ?_
      have l25 := l24.trans h5
      refine swp_region ?_
      refine s_pu (pu_move rfl) ?_
      refine swl_sub _ (.cons (t := 5) rfl (.cons (t := 6) rfl (.cons (t := 7) rfl (.cons (t := 11) rfl (.cons (t := 13) rfl (.cons (t := 73) rfl .nil)))))) ?_
      refine swl_nil ?_
      refine then_n ?_
      refine swp_block ?_
      refine swp_sub _ (.cons (t := 5) rfl (.cons (t := 6) rfl (.cons (t := 7) rfl (.cons (t := 11) rfl (.cons (t := 13) rfl (.cons (t := 73) rfl .nil)))))) ?_
      refine swp_loop (ι := Nat × PH × (Nat → Nat)) (fun k env L => env = [(5, .pointer (some ⟨b5, 0, none⟩)), (6, .pointer (some ⟨b6, 0, none⟩)), (7, .pointer (some ⟨p, 0, none⟩)), (11, .pointer (some ⟨b11, 0, none⟩)), (13, .func (.func 52) #[] #[.pointer (some ⟨c1', 0, none⟩), .pointer (some ⟨c2', 0, none⟩)]), (73, .int .i64 (k.1 : Nat))]
        ∧ Ent L [gA p v' vn Gm.length k.2.2, blk b5 5 [.int .u8 kn], blk b6 4 [.bool false], blk b11 31 [wv], ro k.2.1] ∧ k.1 ≤ 2 ∧ Le μ5 k.2.1) (fun k => 2 - k.1) (0, μ5, noAsk) ⟨rfl, by
        show Ent _ [gA p v' vn Gm.length noAsk, blk b5 5 [.int .u8 kn], blk b6 4 [.bool false], blk b11 31 [wv], ro μ5]
        exact Split.ent' (by repeat (first | exact Split.nil | (apply Split.cons; (repeat (first | with_reducible exact Take.here | apply Take.there))))), Nat.zero_le _, Le.refl _⟩ ?_
      rintro ⟨i, μi, ai⟩ env L ⟨rfl, hL, hi, hli⟩
      dsimp only at hL hi hli ⊢
      refine swp_ent hL ?_
      refine swp_seq ?_
      refine swp_region ?_
      refine s_pu (pu_lss rfl rfl) ?_
      refine swl_sub _ (.cons (t := 5) rfl (.cons (t := 6) rfl (.cons (t := 7) rfl (.cons (t := 11) rfl (.cons (t := 13) rfl (.cons (t := 73) rfl (.cons (t := 74) rfl .nil))))))) ?_
      refine swl_nil ?_
      refine then_n ?_
      refine swp_seq ?_
      refine swp_cond (b := _) rfl (fun h74 => ?_) (fun h74 => ?_)
      · skip   -- 74 T
        have h74' : i < 2 := by have := of_decide_eq_true h74; omega
        refine swp_skip ?_
        refine then_n ?_
        refine swp_seq ?_
        refine swp_block ?_
        refine swp_seq ?_
        refine swp_region ?_
        refine s_pu (pu_move rfl) ?_
        refine s_ef (ef_fn (forget_spec p Gm.length v' vn ai (by omega) hS.hG.1.sl) rfl rfl (by repeat (first | exact Split.nil | (apply Split.cons; (repeat (first | with_reducible exact Take.here | apply Take.there)))))) ?_
        rintro v76 L1 ⟨rfl, rfl⟩
        refine swl_app ?_
        refine swl_sub _ (.cons (t := 5) rfl (.cons (t := 6) rfl (.cons (t := 7) rfl (.cons (t := 11) rfl (.cons (t := 13) rfl (.cons (t := 73) rfl .nil)))))) ?_
        refine swl_nil ?_
        refine then_n ?_
        refine swp_seq ?_
        refine swp_region ?_
        refine s_rd (rd_load rfl rfl) ?_
        refine s_pu (pu_len_row (rw4.le (h5.trans hli)) rfl) ?_
        refine s_ef (ef_alloc) ?_
        intro b14
        refine s_ef0 (ef_store rfl rfl rfl) ?_
        refine swl_sub _ (.cons (t := 5) rfl (.cons (t := 6) rfl (.cons (t := 7) rfl (.cons (t := 11) rfl (.cons (t := 13) rfl (.cons (t := 14) rfl (.cons (t := 73) rfl .nil))))))) ?_
        refine swl_nil ?_
        refine then_n ?_
        refine swp_seq ?_
        refine swp_seq ?_
        refine swp_region ?_
        refine s_pu (pu_move rfl) ?_
        refine swl_sub _ (.cons (t := 5) rfl (.cons (t := 6) rfl (.cons (t := 7) rfl (.cons (t := 11) rfl (.cons (t := 13) rfl (.cons (t := 14) rfl (.cons (t := 73) rfl (.cons (t := 79) rfl .nil)))))))) ?_
        refine swl_nil ?_
        refine then_n ?_
        refine swp_block ?_
        rw [hWl]
        refine swp_ent (Split.ent' (K := [gA p v' vn Gm.length noAsk, ro μi, blk b5 5 [.int .u8 kn], blk b6 4 [.bool false], blk b11 31 [wv], blk b14 3 [.int .i64 (D.length : Int)]]) (by repeat (first | exact Split.nil | (apply Split.cons; (repeat (first | with_reducible exact Take.here | apply Take.there)))))) ?_
        refine swp_rangeG (g_down hS p c1' c2' μi (l25.trans hli) vd xs (hc1.le hli) (hc2.le hli) (hrd.le hli)) (B := [blk b5 5 [.int .u8 kn], blk b6 4 [.bool false], blk b11 31 [wv], blk b14 3 [.int .i64 (D.length : Int)]]) (fun pre => star [blk b5 5 [.int .u8 kn], blk b6 4 [.bool false], blk b11 31 [wv], blk b14 3 [.int .i64 ((D.length : Int) - (pre.length : Nat))]]) (fun _ => False) (fun _ _ => False) rfl rfl (fun _ => rfl) (Ent.refl _) ?_ ?_ ?_ ?_ ?_
        · rw [show ((D.length : Int) - (([] : List Nat).length : Nat)) = (D.length : Int) by simp]
          exact star_close1
        · skip
          rintro ln pre x ⟨post, hpost⟩
          rw [hDe] at hpost
          have hpl : D.length = pre.length + post.length + 1 := by rw [hpost, List.length_append, List.length_cons]; omega
          have hwx : (numsI D.reverse)[post.length]? = some (x : Int) := by rw [hpost]; exact numsI_rev
          refine swp_ent star2 ?_
          refine swp_ent (star_ent (K := [blk b5 5 [.int .u8 kn], blk b6 4 [.bool false], blk b11 31 [wv], blk b14 3 [.int .i64 ((D.length : Int) - (pre.length : Nat))]]) (L := [(hS.src p).at_ noAsk μi pre])) ?_
          simp only [List.cons_append, List.nil_append]
          refine swp_ent (Split.ent' (K := [(hS.src p).at_ noAsk μi pre, blk b5 5 [.int .u8 kn], blk b6 4 [.bool false], blk b11 31 [wv], blk b14 3 [.int .i64 ((D.length : Int) - (pre.length : Nat))]]) (by repeat (first | exact Split.nil | (apply Split.cons; (repeat (first | with_reducible exact Take.here | apply Take.there)))))) ?_
          rw [g_at]
          refine swp_ex fun ⟨μy, hμy⟩ => ?_
          simp only [List.cons_append, List.nil_append]
          obtain ⟨wb, wo, wc, hwv, hwc⟩ := (rw4.le ((h5.trans hli).trans hμy)).at_ hwx
          refine swp_region ?_
          refine s_pu (pu_assign rfl) ?_
          refine swl_sub _ (.cons (t := 6) rfl (.cons (t := 11) rfl (.cons (t := 14) rfl (.cons (t := 15) rfl .nil)))) ?_
          refine swl_nil ?_
          refine then_n ?_
          refine swp_block ?_
          refine swp_seq ?_
          refine swp_region ?_
          refine s_rd (rd_load rfl rfl) ?_
          refine s_pu (pu_sub_as ((post.length : Nat) : Int) rfl rfl (by omega) (by omega) (by omega)) ?_
          refine s_ef0 (ef_store rfl rfl rfl) ?_
          refine swl_sub _ (.cons (t := 6) rfl (.cons (t := 11) rfl (.cons (t := 14) rfl (.cons (t := 15) rfl .nil)))) ?_
          refine swl_nil ?_
          refine then_n ?_
          refine swp_seq ?_
          refine swp_region ?_
          refine s_rd (rd_load rfl rfl) ?_
          refine s_pu (pu_lss rfl rfl) ?_
          refine s_pu (pu_move rfl) ?_
          refine s_split 85 rfl (fun h85 => by exfalso; have := of_decide_eq_true h85; omega) (fun h85 => ?_)
          refine s_on rfl rfl ?_
          refine s_pu (pu_move rfl) ?_
          refine s_on rfl rfl ?_
          refine s_rd (rd_load rfl rfl) ?_
          refine s_on rfl rfl ?_
          refine s_rd (rd_load rfl rfl) ?_
          refine s_on rfl rfl ?_
          refine s_pu (pu_indexAddr (wo + post.length * 1) (congrArg some hwv) rfl (by omega) (by rw [hWl]; omega) (by rw [Int.toNat_natCast])) ?_
          refine s_on rfl rfl ?_
          refine s_rd (rd_ro rfl hwc) ?_
          refine s_on rfl rfl ?_
          refine s_pu (pu_neq rfl rfl) ?_
          first | refine s_pu (pu_pick_t rfl rfl) ?_ | refine s_pu (pu_pick_f rfl rfl) ?_
          refine swl_sub _ (.cons (t := 6) rfl (.cons (t := 92) rfl .nil)) ?_
          refine swl_nil ?_
          refine then_n ?_
          refine swp_cond (b := _) rfl (fun h92 => by exfalso; simp at h92) (fun h92 => ?_)
          refine swp_skip ?_
          refine block_n ?_
          refine rnd_n ?_
          rw [show (post.length : Int) = (D.length : Int) - ((pre ++ [x]).length : Nat) by rw [List.length_append, List.length_singleton]; omega]
          refine (Split.ent' (K := [blk b5 5 [.int .u8 kn], blk b6 4 [.bool false], blk b11 31 [wv], blk b14 3 [.int .i64 ((D.length : Int) - ((pre ++ [x]).length : Nat))], gA p v' vn Gm.length (pre.foldl ask1 noAsk), ro μy]) (by repeat (first | exact Split.nil | (apply Split.cons; (repeat (first | with_reducible exact Take.here | apply Take.there)))))).trans ?_
          refine (star_close (K := [blk b5 5 [.int .u8 kn], blk b6 4 [.bool false], blk b11 31 [wv], blk b14 3 [.int .i64 ((D.length : Int) - ((pre ++ [x]).length : Nat))]]) (L := [gA p v' vn Gm.length (pre.foldl ask1 noAsk), ro μy])).trans ?_
          refine Ent.trans (Ent.cons ?_) star_close1
          exact ent_ex1 (F := fun m : {m : PH // Le μi m} => [gA p v' vn Gm.length (pre.foldl ask1 noAsk), ro m.1]) ⟨μy, hμy⟩
        · skip
          rintro ys rfl
          refine block_n ?_
          refine then_n ?_
          refine swp_seq ?_
          rw [hDe]
          refine swp_ent (star_ent (K := [blk b5 5 [.int .u8 kn], blk b6 4 [.bool false], blk b11 31 [wv], blk b14 3 [.int .i64 ((D.length : Int) - (D.length : Nat))]]) (L := [(hS.src p).at_ noAsk μi D])) ?_
          simp only [List.cons_append, List.nil_append]
          refine swp_ent (Split.ent' (K := [(hS.src p).at_ noAsk μi D, blk b5 5 [.int .u8 kn], blk b6 4 [.bool false], blk b11 31 [wv], blk b14 3 [.int .i64 ((D.length : Int) - (D.length : Nat))]]) (by repeat (first | exact Split.nil | (apply Split.cons; (repeat (first | with_reducible exact Take.here | apply Take.there)))))) ?_
          rw [g_at, Int.sub_self]
          refine swp_ex fun ⟨μz, hμz⟩ => ?_
          simp only [List.cons_append, List.nil_append]
          refine swp_region ?_
          refine s_rd (rd_load rfl rfl) ?_
          refine s_pu (pu_neq rfl rfl) ?_
          refine s_pu (pu_move rfl) ?_
          refine s_split 95 rfl (fun h95 => by exfalso; simp at h95) (fun h95 => ?_)
          refine s_on rfl rfl ?_
          refine s_pu (pu_move rfl) ?_
          refine s_on rfl rfl ?_
          refine s_ef (ef_fn (twice_spec p Gm.length v' vn (D.foldl ask1 noAsk) (by omega)) rfl rfl (by repeat (first | exact Split.nil | (apply Split.cons; (repeat (first | with_reducible exact Take.here | apply Take.there)))))) ?_
          rintro v97 L1 ⟨rfl, rfl⟩
          refine swl_app ?_
          first | refine s_pu (pu_pick_t rfl rfl) ?_ | refine s_pu (pu_pick_f rfl rfl) ?_
          refine swl_sub _ (.cons (t := 5) rfl (.cons (t := 6) rfl (.cons (t := 7) rfl (.cons (t := 11) rfl (.cons (t := 13) rfl (.cons (t := 73) rfl (.cons (t := 98) rfl .nil))))))) ?_
          refine swl_nil ?_
          refine then_n ?_
          refine swp_cond (b := _) rfl (fun h98 => by exfalso; rw [twice_no (falls_nodup d1)] at h98; cases h98) (fun h98 => ?_)
          refine swp_skip ?_
          refine block_n ?_
          refine then_n ?_
          refine swp_region ?_
          refine s_pu (pu_add_as ((i + 1 : Nat) : Int) rfl rfl (by omega) (by omega) (by omega)) ?_
          refine s_pu (pu_move rfl) ?_
          refine swl_sub _ (.cons (t := 5) rfl (.cons (t := 6) rfl (.cons (t := 7) rfl (.cons (t := 11) rfl (.cons (t := 13) rfl (.cons (t := 73) rfl .nil)))))) ?_
          refine swl_nil ?_
          exact then_n ⟨(i + 1, μz, D.foldl ask1 noAsk), ⟨rfl, by
            show Ent _ [gA p v' vn Gm.length (D.foldl ask1 noAsk), blk b5 5 [.int .u8 kn], blk b6 4 [.bool false], blk b11 31 [wv], ro μz]
            exact Split.ent' (by repeat (first | exact Split.nil | (apply Split.cons; (repeat (first | with_reducible exact Take.here | apply Take.there))))), h74', hli.trans hμz⟩, by show 2 - (i + 1) < 2 - i; omega⟩
        · exact swp_fact (p := False) (fun m h => by obtain ⟨_, _, h, _⟩ := h; exact h) False.elim
        · exact fun i => swp_fact (p := False) (fun m h => by obtain ⟨_, _, h, _⟩ := h; exact h) False.elim
      · skip   -- 74 F
        refine swp_exit ?_
        refine then_x ?_
        refine then_x ?_
        refine block_hit rfl ?_
        refine then_n ?_
        refine swp_seq ?_
        refine swp_region ?_
        refine s_pu (pu_move rfl) ?_
        refine s_ef (ef_fn (forget_spec p Gm.length v' vn ai (by omega) hS.hG.1.sl) rfl rfl (by repeat (first | exact Split.nil | (apply Split.cons; (repeat (first | with_reducible exact Take.here | apply Take.there)))))) ?_
        rintro v101 L1 ⟨rfl, rfl⟩
        refine swl_app ?_
        refine swl_sub _ (.cons (t := 5) rfl (.cons (t := 6) rfl (.cons (t := 7) rfl (.cons (t := 11) rfl (.cons (t := 13) rfl .nil))))) ?_
        refine swl_nil ?_
        refine then_n ?_
        refine swp_cut (fun env L => ∃ b16 b17, env = [(5, .pointer (some ⟨b5, 0, none⟩)), (6, .pointer (some ⟨b6, 0, none⟩)), (7, .pointer (some ⟨p, 0, none⟩)), (11, .pointer (some ⟨b11, 0, none⟩)), (13, .func (.func 52) #[] #[.pointer (some ⟨c1', 0, none⟩), .pointer (some ⟨c2', 0, none⟩)]), (16, .pointer (some ⟨b16, 0, none⟩)), (17, .pointer (some ⟨b17, 0, none⟩))] ∧ Ent L [gA p v' vn Gm.length noAsk, ro μi, blk b5 5 [.int .u8 kn], blk b6 4 [.bool false], blk b11 31 [wv], blk b16 3 [.int .i64 (D.length : Int)], blk b17 3 [.int .i64 (Gm.length : Nat)]]) ?_ ?_
        · skip
          refine swp_ent (Split.ent' (K := [gA p v' vn Gm.length noAsk, blk b5 5 [.int .u8 kn], blk b6 4 [.bool false], blk b11 31 [wv], ro μi]) (by repeat (first | exact Split.nil | (apply Split.cons; (repeat (first | with_reducible exact Take.here | apply Take.there)))))) ?_
          refine swp_ex fun va2 => ?_
          simp only [List.cons_append, List.nil_append]
          refine swp_draw [0, 5] _ [] (by simp only [List.append_nil]; exact Ent.refl _) (by kernel_rfl) ?_
          refine d_rd 0 rfl (rd_load rfl rfl) rfl (by kernel_rfl) (by kernel_rfl) (by kernel_rfl) ?_
          refine d_pu 1 rfl (pu_len_row (rw4.le (h5.trans hli)) rfl) (by kernel_rfl) (by kernel_rfl) (by kernel_rfl) ?_
          refine d_pu 2 rfl (pu_move rfl) (by kernel_rfl) (by kernel_rfl) (by kernel_rfl) ?_
          first | refine d_pu 3 rfl (pu_nilCheck rfl) (by kernel_rfl) (by kernel_rfl) (by kernel_rfl) ?_ | refine d_pu 3 rfl (pu_nilCheck_fn rfl) (by kernel_rfl) (by kernel_rfl) (by kernel_rfl) ?_ | refine d_pu 3 rfl (pu_nilCheck_if rfl) (by kernel_rfl) (by kernel_rfl) (by kernel_rfl) ?_
          first | refine d_pu 4 rfl (pu_fieldAddr0 rfl) (by kernel_rfl) (by kernel_rfl) (by kernel_rfl) ?_ | refine d_pu 4 rfl (pu_fieldAddr rfl) (by kernel_rfl) (by kernel_rfl) (by kernel_rfl) ?_
          refine d_rd 5 rfl (rd_load rfl rfl) rfl (by kernel_rfl) (by kernel_rfl) (by kernel_rfl) ?_
          refine d_pu 6 rfl (pu_len_row hS.hG.1 rfl) (by kernel_rfl) (by kernel_rfl) (by kernel_rfl) ?_
          refine d_amb [7, 8] (by kernel_rfl) rfl ⟨?_, ?_⟩
          · skip   -- 7 comes first
            refine dA_ef 7 rfl GOn.none (ef_alloc) ?_
            intro b16
            refine ⟨_, Split.ent (by repeat (first | exact Split.nil | (apply Split.cons; (repeat (first | with_reducible exact Take.here | apply Take.there))))), ?_⟩
            refine d_eft 8 rfl (by kernel_rfl) (ef_alloc) ?_
            intro b17
            refine ⟨_, Split.ent (by repeat (first | exact Split.nil | (apply Split.cons; (repeat (first | with_reducible exact Take.here | apply Take.there))))), ?_⟩
            refine d_ef0t 9 rfl (by kernel_rfl) (ef_store rfl rfl rfl) ?_
            refine ⟨_, Split.ent (by repeat (first | exact Split.nil | (apply Split.cons; (repeat (first | with_reducible exact Take.here | apply Take.there))))), ?_⟩
            first | refine d_fin0t 10 rfl (by kernel_rfl) (by kernel_rfl) (ef_store rfl rfl rfl) ?_ | refine d_fin0f 10 rfl (by kernel_rfl) (by kernel_rfl) (ef_store rfl rfl rfl) ?_
            refine d_sub _ (.cons (t := 5) rfl (.cons (t := 6) rfl (.cons (t := 7) rfl (.cons (t := 11) rfl (.cons (t := 13) rfl (.cons (t := 16) rfl (.cons (t := 17) rfl .nil))))))) ?_
            first | refine d_nilt (by kernel_rfl) ?_ | refine d_nilf (by kernel_rfl) ?_
            refine then_n ⟨b16, b17, rfl, ?_⟩
            rw [hWl]
            refine Ent.trans ?_ (gA_close (va := va2))
            exact Split.ent' (by repeat (first | exact Split.nil | (apply Split.cons; (repeat (first | with_reducible exact Take.here | apply Take.there)))))
          · skip   -- 8 comes first
            refine dA_ef 8 rfl GOn.none (ef_alloc) ?_
            intro b17
            refine ⟨_, Split.ent (by repeat (first | exact Split.nil | (apply Split.cons; (repeat (first | with_reducible exact Take.here | apply Take.there))))), ?_⟩
            refine d_eft 7 rfl (by kernel_rfl) (ef_alloc) ?_
            intro b16
            refine ⟨_, Split.ent (by repeat (first | exact Split.nil | (apply Split.cons; (repeat (first | with_reducible exact Take.here | apply Take.there))))), ?_⟩
            refine d_ef0t 9 rfl (by kernel_rfl) (ef_store rfl rfl rfl) ?_
            refine ⟨_, Split.ent (by repeat (first | exact Split.nil | (apply Split.cons; (repeat (first | with_reducible exact Take.here | apply Take.there))))), ?_⟩
            first | refine d_fin0t 10 rfl (by kernel_rfl) (by kernel_rfl) (ef_store rfl rfl rfl) ?_ | refine d_fin0f 10 rfl (by kernel_rfl) (by kernel_rfl) (ef_store rfl rfl rfl) ?_
            refine d_sub _ (.cons (t := 5) rfl (.cons (t := 6) rfl (.cons (t := 7) rfl (.cons (t := 11) rfl (.cons (t := 13) rfl (.cons (t := 16) rfl (.cons (t := 17) rfl .nil))))))) ?_
            first | refine d_nilt (by kernel_rfl) ?_ | refine d_nilf (by kernel_rfl) ?_
            refine then_n ⟨b16, b17, rfl, ?_⟩
            rw [hWl]
            refine Ent.trans ?_ (gA_close (va := va2))
            exact Split.ent' (by repeat (first | exact Split.nil | (apply Split.cons; (repeat (first | with_reducible exact Take.here | apply Take.there)))))
        rintro env L ⟨b16, b17, rfl, hL30⟩
        refine swp_ent hL30 ?_
        refine swp_cut (fun env L => look env 6 = some (.pointer (some ⟨b6, 0, none⟩)) ∧ look env 7 = some (.pointer (some ⟨p, 0, none⟩)) ∧ look env 17 = some (.pointer (some ⟨b17, 0, none⟩)) ∧ Ent L [wdE p b6 b17 v' vn Gm.length μi]) ?_ ?_
        · skip
          refine swp_seq ?_
          refine swp_region ?_
          refine s_pu (pu_move rfl) ?_
          refine swl_sub _ (.cons (t := 5) rfl (.cons (t := 6) rfl (.cons (t := 7) rfl (.cons (t := 11) rfl (.cons (t := 16) rfl (.cons (t := 17) rfl (.cons (t := 109) rfl .nil))))))) ?_
          refine swl_nil ?_
          refine then_n ?_
          refine swp_block ?_
          refine swp_rangeG (g_down hS p c1' c2' μi (l25.trans hli) vd xs (hc1.le hli) (hc2.le hli) (hrd.le hli)) (B := [blk b5 5 [.int .u8 kn], blk b6 4 [.bool false], blk b11 31 [wv], blk b16 3 [.int .i64 (D.length : Int)], blk b17 3 [.int .i64 (Gm.length : Nat)]]) (fun pre => star [blk b5 5 [.int .u8 kn], blk b6 4 [.bool false], blk b11 31 [wv], blk b16 3 [.int .i64 ((D.length : Int) - (pre.length : Nat))], blk b17 3 [.int .i64 (lastOf Gm.length pre : Nat)]]) (fun _ => False) (brk 6 (wdE p b6 b17 v' vn Gm.length μi)) rfl rfl (fun _ => rfl) (Ent.refl _) ?_ ?_ ?_ ?_ ?_
          · rw [show ((D.length : Int) - (([] : List Nat).length : Nat)) = (D.length : Int) by simp, show lastOf Gm.length [] = Gm.length from rfl]
            exact star_close1
          · skip
            rintro ln pre x ⟨post, hpost⟩
            rw [hDe] at hpost
            have hpl : D.length = pre.length + post.length + 1 := by rw [hpost, List.length_append, List.length_cons]; omega
            have hxn : x < Gm.length := d2 x (by rw [hpost]; simp)
            have hxp : ∀ c, c < x → c ∉ pre := fun c hc hcp => by
              have d1' := d1
              unfold Falls at d1'
              rw [hpost, List.pairwise_append] at d1'
              have := d1'.2.2 c hcp x (by simp)
              omega
            refine swp_ent star2 ?_
            refine swp_ent (star_ent (K := [blk b5 5 [.int .u8 kn], blk b6 4 [.bool false], blk b11 31 [wv], blk b16 3 [.int .i64 ((D.length : Int) - (pre.length : Nat))], blk b17 3 [.int .i64 (lastOf Gm.length pre : Nat)]]) (L := [(hS.src p).at_ noAsk μi pre])) ?_
            simp only [List.cons_append, List.nil_append]
            refine swp_ent (Split.ent' (K := [(hS.src p).at_ noAsk μi pre, blk b5 5 [.int .u8 kn], blk b6 4 [.bool false], blk b11 31 [wv], blk b16 3 [.int .i64 ((D.length : Int) - (pre.length : Nat))], blk b17 3 [.int .i64 (lastOf Gm.length pre : Nat)]]) (by repeat (first | exact Split.nil | (apply Split.cons; (repeat (first | with_reducible exact Take.here | apply Take.there)))))) ?_
            rw [g_at]
            refine swp_ex fun ⟨μy, hμy⟩ => ?_
            simp only [List.cons_append, List.nil_append]
            refine swp_region ?_
            refine s_pu (pu_assign rfl) ?_
            refine swl_sub _ (.cons (t := 5) rfl (.cons (t := 11) rfl (.cons (t := 16) rfl (.cons (t := 17) rfl (.cons (t := 18) rfl .nil))))) ?_
            refine swl_nil ?_
            refine then_n ?_
            refine swp_block ?_
            refine swp_seq ?_
            refine swp_region ?_
            refine s_rd (rd_load rfl rfl) ?_
            refine s_pu (pu_sub_as ((post.length : Nat) : Int) rfl rfl (by omega) (by omega) (by omega)) ?_
            refine s_ef0 (ef_store rfl rfl rfl) ?_
            refine swl_sub _ (.cons (t := 5) rfl (.cons (t := 11) rfl (.cons (t := 16) rfl (.cons (t := 17) rfl (.cons (t := 18) rfl .nil))))) ?_
            refine swl_nil ?_
            refine then_n ?_
            refine swp_seq ?_
            refine swp_region ?_
            refine s_pu (pu_move rfl) ?_
            refine s_ef0 (ef_store rfl rfl rfl) ?_
            refine swl_sub _ (.cons (t := 5) rfl (.cons (t := 11) rfl (.cons (t := 16) rfl .nil))) ?_
            refine swl_nil ?_
            refine then_n ?_
            refine swp_seq ?_
            refine swp_region ?_
            refine s_rd (rd_load rfl rfl) ?_
            refine s_pu (pu_len_row (rw4.le ((h5.trans hli).trans hμy)) rfl) ?_
            refine s_rd (rd_load rfl rfl) ?_
            refine s_pu (pu_sub_in rfl rfl (by rw [hWl]; omega) (by rw [hWl]; omega)) ?_
            refine s_rd (rd_load rfl rfl) ?_
            refine s_pu (pu_conv_i64 rfl (by omega) (by omega)) ?_
            refine s_pu (pu_gtr rfl rfl) ?_
            refine swl_sub _ (.cons (t := 120) rfl .nil) ?_
            refine swl_nil ?_
            refine then_n ?_
            refine swp_cond (b := _) rfl (fun h120 => ?_) (fun h120 => ?_)
            · skip   -- 120 T
              refine swp_exit ?_
              refine block_miss rfl ?_
              refine rnd_x ?_
              rw [brk_hit]
              refine Ent.trans ?_ (wdE_close x pre μy (by omega) hxp hμy)
              exact Split.ent' (by repeat (first | exact Split.nil | (apply Split.cons; (repeat (first | with_reducible exact Take.here | apply Take.there)))))
            · skip   -- 120 F
              refine swp_skip ?_
              refine block_n ?_
              refine rnd_n ?_
              rw [show (post.length : Int) = (D.length : Int) - ((pre ++ [x]).length : Nat) by rw [List.length_append, List.length_singleton]; omega, show (x : Int) = (lastOf Gm.length (pre ++ [x]) : Nat) by rw [lastOf_snoc]]
              refine (Split.ent' (K := [blk b5 5 [.int .u8 kn], blk b6 4 [.bool false], blk b11 31 [wv], blk b16 3 [.int .i64 ((D.length : Int) - ((pre ++ [x]).length : Nat))], blk b17 3 [.int .i64 (lastOf Gm.length (pre ++ [x]) : Nat)], gA p v' vn Gm.length (pre.foldl ask1 noAsk), ro μy]) (by repeat (first | exact Split.nil | (apply Split.cons; (repeat (first | with_reducible exact Take.here | apply Take.there)))))).trans ?_
              refine (star_close (K := [blk b5 5 [.int .u8 kn], blk b6 4 [.bool false], blk b11 31 [wv], blk b16 3 [.int .i64 ((D.length : Int) - ((pre ++ [x]).length : Nat))], blk b17 3 [.int .i64 (lastOf Gm.length (pre ++ [x]) : Nat)]]) (L := [gA p v' vn Gm.length (pre.foldl ask1 noAsk), ro μy])).trans ?_
              refine Ent.trans (Ent.cons ?_) star_close1
              exact ent_ex1 (F := fun m : {m : PH // Le μi m} => [gA p v' vn Gm.length (pre.foldl ask1 noAsk), ro m.1]) ⟨μy, hμy⟩
          · skip
            rintro ys rfl
            rw [hDe]
            refine block_n ?_
            refine then_n ⟨rfl, rfl, rfl, ?_⟩
            refine (star_ent (K := [blk b5 5 [.int .u8 kn], blk b6 4 [.bool false], blk b11 31 [wv], blk b16 3 [.int .i64 ((D.length : Int) - (D.length : Nat))], blk b17 3 [.int .i64 (lastOf Gm.length D : Nat)]]) (L := [(hS.src p).at_ noAsk μi D])).trans ?_
            simp only [List.cons_append, List.nil_append]
            refine (Split.ent' (K := [(hS.src p).at_ noAsk μi D, blk b17 3 [.int .i64 (lastOf Gm.length D : Nat)], blk b6 4 [.bool false]]) (by repeat (first | exact Split.nil | (apply Split.cons; (repeat (first | with_reducible exact Take.here | apply Take.there)))))).trans ?_
            rw [g_at]
            refine ent_open fun ⟨μz, hμz⟩ => ?_
            simp only [List.cons_append, List.nil_append]
            refine Ent.trans ?_ (wdE_close (lastOf Gm.length D) D μz (lastOf_le d2) (fun c hc hcD => by have := falls_last (n := Gm.length) d1 c hcD; omega) hμz)
            exact Split.ent' (by repeat (first | exact Split.nil | (apply Split.cons; (repeat (first | with_reducible exact Take.here | apply Take.there)))))
          · exact swp_fact (p := False) (fun m h => by obtain ⟨_, _, h, _⟩ := h; exact h) False.elim
          · intro j
            by_cases hj : j = 6
            · subst hj
              refine swp_exit ?_
              refine block_hit rfl ?_
              exact then_n ⟨rfl, rfl, rfl, by rw [brk_hit]; exact Ent.refl _⟩
            · exact swp_fact (p := False) (fun m h => by obtain ⟨_, _, h, _⟩ := h; exact brk_miss _ hj h) False.elim
        rintro env L ⟨e6, e7, e17, hL⟩
        refine swp_sub _ (.cons e6 (.cons e7 (.cons e17 .nil))) ?_
        refine swp_ent hL ?_
        refine swp_ex fun ⟨⟨la, ys, μe⟩, hla, hya, hle⟩ => ?_
        simp only [List.cons_append, List.nil_append]
        dsimp only at hla hya hle ⊢
        refine swp_ex fun va3 => ?_
        simp only [List.cons_append, List.nil_append]
        refine swp_ent (Split.ent' (K := [own 3 1 va3 Gm.length (askV Gm.length (ys.foldl ask1 noAsk)), blk p 33 [v', vn, va3], blk b17 3 [.int .i64 (la : Nat)], blk b6 4 [.bool false], ro μe]) (by repeat (first | exact Split.nil | (apply Split.cons; (repeat (first | with_reducible exact Take.here | apply Take.there)))))) ?_
        refine swp_seq ?_
        refine swp_seq ?_
        refine swp_region ?_
        refine s_rd (rd_load rfl rfl) ?_
        refine s_pu (pu_move rfl) ?_
        refine swl_sub _ (.cons (t := 6) rfl (.cons (t := 7) rfl (.cons (t := 121) rfl (.cons (t := 122) rfl .nil)))) ?_
        refine swl_nil ?_
        refine then_n ?_
        refine swp_block ?_
        refine swp_sub _ (.cons (t := 6) rfl (.cons (t := 7) rfl (.cons (t := 121) rfl (.cons (t := 122) rfl .nil)))) ?_
        refine swp_loop (ι := Nat) (fun c env L => env = [(6, .pointer (some ⟨b6, 0, none⟩)), (7, .pointer (some ⟨p, 0, none⟩)), (121, .int .i64 (la : Nat)), (122, .int .i64 (c : Nat))] ∧ L = [own 3 1 va3 Gm.length (askV Gm.length (ys.foldl ask1 noAsk)), blk p 33 [v', vn, va3], blk b17 3 [.int .i64 (la : Nat)], blk b6 4 [.bool false], ro μe] ∧ c ≤ la) (fun c => la - c) 0 ⟨rfl, rfl, Nat.zero_le _⟩ ?_
        rintro c env L ⟨rfl, rfl, hc⟩
        refine swp_seq ?_
        refine swp_region ?_
        refine s_pu (pu_lss rfl rfl) ?_
        refine swl_sub _ (.cons (t := 6) rfl (.cons (t := 7) rfl (.cons (t := 121) rfl (.cons (t := 122) rfl (.cons (t := 123) rfl .nil))))) ?_
        refine swl_nil ?_
        refine then_n ?_
        refine swp_seq ?_
        refine swp_cond (b := _) rfl (fun h123 => ?_) (fun h123 => ?_)
        · skip   -- 123 T
          have h123' : c < la := by have := of_decide_eq_true h123; omega
          have hc0 := ask_zero (hya c h123')
          refine swp_own (fun h0 l0 _ => by omega) (fun b1 c1 ex1 hv1 w1 w2 w3 w4 => ?_)
          refine swp_skip ?_
          refine then_n ?_
          refine swp_seq ?_
          refine swp_block ?_
          refine swp_seq ?_
          refine swp_region ?_
          refine s_pu (pu_move rfl) ?_
          refine s_pu (pu_assign rfl) ?_
          refine swl_sub _ (.cons (t := 6) rfl (.cons (t := 7) rfl (.cons (t := 19) rfl (.cons (t := 121) rfl (.cons (t := 122) rfl .nil))))) ?_
          refine swl_nil ?_
          refine then_n ?_
          refine swp_seq ?_
          refine swp_region ?_
          refine s_pu (pu_move rfl) ?_
          first | refine s_pu (pu_nilCheck rfl) ?_ | refine s_pu (pu_nilCheck_fn rfl) ?_ | refine s_pu (pu_nilCheck_if rfl) ?_
          first | refine s_pu (pu_fieldAddr0 rfl) ?_ | refine s_pu (pu_fieldAddr rfl) ?_
          refine s_rd (rd_load rfl rfl) ?_
          refine s_pu (pu_move rfl) ?_
          refine s_pu (pu_indexAddr c (congrArg some hv1) rfl (by omega) (by omega) (by omega)) ?_
          refine s_rd (rd_load rfl (by rw [List.getElem?_append_left (by unfold askV; rw [ncs_len]; omega)]; exact ncs_get _ (by omega))) ?_
          refine s_pu (pu_gtr rfl rfl) ?_
          refine swl_sub _ (.cons (t := 6) rfl (.cons (t := 7) rfl (.cons (t := 121) rfl (.cons (t := 122) rfl (.cons (t := 132) rfl .nil))))) ?_
          refine swl_ent (own_close (n := 1) (l := Gm.length) (by unfold askV; rw [ncs_len]; omega) w4 w1 w2) ?_
          rw [← hv1]
          refine swl_nil ?_
          refine then_n ?_
          refine swp_cond (b := _) rfl (fun h132 => by exfalso; rw [hc0] at h132; cases h132) (fun h132 => ?_)
          refine swp_skip ?_
          refine block_n ?_
          refine then_n ?_
          refine swp_region ?_
          refine s_pu (pu_add_as ((c + 1 : Nat) : Int) rfl rfl (by omega) (by omega) (by omega)) ?_
          refine s_pu (pu_move rfl) ?_
          refine swl_sub _ (.cons (t := 6) rfl (.cons (t := 7) rfl (.cons (t := 121) rfl (.cons (t := 122) rfl .nil)))) ?_
          refine swl_nil ?_
          exact then_n ⟨c + 1, ⟨rfl, rfl, h123'⟩, by omega⟩
        · skip   -- 123 F
          refine swp_exit ?_
          refine then_x ?_
          refine then_x ?_
          refine block_hit rfl ?_
          refine then_n ?_
          refine swp_seq ?_
          refine swp_region ?_
          refine s_ef0 (ef_store rfl rfl rfl) ?_
          refine swl_sub _ (.cons (t := 6) rfl .nil) ?_
          refine swl_nil ?_
          refine then_n ?_
          refine swp_ret ?_
          exact done_ret [ro μe] (.cell rfl (ld_one rfl) .nil) ⟨rfl, μe, [], h1.trans (h2.trans (l25.trans (hli.trans hle))), rfl⟩ (by repeat (first | exact Split.nil | (apply Split.cons; (repeat (first | with_reducible exact Take.here | apply Take.there)))))
end SX
namespace Go.Proofs.YtieggbckcacihaaDoor
open Go.ChangeShapes Go.WideShapes Go.ChangeAt Go.RowKit
theorem ownKnobF : ownKnob Tryd.prog.godebug = none := by kernel_rfl
theorem gTab : Tryd.prog.globalNamed "math/bits.deBruijn64tab" = some 0 := by kernel_rfl
theorem tTab : (Tryd.prog.globals[0]?).map (·.type) = some 136 := by kernel_rfl
theorem datum {H : Type} : (Rows.laid_math_bits_deBruijn64tab : DataW H) = .agg (Lib.deBruijn64tab.map fun n => .lit (.int .u8 (n : Nat))) := rfl
theorem tab_of {W : World} (h : laidMetH Tryd.prog Rows.walkAncestorRow.laid W) : SX.RowAt (fun b => W.heap[b]?) 0 0 SX.tabV := by
  rw [MakeChecks.laidMetH_plain _ _ _ (by kernel_rfl)] at h
  obtain ⟨ps, ⟨g0, t0, cs0, f0, p0, q0, hg0, ht0, hv0, hd0, _, _⟩, _, _⟩ := h
  obtain rfl := Option.some.inj (gTab.symm.trans hg0)
  obtain rfl := Option.some.inj (tTab.symm.trans ht0)
  obtain ⟨xs, m, rfl, hx, _, hn, hel⟩ := DataW.trod_array Tryd.underlying136 hd0
  simp only [Prod.mk.injEq] at hx
  have hx1 := hx.1
  rw [datum] at hx1
  simp only [DataW.agg.injEq] at hx1
  have c5 : Tryd.prog.cellsOf 5 = 1 := by kernel_rfl
  have hlen : Lib.deBruijn64tab.length = 64 := rfl
  intro j u hj
  have hj64 : j < 64 := by
    have := (List.getElem?_eq_some_iff.1 hj).1
    simpa [SX.tabV, hlen] using this
  obtain ⟨k, hk⟩ : ∃ k, Lib.deBruijn64tab[j]? = some k := ⟨_, List.getElem?_eq_getElem (by omega)⟩
  have hu : u = .int .u8 (k : Nat) := by
    unfold SX.tabV at hj
    rw [List.getElem?_map, hk] at hj
    exact (Option.some.inj hj).symm
  obtain ⟨y, hy⟩ : ∃ y, xs[j]? = some y := ⟨_, List.getElem?_eq_getElem (by omega)⟩
  have h1 := hel j hj64
  rw [hy, c5, Nat.mul_one] at h1
  obtain ⟨n, e1, e2, _⟩ := DataW.trod_int Tryd.underlying5 h1
  have e3 : (xs.map (·.1))[j]? = some (.lit (.int .u8 n)) := by rw [List.getElem?_map, hy, e2]; rfl
  rw [← hx1, List.getElem?_map, hk] at e3
  have hnk : n = (k : Int) := by
    have := Option.some.inj e3
    simpa using this.symm
  have hc := World.var?_cell hg0 hv0 j
  have hcs : cs0[j]? = some (.int .u8 n) := by
    have : (cs0.toList.drop j)[0]? = some (.int .u8 n) := by
      have := congrArg (·[0]?) e1
      simpa [List.getElem?_take] using this
    rw [List.getElem?_drop, Nat.add_zero] at this
    simpa using this
  rw [hcs] at hc
  rw [Nat.zero_add, hu, ← hnk]
  exact (SX.spot_of_cell hc).2
theorem door_met (os : Os) (args : Array Value) : laidMetH Tryd.prog Rows.walkAncestorRow.laid ((World.doorLaid Tryd.prog 400 os).forCall (fun _ _ => 0) ⟨#[], args, []⟩).memory :=
  laidMetH_of_parts3 (fuel := 8) (laidMet_of_run' 8 (by kernel_rfl) (by kernel_rfl)) (by kernel_rfl) (by kernel_rfl)
end Go.Proofs.YtieggbckcacihaaDoor
