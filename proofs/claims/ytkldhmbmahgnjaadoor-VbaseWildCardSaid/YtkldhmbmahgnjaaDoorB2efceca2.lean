/- A part of the proof: walks of the program's functions, and the rules by which they go. -/
import Derived.Test.YtkldhmbmahgnjaaDoorB02e9fa8c
import Derived.Test.YtkldhmbmahgnjaaDoorB5c872605
import Derived.Test.YtkldhmbmahgnjaaDoorB06a2a5ea
import Derived.Test.YtkldhmbmahgnjaaDoorB2fe6d66a
namespace SX.XV
open Go Go.Proofs
/-- what push leaves -/
def PushL (W : VSrc) (w : Nat) (tv : VV) (A : Option Addr) (cap : Nat) (xs : List VV) (steps limit : Nat) (s : W.σ) (m : Nat) (μ : PH) (y e : Int) (L : List Assn) : Prop :=
  (limit ≤ steps ∧ e = 12 ∧ L = [naA tv, wkV w W.sv (.slice A xs.length cap) steps limit, stA A cap xs, W.A s, ro μ]) ∨
  (steps < limit ∧ e = 0 ∧ ∃ (nv : VV) (A2 : Option Addr) (cap2 : Nat) (s2 : W.σ) (μ2 : PH), nv.own = false ∧ (∃ bs, W.VS tv.f.node y bs ∧ VFr W.VT bs nv.f) ∧ nv.Ok W.n W.U μ2 ∧ W.B (m + 1) s2 ∧ Le μ μ2 ∧
    L = [naA tv, wkV w W.sv (.slice A2 (xs ++ [nv]).length cap2) (steps + 1) limit, stA A2 cap2 (xs ++ [nv]), treeA nv, W.A s2, ro μ2])
theorem push_e (W : VSrc) (μ : PH) (h0 : Le W.μ0 μ) (hT : RowAt μ 1 0 tabV) (w : Nat) (s : W.σ) (m : Nat) (hs : W.B m s) (hm : m + 1 ≤ 4611686018427387904) (A : Option Addr) (cap : Nat) (xs : List VV) (steps limit : Nat) (hsl : xs.length ≤ steps) (hlim : limit ≤ 4096)
    (tv : VV) (y : Int) (hx : tv.own = false → Row μ tv.node 1 tv.f.node.length (ivs tv.f.node)) :
    Spec Tryd.prog 24 [.pointer (some ⟨w, 0, none⟩), tv.node, .int .i64 y] [naA tv, wkV w W.sv (.slice A xs.length cap) steps limit, stA A cap xs, W.A s, ro μ] (fun r L => ∃ e, r = .int .i64 e ∧ PushL W w tv A cap xs steps limit s m μ y e L) :=
  (push_spec W μ h0 hT w s m hs hm A cap xs steps limit hsl hlim tv y hx).mono fun r L k => by
    rcases k with ⟨h1, h2, h3⟩ | ⟨h1, h2, nv, A2, cap2, s2, μ2, h3, h4, h5, h6, h7, h8⟩
    · exact ⟨12, h2, .inl ⟨h1, rfl, h3⟩⟩
    · refine ⟨0, h2, .inr ⟨h1, rfl, nv, A2, cap2, s2, μ2, h3, h4, h5, h6, h7, ?_⟩⟩
      rw [h8, show (xs ++ [nv]).length = xs.length + 1 by rw [List.length_append]; rfl]
      show _ = [_, _, own 85 3 (.slice A2 (xs ++ [nv]).length cap2) (xs ++ [nv]).length ((xs ++ [nv]).flatMap encV), _, _, _]
      rw [show (xs ++ [nv]).length = xs.length + 1 by rw [List.length_append]; rfl, List.flatMap_append]
      simp only [List.flatMap_cons, List.flatMap_nil, List.append_nil]
/-- what is left of a call: nothing came, or the first question's node -/
def RunL (W : VSrc) (w : Nat) (limit m : Nat) (μ : PH) (f0 : VF (List En)) (left : Nat) (r : Value) (L : List Assn) : Prop := ∃ (s' : W.σ) (μ' : PH) (R : Option (List En × Bool) × Nat), Le μ μ' ∧ W.B (m + limit) s' ∧ VRun W.VS W.VT [f0] left R ∧
  ((R.1 = none ∧ r = .tuple #[.agg #[.slice none 0 0, .slice none 0 0, .slice none 0 0], .int .i64 12] ∧ L = [W.A s', ro μ']) ∨
   ∃ (nv : VV) (st : Value) (steps : Nat), R = (some (nv.f.tree, !nv.f.node.isEmpty), limit - steps) ∧ steps ≤ limit ∧ nv.Ok W.n W.U μ' ∧ r = .tuple #[.agg (encV nv).toArray, .int .i64 0] ∧ L = [wkV w W.sv st steps limit, treeA nv, W.A s', ro μ'])
set_option maxHeartbeats 16000000 in
theorem run_spec (W : VSrc) (μ : PH) (h0 : Le W.μ0 μ) (hT : RowAt μ 1 0 tabV) (w : Nat) (s : W.σ) (m : Nat) (limit : Nat) (hlim : limit ≤ 4096) (hm : m + 4097 ≤ 4611686018427387904) (A : Option Addr) (cap : Nat) (nv0 : VV) (steps : Nat) (hs : W.B (m + steps) s) (h1 : 1 ≤ steps) (hsl : steps ≤ limit)
  (hok : nv0.Ok W.n W.U μ) :
  Spec Tryd.prog 25 [.pointer (some ⟨w, 0, none⟩)] [wkV w W.sv (.slice A 1 cap) steps limit, stA A cap [nv0], treeA nv0, naA nv0, W.A s, ro μ] (RunL W w limit m μ nv0.f (limit - steps)) := by
 have hn := W.hn
 obtain ⟨left0, hleft⟩ : ∃ k, k = limit - steps := ⟨_, rfl⟩
 rw [← hleft]
 refine Spec.of 120 Tryd.func25 rfl rfl rfl ?_
 refine swp_seq ?_
 refine swp_region ?_
 refine s_ef (ef_alloc) ?_
 intro b2
 refine s_pu (pu_assign rfl) ?_
 refine swl_sub _ (.cons (t := 0) rfl (.cons (t := 2) rfl .nil)) ?_
 refine swl_nil ?_
 refine then_n ?_
 refine swp_block ?_
 refine swp_loop (ι := Nat × Nat) (fun k env L => ∃ (xs : List VV) (A : Option Addr) (cap : Nat) (s : W.σ) (μ1 : PH), Sub env [(0, .pointer (some ⟨w, 0, none⟩)), (2, .pointer (some ⟨b2, 0, none⟩))] ∧ xs.length = k.2 ∧ 0 < k.2 ∧ k.2 ≤ k.1 ∧ k.1 ≤ limit ∧ Ent L [wkV w W.sv (.slice A xs.length cap) k.1 limit, stA A cap xs, vvsA xs, blk b2 85 [.slice none 0 0, .slice none 0 0, .slice none 0 0], W.A s, ro μ1] ∧ Le μ μ1 ∧ W.B (m + k.1) s ∧ (∀ x ∈ xs, x.Ok W.n W.U μ1) ∧ (∀ ys y, xs = ys ++ [y] → ∀ x ∈ ys, x.f.rest ≠ []) ∧ ∀ R, VRun W.VS W.VT (xs.reverse.map (·.f)) (limit - k.1) R → VRun W.VS W.VT [nv0.f] left0 R) (fun k => 2 * (limit - k.1) + k.2) (steps, 1) ⟨[nv0], A, cap, s, μ, ⟨rfl, rfl, trivial⟩, rfl, Nat.zero_lt_one, h1, hsl, ?_, Le.refl _, hs, ?_, ?_, fun R h => by rw [hleft]; exact h⟩ ?_
 ·exact Ent.trans (Split.ent' (K := [treeA nv0, naA nv0, wkV w W.sv (.slice A 1 cap) steps limit, stA A cap [nv0], blk b2 85 [.slice none 0 0, .slice none 0 0, .slice none 0 0], W.A s, ro μ]) (by repeat (first | exact Split.nil | (apply Split.cons; (repeat (first | with_reducible exact Take.here | apply Take.there)))))) ((Ent.under (X := [treeA nv0, naA nv0]) (star_close (K := []))).trans ((vvs_close (ys := [])).trans (show Ent (vvsA [nv0] :: wkV w W.sv (.slice A 1 cap) steps limit :: stA A cap [nv0] :: blk b2 85 [.slice none 0 0, .slice none 0 0, .slice none 0 0] :: W.A s :: ro μ :: []) [wkV w W.sv (.slice A 1 cap) steps limit, stA A cap [nv0], vvsA [nv0], blk b2 85 [.slice none 0 0, .slice none 0 0, .slice none 0 0], W.A s, ro μ] from Split.ent' (by repeat (first | exact Split.nil | (apply Split.cons; (repeat (first | with_reducible exact Take.here | apply Take.there))))))))
 ·intro x hx; rw [List.mem_singleton.1 hx]; exact hok
 ·intro ys y e x hx
  cases ys with
  | nil => cases hx
  | cons z zs =>
   have := congrArg List.length e
   simp at this
 clear hok hs hsl h1 hleft
 rintro ⟨steps, len⟩ env L ⟨xs, A, cap, s, μ1, hsub, hlen, hl0, hls, hsl, hE, hle, hs, hok, hrs, hR⟩
 dsimp only at hlen hl0 hls hsl hE hs hR
 refine swp_sub _ hsub ?_
 refine swp_ent hE ?_
 clear hsub hE env L
 obtain ⟨ys, top, rfl⟩ : ∃ ys top, xs = ys ++ [top] := by
  rcases List.eq_nil_or_concat xs with rfl | ⟨ys, top, e⟩
  ·rw [List.length_nil] at hlen; omega
  ·exact ⟨ys, top, by rw [e]; simp⟩
 have hyl : len = ys.length + 1 := by rw [← hlen, List.length_append]; rfl
 have hxl : (ys ++ [top]).length = ys.length + 1 := by rw [List.length_append]; rfl
 have htop := hok top (by simp)
 rw [stA_B, hxl]
 refine swp_ent (Split.ent' (K := [stB A cap ys top, vvsA (ys ++ [top]), wkV w W.sv (.slice A (ys.length + 1) cap) steps limit, blk b2 85 [.slice none 0 0, .slice none 0 0, .slice none 0 0], W.A s, ro μ1]) (by repeat (first | exact Split.nil | (apply Split.cons; (repeat (first | with_reducible exact Take.here | apply Take.there)))))) ?_
 refine swp_fact (fun m h => own_cap2 h) fun ⟨A', cap', hA1, hlc, hcm, hAn, hAs⟩ => ?_
 obtain ⟨rfl, _, rfl⟩ := Value.slice.inj hA1
 obtain ⟨a, ha⟩ : ∃ a, A = some a := by cases A with | none => have := hAn rfl; omega | some a => exact ⟨a, rfl⟩
 obtain ⟨g, rfl⟩ := hAs a ha
 subst ha
 simp only [maxLen] at hcm
 have hT1 := hT.le hle
 refine swp_block ?_
 refine swp_seq ?_
 refine swp_draw [3, 7] _ [] (by simp only [List.append_nil]; exact Ent.refl _) (by kernel_rfl) ?_
 refine d_pu 0 rfl (pu_move rfl) (by kernel_rfl) (by kernel_rfl) (by kernel_rfl) ?_
 first | refine d_pu 1 rfl (pu_nilCheck rfl) (by kernel_rfl) (by kernel_rfl) (by kernel_rfl) ?_ | refine d_pu 1 rfl (pu_nilCheck_fn rfl) (by kernel_rfl) (by kernel_rfl) (by kernel_rfl) ?_ | refine d_pu 1 rfl (pu_nilCheck_if rfl) (by kernel_rfl) (by kernel_rfl) (by kernel_rfl) ?_
 first | refine d_pu 2 rfl (pu_fieldAddr0 rfl) (by kernel_rfl) (by kernel_rfl) (by kernel_rfl) ?_ | refine d_pu 2 rfl (pu_fieldAddr rfl) (by kernel_rfl) (by kernel_rfl) (by kernel_rfl) ?_
 refine d_rd 3 rfl (rd_load rfl rfl) rfl (by kernel_rfl) (by kernel_rfl) (by kernel_rfl) ?_
 refine d_pu 4 rfl (pu_move rfl) (by kernel_rfl) (by kernel_rfl) (by kernel_rfl) ?_
 first | refine d_pu 5 rfl (pu_nilCheck rfl) (by kernel_rfl) (by kernel_rfl) (by kernel_rfl) ?_ | refine d_pu 5 rfl (pu_nilCheck_fn rfl) (by kernel_rfl) (by kernel_rfl) (by kernel_rfl) ?_ | refine d_pu 5 rfl (pu_nilCheck_if rfl) (by kernel_rfl) (by kernel_rfl) (by kernel_rfl) ?_
 first | refine d_pu 6 rfl (pu_fieldAddr0 rfl) (by kernel_rfl) (by kernel_rfl) (by kernel_rfl) ?_ | refine d_pu 6 rfl (pu_fieldAddr rfl) (by kernel_rfl) (by kernel_rfl) (by kernel_rfl) ?_
 refine d_rd 7 rfl (rd_load rfl rfl) rfl (by kernel_rfl) (by kernel_rfl) (by kernel_rfl) ?_
 refine d_pu 8 rfl (pu_len rfl) (by kernel_rfl) (by kernel_rfl) (by kernel_rfl) ?_
 refine d_pu 9 rfl (pu_sub_as ((ys.length : Nat) : Int) rfl rfl (by omega) (by omega) (by omega)) (by kernel_rfl) (by kernel_rfl) (by kernel_rfl) ?_
 refine d_pu 10 rfl (pu_indexAddr (0 + ys.length * 3) rfl rfl (by omega) (by omega) (by rw [Int.toNat_natCast])) (by kernel_rfl) (by kernel_rfl) (by kernel_rfl) ?_
 refine d_pu 11 rfl (pu_assign rfl) (by kernel_rfl) (by kernel_rfl) (by kernel_rfl) ?_
 refine d_sub _ (.cons (t := 0) rfl (.cons (t := 2) rfl (.cons (t := 4) rfl .nil))) ?_
 first | refine d_nilt (by kernel_rfl) ?_ | refine d_nilf (by kernel_rfl) ?_
 refine then_n ?_
 refine swp_seq ?_
 refine swp_seq ?_
 refine swp_region ?_
 refine s_pu (pu_move rfl) ?_
 first | refine s_pu (pu_nilCheck rfl) ?_ | refine s_pu (pu_nilCheck_fn rfl) ?_ | refine s_pu (pu_nilCheck_if rfl) ?_
 first | refine s_pu (pu_fieldAddr0 rfl) ?_ | refine s_pu (pu_fieldAddr rfl) ?_
 refine s_rd (rd_own rfl (by repeat (first | with_reducible exact Take.here | apply Take.there)) (stB_get (j := 0) rfl)) ?_
 refine s_pu (pu_len_row htop.rest rfl) ?_
 refine s_pu (pu_gtr rfl rfl) ?_
 refine swl_sub _ (.cons (t := 0) rfl (.cons (t := 2) rfl (.cons (t := 4) rfl (.cons (t := 25) rfl .nil)))) ?_
 refine swl_nil ?_
 refine then_n ?_
 refine swp_cond (b := _) rfl (fun h25 => ?_) (fun h25 => ?_)
 ·skip
  have h25' : 0 < top.f.rest.length := by have := of_decide_eq_true h25; omega
  obtain ⟨c, rs, hrest⟩ : ∃ c rs, top.f.rest = c :: rs := by
   cases hq : top.f.rest with
   | nil => rw [hq] at h25'; exact absurd h25' (by decide)
   | cons c rs => exact ⟨c, rs, rfl⟩
  obtain ⟨rb, ro_, rc, hrv, _, _, hra⟩ := htop.rest.pos h25'
  have hcell := (hra.elem (f := icsk .i64) (n := 1) (fun _ => rfl) (show top.f.rest[0]? = some c by rw [hrest]; rfl)).cell
  refine swp_seq ?_
  refine swp_seq ?_
  refine swp_ent ((Split.ent' (K := [vvsA (ys ++ [top]), stB (some ⟨g, 0, none⟩) cap ys top, wkV w W.sv (.slice (some ⟨g, 0, none⟩) (ys.length + 1) cap) steps limit, blk b2 85 [.slice none 0 0, .slice none 0 0, .slice none 0 0], W.A s, ro μ1]) (by repeat (first | exact Split.nil | (apply Split.cons; (repeat (first | with_reducible exact Take.here | apply Take.there)))))).trans vvs_open) ?_
  refine swp_draw [4, 8, 10] _ [] (by simp only [List.append_nil]; exact Ent.refl _) (by kernel_rfl) ?_
  refine d_pu 0 rfl (pu_move rfl) (by kernel_rfl) (by kernel_rfl) (by kernel_rfl) ?_
  refine d_pu 1 rfl (pu_move rfl) (by kernel_rfl) (by kernel_rfl) (by kernel_rfl) ?_
  first | refine d_pu 2 rfl (pu_nilCheck rfl) (by kernel_rfl) (by kernel_rfl) (by kernel_rfl) ?_ | refine d_pu 2 rfl (pu_nilCheck_fn rfl) (by kernel_rfl) (by kernel_rfl) (by kernel_rfl) ?_ | refine d_pu 2 rfl (pu_nilCheck_if rfl) (by kernel_rfl) (by kernel_rfl) (by kernel_rfl) ?_
  first | refine d_pu 3 rfl (pu_fieldAddr0 rfl) (by kernel_rfl) (by kernel_rfl) (by kernel_rfl) ?_ | refine d_pu 3 rfl (pu_fieldAddr rfl) (by kernel_rfl) (by kernel_rfl) (by kernel_rfl) ?_
  refine d_rd 4 rfl (rd_own rfl (by repeat (first | with_reducible exact Take.here | apply Take.there)) (stB_get (j := 1) rfl)) rfl (by kernel_rfl) (by kernel_rfl) (by kernel_rfl) ?_
  refine d_pu 5 rfl (pu_move rfl) (by kernel_rfl) (by kernel_rfl) (by kernel_rfl) ?_
  first | refine d_pu 6 rfl (pu_nilCheck rfl) (by kernel_rfl) (by kernel_rfl) (by kernel_rfl) ?_ | refine d_pu 6 rfl (pu_nilCheck_fn rfl) (by kernel_rfl) (by kernel_rfl) (by kernel_rfl) ?_ | refine d_pu 6 rfl (pu_nilCheck_if rfl) (by kernel_rfl) (by kernel_rfl) (by kernel_rfl) ?_
  first | refine d_pu 7 rfl (pu_fieldAddr0 rfl) (by kernel_rfl) (by kernel_rfl) (by kernel_rfl) ?_ | refine d_pu 7 rfl (pu_fieldAddr rfl) (by kernel_rfl) (by kernel_rfl) (by kernel_rfl) ?_
  refine d_rd 8 rfl (rd_own rfl (by repeat (first | with_reducible exact Take.here | apply Take.there)) (stB_get (j := 0) rfl)) rfl (by kernel_rfl) (by kernel_rfl) (by kernel_rfl) ?_
  refine d_pu 9 rfl (pu_indexAddr (ro_ + 0 * 1) (congrArg some hrv) rfl (by omega) (by omega) rfl) (by kernel_rfl) (by kernel_rfl) (by kernel_rfl) ?_
  refine d_rd 10 rfl (rd_ro rfl hcell) rfl (by kernel_rfl) (by kernel_rfl) (by kernel_rfl) ?_
  first | refine d_fint 11 rfl (by kernel_rfl) (by kernel_rfl) (ef_fn (push_e W μ1 (h0.trans hle) hT1 w s (m + steps) hs (by omega) (some ⟨g, 0, none⟩) cap (ys ++ [top]) steps limit (by omega) hlim top c (fun e => (htop.node e).1)) rfl rfl (by rw [stA_B, hxl]; exact (by repeat (first | exact Split.nil | (apply Split.cons; (repeat (first | with_reducible exact Take.here | apply Take.there))))))) ?_ | refine d_finf 11 rfl (by kernel_rfl) (by kernel_rfl) (ef_fn (push_e W μ1 (h0.trans hle) hT1 w s (m + steps) hs (by omega) (some ⟨g, 0, none⟩) cap (ys ++ [top]) steps limit (by omega) hlim top c (fun e => (htop.node e).1)) rfl rfl (by rw [stA_B, hxl]; exact (by repeat (first | exact Split.nil | (apply Split.cons; (repeat (first | with_reducible exact Take.here | apply Take.there))))))) ?_
  rintro v37 L1 ⟨e, rfl, hp⟩
  skip
  refine d_pu 12 rfl (pu_assign rfl) (by kernel_rfl) (by kernel_rfl) (by kernel_rfl) ?_
  refine d_sub _ (.cons (t := 0) rfl (.cons (t := 2) rfl (.cons (t := 5) rfl .nil))) ?_
  first | refine d_nilt (by kernel_rfl) ?_ | refine d_nilf (by kernel_rfl) ?_
  refine then_n ?_
  refine swp_seq ?_
  refine swp_region ?_
  refine s_pu (pu_move rfl) ?_
  refine s_pu (pu_neq rfl rfl) ?_
  refine swl_sub _ (.cons (t := 0) rfl (.cons (t := 2) rfl (.cons (t := 5) rfl (.cons (t := 39) rfl .nil)))) ?_
  refine swl_nil ?_
  refine then_n ?_
  refine swp_cond (b := _) rfl (fun h39 => ?_) (fun h39 => ?_)
  ·skip
   obtain ⟨p1, rfl, rfl⟩ : limit ≤ steps ∧ e = 12 ∧ L1 = [naA top, wkV w W.sv (.slice (some ⟨g, 0, none⟩) (ys ++ [top]).length cap) steps limit, stA (some ⟨g, 0, none⟩) cap (ys ++ [top]), W.A s, ro μ1] := by
    rcases hp with k | ⟨_, he, _⟩
    ·exact k
    ·rw [he] at h39; cases h39
   simp only [List.cons_append, List.nil_append]
   refine swp_seq ?_
   refine swp_region ?_
   refine s_pu (pu_bld (qs := []) rfl) ?_
   refine s_pu (pu_move rfl) ?_
   refine s_ef0 (ef_storeA rfl rfl rfl rfl) ?_
   refine s_pu (pu_assign rfl) ?_
   refine swl_sub _ (.cons (t := 2) rfl (.cons (t := 3) rfl .nil)) ?_
   refine swl_nil ?_
   refine then_n ?_
   refine swp_ret ?_
   refine then_r ?_
   refine then_r ?_
   refine block_r ?_
   refine then_r ?_
   refine block_r ?_
   refine done_retE [W.A s, ro μ1] (.cell rfl (ld_whole rfl) (.tmp rfl .nil)) ⟨s, μ1, (none, 0), hle, W.Bm hs (by omega), hR _ ?_, .inl ⟨rfl, rfl, rfl⟩⟩ (Split.ent' (by repeat (first | exact Split.nil | (apply Split.cons; (repeat (first | with_reducible exact Take.here | apply Take.there))))))
   rw [show limit - steps = 0 by omega, List.reverse_append, List.map_append]
   exact .out (by rw [hrest]; exact fun h => by cases h)
  ·skip
   obtain ⟨p1, rfl, nv, A2, cap2, s2, μ2, hno, hnf, hnok, hs2, hle2, rfl⟩ : steps < limit ∧ e = 0 ∧ ∃ (nv : VV) (A2 : Option Addr) (cap2 : Nat) (s2 : W.σ) (μ2 : PH), nv.own = false ∧ (∃ bs, W.VS top.f.node c bs ∧ VFr W.VT bs nv.f) ∧ nv.Ok W.n W.U μ2 ∧ W.B (m + steps + 1) s2 ∧ Le μ1 μ2 ∧ L1 = [naA top, wkV w W.sv (.slice A2 (ys ++ [top] ++ [nv]).length cap2) (steps + 1) limit, stA A2 cap2 (ys ++ [top] ++ [nv]), treeA nv, W.A s2, ro μ2] := by
    rcases hp with ⟨_, he, _⟩ | k
    ·rw [he] at h39; cases h39
    ·exact k
   simp only [List.cons_append, List.nil_append]
   refine swp_skip ?_
   refine then_n ?_
   refine swp_exit ?_
   refine then_x ?_
   refine block_hit rfl ?_
   refine then_n ⟨(steps + 1, len + 1), ⟨ys ++ [top] ++ [nv], A2, cap2, s2, μ2, ⟨rfl, rfl, trivial⟩, by rw [List.length_append, hlen]; rfl, by omega, by omega, p1, ?_, hle.trans hle2, hs2, ?_, ?_, ?_⟩, by dsimp only; omega⟩
   ·dsimp only
    refine (Split.ent' (K := [treeA top, naA top, vvsA ys, treeA nv, wkV w W.sv (.slice A2 (ys ++ [top] ++ [nv]).length cap2) (steps + 1) limit, stA A2 cap2 (ys ++ [top] ++ [nv]), blk b2 85 [.slice none 0 0, .slice none 0 0, .slice none 0 0], W.A s2, ro μ2]) (by repeat (first | exact Split.nil | (apply Split.cons; (repeat (first | with_reducible exact Take.here | apply Take.there)))))).trans (vvs_close.trans ?_)
    refine (naA_no hno).trans ?_
    refine (Split.ent' (K := [treeA nv, naA nv, vvsA (ys ++ [top]), wkV w W.sv (.slice A2 (ys ++ [top] ++ [nv]).length cap2) (steps + 1) limit, stA A2 cap2 (ys ++ [top] ++ [nv]), blk b2 85 [.slice none 0 0, .slice none 0 0, .slice none 0 0], W.A s2, ro μ2]) (by repeat (first | exact Split.nil | (apply Split.cons; (repeat (first | with_reducible exact Take.here | apply Take.there)))))).trans ?_
    refine vvs_close.trans ?_
    exact Split.ent' (by repeat (first | exact Split.nil | (apply Split.cons; (repeat (first | with_reducible exact Take.here | apply Take.there)))))
   ·intro x hx
    rcases List.mem_append.1 hx with hx | hx
    ·exact (hok x hx).le hle2
    ·rw [List.mem_singleton.1 hx]; exact hnok
   ·intro ys' y' he x hx
    obtain ⟨e1, _⟩ := List.append_inj' he rfl
    rw [← e1] at hx
    rcases List.mem_append.1 hx with hx | hx
    ·exact hrs ys top rfl x hx
    ·rw [List.mem_singleton.1 hx, hrest]; exact fun h => by cases h
   ·intro R hr
    refine hR R ?_
    obtain ⟨bs, hb1, hb2⟩ := hnf
    have hte : top.f = (⟨c :: rs, top.f.node, top.f.tree⟩ : VF (List En)) := by rw [← hrest]
    rw [List.reverse_append, List.reverse_append, List.map_append, List.map_append] at hr
    rw [List.reverse_append, List.map_append, show limit - steps = limit - (steps + 1) + 1 by omega]
    have hr : VRun W.VS W.VT (nv.f :: top.f :: ys.reverse.map (·.f)) (limit - (steps + 1)) R := hr
    show VRun W.VS W.VT (top.f :: ys.reverse.map (·.f)) _ R
    rw [hte] at hr ⊢
    exact .push hb1 hb2 hr
 ·skip
  have h25' : top.f.rest = [] := by
   have := of_decide_eq_false h25
   cases hq : top.f.rest with
   | nil => rfl
   | cons _ _ => rw [hq, List.length_cons] at this; omega
  have hte : top.f = ⟨[], top.f.node, top.f.tree⟩ := by rw [← h25']
  refine swp_skip ?_
  refine then_n ?_
  refine swp_seq ?_
  refine swp_region ?_
  refine s_pu (pu_move rfl) ?_
  first | refine s_pu (pu_nilCheck rfl) ?_ | refine s_pu (pu_nilCheck_fn rfl) ?_ | refine s_pu (pu_nilCheck_if rfl) ?_
  refine s_rd (rd_ownA (vs := encV top) rfl (by repeat (first | with_reducible exact Take.here | apply Take.there)) rfl (fun j v hj => stB_get hj)) ?_
  refine s_ef (ef_alloc) ?_
  intro b6
  refine s_ef0 (ef_storeA rfl rfl (encV_one htop) rfl) ?_
  refine swl_sub _ (.cons (t := 0) rfl (.cons (t := 2) rfl (.cons (t := 6) rfl .nil))) ?_
  refine swl_nil ?_
  refine then_n ?_
  refine swp_seq ?_
  refine swp_seq ?_
  refine swp_region ?_
  refine s_pu (pu_move rfl) ?_
  first | refine s_pu (pu_nilCheck rfl) ?_ | refine s_pu (pu_nilCheck_fn rfl) ?_ | refine s_pu (pu_nilCheck_if rfl) ?_
  first | refine s_pu (pu_fieldAddr0 rfl) ?_ | refine s_pu (pu_fieldAddr rfl) ?_
  refine s_rd (rd_load rfl rfl) ?_
  refine s_pu (pu_len rfl) ?_
  refine s_pu (pu_eql rfl rfl) ?_
  refine swl_sub _ (.cons (t := 0) rfl (.cons (t := 2) rfl (.cons (t := 6) rfl (.cons (t := 50) rfl .nil)))) ?_
  refine swl_nil ?_
  refine then_n ?_
  refine swp_cond (b := _) rfl (fun h50 => ?_) (fun h50 => ?_)
  ·skip
   have h50' : ys = [] := by
    have := of_decide_eq_true h50
    exact List.eq_nil_of_length_eq_zero (by omega)
   refine swp_seq ?_
   refine swp_region ?_
   first | refine s_rd (rd_loadW rfl rfl) ?_ | refine s_rd (rd_loadX rfl rfl rfl) ?_
   refine s_ef0 (ef_storeA rfl rfl (encV_one htop) rfl) ?_
   refine s_pu (pu_assign rfl) ?_
   refine swl_sub _ (.cons (t := 2) rfl (.cons (t := 3) rfl .nil)) ?_
   refine swl_nil ?_
   refine then_n ?_
   refine swp_ret ?_
   refine then_r ?_
   refine block_r ?_
   refine then_r ?_
   refine block_r ?_
   subst h50'
   refine done_retE [wkV w W.sv (.slice (some ⟨g, 0, none⟩) ([] : List VV).length.succ cap) steps limit, treeA top, W.A s, ro μ1] (.cell rfl (ld_whole rfl) (.tmp rfl .nil)) ⟨s, μ1, _, hle, W.Bm hs (by omega), hR _ ?_, .inr ⟨top, _, steps, rfl, hsl, htop, rfl, rfl⟩⟩ ?_
   ·show VRun W.VS W.VT [top.f] (limit - steps) _
    rw [hte]
    exact .fin
   ·refine (Split.ent' (K := [vvsA ([] ++ [top]), wkV w W.sv (.slice (some ⟨g, 0, none⟩) (([] : List VV).length + 1) cap) steps limit, W.A s, ro μ1]) (by repeat (first | exact Split.nil | (apply Split.cons; (repeat (first | with_reducible exact Take.here | apply Take.there)))))).trans (vvs_open.trans (Split.ent' (by repeat (first | exact Split.nil | (apply Split.cons; (repeat (first | with_reducible exact Take.here | apply Take.there)))))))
  ·skip
   obtain ⟨zs, up, rfl⟩ : ∃ zs up, ys = zs ++ [up] := by
    rcases List.eq_nil_or_concat ys with rfl | ⟨zs, up, e⟩
    ·exact absurd rfl (of_decide_eq_false h50)
    ·exact ⟨zs, up, by rw [e]; simp⟩
   have hzl : (zs ++ [up]).length = zs.length + 1 := by rw [List.length_append]; rfl
   have hup := hok up (by simp)
   obtain ⟨c, rs, hrest⟩ : ∃ c rs, up.f.rest = c :: rs := by
    cases hq : up.f.rest with
    | nil => exact absurd hq (hrs (zs ++ [up]) top rfl up (by simp))
    | cons c rs => exact ⟨c, rs, rfl⟩
   have hcin := hup.ins c (by rw [hrest]; simp)
   obtain ⟨k, rfl⟩ : ∃ k : Nat, c = (k : Int) := ⟨c.toNat, by omega⟩
   have hkn : k < W.n := by omega
   obtain ⟨rb, ro_, rc, hrv, _, _, hra⟩ := hup.rest.pos (by rw [hrest]; exact Nat.succ_pos _)
   have hcell := (hra.elem (f := icsk .i64) (n := 1) (fun _ => rfl) (show up.f.rest[0]? = some (k : Int) by rw [hrest]; rfl)).cell
   have hrl : up.f.rest.length = rs.length + 1 := by rw [hrest]; rfl
   have hupl := hup.len
   rw [hzl]
   refine swp_skip ?_
   refine then_n ?_
   refine swp_seq ?_
   refine swp_draw [4, 8] _ [] (by simp only [List.append_nil]; exact Ent.refl _) (by kernel_rfl) ?_
   refine d_pu 0 rfl (pu_move rfl) (by kernel_rfl) (by kernel_rfl) (by kernel_rfl) ?_
   refine d_pu 1 rfl (pu_move rfl) (by kernel_rfl) (by kernel_rfl) (by kernel_rfl) ?_
   first | refine d_pu 2 rfl (pu_nilCheck rfl) (by kernel_rfl) (by kernel_rfl) (by kernel_rfl) ?_ | refine d_pu 2 rfl (pu_nilCheck_fn rfl) (by kernel_rfl) (by kernel_rfl) (by kernel_rfl) ?_ | refine d_pu 2 rfl (pu_nilCheck_if rfl) (by kernel_rfl) (by kernel_rfl) (by kernel_rfl) ?_
   first | refine d_pu 3 rfl (pu_fieldAddr0 rfl) (by kernel_rfl) (by kernel_rfl) (by kernel_rfl) ?_ | refine d_pu 3 rfl (pu_fieldAddr rfl) (by kernel_rfl) (by kernel_rfl) (by kernel_rfl) ?_
   refine d_rd 4 rfl (rd_load rfl rfl) rfl (by kernel_rfl) (by kernel_rfl) (by kernel_rfl) ?_
   refine d_pu 5 rfl (pu_move rfl) (by kernel_rfl) (by kernel_rfl) (by kernel_rfl) ?_
   first | refine d_pu 6 rfl (pu_nilCheck rfl) (by kernel_rfl) (by kernel_rfl) (by kernel_rfl) ?_ | refine d_pu 6 rfl (pu_nilCheck_fn rfl) (by kernel_rfl) (by kernel_rfl) (by kernel_rfl) ?_ | refine d_pu 6 rfl (pu_nilCheck_if rfl) (by kernel_rfl) (by kernel_rfl) (by kernel_rfl) ?_
   first | refine d_pu 7 rfl (pu_fieldAddr0 rfl) (by kernel_rfl) (by kernel_rfl) (by kernel_rfl) ?_ | refine d_pu 7 rfl (pu_fieldAddr rfl) (by kernel_rfl) (by kernel_rfl) (by kernel_rfl) ?_
   refine d_rd 8 rfl (rd_load rfl rfl) rfl (by kernel_rfl) (by kernel_rfl) (by kernel_rfl) ?_
   refine d_pu 9 rfl (pu_len rfl) (by kernel_rfl) (by kernel_rfl) (by kernel_rfl) ?_
   refine d_pu 10 rfl (pu_sub_as ((zs.length + 1 : Nat) : Int) rfl rfl (by omega) (by omega) (by omega)) (by kernel_rfl) (by kernel_rfl) (by kernel_rfl) ?_
   refine d_pu 11 rfl (pu_slice_hi (zs.length + 1) rfl rfl rfl (by omega)) (by kernel_rfl) (by kernel_rfl) (by kernel_rfl) ?_
   first | refine d_pu 12 rfl (pu_nilCheck rfl) (by kernel_rfl) (by kernel_rfl) (by kernel_rfl) ?_ | refine d_pu 12 rfl (pu_nilCheck_fn rfl) (by kernel_rfl) (by kernel_rfl) (by kernel_rfl) ?_ | refine d_pu 12 rfl (pu_nilCheck_if rfl) (by kernel_rfl) (by kernel_rfl) (by kernel_rfl) ?_
   first | refine d_pu 13 rfl (pu_fieldAddr0 rfl) (by kernel_rfl) (by kernel_rfl) (by kernel_rfl) ?_ | refine d_pu 13 rfl (pu_fieldAddr rfl) (by kernel_rfl) (by kernel_rfl) (by kernel_rfl) ?_
   first | refine d_fin0t 14 rfl (by kernel_rfl) (by kernel_rfl) (ef_store rfl rfl rfl) ?_ | refine d_fin0f 14 rfl (by kernel_rfl) (by kernel_rfl) (ef_store rfl rfl rfl) ?_
   refine d_sub _ (.cons (t := 0) rfl (.cons (t := 2) rfl (.cons (t := 6) rfl .nil))) ?_
   first | refine d_nilt (by kernel_rfl) ?_ | refine d_nilf (by kernel_rfl) ?_
   refine then_n ?_
   refine swp_seq ?_
   refine swp_ent ((Split.ent' (K := [stB (some ⟨g, 0, none⟩) cap (zs ++ [up]) top, vvsA (zs ++ [up] ++ [top]), wkV w W.sv (.slice (some ⟨g, 0, none⟩) (zs.length + 1) cap) steps limit, blk b6 85 (encV top), blk b2 85 [.slice none 0 0, .slice none 0 0, .slice none 0 0], W.A s, ro μ1]) (by repeat (first | exact Split.nil | (apply Split.cons; (repeat (first | with_reducible exact Take.here | apply Take.there)))))).trans (own_less (zs_len _))) ?_
   rw [show own 85 3 (.slice (some ⟨g, 0, none⟩) (zs ++ [up]).length cap) (zs ++ [up]).length ((zs ++ [up]).flatMap encV) = stB (some ⟨g, 0, none⟩) cap zs up from stA_B _ _ _ _]
   refine swp_ent ((Split.ent' (K := [vvsA (zs ++ [up] ++ [top]), stB (some ⟨g, 0, none⟩) cap zs up, wkV w W.sv (.slice (some ⟨g, 0, none⟩) (zs.length + 1) cap) steps limit, blk b6 85 (encV top), blk b2 85 [.slice none 0 0, .slice none 0 0, .slice none 0 0], W.A s, ro μ1]) (by repeat (first | exact Split.nil | (apply Split.cons; (repeat (first | with_reducible exact Take.here | apply Take.there)))))).trans vvs_open) ?_
   refine swp_ent ((Split.ent' (K := [vvsA (zs ++ [up]), treeA top, stB (some ⟨g, 0, none⟩) cap zs up, wkV w W.sv (.slice (some ⟨g, 0, none⟩) (zs.length + 1) cap) steps limit, blk b6 85 (encV top), blk b2 85 [.slice none 0 0, .slice none 0 0, .slice none 0 0], W.A s, ro μ1]) (by repeat (first | exact Split.nil | (apply Split.cons; (repeat (first | with_reducible exact Take.here | apply Take.there)))))).trans vvs_open) ?_
   refine swp_share_own (e := 52) (n := 2) (v := top.tree) (μ := μ1) (by repeat (first | exact Split.nil | (apply Split.cons; (repeat (first | with_reducible exact Take.here | apply Take.there))))) fun μ3 h3 rtop => ?_
   refine swp_share_own (e := 52) (n := 2) (v := up.tree) (μ := μ3) (by repeat (first | exact Split.nil | (apply Split.cons; (repeat (first | with_reducible exact Take.here | apply Take.there))))) fun μ4 h4 rup => ?_
   rw [naB_eq up]
   refine swp_draw [3, 7] _ [] (by simp only [List.append_nil]; exact Ent.refl _) (by kernel_rfl) ?_
   refine d_pu 0 rfl (pu_move rfl) (by kernel_rfl) (by kernel_rfl) (by kernel_rfl) ?_
   first | refine d_pu 1 rfl (pu_nilCheck rfl) (by kernel_rfl) (by kernel_rfl) (by kernel_rfl) ?_ | refine d_pu 1 rfl (pu_nilCheck_fn rfl) (by kernel_rfl) (by kernel_rfl) (by kernel_rfl) ?_ | refine d_pu 1 rfl (pu_nilCheck_if rfl) (by kernel_rfl) (by kernel_rfl) (by kernel_rfl) ?_
   first | refine d_pu 2 rfl (pu_fieldAddr0 rfl) (by kernel_rfl) (by kernel_rfl) (by kernel_rfl) ?_ | refine d_pu 2 rfl (pu_fieldAddr rfl) (by kernel_rfl) (by kernel_rfl) (by kernel_rfl) ?_
   refine d_rd 3 rfl (rd_load rfl rfl) rfl (by kernel_rfl) (by kernel_rfl) (by kernel_rfl) ?_
   refine d_pu 4 rfl (pu_move rfl) (by kernel_rfl) (by kernel_rfl) (by kernel_rfl) ?_
   first | refine d_pu 5 rfl (pu_nilCheck rfl) (by kernel_rfl) (by kernel_rfl) (by kernel_rfl) ?_ | refine d_pu 5 rfl (pu_nilCheck_fn rfl) (by kernel_rfl) (by kernel_rfl) (by kernel_rfl) ?_ | refine d_pu 5 rfl (pu_nilCheck_if rfl) (by kernel_rfl) (by kernel_rfl) (by kernel_rfl) ?_
   first | refine d_pu 6 rfl (pu_fieldAddr0 rfl) (by kernel_rfl) (by kernel_rfl) (by kernel_rfl) ?_ | refine d_pu 6 rfl (pu_fieldAddr rfl) (by kernel_rfl) (by kernel_rfl) (by kernel_rfl) ?_
   refine d_rd 7 rfl (rd_load rfl rfl) rfl (by kernel_rfl) (by kernel_rfl) (by kernel_rfl) ?_
   refine d_pu 8 rfl (pu_len rfl) (by kernel_rfl) (by kernel_rfl) (by kernel_rfl) ?_
   refine d_pu 9 rfl (pu_sub_as ((zs.length : Nat) : Int) rfl rfl (by omega) (by omega) (by omega)) (by kernel_rfl) (by kernel_rfl) (by kernel_rfl) ?_
   refine d_pu 10 rfl (pu_indexAddr (0 + zs.length * 3) rfl rfl (by omega) (by omega) (by rw [Int.toNat_natCast])) (by kernel_rfl) (by kernel_rfl) (by kernel_rfl) ?_
   refine d_pu 11 rfl (pu_assign rfl) (by kernel_rfl) (by kernel_rfl) (by kernel_rfl) ?_
   refine d_sub _ (.cons (t := 0) rfl (.cons (t := 2) rfl (.cons (t := 6) rfl (.cons (t := 7) rfl .nil)))) ?_
   first | refine d_nilt (by kernel_rfl) ?_ | refine d_nilf (by kernel_rfl) ?_
   refine then_n ?_
   refine swp_seq ?_
   refine swp_region ?_
   refine s_pu (pu_move rfl) ?_
   first | refine s_pu (pu_nilCheck rfl) ?_ | refine s_pu (pu_nilCheck_fn rfl) ?_ | refine s_pu (pu_nilCheck_if rfl) ?_
   first | refine s_pu (pu_fieldAddr0 rfl) ?_ | refine s_pu (pu_fieldAddr rfl) ?_
   refine s_rd (rd_own rfl (by repeat (first | with_reducible exact Take.here | apply Take.there)) (stB_get (j := 0) rfl)) ?_
   refine s_pu (pu_indexAddr (ro_ + 0 * 1) (congrArg some hrv) rfl (by omega) (by omega) rfl) ?_
   refine s_rd (rd_ro rfl (hcell.le (h3.trans h4))) ?_
   refine s_pu (pu_assign rfl) ?_
   refine swl_sub _ (.cons (t := 0) rfl (.cons (t := 2) rfl (.cons (t := 6) rfl (.cons (t := 7) rfl (.cons (t := 8) rfl .nil))))) ?_
   refine swl_nil ?_
   refine then_n ?_
   refine swp_seq ?_
   refine swp_ent (Split.ent' (K := [wkV w W.sv (.slice (some ⟨g, 0, none⟩) (zs.length + 1) cap) steps limit, blk b6 85 (encV top), stB (some ⟨g, 0, none⟩) cap zs up, W.A s, ro μ4, naB up.node up.f.node up.own, vvsA zs, blk b2 85 [.slice none 0 0, .slice none 0 0, .slice none 0 0]]) (by repeat (first | exact Split.nil | (apply Split.cons; (repeat (first | with_reducible exact Take.here | apply Take.there)))))) ?_
   refine swp_draw [2, 6, 10] ([wkV w W.sv (.slice (some ⟨g, 0, none⟩) (zs.length + 1) cap) steps limit, blk b6 85 (encV top), stB (some ⟨g, 0, none⟩) cap zs up]) ([W.A s, ro μ4, naB up.node up.f.node up.own, vvsA zs, blk b2 85 [.slice none 0 0, .slice none 0 0, .slice none 0 0]]) (Split.ent (by repeat (first | exact Split.nil | (apply Split.cons; (repeat (first | with_reducible exact Take.here | apply Take.there)))))) (by kernel_rfl) ?_
   refine d_pu 0 rfl (pu_move rfl) (by kernel_rfl) (by kernel_rfl) (by kernel_rfl) ?_
   first | refine d_pu 1 rfl (pu_fieldAddr0 rfl) (by kernel_rfl) (by kernel_rfl) (by kernel_rfl) ?_ | refine d_pu 1 rfl (pu_fieldAddr rfl) (by kernel_rfl) (by kernel_rfl) (by kernel_rfl) ?_
   refine d_rd 2 rfl (rd_load rfl rfl) rfl (by kernel_rfl) (by kernel_rfl) (by kernel_rfl) ?_
   refine d_pu 3 rfl (pu_move rfl) (by kernel_rfl) (by kernel_rfl) (by kernel_rfl) ?_
   first | refine d_pu 4 rfl (pu_nilCheck rfl) (by kernel_rfl) (by kernel_rfl) (by kernel_rfl) ?_ | refine d_pu 4 rfl (pu_nilCheck_fn rfl) (by kernel_rfl) (by kernel_rfl) (by kernel_rfl) ?_ | refine d_pu 4 rfl (pu_nilCheck_if rfl) (by kernel_rfl) (by kernel_rfl) (by kernel_rfl) ?_
   first | refine d_pu 5 rfl (pu_fieldAddr0 rfl) (by kernel_rfl) (by kernel_rfl) (by kernel_rfl) ?_ | refine d_pu 5 rfl (pu_fieldAddr rfl) (by kernel_rfl) (by kernel_rfl) (by kernel_rfl) ?_
   refine d_rd 6 rfl (rd_own rfl (by repeat (first | with_reducible exact Take.here | apply Take.there)) (stB_get (j := 2) rfl)) rfl (by kernel_rfl) (by kernel_rfl) (by kernel_rfl) ?_
   refine d_pu 7 rfl (pu_move rfl) (by kernel_rfl) (by kernel_rfl) (by kernel_rfl) ?_
   first | refine d_pu 8 rfl (pu_nilCheck rfl) (by kernel_rfl) (by kernel_rfl) (by kernel_rfl) ?_ | refine d_pu 8 rfl (pu_nilCheck_fn rfl) (by kernel_rfl) (by kernel_rfl) (by kernel_rfl) ?_ | refine d_pu 8 rfl (pu_nilCheck_if rfl) (by kernel_rfl) (by kernel_rfl) (by kernel_rfl) ?_
   first | refine d_pu 9 rfl (pu_fieldAddr0 rfl) (by kernel_rfl) (by kernel_rfl) (by kernel_rfl) ?_ | refine d_pu 9 rfl (pu_fieldAddr rfl) (by kernel_rfl) (by kernel_rfl) (by kernel_rfl) ?_
   refine d_rd 10 rfl (rd_load rfl rfl) rfl (by kernel_rfl) (by kernel_rfl) (by kernel_rfl) ?_
   refine d_pu 11 rfl (pu_move rfl) (by kernel_rfl) (by kernel_rfl) (by kernel_rfl) ?_
   refine d_eft 12 rfl (by kernel_rfl) (ef_invS rfl W.hd (W.contentR s (m + steps) μ4 k (h0.trans (hle.trans (h3.trans h4))) hs hkn) rfl (by repeat (first | exact Split.nil | (apply Split.cons; (repeat (first | with_reducible exact Take.here | apply Take.there)))))) ?_
   rintro v96 L1 ⟨T96, s96, μ6, hT96, hs96, h6, rowC, rfl⟩
   refine ⟨_, ent_appC (Split.ent (by repeat (first | exact Split.nil | (apply Split.cons; (repeat (first | with_reducible exact Take.here | apply Take.there)))))), ?_⟩
   first | refine d_fint 13 rfl (by kernel_rfl) (by kernel_rfl) (ef_fn (three_form μ6 top.tree up.tree v96 top.f.tree up.f.tree T96 (rtop.le (h4.trans h6)) (rup.le h6) rowC ⟨by have := htop.tree.len; omega, by have := hup.tree.len; omega, by have := (W.vt hT96).len; omega⟩ ⟨htop.tree.u32, hup.tree.u32, (W.vt hT96).u32⟩) rfl rfl (by repeat (first | exact Split.nil | (apply Split.cons; (repeat (first | with_reducible exact Take.here | apply Take.there)))))) ?_ | refine d_finf 13 rfl (by kernel_rfl) (by kernel_rfl) (ef_fn (three_form μ6 top.tree up.tree v96 top.f.tree up.f.tree T96 (rtop.le (h4.trans h6)) (rup.le h6) rowC ⟨by have := htop.tree.len; omega, by have := hup.tree.len; omega, by have := (W.vt hT96).len; omega⟩ ⟨htop.tree.u32, hup.tree.u32, (W.vt hT96).u32⟩) rfl rfl (by repeat (first | exact Split.nil | (apply Split.cons; (repeat (first | with_reducible exact Take.here | apply Take.there)))))) ?_
   rintro v97 L1 ⟨A8, k8, v9, μ7, h7, rfl, rfl⟩
   refine swd_app ?_
   refine d_pu 14 rfl (pu_move rfl) (by kernel_rfl) (by kernel_rfl) (by kernel_rfl) ?_
   first | refine d_pu 15 rfl (pu_extractL rfl) (by kernel_rfl) (by kernel_rfl) (by kernel_rfl) ?_ | refine d_pu 15 rfl (pu_extract rfl rfl) (by kernel_rfl) (by kernel_rfl) (by kernel_rfl) ?_
   first | refine d_pu 16 rfl (pu_extractL rfl) (by kernel_rfl) (by kernel_rfl) (by kernel_rfl) ?_ | refine d_pu 16 rfl (pu_extract rfl rfl) (by kernel_rfl) (by kernel_rfl) (by kernel_rfl) ?_
   first | refine d_pu 17 rfl (pu_nilCheck rfl) (by kernel_rfl) (by kernel_rfl) (by kernel_rfl) ?_ | refine d_pu 17 rfl (pu_nilCheck_fn rfl) (by kernel_rfl) (by kernel_rfl) (by kernel_rfl) ?_ | refine d_pu 17 rfl (pu_nilCheck_if rfl) (by kernel_rfl) (by kernel_rfl) (by kernel_rfl) ?_
   first | refine d_pu 18 rfl (pu_fieldAddr0 rfl) (by kernel_rfl) (by kernel_rfl) (by kernel_rfl) ?_ | refine d_pu 18 rfl (pu_fieldAddr rfl) (by kernel_rfl) (by kernel_rfl) (by kernel_rfl) ?_
   first | refine d_fin0t 19 rfl (by kernel_rfl) (by kernel_rfl) (ef_store_own rfl rfl (by repeat (first | exact Split.nil | (apply Split.cons; (repeat (first | with_reducible exact Take.here | apply Take.there))))) (by rw [tl_len rfl]; omega) rfl) ?_ | refine d_fin0f 19 rfl (by kernel_rfl) (by kernel_rfl) (ef_store_own rfl rfl (by repeat (first | exact Split.nil | (apply Split.cons; (repeat (first | with_reducible exact Take.here | apply Take.there))))) (by rw [tl_len rfl]; omega) rfl) ?_
   refine d_sub _ (.cons (t := 0) rfl (.cons (t := 2) rfl (.cons (t := 7) rfl (.cons (t := 8) rfl .nil)))) ?_
   first | refine d_nilt (by kernel_rfl) ?_ | refine d_nilf (by kernel_rfl) ?_
   refine then_n ?_
   refine swp_seq ?_
   rw [tl_set]
   refine swp_region ?_
   refine s_pu (pu_move rfl) ?_
   refine s_pu (pu_move rfl) ?_
   first | refine s_pu (pu_nilCheck rfl) ?_ | refine s_pu (pu_nilCheck_fn rfl) ?_ | refine s_pu (pu_nilCheck_if rfl) ?_
   first | refine s_pu (pu_fieldAddr0 rfl) ?_ | refine s_pu (pu_fieldAddr rfl) ?_
   refine s_rd (rd_own rfl (by repeat (first | with_reducible exact Take.here | apply Take.there)) (tl_get (j := 1) rfl)) ?_
   refine s_pu (pu_move rfl) ?_
   refine s_ef (ef_bldS (qs := [(0, _)]) rfl rfl rfl) ?_
   intro b108
   refine swl_share (b := b108) (μ := μ7) (by repeat (first | exact Split.nil | (apply Split.cons; (repeat (first | with_reducible exact Take.here | apply Take.there))))) fun μ8 h8 k108 => ?_
   have rn : Row μ8 (.slice (some ⟨b108, 0, none⟩) 1 1) 1 1 [.int .i64 (k : Nat)] := row_of_blk (n := 1) (l := 1) (cs := [.int .i64 (k : Nat)]) k108 (by rfl) (by decide)
   have h18 : Le μ1 μ8 := h3.trans (h4.trans (h6.trans (h7.trans h8)))
   refine s_ef (ef_append_na (o := up.own) (v := up.node) (l := up.f.node) rfl rfl rn (by repeat (first | exact Split.nil | (apply Split.cons; (repeat (first | with_reducible exact Take.here | apply Take.there))))) (fun e => ⟨(hup.node e).1.le h18, (hup.node e).2⟩) (by omega)) ?_
   rintro A9 c9 o9 ho9
   skip
   first | refine s_pu (pu_nilCheck rfl) ?_ | refine s_pu (pu_nilCheck_fn rfl) ?_ | refine s_pu (pu_nilCheck_if rfl) ?_
   first | refine s_pu (pu_fieldAddr0 rfl) ?_ | refine s_pu (pu_fieldAddr rfl) ?_
   refine s_ef0 (ef_store_own rfl rfl (by repeat (first | exact Split.nil | (apply Split.cons; (repeat (first | with_reducible exact Take.here | apply Take.there))))) (by rw [tl_len rfl]; omega) rfl) ?_
   refine swl_sub _ (.cons (t := 0) rfl (.cons (t := 2) rfl (.cons (t := 7) rfl .nil))) ?_
   refine swl_nil ?_
   refine then_n ?_
   rw [tl_set]
   obtain ⟨v', hr', hlo⟩ := Row.lo (P := Tryd.prog) (t := 43) (hup.rest.le h18) 1 (by omega)
   obtain ⟨AR, cR, hv'⟩ : ∃ A c, v' = .slice A (up.f.rest.length - 1) c := by obtain ⟨_, A, c, e, _⟩ := hr'; exact ⟨A, c, e⟩
   refine swp_region ?_
   refine s_pu (pu_move rfl) ?_
   refine s_pu (pu_move rfl) ?_
   first | refine s_pu (pu_nilCheck rfl) ?_ | refine s_pu (pu_nilCheck_fn rfl) ?_ | refine s_pu (pu_nilCheck_if rfl) ?_
   first | refine s_pu (pu_fieldAddr0 rfl) ?_ | refine s_pu (pu_fieldAddr rfl) ?_
   refine s_rd (rd_own rfl (by repeat (first | with_reducible exact Take.here | apply Take.there)) (tl_get (j := 0) rfl)) ?_
   refine s_pu (hlo _ _ _ .i64 1 rfl rfl rfl) ?_
   first | refine s_pu (pu_nilCheck rfl) ?_ | refine s_pu (pu_nilCheck_fn rfl) ?_ | refine s_pu (pu_nilCheck_if rfl) ?_
   first | refine s_pu (pu_fieldAddr0 rfl) ?_ | refine s_pu (pu_fieldAddr rfl) ?_
   refine s_ef0 (ef_store_own rfl rfl (by repeat (first | exact Split.nil | (apply Split.cons; (repeat (first | with_reducible exact Take.here | apply Take.there))))) (by rw [tl_len rfl]; omega) (by rw [hv']; rfl)) ?_
   refine swl_sub _ (.cons (t := 0) rfl (.cons (t := 2) rfl .nil)) ?_
   refine swl_nil ?_
   refine block_n ?_
   rw [tl_set]
   have hvok : VV.Ok W.n W.U μ8 (⟨v', .slice A9 (up.f.node ++ [(k : Int)]).length c9, .slice A8 (VM top.f.tree up.f.tree T96).length k8, ⟨rs, up.f.node ++ [(k : Int)], VM top.f.tree up.f.tree T96⟩, o9⟩ : VV) := by
    refine ⟨?_, ho9, ⟨⟨_, _, rfl⟩, _, _, rfl⟩, fun c hc => ?_, ?_, ?_⟩
    ·have e : (ivs up.f.rest).drop (1 * 1) = ivs rs := by rw [hrest]; rfl
     rw [e, hrl, Nat.add_sub_cancel] at hr'
     exact hr'
    ·refine hup.ins c ?_
     rw [hrest]
     simpa using hc
    ·show (up.f.node ++ [(k : Int)]).length + rs.length ≤ W.n
     rw [List.length_append, List.length_singleton]; omega
    ·exact TW.merge W.hU htop.tree hup.tree (W.vt hT96)
   have hul : (zs ++ [(⟨v', .slice A9 (up.f.node ++ [(k : Int)]).length c9, .slice A8 (VM top.f.tree up.f.tree T96).length k8, ⟨rs, up.f.node ++ [(k : Int)], VM top.f.tree up.f.tree T96⟩, o9⟩ : VV)]).length = zs.length + 1 := by rw [List.length_append]; rfl
   refine then_n ⟨(steps, zs.length + 1), ⟨zs ++ [(⟨v', .slice A9 (up.f.node ++ [(k : Int)]).length c9, .slice A8 (VM top.f.tree up.f.tree T96).length k8, ⟨rs, up.f.node ++ [(k : Int)], VM top.f.tree up.f.tree T96⟩, o9⟩ : VV)], (some ⟨g, 0, none⟩), cap, s96, μ8, ⟨rfl, rfl, trivial⟩, hul, Nat.succ_pos _, by omega, hsl, ?_, hle.trans h18, hs96, ?_, ?_, ?_⟩, by dsimp only; omega⟩
   ·dsimp only
    rw [stA_B, hul]
    refine (Split.ent' (K := [own 52 2 (.slice A8 (VM top.f.tree up.f.tree T96).length k8) (VM top.f.tree up.f.tree T96).length (ens (VM top.f.tree up.f.tree T96)), naB (.slice A9 (up.f.node ++ [(k : Int)]).length c9) (up.f.node ++ [(k : Int)]) o9, vvsA zs, wkV w W.sv (.slice (some ⟨g, 0, none⟩) (zs.length + 1) cap) steps limit, own 85 3 (.slice (some ⟨g, 0, none⟩) (zs.length + 1) cap) (zs.length + 1) (zs.flatMap encV ++ (((encV up).set 2 (.slice A8 (VM top.f.tree up.f.tree T96).length k8)).set 1 (.slice A9 (up.f.node ++ [(k : Int)]).length c9)).set 0 v'), blk b2 85 [.slice none 0 0, .slice none 0 0, .slice none 0 0], W.A s96, ro μ8]) (by repeat (first | exact Split.nil | (apply Split.cons; (repeat (first | with_reducible exact Take.here | apply Take.there)))))).trans ?_
    refine Ent.trans (show Ent _ (treeA (⟨v', .slice A9 (up.f.node ++ [(k : Int)]).length c9, .slice A8 (VM top.f.tree up.f.tree T96).length k8, ⟨rs, up.f.node ++ [(k : Int)], VM top.f.tree up.f.tree T96⟩, o9⟩ : VV) :: naA (⟨v', .slice A9 (up.f.node ++ [(k : Int)]).length c9, .slice A8 (VM top.f.tree up.f.tree T96).length k8, ⟨rs, up.f.node ++ [(k : Int)], VM top.f.tree up.f.tree T96⟩, o9⟩ : VV) :: vvsA zs :: wkV w W.sv (.slice (some ⟨g, 0, none⟩) (zs.length + 1) cap) steps limit :: stB (some ⟨g, 0, none⟩) cap zs (⟨v', .slice A9 (up.f.node ++ [(k : Int)]).length c9, .slice A8 (VM top.f.tree up.f.tree T96).length k8, ⟨rs, up.f.node ++ [(k : Int)], VM top.f.tree up.f.tree T96⟩, o9⟩ : VV) :: blk b2 85 [.slice none 0 0, .slice none 0 0, .slice none 0 0] :: W.A s96 :: ro μ8 :: []) from Ent.refl _) ?_
    refine vvs_close.trans ?_
    exact Split.ent' (by repeat (first | exact Split.nil | (apply Split.cons; (repeat (first | with_reducible exact Take.here | apply Take.there)))))
   ·intro x hx
    rcases List.mem_append.1 hx with hx | hx
    ·exact (hok x (by simp [hx])).le h18
    ·rw [List.mem_singleton.1 hx]; exact hvok
   ·intro ys' y' he x hx
    obtain ⟨e1, _⟩ := List.append_inj' he rfl
    rw [← e1] at hx
    exact hrs (zs ++ [up]) top rfl x (by simp [hx])
   ·intro R hr
    refine hR R ?_
    rw [List.reverse_append, List.map_append] at hr
    rw [List.reverse_append, List.reverse_append, List.map_append, List.map_append]
    show VRun W.VS W.VT (top.f :: up.f :: zs.reverse.map (·.f)) (limit - steps) R
    have hue : up.f = (⟨(k : Int) :: rs, up.f.node, up.f.tree⟩ : VF (List En)) := by rw [← hrest]
    rw [hte, hue]
    exact .pop hT96 hr
end SX.XV
namespace SX.XV
open Go Go.Proofs
theorem run_e (W : VSrc) (μ : PH) (h0 : Le W.μ0 μ) (hT : RowAt μ 1 0 tabV) (w : Nat) (s : W.σ) (m : Nat) (limit : Nat) (hlim : limit ≤ 4096) (hm : m + 4097 ≤ 4611686018427387904) (A : Option Addr) (cap : Nat) (nv0 : VV) (steps : Nat) (hs : W.B (m + steps) s) (h1 : 1 ≤ steps) (hsl : steps ≤ limit)
    (hok : nv0.Ok W.n W.U μ) :
    Spec Tryd.prog 25 [.pointer (some ⟨w, 0, none⟩)] [wkV w W.sv (.slice A 1 cap) steps limit, stA A cap [nv0], treeA nv0, naA nv0, W.A s, ro μ] (fun r L => ∃ (A0 A1 A2 : Option Addr) (l0 l1 l2 c0 c1 c2 : Nat) (e : Int), r = .tuple #[.agg #[.slice A0 l0 c0, .slice A1 l1 c1, .slice A2 l2 c2], .int .i64 e] ∧ ∃ (s' : W.σ) (μ' : PH) (R : Option (List En × Bool) × Nat), Le μ μ' ∧ W.B (m + limit) s' ∧ VRun W.VS W.VT [nv0.f] (limit - steps) R ∧
      ((R.1 = none ∧ e = 12 ∧ L = [W.A s', ro μ']) ∨
       (e = 0 ∧ ∃ (t : List En) (st : Value) (steps : Nat), R = (some (t, decide (0 < l1)), limit - steps) ∧ steps ≤ limit ∧ TW W.U t ∧ l2 = t.length ∧ L = [wkV w W.sv st steps limit, own 52 2 (.slice A2 l2 c2) l2 (ens t), W.A s', ro μ']))) :=
  (run_spec W μ h0 hT w s m limit hlim hm A cap nv0 steps hs h1 hsl hok).mono fun r L ⟨s', μ', R, k1, k2, kR, k3⟩ => by
    rcases k3 with ⟨h1, h2, h3⟩ | ⟨nv, st, steps, h1, h2, h3, h4, h5⟩
    · exact ⟨none, none, none, 0, 0, 0, 0, 0, 0, 12, h2, s', μ', R, k1, k2, kR, .inl ⟨h1, rfl, h3⟩⟩
    · obtain ⟨_, A0, c0, e0, _⟩ := h3.rest
      obtain ⟨⟨A1, c1, e1⟩, A2, c2, e2⟩ := h3.one
      refine ⟨A0, A1, A2, nv.f.rest.length, nv.f.node.length, nv.f.tree.length, c0, c1, c2, 0, ?_, s', μ', R, k1, k2, kR, .inr ⟨rfl, nv.f.tree, st, steps, ?_, h2, h3.tree, rfl, ?_⟩⟩
      · rw [h4]
        show Value.tuple #[.agg #[nv.rest, nv.node, nv.tree], _] = _
        rw [e0, e1, e2]
      · rw [h1]
        cases nv.f.node <;> rfl
      · rw [h5, ← e2]
def askedV (N : Int) (a b : Int) : Int := if min a b < 0 ∨ min N 65536 ≤ max a b then 9 else 0
instance ifaceVS : TIface Tryd.prog 77 := ⟨⟨_, Tryd.underlying77⟩⟩
theorem vasked_spec (W : VSrc) (s : W.σ) (μ : PH) (a b : Int) : Spec Tryd.prog 23 [W.sv, .int .i64 a, .int .i64 b] [W.A s, ro μ] (fun r L => r = .int .i64 (askedV W.N a b) ∧ L = [W.A s, ro μ]) := by
 refine Spec.of 24 Tryd.func23 rfl rfl rfl ?_
 refine swp_seq ?_
 refine swp_region ?_
 refine s_pu (pu_assign rfl) ?_
 refine swl_sub _ (.cons (t := 0) rfl (.cons (t := 1) rfl (.cons (t := 2) rfl .nil))) ?_
 refine swl_nil ?_
 refine then_n ?_
 refine swp_seq ?_
 refine swp_seq ?_
 refine swp_region ?_
 refine s_pu (pu_move rfl) ?_
 refine s_pu (pu_if_eq_nil rfl rfl) ?_
 refine swl_sub _ (.cons (t := 0) rfl (.cons (t := 1) rfl (.cons (t := 2) rfl (.cons (t := 9) rfl .nil)))) ?_
 refine swl_nil ?_
 refine then_n ?_
 refine swp_cond (b := _) rfl (fun h9 => by cases h9) (fun h9 => ?_)
 refine swp_skip ?_
 refine then_n ?_
 refine swp_seq ?_
 refine swp_region ?_
 refine s_pu (pu_move rfl) ?_
 refine s_ef (ef_invS rfl W.hd (W.commits s) rfl (by repeat (first | exact Split.nil | (apply Split.cons; (repeat (first | with_reducible exact Take.here | apply Take.there)))))) ?_
 rintro v11 L1 ⟨rfl, rfl⟩
 refine swl_app ?_
 refine s_pu (pu_min2 rfl rfl) ?_
 refine s_pu (pu_assign rfl) ?_
 refine swl_sub _ (.cons (t := 1) rfl (.cons (t := 2) rfl (.cons (t := 7) rfl .nil))) ?_
 refine swl_nil ?_
 refine then_n ?_
 refine swp_seq ?_
 refine swp_seq ?_
 refine swp_region ?_
 refine s_pu (pu_move rfl) ?_
 refine s_pu (pu_move rfl) ?_
 refine s_pu (pu_min2 rfl rfl) ?_
 refine s_pu (pu_lss rfl rfl) ?_
 refine s_pu (pu_move rfl) ?_
 refine s_split 17 rfl (fun h17 => ?_) (fun h17 => ?_)
 ·skip
  refine s_off rfl rfl rfl ?_
  refine s_off rfl rfl rfl ?_
  refine s_off rfl rfl rfl ?_
  refine s_off rfl rfl rfl ?_
  refine s_off rfl rfl rfl ?_
  first | refine s_pu (pu_pick_t rfl rfl) ?_ | refine s_pu (pu_pick_f rfl rfl) ?_
  refine swl_sub _ (.cons (t := 23) rfl .nil) ?_
  refine swl_nil ?_
  refine then_n ?_
  refine swp_cond (b := _) rfl (fun h23 => ?_) (fun h23 => by cases h23)
  refine swp_seq ?_
  refine swp_region ?_
  refine s_pu (pu_assign rfl) ?_
  refine swl_sub _ (.cons (t := 6) rfl .nil) ?_
  refine swl_nil ?_
  refine then_n ?_
  refine swp_ret ?_
  refine then_r ?_
  have h17' := of_decide_eq_true h17
  exact done_ret [W.A s, ro μ] (.tmp rfl .nil) ⟨by show Value.int .i64 _ = _; unfold askedV; rw [if_pos (.inl h17')], rfl⟩ (by repeat (first | exact Split.nil | (apply Split.cons; (repeat (first | with_reducible exact Take.here | apply Take.there)))))
 ·skip
  refine s_on rfl rfl ?_
  refine s_pu (pu_move rfl) ?_
  refine s_on rfl rfl ?_
  refine s_pu (pu_move rfl) ?_
  refine s_on rfl rfl ?_
  refine s_pu (pu_max2 rfl rfl) ?_
  refine s_on rfl rfl ?_
  refine s_pu (pu_move rfl) ?_
  refine s_on rfl rfl ?_
  refine s_pu (pu_geq rfl rfl) ?_
  first | refine s_pu (pu_pick_t rfl rfl) ?_ | refine s_pu (pu_pick_f rfl rfl) ?_
  refine swl_sub _ (.cons (t := 23) rfl .nil) ?_
  refine swl_nil ?_
  refine then_n ?_
  refine swp_cond (b := _) rfl (fun h23 => ?_) (fun h23 => ?_)
  ·skip
   refine swp_seq ?_
   refine swp_region ?_
   refine s_pu (pu_assign rfl) ?_
   refine swl_sub _ (.cons (t := 6) rfl .nil) ?_
   refine swl_nil ?_
   refine then_n ?_
   refine swp_ret ?_
   refine then_r ?_
   have h23' := of_decide_eq_true h23
   exact done_ret [W.A s, ro μ] (.tmp rfl .nil) ⟨by show Value.int .i64 _ = _; unfold askedV; rw [if_pos (.inr h23')], rfl⟩ (by repeat (first | exact Split.nil | (apply Split.cons; (repeat (first | with_reducible exact Take.here | apply Take.there)))))
  ·skip
   refine swp_skip ?_
   refine then_n ?_
   refine swp_seq ?_
   refine swp_region ?_
   refine s_pu (pu_assign rfl) ?_
   refine swl_sub _ (.cons (t := 6) rfl .nil) ?_
   refine swl_nil ?_
   refine then_n ?_
   refine swp_ret ?_
   have h17' := of_decide_eq_false h17
   have h23' := of_decide_eq_false h23
   exact done_ret [W.A s, ro μ] (.tmp rfl .nil) ⟨by show Value.int .i64 _ = _; unfold askedV; rw [if_neg (fun h => h.elim h17' h23')], rfl⟩ (by repeat (first | exact Split.nil | (apply Split.cons; (repeat (first | with_reducible exact Take.here | apply Take.there)))))
theorem pu_min2_as {P : Program} {env : Env} {k : IntKind} {ts : Array TypeId} {x y : Operand} {a b : Int} (z : Int) (hx : evalE env x = some (.int k a)) (hy : evalE env y = some (.int k b)) (h : min a b = z) : Pu P env (.call { callee := .builtin .min, args := #[x, y], argTypes := ts }) (.int k z) := by
  have := pu_min2 (P := P) (ts := ts) hx hy
  rwa [h] at this
/-- what may be the virtual ancestor: tree, node, steps, error -/
def VirtR (W : VSrc) (a b limit : Int) (V : List En × Bool × Int × Int) : Prop :=
  (askedV W.N a b ≠ 0 ∧ V = ([], false, 0, askedV W.N a b)) ∨ (askedV W.N a b = 0 ∧ (((min (max limit 0) 4096).toNat = 0 ∧ V = ([], false, 0, 12)) ∨
    (0 < (min (max limit 0) 4096).toNat ∧ ∃ bs nf R, W.VS [a] b bs ∧ VFr W.VT bs nf ∧ VRun W.VS W.VT [nf] ((min (max limit 0) 4096).toNat - 1) R ∧
      V = match R with
        | (none, _) => ([], false, 0, 12)
        | (some (t, ok), left) => (t, ok, (((min (max limit 0) 4096).toNat - left : Nat) : Int), 0))))
theorem push0 (W : VSrc) (μ : PH) (h0 : Le W.μ0 μ) (hT : RowAt μ 1 0 tabV) (w : Nat) (s : W.σ) (m : Nat) (hs : W.B m s) (hm : m + 1 ≤ 4611686018427387904) (limit : Nat) (hlim : limit ≤ 4096) (v : Value) (a b : Int) (hv : Row μ v 1 1 (ivs [a])) :
    Spec Tryd.prog 24 [.pointer (some ⟨w, 0, none⟩), v, .int .i64 b] [blk w 82 [W.sv, .slice none 0 0, .int .i64 0, .int .i64 (limit : Nat)], W.A s, ro μ] (fun r L => ∃ e, r = .int .i64 e ∧ ∃ (s2 : W.σ) (μ2 : PH), Le μ μ2 ∧ W.B (m + 1) s2 ∧
      ((limit = 0 ∧ e = 12 ∧ L = [wkV w W.sv (.slice none 0 0) 0 limit, W.A s2, ro μ2]) ∨
       (0 < limit ∧ e = 0 ∧ ∃ (nv : VV) (A2 : Option Addr) (cap2 : Nat), (∃ bs, W.VS [a] b bs ∧ VFr W.VT bs nv.f) ∧ nv.Ok W.n W.U μ2 ∧ L = [wkV w W.sv (.slice A2 1 cap2) 1 limit, stA A2 cap2 [nv], treeA nv, naA nv, W.A s2, ro μ2]))) := by
  intro E w' hw
  have hpre : Ent [blk w 82 [W.sv, .slice none 0 0, .int .i64 0, .int .i64 (limit : Nat)], W.A s, ro μ] [naA (⟨.slice none 0 0, v, .slice none 0 0, ⟨[], [a], []⟩, false⟩ : VV), wkV w W.sv (.slice none 0 0) 0 limit, stA none 0 [], W.A s, ro μ] :=
    (own_nil_ent (e := 85) (n := 3)).trans ((naA_no (x := (⟨.slice none 0 0, v, .slice none 0 0, ⟨[], [a], []⟩, false⟩ : VV)) rfl).trans (show Ent (naA (⟨.slice none 0 0, v, .slice none 0 0, ⟨[], [a], []⟩, false⟩ : VV) :: stA none 0 [] :: wkV w W.sv (.slice none 0 0) 0 limit :: W.A s :: ro μ :: []) _ from Split.ent' (by repeat (first | exact Split.nil | (apply Split.cons; (repeat (first | with_reducible exact Take.here | apply Take.there)))))))
  refine (push_e W μ h0 hT w s m hs hm none 0 [] 0 limit (Nat.le_refl _) hlim ⟨.slice none 0 0, v, .slice none 0 0, ⟨[], [a], []⟩, false⟩ b (fun _ => hv) E w' (hw.ent hpre)).mono fun e w'' ⟨r, L', he, ⟨e2, hr, hp⟩, hh⟩ => ?_
  rcases hp with ⟨k1, k2, k3⟩ | ⟨k1, k2, nv, A2, cap2, s2, μ2, k3, k4, k5, k6, k7, k8⟩
  · subst k3
    refine ⟨r, _, he, ⟨e2, hr, s, μ, Le.refl _, W.Bm hs (by omega), .inl ⟨by omega, k2, rfl⟩⟩, (hh.ent Ent.drop).ent ?_⟩
    exact show Ent (wkV w W.sv (.slice none 0 0) 0 limit :: stA none 0 [] :: W.A s :: ro μ :: []) [wkV w W.sv (.slice none 0 0) 0 limit, W.A s, ro μ] from Split.ent' (by repeat (first | exact Split.nil | (apply Split.cons; (repeat (first | with_reducible exact Take.here | apply Take.there)))))
  · subst k8
    refine ⟨r, _, he, ⟨e2, hr, s2, μ2, k7, k6, .inr ⟨k1, k2, nv, A2, cap2, k4, k5, rfl⟩⟩, (hh.ent Ent.drop).ent ?_⟩
    exact (naA_no k3).trans (show Ent (naA nv :: wkV w W.sv (.slice A2 1 cap2) 1 limit :: stA A2 cap2 [nv] :: treeA nv :: W.A s2 :: ro μ2 :: []) _ from Split.ent' (by repeat (first | exact Split.nil | (apply Split.cons; (repeat (first | with_reducible exact Take.here | apply Take.there))))))
set_option maxHeartbeats 4000000 in
theorem virtual_spec (W : VSrc) (μ : PH) (h0 : Le W.μ0 μ) (hT : RowAt μ 1 0 tabV) (s : W.σ) (m : Nat) (hs : W.B m s) (hm : m + 4098 ≤ 4611686018427387904) (a b limit : Int) :
  Spec Tryd.prog 10 [W.sv, .int .i64 a, .int .i64 b, .int .i64 limit] [W.A s, ro μ] (fun r L => ∃ (V : List En × Bool × Int × Int) (tv : Value) (s' : W.σ) (μ' : PH), VirtR W a b limit V ∧ Le μ μ' ∧ W.B (m + 4097) s' ∧ TW W.U V.1 ∧ r = .tuple #[tv, .bool V.2.1, .int .i64 V.2.2.1, .int .i64 V.2.2.2] ∧
   L = [own 52 2 tv V.1.length (ens V.1), W.A s', ro μ']) := by
 obtain ⟨lim, hlim⟩ : ∃ k : Nat, min (max limit 0) 4096 = (k : Int) := ⟨(min (max limit 0) 4096).toNat, by omega⟩
 have hl4 : lim ≤ 4096 := by omega
 have hlt : (min (max limit 0) 4096).toNat = lim := by omega
 refine Spec.of 55 Tryd.func10 rfl rfl rfl ?_
 refine swp_seq ?_
 refine swp_region ?_
 refine s_pu (pu_assign rfl) ?_
 refine s_pu (pu_assign rfl) ?_
 refine s_pu (pu_assign rfl) ?_
 refine s_pu (pu_assign rfl) ?_
 refine swl_sub _ (.cons (t := 0) rfl (.cons (t := 1) rfl (.cons (t := 2) rfl (.cons (t := 3) rfl .nil)))) ?_
 refine swl_nil ?_
 refine then_n ?_
 refine swp_seq ?_
 refine swp_seq ?_
 refine swp_region ?_
 refine s_pu (pu_move rfl) ?_
 refine s_pu (pu_move rfl) ?_
 refine s_pu (pu_move rfl) ?_
 refine s_ef (ef_fn (vasked_spec W s μ a b) rfl rfl (by repeat (first | exact Split.nil | (apply Split.cons; (repeat (first | with_reducible exact Take.here | apply Take.there)))))) ?_
 rintro v19 L1 ⟨rfl, rfl⟩
 refine swl_app ?_
 refine s_pu (pu_assign rfl) ?_
 refine swl_sub _ (.cons (t := 0) rfl (.cons (t := 1) rfl (.cons (t := 2) rfl (.cons (t := 3) rfl (.cons (t := 12) rfl .nil))))) ?_
 refine swl_nil ?_
 refine then_n ?_
 refine swp_seq ?_
 refine swp_region ?_
 refine s_pu (pu_move rfl) ?_
 refine s_pu (pu_neq rfl rfl) ?_
 refine swl_sub _ (.cons (t := 0) rfl (.cons (t := 1) rfl (.cons (t := 2) rfl (.cons (t := 3) rfl (.cons (t := 12) rfl (.cons (t := 21) rfl .nil)))))) ?_
 refine swl_nil ?_
 refine then_n ?_
 refine swp_cond (b := _) rfl (fun h21 => ?_) (fun h21 => ?_)
 ·skip
  refine swp_seq ?_
  refine swp_region ?_
  refine s_pu (pu_move rfl) ?_
  refine s_pu (pu_assign rfl) ?_
  refine s_pu (pu_assign rfl) ?_
  refine s_pu (pu_assign rfl) ?_
  refine s_pu (pu_assign rfl) ?_
  refine swl_sub _ (.cons (t := 8) rfl (.cons (t := 9) rfl (.cons (t := 10) rfl (.cons (t := 11) rfl .nil)))) ?_
  refine swl_nil ?_
  refine then_n ?_
  refine swp_ret ?_
  refine then_r ?_
  have h21' : askedV W.N a b ≠ 0 := fun e => by rw [e] at h21; exact absurd h21 (by decide)
  exact done_retE [own 52 2 (.slice none 0 0) 0 [], W.A s, ro μ] (.tmp rfl (.tmp rfl (.tmp rfl (.tmp rfl .nil)))) ⟨([], false, 0, askedV W.N a b), _, s, μ, .inl ⟨h21', rfl⟩, Le.refl _, W.Bm hs (by omega), TW.nil _, rfl, rfl⟩ own_nil_ent
 ·skip
  have h21' : askedV W.N a b = 0 := by
   by_cases e : askedV W.N a b = 0
   ·exact e
   ·rw [decide_eq_false e] at h21; cases h21
  refine swp_skip ?_
  refine then_n ?_
  refine swp_seq ?_
  refine swp_region ?_
  refine s_pu (pu_move rfl) ?_
  refine s_pu (pu_move rfl) ?_
  refine s_pu (pu_max2 rfl rfl) ?_
  refine s_pu (pu_min2_as (lim : Int) rfl rfl hlim) ?_
  refine s_pu (pu_bld (qs := [(0, _), (3, _)]) rfl) ?_
  refine s_ef (ef_box rfl rfl) ?_
  intro b28
  refine s_pu (pu_assign rfl) ?_
  refine swl_sub _ (.cons (t := 1) rfl (.cons (t := 2) rfl (.cons (t := 13) rfl .nil))) ?_
  refine swl_nil ?_
  refine then_n ?_
  refine swp_seq ?_
  refine swp_region ?_
  refine s_pu (pu_move rfl) ?_
  refine s_pu (pu_move rfl) ?_
  refine s_ef (ef_bldS (qs := [(0, _)]) rfl rfl rfl) ?_
  intro b31
  refine s_pu (pu_move rfl) ?_
  refine swl_share (b := b31) (μ := μ) (by repeat (first | exact Split.nil | (apply Split.cons; (repeat (first | with_reducible exact Take.here | apply Take.there))))) fun μ1 h1 k1 => ?_
  have r2 : Row μ1 (.slice (some ⟨b31, 0, none⟩) 1 1) 1 1 (ivs [a]) := row_of_blk (n := 1) (l := 1) (cs := [a].flatMap (icsk .i64)) k1 (by rfl) (by decide)
  refine s_ef (ef_fn (push0 W μ1 (h0.trans h1) (hT.le h1) b28 s m hs (by omega) lim hl4 _ a b r2) rfl rfl (by repeat (first | exact Split.nil | (apply Split.cons; (repeat (first | with_reducible exact Take.here | apply Take.there)))))) ?_
  rintro v33 L1 ⟨e, rfl, s2, μ2, h2, hs2, hp⟩
  skip
  refine s_pu (pu_assign rfl) ?_
  refine swl_sub _ (.cons (t := 13) rfl (.cons (t := 14) rfl .nil)) ?_
  refine swl_nil ?_
  refine then_n ?_
  refine swp_seq ?_
  refine swp_seq ?_
  refine swp_region ?_
  refine s_pu (pu_move rfl) ?_
  refine s_pu (pu_neq rfl rfl) ?_
  refine swl_sub _ (.cons (t := 13) rfl (.cons (t := 14) rfl (.cons (t := 35) rfl .nil))) ?_
  refine swl_nil ?_
  refine then_n ?_
  refine swp_cond (b := _) rfl (fun h35 => ?_) (fun h35 => ?_)
  ·skip
   refine swp_seq ?_
   refine swp_region ?_
   refine s_pu (pu_move rfl) ?_
   refine s_pu (pu_assign rfl) ?_
   refine s_pu (pu_assign rfl) ?_
   refine s_pu (pu_assign rfl) ?_
   refine s_pu (pu_assign rfl) ?_
   refine swl_sub _ (.cons (t := 8) rfl (.cons (t := 9) rfl (.cons (t := 10) rfl (.cons (t := 11) rfl .nil)))) ?_
   refine swl_nil ?_
   refine then_n ?_
   refine swp_ret ?_
   refine then_r ?_
   have h35' : e ≠ 0 := fun e1 => by rw [e1] at h35; exact absurd h35 (by decide)
   rcases hp with ⟨k1, rfl, rfl⟩ | ⟨_, k2, _⟩
   ·simp only [List.cons_append, List.nil_append]
    exact done_retE [own 52 2 (.slice none 0 0) 0 [], W.A s2, ro μ2] (.tmp rfl (.tmp rfl (.tmp rfl (.tmp rfl .nil)))) ⟨([], false, 0, 12), _, s2, μ2, .inr ⟨h21', .inl ⟨by omega, rfl⟩⟩, h1.trans h2, W.Bm hs2 (by omega), TW.nil _, rfl, rfl⟩ (own_nil_ent.trans (Split.ent' (K := [own 52 2 (.slice none 0 0) 0 [], W.A s2, ro μ2]) (by repeat (first | exact Split.nil | (apply Split.cons; (repeat (first | with_reducible exact Take.here | apply Take.there)))))))
   ·exact absurd k2 h35'
  ·skip
   have h35' : e = 0 := by
    by_cases e1 : e = 0
    ·exact e1
    ·rw [decide_eq_false e1] at h35; cases h35
   obtain ⟨k1, nv, A2, cap2, k3, k4, rfl⟩ : 0 < lim ∧ ∃ (nv : VV) (A2 : Option Addr) (cap2 : Nat), (∃ bs, W.VS [a] b bs ∧ VFr W.VT bs nv.f) ∧ nv.Ok W.n W.U μ2 ∧ L1 = [wkV b28 W.sv (.slice A2 1 cap2) 1 lim, stA A2 cap2 [nv], treeA nv, naA nv, W.A s2, ro μ2] := by
    rcases hp with ⟨_, k2, _⟩ | ⟨k1, _, k3⟩
    ·rw [k2] at h35'; cases h35'
    ·exact ⟨k1, k3⟩
   clear hp
   obtain ⟨bs, kb1, kb2⟩ := k3
   simp only [List.cons_append, List.nil_append]
   refine swp_skip ?_
   refine then_n ?_
   refine swp_seq ?_
   refine swp_region ?_
   refine s_pu (pu_move rfl) ?_
   refine s_ef (ef_fn (run_e W μ2 (h0.trans (h1.trans h2)) (hT.le (h1.trans h2)) b28 s2 m lim hl4 (by omega) A2 cap2 nv 1 hs2 (Nat.le_refl _) (by omega) k4) rfl rfl (by repeat (first | exact Split.nil | (apply Split.cons; (repeat (first | with_reducible exact Take.here | apply Take.there)))))) ?_
   rintro v39 L2 ⟨A0, A1, A3, l0, l1, l2, c0, c1, c2, e3, rfl, s3, μ3, R, h3, hs3, hR, hp⟩
   skip
   refine s_pu (pu_move rfl) ?_
   first | refine s_pu (pu_extractL rfl) ?_ | refine s_pu (pu_extract rfl rfl) ?_
   first | refine s_pu (pu_extractL rfl) ?_ | refine s_pu (pu_extract rfl rfl) ?_
   refine s_ef (ef_alloc) ?_
   intro b15
   refine s_ef0 (ef_storeA rfl rfl rfl rfl) ?_
   refine s_pu (pu_assign rfl) ?_
   refine swl_sub _ (.cons (t := 13) rfl (.cons (t := 14) rfl (.cons (t := 15) rfl .nil))) ?_
   refine swl_nil ?_
   refine then_n ?_
   refine swp_seq ?_
   refine swp_seq ?_
   refine swp_region ?_
   refine s_pu (pu_move rfl) ?_
   refine s_pu (pu_neq rfl rfl) ?_
   refine swl_sub _ (.cons (t := 13) rfl (.cons (t := 14) rfl (.cons (t := 15) rfl (.cons (t := 43) rfl .nil)))) ?_
   refine swl_nil ?_
   refine then_n ?_
   refine swp_cond (b := _) rfl (fun h43 => ?_) (fun h43 => ?_)
   ·skip
    refine swp_seq ?_
    refine swp_region ?_
    refine s_pu (pu_move rfl) ?_
    refine s_pu (pu_assign rfl) ?_
    refine s_pu (pu_assign rfl) ?_
    refine s_pu (pu_assign rfl) ?_
    refine s_pu (pu_assign rfl) ?_
    refine swl_sub _ (.cons (t := 8) rfl (.cons (t := 9) rfl (.cons (t := 10) rfl (.cons (t := 11) rfl .nil)))) ?_
    refine swl_nil ?_
    refine then_n ?_
    refine swp_ret ?_
    refine then_r ?_
    have h43' : e3 ≠ 0 := fun e1 => by rw [e1] at h43; exact absurd h43 (by decide)
    rcases hp with ⟨k1, rfl, rfl⟩ | ⟨k2, _⟩
    ·obtain ⟨q1, q2⟩ := R
     dsimp only at k1
     subst k1
     simp only [List.cons_append, List.nil_append]
     exact done_retE [own 52 2 (.slice none 0 0) 0 [], W.A s3, ro μ3] (.tmp rfl (.tmp rfl (.tmp rfl (.tmp rfl .nil)))) ⟨([], false, 0, 12), _, s3, μ3, .inr ⟨h21', .inr ⟨by omega, bs, nv.f, (none, q2), kb1, kb2, by rw [hlt]; exact hR, rfl⟩⟩, h1.trans (h2.trans h3), W.Bm hs3 (by omega), TW.nil _, rfl, rfl⟩ (own_nil_ent.trans (Split.ent' (K := [own 52 2 (.slice none 0 0) 0 [], W.A s3, ro μ3]) (by repeat (first | exact Split.nil | (apply Split.cons; (repeat (first | with_reducible exact Take.here | apply Take.there)))))))
    ·exact absurd k2 h43'
   ·skip
    have h43' : e3 = 0 := by
     by_cases e1 : e3 = 0
     ·exact e1
     ·rw [decide_eq_false e1] at h43; cases h43
    obtain ⟨t, st, steps, q1, q2, q3, rfl, rfl⟩ : ∃ (t : List En) (st : Value) (steps : Nat), R = (some (t, decide (0 < l1)), lim - steps) ∧ steps ≤ lim ∧ TW W.U t ∧ l2 = t.length ∧ L2 = [wkV b28 W.sv st steps lim, own 52 2 (.slice A3 l2 c2) l2 (ens t), W.A s3, ro μ3] := by
     rcases hp with ⟨_, k2, _⟩ | ⟨_, k3⟩
     ·rw [k2] at h43'; cases h43'
     ·exact k3
    clear hp
    subst q1
    have hVR : VirtR W a b limit (t, decide (0 < l1), ((steps : Nat) : Int), 0) := .inr ⟨h21', .inr ⟨by omega, bs, nv.f, _, kb1, kb2, by rw [hlt]; exact hR, by
     show _ = (t, decide (0 < l1), (((min (max limit 0) 4096).toNat - (lim - steps) : Nat) : Int), (0 : Int))
     rw [hlt, show lim - (lim - steps) = steps by omega]⟩⟩
    simp only [List.cons_append, List.nil_append]
    refine swp_skip ?_
    refine then_n ?_
    refine swp_seq ?_
    refine swp_draw [1, 3, 9] _ [] (by simp only [List.append_nil]; exact Ent.refl _) (by kernel_rfl) ?_
    first | refine d_pu 0 rfl (pu_fieldAddr0 rfl) (by kernel_rfl) (by kernel_rfl) (by kernel_rfl) ?_ | refine d_pu 0 rfl (pu_fieldAddr rfl) (by kernel_rfl) (by kernel_rfl) (by kernel_rfl) ?_
    refine d_rd 1 rfl (rd_load rfl rfl) rfl (by kernel_rfl) (by kernel_rfl) (by kernel_rfl) ?_
    first | refine d_pu 2 rfl (pu_fieldAddr0 rfl) (by kernel_rfl) (by kernel_rfl) (by kernel_rfl) ?_ | refine d_pu 2 rfl (pu_fieldAddr rfl) (by kernel_rfl) (by kernel_rfl) (by kernel_rfl) ?_
    refine d_rd 3 rfl (rd_load rfl rfl) rfl (by kernel_rfl) (by kernel_rfl) (by kernel_rfl) ?_
    refine d_pu 4 rfl (pu_len rfl) (by kernel_rfl) (by kernel_rfl) (by kernel_rfl) ?_
    refine d_pu 5 rfl (pu_gtr rfl rfl) (by kernel_rfl) (by kernel_rfl) (by kernel_rfl) ?_
    refine d_pu 6 rfl (pu_move rfl) (by kernel_rfl) (by kernel_rfl) (by kernel_rfl) ?_
    first | refine d_pu 7 rfl (pu_nilCheck rfl) (by kernel_rfl) (by kernel_rfl) (by kernel_rfl) ?_ | refine d_pu 7 rfl (pu_nilCheck_fn rfl) (by kernel_rfl) (by kernel_rfl) (by kernel_rfl) ?_ | refine d_pu 7 rfl (pu_nilCheck_if rfl) (by kernel_rfl) (by kernel_rfl) (by kernel_rfl) ?_
    first | refine d_pu 8 rfl (pu_fieldAddr0 rfl) (by kernel_rfl) (by kernel_rfl) (by kernel_rfl) ?_ | refine d_pu 8 rfl (pu_fieldAddr rfl) (by kernel_rfl) (by kernel_rfl) (by kernel_rfl) ?_
    refine d_rd 9 rfl (rd_load rfl rfl) rfl (by kernel_rfl) (by kernel_rfl) (by kernel_rfl) ?_
    refine d_pu 10 rfl (pu_assign rfl) (by kernel_rfl) (by kernel_rfl) (by kernel_rfl) ?_
    refine d_pu 11 rfl (pu_assign rfl) (by kernel_rfl) (by kernel_rfl) (by kernel_rfl) ?_
    refine d_pu 12 rfl (pu_assign rfl) (by kernel_rfl) (by kernel_rfl) (by kernel_rfl) ?_
    refine d_pu 13 rfl (pu_assign rfl) (by kernel_rfl) (by kernel_rfl) (by kernel_rfl) ?_
    refine d_sub _ (.cons (t := 8) rfl (.cons (t := 9) rfl (.cons (t := 10) rfl (.cons (t := 11) rfl .nil)))) ?_
    first | refine d_nilt (by kernel_rfl) ?_ | refine d_nilf (by kernel_rfl) ?_
    refine then_n ?_
    refine swp_ret ?_
    refine done_retE [own 52 2 (.slice A3 t.length c2) t.length (ens t), W.A s3, ro μ3] (.tmp rfl (.tmp rfl (.tmp rfl (.tmp rfl .nil)))) ⟨_, _, s3, μ3, hVR, h1.trans (h2.trans h3), W.Bm hs3 (by omega), q3, ?_, rfl⟩ (Split.ent' (by repeat (first | exact Split.nil | (apply Split.cons; (repeat (first | with_reducible exact Take.here | apply Take.there))))))
    show Value.tuple #[_, .bool _, _, _] = _
    simp
theorem virt_in {W : VSrc} {a b limit : Int} {V : List En × Bool × Int × Int} (hV : VirtR W a b limit V) (h : V.2.2.2 = 0) : ∃ i j : Nat, a = (i : Int) ∧ b = (j : Int) ∧ i < W.n ∧ j < W.n := by
  have h1 : askedV W.N a b = 0 := by
    by_cases e : askedV W.N a b = 0
    · exact e
    · rcases hV with ⟨_, rfl⟩ | ⟨k, _⟩
      · exact absurd h e
      · exact k
  unfold askedV at h1
  have h2 : ¬ (min a b < 0 ∨ min W.N 65536 ≤ max a b) := fun hc => by rw [if_pos hc] at h1; cases h1
  have h3 := W.hN
  exact ⟨a.toNat, b.toNat, by omega, by omega, by omega, by omega⟩
/-- the merge over it: tree, conflicts, steps, error -/
def MergeR (W : VSrc) (a b limit : Int) (M : List En × List Cf × Int × Int) : Prop :=
  ∃ V, VirtR W a b limit V ∧ ((V.2.2.2 ≠ 0 ∧ M = ([], [], 0, V.2.2.2)) ∨ (V.2.2.2 = 0 ∧ ∃ ta tb, W.VT a ta ∧ W.VT b tb ∧ M = (VM V.1 ta tb, cfR (rowsB V.1 ta tb), V.2.2.1, 0)))
set_option maxHeartbeats 4000000 in
theorem vmerge_spec (W : VSrc) (μ : PH) (h0 : Le W.μ0 μ) (hT : RowAt μ 1 0 tabV) (s : W.σ) (m : Nat) (hs : W.B m s) (hm : m + 4098 ≤ 4611686018427387904) (a b limit : Int) :
  Spec Tryd.prog 12 [W.sv, .int .i64 a, .int .i64 b, .int .i64 limit] [W.A s, ro μ] (fun r L => ∃ (M : List En × List Cf × Int × Int) (tv cv : Value) (s' : W.σ) (μ' : PH), MergeR W a b limit M ∧ Le μ μ' ∧ W.B (m + 4097) s' ∧ TW W.U M.1 ∧ r = .tuple #[tv, cv, .int .i64 M.2.2.1, .int .i64 M.2.2.2] ∧
   L = [own 52 2 tv M.1.length (ens M.1), own 96 4 cv M.2.1.length (cfs M.2.1), W.A s', ro μ']) := by
 refine Spec.of 45 Tryd.func12 rfl rfl rfl ?_
 refine swp_seq ?_
 refine swp_region ?_
 refine s_pu (pu_assign rfl) ?_
 refine s_pu (pu_assign rfl) ?_
 refine s_pu (pu_assign rfl) ?_
 refine s_pu (pu_assign rfl) ?_
 refine swl_sub _ (.cons (t := 0) rfl (.cons (t := 1) rfl (.cons (t := 2) rfl (.cons (t := 3) rfl .nil)))) ?_
 refine swl_nil ?_
 refine then_n ?_
 refine swp_seq ?_
 refine swp_region ?_
 refine s_pu (pu_move rfl) ?_
 refine s_pu (pu_move rfl) ?_
 refine s_pu (pu_move rfl) ?_
 refine s_pu (pu_move rfl) ?_
 refine s_ef (ef_fn (virtual_spec W μ h0 hT s m hs hm a b limit) rfl rfl (by repeat (first | exact Split.nil | (apply Split.cons; (repeat (first | with_reducible exact Take.here | apply Take.there)))))) ?_
 rintro v23 L1 ⟨V, tv, s1, μ1, hVR, h1, hs1, ht, rfl, rfl⟩
 refine swl_app ?_
 refine s_pu (pu_move rfl) ?_
 first | refine s_pu (pu_extractL rfl) ?_ | refine s_pu (pu_extract rfl rfl) ?_
 first | refine s_pu (pu_extractL rfl) ?_ | refine s_pu (pu_extract rfl rfl) ?_
 first | refine s_pu (pu_extractL rfl) ?_ | refine s_pu (pu_extract rfl rfl) ?_
 first | refine s_pu (pu_extractL rfl) ?_ | refine s_pu (pu_extract rfl rfl) ?_
 refine s_pu (pu_assign rfl) ?_
 refine s_pu (pu_assign rfl) ?_
 refine s_pu (pu_assign rfl) ?_
 refine s_pu (pu_assign rfl) ?_
 refine swl_sub _ (.cons (t := 0) rfl (.cons (t := 1) rfl (.cons (t := 2) rfl (.cons (t := 12) rfl (.cons (t := 14) rfl (.cons (t := 15) rfl .nil)))))) ?_
 refine swl_nil ?_
 refine then_n ?_
 refine swp_seq ?_
 refine swp_seq ?_
 refine swp_region ?_
 refine s_pu (pu_move rfl) ?_
 refine s_pu (pu_neq rfl rfl) ?_
 refine swl_sub _ (.cons (t := 0) rfl (.cons (t := 1) rfl (.cons (t := 2) rfl (.cons (t := 12) rfl (.cons (t := 14) rfl (.cons (t := 15) rfl (.cons (t := 29) rfl .nil))))))) ?_
 refine swl_nil ?_
 refine then_n ?_
 refine swp_cond (b := _) rfl (fun h29 => ?_) (fun h29 => ?_)
 ·skip
  refine swp_seq ?_
  refine swp_region ?_
  refine s_pu (pu_move rfl) ?_
  refine s_pu (pu_assign rfl) ?_
  refine s_pu (pu_assign rfl) ?_
  refine s_pu (pu_assign rfl) ?_
  refine s_pu (pu_assign rfl) ?_
  refine swl_sub _ (.cons (t := 8) rfl (.cons (t := 9) rfl (.cons (t := 10) rfl (.cons (t := 11) rfl .nil)))) ?_
  refine swl_nil ?_
  refine then_n ?_
  refine swp_ret ?_
  refine then_r ?_
  have h29' : V.2.2.2 ≠ 0 := fun e => by rw [e] at h29; exact absurd h29 (by decide)
  exact done_retE [own 52 2 (.slice none 0 0) 0 [], own 96 4 (.slice none 0 0) 0 [], W.A s1, ro μ1] (.tmp rfl (.tmp rfl (.tmp rfl (.tmp rfl .nil)))) ⟨([], [], 0, V.2.2.2), _, _, s1, μ1, ⟨V, hVR, .inl ⟨h29', rfl⟩⟩, h1, hs1, TW.nil _, rfl, rfl⟩ (own_nil_ent.trans (own_nil_ent.trans (Split.ent' (K := [own 52 2 (.slice none 0 0) 0 [], own 96 4 (.slice none 0 0) 0 [], W.A s1, ro μ1]) (by repeat (first | exact Split.nil | (apply Split.cons; (repeat (first | with_reducible exact Take.here | apply Take.there))))))))
 ·skip
  have h29' : V.2.2.2 = 0 := by
   by_cases e : V.2.2.2 = 0
   ·exact e
   ·rw [decide_eq_false e] at h29; cases h29
  obtain ⟨i, j, ha, hb, hi, hj⟩ := virt_in hVR h29'
  subst ha hb
  refine swp_share_own (e := 52) (n := 2) (v := tv) (μ := μ1) (by repeat (first | exact Split.nil | (apply Split.cons; (repeat (first | with_reducible exact Take.here | apply Take.there))))) fun μ2 h2 rT => ?_
  have h02 := h0.trans (h1.trans h2)
  refine swp_skip ?_
  refine then_n ?_
  refine swp_seq ?_
  refine swp_region ?_
  refine s_pu (pu_move rfl) ?_
  refine s_pu (pu_move rfl) ?_
  refine s_pu (pu_move rfl) ?_
  refine s_ef (ef_invS rfl W.hd (W.contentR s1 (m + 4097) μ2 i h02 hs1 hi) rfl (by repeat (first | exact Split.nil | (apply Split.cons; (repeat (first | with_reducible exact Take.here | apply Take.there)))))) ?_
  rintro v35 L1 ⟨ta, s35, μ3, hta, hs35, h3, rA, rfl⟩
  refine swl_app ?_
  refine s_pu (pu_move rfl) ?_
  refine s_pu (pu_move rfl) ?_
  refine s_ef (ef_invS rfl W.hd (W.contentR s35 (m + 4097) μ3 j (h02.trans h3) hs35 hj) rfl (by repeat (first | exact Split.nil | (apply Split.cons; (repeat (first | with_reducible exact Take.here | apply Take.there)))))) ?_
  rintro v38 L1 ⟨tb, s38, μ4, htb, hs38, h4, rB, rfl⟩
  refine swl_app ?_
  refine s_ef (ef_fn (three_form μ4 tv v35 v38 V.1 ta tb (rT.le (h3.trans h4)) (rA.le h4) rB ⟨by have := ht.len; omega, by have := (W.vt hta).len; omega, by have := (W.vt htb).len; omega⟩ ⟨ht.u32, (W.vt hta).u32, (W.vt htb).u32⟩) rfl rfl (by repeat (first | exact Split.nil | (apply Split.cons; (repeat (first | with_reducible exact Take.here | apply Take.there)))))) ?_
  rintro v39 L1 ⟨A8, k8, v9, μ5, h5, rfl, rfl⟩
  refine swl_app ?_
  refine s_pu (pu_move rfl) ?_
  first | refine s_pu (pu_extractL rfl) ?_ | refine s_pu (pu_extract rfl rfl) ?_
  first | refine s_pu (pu_extractL rfl) ?_ | refine s_pu (pu_extract rfl rfl) ?_
  refine s_pu (pu_assign rfl) ?_
  refine s_pu (pu_assign rfl) ?_
  refine swl_sub _ (.cons (t := 14) rfl (.cons (t := 16) rfl (.cons (t := 17) rfl .nil))) ?_
  refine swl_nil ?_
  refine then_n ?_
  refine swp_seq ?_
  refine swp_region ?_
  refine s_pu (pu_move rfl) ?_
  refine s_pu (pu_move rfl) ?_
  refine s_pu (pu_move rfl) ?_
  refine s_pu (pu_assign rfl) ?_
  refine s_pu (pu_assign rfl) ?_
  refine s_pu (pu_assign rfl) ?_
  refine s_pu (pu_assign rfl) ?_
  refine swl_sub _ (.cons (t := 8) rfl (.cons (t := 9) rfl (.cons (t := 10) rfl (.cons (t := 11) rfl .nil)))) ?_
  refine swl_nil ?_
  refine then_n ?_
  refine swp_ret ?_
  exact done_retE [own 52 2 (.slice A8 (VM V.1 ta tb).length k8) (VM V.1 ta tb).length (ens (VM V.1 ta tb)), own 96 4 v9 (cfR (rowsB V.1 ta tb)).length (cfs (cfR (rowsB V.1 ta tb))), W.A s38, ro μ5] (.tmp rfl (.tmp rfl (.tmp rfl (.tmp rfl .nil)))) ⟨_, _, _, s38, μ5, ⟨V, hVR, .inr ⟨h29', ta, tb, hta, htb, rfl⟩⟩, h1.trans (h2.trans (h3.trans (h4.trans h5))), hs38, TW.merge W.hU ht (W.vt hta) (W.vt htb), rfl, rfl⟩ (Split.ent' (by repeat (first | exact Split.nil | (apply Split.cons; (repeat (first | with_reducible exact Take.here | apply Take.there))))))
end SX.XV
namespace SX
open Go Go.Proofs
instance viaWilC : TVia Tryd.prog 59 "Commits" 56 0 (some (115, true)) := ⟨by kernel_rfl⟩
instance viaWilP : TVia Tryd.prog 59 "Parents" 56 0 (some (117, true)) := ⟨by kernel_rfl⟩
theorem pu_rem_ask {P : Program} {env : Env} {k : IntKind} {t u : TypeId} {x y : Operand} {a b c : Int} (hx : evalE env x = some (.int k a)) (hy : evalE env y = some (.int k b)) (h0 : b ≠ 0) (hc : a.tmod b = c) : Pu P env (.binOp .rem t x y u) (.int k c) := by
  rw [← hc]; exact pu_rem hx hy h0
abbrev gTx (t : Value × List En) : List Value := [t.1]
/-- the law's source that says anything: what does not change -/
structure WD where
  p : Nat
  N : Int
  vG : Value
  vN : Value
  vT : Value
  G : List (Value × List Int)
  T : List (Value × List En)
def WD.A (W : WD) (c : Int) : Assn := blk W.p 61 [.int .i64 W.N, W.vG, W.vN, .int .i64 c, W.vT]
structure WD.Ok (W : WD) (μ : PH) : Prop where
  hG : Graph μ W.vG W.G
  hr : ∀ x ∈ W.G, x.2.length ≤ 1000000
  hT : Row μ W.vT 1 W.T.length (W.T.flatMap gTx)
  hTr : ∀ t ∈ W.T, Row μ t.1 2 t.2.length (ens t.2) ∧ t.2.length ≤ 20 ∧ U32s t.2
  hTn : W.T.length ≤ 10
theorem WD.Ok.le {W : WD} {μ μ' : PH} (h : W.Ok μ) (k : Le μ μ') : W.Ok μ' := ⟨h.hG.le k, h.hr, h.hT.le k, fun t ht => ⟨(h.hTr t ht).1.le k, (h.hTr t ht).2⟩, h.hTn⟩
def WD.U (W : WD) : List ByteArray := W.T.flatMap fun t => t.2.map (·.1)
theorem WD.U_len {W : WD} {μ : PH} (h : W.Ok μ) : W.U.length ≤ 1000000 := by
  have hn := h.hTn
  have : ∀ (l : List (Value × List En)), (∀ t ∈ l, t.2.length ≤ 20) → (l.flatMap fun t => t.2.map (·.1)).length ≤ l.length * 20 := fun l => by
    induction l with
    | nil => intro _; exact Nat.zero_le _
    | cons t l ih =>
      intro hl
      rw [List.flatMap_cons, List.length_append, List.length_map, List.length_cons]
      have := ih fun t ht => hl t (List.mem_cons_of_mem _ ht)
      have := hl t List.mem_cons_self
      omega
  have := this W.T fun t ht => (h.hTr t ht).2.1
  unfold WD.U
  omega
theorem wcom_spec (W : WD) (c : Int) : Spec Tryd.prog 115 [.pointer (some ⟨W.p, 0, none⟩)] [W.A c] (fun r L => r = .int .i64 W.N ∧ L = [W.A c]) := by
 unfold WD.A
 refine Spec.of 7 Tryd.func115 rfl rfl rfl ?_
 refine swp_seq ?_
 refine swp_region ?_
 refine s_pu (pu_assign rfl) ?_
 refine swl_sub _ (.cons (t := 0) rfl .nil) ?_
 refine swl_nil ?_
 refine then_n ?_
 refine swp_seq ?_
 refine swp_region ?_
 refine s_pu (pu_move rfl) ?_
 first | refine s_pu (pu_nilCheck rfl) ?_ | refine s_pu (pu_nilCheck_fn rfl) ?_ | refine s_pu (pu_nilCheck_if rfl) ?_
 first | refine s_pu (pu_fieldAddr0 rfl) ?_ | refine s_pu (pu_fieldAddr rfl) ?_
 refine s_rd (rd_load rfl rfl) ?_
 refine s_pu (pu_assign rfl) ?_
 refine swl_sub _ (.cons (t := 2) rfl .nil) ?_
 refine swl_nil ?_
 refine then_n ?_
 refine swp_ret ?_
 exact done_ret [blk W.p 61 [.int .i64 W.N, W.vG, W.vN, .int .i64 c, W.vT]] (.tmp rfl .nil) ⟨rfl, rfl⟩ (by repeat (first | exact Split.nil | (apply Split.cons; (repeat (first | with_reducible exact Take.here | apply Take.there)))))
theorem wrap_u64 (n : Int) : 0 ≤ IntKind.u64.wrap n ∧ IntKind.u64.wrap n < 18446744073709551616 := by
  unfold IntKind.wrap
  simp [IntKind.bits, IntKind.signed]
  omega
theorem tmod_in {a b : Int} (ha : 0 ≤ a) (hb : 0 < b) : ∃ k : Nat, a.tmod b = (k : Int) ∧ (k : Int) < b := by
  have h1 : 0 ≤ a.tmod b := Int.tmod_nonneg _ ha
  have h2 : a.tmod b < b := Int.tmod_lt_of_pos _ hb
  exact ⟨(a.tmod b).toNat, by omega, by omega⟩
set_option maxHeartbeats 2000000 in
theorem wpar_spec (W : WD) (μ : PH) (h : W.Ok μ) (c : Int) (n : Int) : Spec Tryd.prog 117 [.pointer (some ⟨W.p, 0, none⟩), .int .i64 n] [W.A c, ro μ] (fun r L => ∃ (l : List Int) (c' : Int) (μ' : PH), Le μ μ' ∧ l.length ≤ 1000000 ∧ Row μ' r 1 l.length (l.flatMap (icsk .i64)) ∧ L = [W.A c', ro μ']) := by
 unfold WD.A
 have hsm := h.hG.1.small
 refine Spec.of 35 Tryd.func117 rfl rfl rfl ?_
 refine swp_seq ?_
 refine swp_region ?_
 refine s_pu (pu_assign rfl) ?_
 refine swl_sub _ (.cons (t := 0) rfl (.cons (t := 1) rfl .nil)) ?_
 refine swl_nil ?_
 refine then_n ?_
 refine swp_seq ?_
 refine swp_region ?_
 refine s_pu (pu_move rfl) ?_
 first | refine s_pu (pu_nilCheck rfl) ?_ | refine s_pu (pu_nilCheck_fn rfl) ?_ | refine s_pu (pu_nilCheck_if rfl) ?_
 first | refine s_pu (pu_fieldAddr0 rfl) ?_ | refine s_pu (pu_fieldAddr rfl) ?_
 refine s_rd (rd_load rfl rfl) ?_
 refine s_pu (pu_add rfl rfl) ?_
 first | refine s_pu (pu_nilCheck rfl) ?_ | refine s_pu (pu_nilCheck_fn rfl) ?_ | refine s_pu (pu_nilCheck_if rfl) ?_
 first | refine s_pu (pu_fieldAddr0 rfl) ?_ | refine s_pu (pu_fieldAddr rfl) ?_
 refine s_ef0 (ef_store rfl rfl rfl) ?_
 refine swl_sub _ (.cons (t := 0) rfl (.cons (t := 1) rfl .nil)) ?_
 refine swl_nil ?_
 refine then_n ?_
 refine swp_seq ?_
 refine swp_seq ?_
 refine swp_region ?_
 refine s_pu (pu_move rfl) ?_
 first | refine s_pu (pu_nilCheck rfl) ?_ | refine s_pu (pu_nilCheck_fn rfl) ?_ | refine s_pu (pu_nilCheck_if rfl) ?_
 first | refine s_pu (pu_fieldAddr0 rfl) ?_ | refine s_pu (pu_fieldAddr rfl) ?_
 refine s_rd (rd_load rfl rfl) ?_
 refine s_pu (pu_len_row h.hG.1 rfl) ?_
 refine s_pu (pu_eql rfl rfl) ?_
 refine swl_sub _ (.cons (t := 0) rfl (.cons (t := 1) rfl (.cons (t := 17) rfl .nil))) ?_
 refine swl_nil ?_
 refine then_n ?_
 refine swp_cond (b := _) rfl (fun h17 => ?_) (fun h17 => ?_)
 ·skip
  refine swp_seq ?_
  refine swp_region ?_
  refine s_pu (pu_assign rfl) ?_
  refine swl_sub _ (.cons (t := 4) rfl .nil) ?_
  refine swl_nil ?_
  refine then_n ?_
  refine swp_ret ?_
  refine then_r ?_
  exact done_ret [blk W.p 61 [.int .i64 W.N, W.vG, W.vN, .int .i64 (IntKind.i64.wrap (c + 1)), W.vT], ro μ] (.tmp rfl .nil) ⟨[], _, μ, Le.refl _, Nat.zero_le _, Row.nil _ _, rfl⟩ (by repeat (first | exact Split.nil | (apply Split.cons; (repeat (first | with_reducible exact Take.here | apply Take.there)))))
 ·skip
  have h17' : 0 < W.G.length := by have := of_decide_eq_false h17; omega
  obtain ⟨k, hk, hkl⟩ := tmod_in (wrap_u64 n).1 (show (0 : Int) < (W.G.length : Int) by omega)
  obtain ⟨gb, off, cap, x, hv, hx, hxc, hxr, hnx⟩ := row_at h.hG (show k < W.G.length by omega)
  have hxl := h.hr x (List.mem_of_getElem? hx)
  refine swp_skip ?_
  refine then_n ?_
  refine swp_seq ?_
  refine swp_draw [4, 10, 15] ([blk W.p 61 [.int .i64 W.N, W.vG, W.vN, .int .i64 (IntKind.i64.wrap (c + 1)), W.vT], ro μ]) ([]) (Split.ent (by repeat (first | exact Split.nil | (apply Split.cons; (repeat (first | with_reducible exact Take.here | apply Take.there)))))) (by kernel_rfl) ?_
  refine d_pu 1 rfl (pu_move rfl) (by kernel_rfl) (by kernel_rfl) (by kernel_rfl) ?_
  first | refine d_pu 2 rfl (pu_nilCheck rfl) (by kernel_rfl) (by kernel_rfl) (by kernel_rfl) ?_ | refine d_pu 2 rfl (pu_nilCheck_fn rfl) (by kernel_rfl) (by kernel_rfl) (by kernel_rfl) ?_ | refine d_pu 2 rfl (pu_nilCheck_if rfl) (by kernel_rfl) (by kernel_rfl) (by kernel_rfl) ?_
  first | refine d_pu 3 rfl (pu_fieldAddr0 rfl) (by kernel_rfl) (by kernel_rfl) (by kernel_rfl) ?_ | refine d_pu 3 rfl (pu_fieldAddr rfl) (by kernel_rfl) (by kernel_rfl) (by kernel_rfl) ?_
  refine d_rd 4 rfl (rd_load rfl rfl) rfl (by kernel_rfl) (by kernel_rfl) (by kernel_rfl) ?_
  refine d_pu 5 rfl (pu_move rfl) (by kernel_rfl) (by kernel_rfl) (by kernel_rfl) ?_
  refine d_pu 6 rfl (pu_conv rfl) (by kernel_rfl) (by kernel_rfl) (by kernel_rfl) ?_
  refine d_pu 7 rfl (pu_move rfl) (by kernel_rfl) (by kernel_rfl) (by kernel_rfl) ?_
  first | refine d_pu 8 rfl (pu_nilCheck rfl) (by kernel_rfl) (by kernel_rfl) (by kernel_rfl) ?_ | refine d_pu 8 rfl (pu_nilCheck_fn rfl) (by kernel_rfl) (by kernel_rfl) (by kernel_rfl) ?_ | refine d_pu 8 rfl (pu_nilCheck_if rfl) (by kernel_rfl) (by kernel_rfl) (by kernel_rfl) ?_
  first | refine d_pu 9 rfl (pu_fieldAddr0 rfl) (by kernel_rfl) (by kernel_rfl) (by kernel_rfl) ?_ | refine d_pu 9 rfl (pu_fieldAddr rfl) (by kernel_rfl) (by kernel_rfl) (by kernel_rfl) ?_
  refine d_rd 10 rfl (rd_load rfl rfl) rfl (by kernel_rfl) (by kernel_rfl) (by kernel_rfl) ?_
  refine d_pu 11 rfl (pu_len_row h.hG.1 rfl) (by kernel_rfl) (by kernel_rfl) (by kernel_rfl) ?_
  refine d_pu 12 rfl (pu_conv_u64 rfl (by omega) (by omega)) (by kernel_rfl) (by kernel_rfl) (by kernel_rfl) ?_
  refine d_pu 13 rfl (pu_rem_ask rfl rfl (by omega) hk) (by kernel_rfl) (by kernel_rfl) (by kernel_rfl) ?_
  refine d_pu 14 rfl (pu_indexAddr (off + k * 1) (congrArg some hv) rfl (by omega) (by omega) (by rw [Int.toNat_natCast])) (by kernel_rfl) (by kernel_rfl) (by kernel_rfl) ?_
  refine d_rd 15 rfl (rd_ro rfl hxc) rfl (by kernel_rfl) (by kernel_rfl) (by kernel_rfl) ?_
  refine d_eft 0 rfl (by kernel_rfl) (ef_bldS (qs := []) rfl rfl rfl) ?_
  intro b18
  refine ⟨[own 3 1 (.slice (some ⟨b18, 0, none⟩) 0 0) 0 []], (own_empty (e := 3) (n := 1)).trans (Split.ent' (K := [blk W.p 61 [.int .i64 W.N, W.vG, W.vN, .int .i64 (IntKind.i64.wrap (c + 1)), W.vT], ro μ, own 3 1 (.slice (some ⟨b18, 0, none⟩) 0 0) 0 []]) (by repeat (first | exact Split.nil | (apply Split.cons; (repeat (first | with_reducible exact Take.here | apply Take.there)))))), ?_⟩
  first | refine d_fint 16 rfl (by kernel_rfl) (by kernel_rfl) (ef_append_ro hxr rfl rfl (by repeat (first | exact Split.nil | (apply Split.cons; (repeat (first | with_reducible exact Take.here | apply Take.there))))) (icsk_one _) (by simp only [maxLen]; omega) (by omega)) ?_ | refine d_finf 16 rfl (by kernel_rfl) (by kernel_rfl) (ef_append_ro hxr rfl rfl (by repeat (first | exact Split.nil | (apply Split.cons; (repeat (first | with_reducible exact Take.here | apply Take.there))))) (icsk_one _) (by simp only [maxLen]; omega) (by omega)) ?_
  rintro v34 -
  rw [Nat.zero_add, List.nil_append]
  refine d_pu 17 rfl (pu_assign rfl) (by kernel_rfl) (by kernel_rfl) (by kernel_rfl) ?_
  refine d_sub _ (.cons (t := 4) rfl .nil) ?_
  first | refine d_nilt (by kernel_rfl) ?_ | refine d_nilf (by kernel_rfl) ?_
  refine then_n ?_
  refine swp_share_own (e := 3) (n := 1) (v := v34) (μ := μ) (by repeat (first | exact Split.nil | (apply Split.cons; (repeat (first | with_reducible exact Take.here | apply Take.there))))) fun μ1 h1 hrow => ?_
  refine swp_ret ?_
  exact done_retE [blk W.p 61 [.int .i64 W.N, W.vG, W.vN, .int .i64 (IntKind.i64.wrap (c + 1)), W.vT], ro μ1] (.tmp rfl .nil) ⟨x.2, _, μ1, h1, hxl, hrow, rfl⟩ (Split.ent' (by repeat (first | exact Split.nil | (apply Split.cons; (repeat (first | with_reducible exact Take.here | apply Take.there))))))
set_option maxHeartbeats 2000000 in
theorem wcont_spec (W : WD) (μ : PH) (h : W.Ok μ) (c : Int) (n : Int) : Spec Tryd.prog 116 [.pointer (some ⟨W.p, 0, none⟩), .int .i64 n] [W.A c, ro μ] (fun r L => ∃ T : List En, XV.TW W.U T ∧ L = [own 52 2 r T.length (ens T), W.A c, ro μ]) := by
 unfold WD.A
 have hsm := h.hT.small
 refine Spec.of 28 Tryd.func116 rfl rfl rfl ?_
 refine swp_seq ?_
 refine swp_region ?_
 refine s_pu (pu_assign rfl) ?_
 refine swl_sub _ (.cons (t := 0) rfl (.cons (t := 1) rfl .nil)) ?_
 refine swl_nil ?_
 refine then_n ?_
 refine swp_seq ?_
 refine swp_seq ?_
 refine swp_region ?_
 refine s_pu (pu_move rfl) ?_
 first | refine s_pu (pu_nilCheck rfl) ?_ | refine s_pu (pu_nilCheck_fn rfl) ?_ | refine s_pu (pu_nilCheck_if rfl) ?_
 first | refine s_pu (pu_fieldAddr0 rfl) ?_ | refine s_pu (pu_fieldAddr rfl) ?_
 refine s_rd (rd_load rfl rfl) ?_
 refine s_pu (pu_len_row h.hT rfl) ?_
 refine s_pu (pu_eql rfl rfl) ?_
 refine swl_sub _ (.cons (t := 0) rfl (.cons (t := 1) rfl (.cons (t := 10) rfl .nil))) ?_
 refine swl_nil ?_
 refine then_n ?_
 refine swp_cond (b := _) rfl (fun h10 => ?_) (fun h10 => ?_)
 ·skip
  refine swp_seq ?_
  refine swp_region ?_
  refine s_pu (pu_assign rfl) ?_
  refine swl_sub _ (.cons (t := 4) rfl .nil) ?_
  refine swl_nil ?_
  refine then_n ?_
  refine swp_ret ?_
  refine then_r ?_
  exact done_retE [own 52 2 (.slice none 0 0) 0 [], blk W.p 61 [.int .i64 W.N, W.vG, W.vN, .int .i64 c, W.vT], ro μ] (.tmp rfl .nil) ⟨[], XV.TW.nil _, rfl⟩ (own_nil_ent.trans (Split.ent' (by repeat (first | exact Split.nil | (apply Split.cons; (repeat (first | with_reducible exact Take.here | apply Take.there)))))))
 ·skip
  have h10' : 0 < W.T.length := by have := of_decide_eq_false h10; omega
  obtain ⟨k, hk, hkl⟩ := tmod_in (wrap_u64 n).1 (show (0 : Int) < (W.T.length : Int) by omega)
  have hkn : k < W.T.length := by omega
  obtain ⟨tb, to, tc, htv, _, _, hr⟩ := h.hT.pos (by omega)
  have htc := (hr.elem (f := gTx) (n := 1) (fun _ => rfl) (List.getElem?_eq_getElem hkn)).cell
  obtain ⟨q1, q2, q3⟩ := h.hTr _ (List.getElem_mem hkn)
  refine swp_skip ?_
  refine then_n ?_
  refine swp_seq ?_
  refine swp_draw [4, 10, 15] ([blk W.p 61 [.int .i64 W.N, W.vG, W.vN, .int .i64 c, W.vT], ro μ]) ([]) (Split.ent (by repeat (first | exact Split.nil | (apply Split.cons; (repeat (first | with_reducible exact Take.here | apply Take.there)))))) (by kernel_rfl) ?_
  refine d_pu 1 rfl (pu_move rfl) (by kernel_rfl) (by kernel_rfl) (by kernel_rfl) ?_
  first | refine d_pu 2 rfl (pu_nilCheck rfl) (by kernel_rfl) (by kernel_rfl) (by kernel_rfl) ?_ | refine d_pu 2 rfl (pu_nilCheck_fn rfl) (by kernel_rfl) (by kernel_rfl) (by kernel_rfl) ?_ | refine d_pu 2 rfl (pu_nilCheck_if rfl) (by kernel_rfl) (by kernel_rfl) (by kernel_rfl) ?_
  first | refine d_pu 3 rfl (pu_fieldAddr0 rfl) (by kernel_rfl) (by kernel_rfl) (by kernel_rfl) ?_ | refine d_pu 3 rfl (pu_fieldAddr rfl) (by kernel_rfl) (by kernel_rfl) (by kernel_rfl) ?_
  refine d_rd 4 rfl (rd_load rfl rfl) rfl (by kernel_rfl) (by kernel_rfl) (by kernel_rfl) ?_
  refine d_pu 5 rfl (pu_move rfl) (by kernel_rfl) (by kernel_rfl) (by kernel_rfl) ?_
  refine d_pu 6 rfl (pu_conv rfl) (by kernel_rfl) (by kernel_rfl) (by kernel_rfl) ?_
  refine d_pu 7 rfl (pu_move rfl) (by kernel_rfl) (by kernel_rfl) (by kernel_rfl) ?_
  first | refine d_pu 8 rfl (pu_nilCheck rfl) (by kernel_rfl) (by kernel_rfl) (by kernel_rfl) ?_ | refine d_pu 8 rfl (pu_nilCheck_fn rfl) (by kernel_rfl) (by kernel_rfl) (by kernel_rfl) ?_ | refine d_pu 8 rfl (pu_nilCheck_if rfl) (by kernel_rfl) (by kernel_rfl) (by kernel_rfl) ?_
  first | refine d_pu 9 rfl (pu_fieldAddr0 rfl) (by kernel_rfl) (by kernel_rfl) (by kernel_rfl) ?_ | refine d_pu 9 rfl (pu_fieldAddr rfl) (by kernel_rfl) (by kernel_rfl) (by kernel_rfl) ?_
  refine d_rd 10 rfl (rd_load rfl rfl) rfl (by kernel_rfl) (by kernel_rfl) (by kernel_rfl) ?_
  refine d_pu 11 rfl (pu_len_row h.hT rfl) (by kernel_rfl) (by kernel_rfl) (by kernel_rfl) ?_
  refine d_pu 12 rfl (pu_conv_u64 rfl (by omega) (by omega)) (by kernel_rfl) (by kernel_rfl) (by kernel_rfl) ?_
  refine d_pu 13 rfl (pu_rem_ask rfl rfl (by omega) hk) (by kernel_rfl) (by kernel_rfl) (by kernel_rfl) ?_
  refine d_pu 14 rfl (pu_indexAddr (to + k * 1) (congrArg some htv) rfl (by omega) (by omega) (by rw [Int.toNat_natCast])) (by kernel_rfl) (by kernel_rfl) (by kernel_rfl) ?_
  refine d_rd 15 rfl (rd_ro rfl htc) rfl (by kernel_rfl) (by kernel_rfl) (by kernel_rfl) ?_
  refine d_eft 0 rfl (by kernel_rfl) (ef_bldS (qs := []) rfl rfl rfl) ?_
  intro b11
  refine ⟨[own 52 2 (.slice (some ⟨b11, 0, none⟩) 0 0) 0 []], (own_empty (e := 52) (n := 2)).trans (Split.ent' (K := [blk W.p 61 [.int .i64 W.N, W.vG, W.vN, .int .i64 c, W.vT], ro μ, own 52 2 (.slice (some ⟨b11, 0, none⟩) 0 0) 0 []]) (by repeat (first | exact Split.nil | (apply Split.cons; (repeat (first | with_reducible exact Take.here | apply Take.there)))))), ?_⟩
  first | refine d_fint 16 rfl (by kernel_rfl) (by kernel_rfl) (ef_append_ro q1 rfl rfl (by repeat (first | exact Split.nil | (apply Split.cons; (repeat (first | with_reducible exact Take.here | apply Take.there))))) (ens_one _) (by simp only [maxLen]; omega) (by omega)) ?_ | refine d_finf 16 rfl (by kernel_rfl) (by kernel_rfl) (ef_append_ro q1 rfl rfl (by repeat (first | exact Split.nil | (apply Split.cons; (repeat (first | with_reducible exact Take.here | apply Take.there))))) (ens_one _) (by simp only [maxLen]; omega) (by omega)) ?_
  rintro v27 -
  rw [Nat.zero_add, List.nil_append]
  refine d_pu 17 rfl (pu_assign rfl) (by kernel_rfl) (by kernel_rfl) (by kernel_rfl) ?_
  refine d_sub _ (.cons (t := 4) rfl .nil) ?_
  first | refine d_nilt (by kernel_rfl) ?_ | refine d_nilf (by kernel_rfl) ?_
  refine then_n ?_
  refine swp_ret ?_
  exact done_retE [own 52 2 v27 (W.T[k]).2.length (ens (W.T[k]).2), blk W.p 61 [.int .i64 W.N, W.vG, W.vN, .int .i64 c, W.vT], ro μ] (.tmp rfl .nil) ⟨_, ⟨q3, fun e he => List.mem_flatMap.2 ⟨_, List.getElem_mem hkn, List.mem_map.2 ⟨e, he, rfl⟩⟩, by omega⟩, rfl⟩ (Split.ent' (by repeat (first | exact Split.nil | (apply Split.cons; (repeat (first | with_reducible exact Take.here | apply Take.there))))))
abbrev WD.sv (W : WD) : Value := .iface 59 (.pointer (some ⟨W.p, 0, none⟩))
/-- a tree of the call's own has a slice's form -/
theorem InvS.formedW {d : Nat} {t : TypeId} {v : Value} {args : List Value} {pre : List Assn} {U : List ByteArray} {A : Int → Assn} {c : Int} {μ : PH} (h : InvS Tryd.prog d t v "Content" args pre (fun r L => ∃ T : List En, XV.TW U T ∧ L = [own 52 2 r T.length (ens T), A c, ro μ])) :
    InvS Tryd.prog d t v "Content" args pre (fun r L => ∃ (T : List En) (s' : Int), XV.TW U T ∧ True ∧ (∃ A k, r = .slice A T.length k) ∧ L = [own 52 2 r T.length (ens T), A s', ro μ]) := fun E w hw => by
  obtain ⟨f, rv, k1, k2, k3⟩ := h E w hw
  refine ⟨f, rv, k1, k2, k3.mono fun e w' ⟨u, L', e1, ⟨T, q1, q2⟩, k⟩ => ?_⟩
  subst q2
  obtain ⟨h1, h2, h3, h4, h5⟩ := k
  obtain ⟨A', c', hv, _⟩ := own_cap2 (Sat.perm (perm_out (X := E.X) (.refl _)) _ h5)
  exact ⟨u, _, e1, ⟨T, c, q1, trivial, ⟨A', c', hv⟩, rfl⟩, h1, h2, h3, h4, h5⟩
/-- as a source of commits -/
def WD.wsrc (W : WD) (μ0 : PH) (h : W.Ok μ0) : WSrc where
  t := 59
  v := .pointer (some ⟨W.p, 0, none⟩)
  d := 0
  hd := Nat.zero_le _
  N := W.N
  n := (min (max W.N 0) 65536).toNat
  hN := by omega
  σ := Int
  A := W.A
  μ0 := μ0
  commits := fun s => InvS.val Tryd.underlying56 (wcom_spec W s)
  parents := fun s μ c hl _ => InvS.val Tryd.underlying56 (wpar_spec W μ (h.le hl) s c)
/-- as a source of commits and trees -/
def WD.vsrc (W : WD) (μ0 : PH) (h : W.Ok μ0) : XV.VSrc where
  t := 59
  v := .pointer (some ⟨W.p, 0, none⟩)
  d := 0
  hd := Nat.zero_le _
  N := W.N
  n := (min (max W.N 0) 65536).toNat
  hN := by omega
  U := W.U
  hU := WD.U_len h
  σ := Int
  A := W.A
  B := fun _ _ => True
  Bm := fun _ _ => trivial
  μ0 := μ0
  VS := fun _ _ _ => True
  VT := fun _ T => XV.TW W.U T
  vt := fun h => h
  commits := fun s => InvS.val Tryd.underlying56 (wcom_spec W s)
  sides := fun s m μ v' u xs y hl _ _ hT hv hu => (wsides_spec (W.wsrc μ0 h) s μ v' u xs [y] hT hv hu hl).mono fun r L ⟨lv, e, l, s', μ', h1, h2, h3, h4, h5⟩ => ⟨lv, e, l, s', μ', trivial, trivial, h1, h2, h3, h4, h5⟩
  content := fun s m μ c hl _ _ => (InvS.of (wcont_spec W μ (h.le hl) s c)).formedW
end SX
namespace SX
open Go Go.Proofs
theorem byte32 (b : UInt8) : ((b.toNat : Nat) : Int) = ((BitVec.ofNat 32 b.toNat).toNat : Int) := by
  have := b.toNat_lt; rw [BitVec.toNat_ofNat, Nat.mod_eq_of_lt (by omega)]
set_option maxHeartbeats 1000000 in
theorem hash_spec (s : W32) (p : ByteArray) (hs : p.size ≤ 1048576) : Spec Tryd.prog 66 [.int .u32 (s.toNat : Nat), .string p] [] (fun v L => v = .int .u32 ((hashW s p.data.toList).toNat : Nat) ∧ L = []) := by
 have hl : p.data.toList.length = p.size := by rw [Array.length_toList]; rfl
 refine Spec.of 39 Tryd.func66 rfl rfl rfl ?_
 refine swp_seq ?_
 refine swp_region ?_
 refine s_pu (pu_assign rfl) ?_
 refine swl_sub _ (.cons (t := 0) rfl (.cons (t := 1) rfl .nil)) ?_
 refine swl_nil ?_
 refine then_n ?_
 refine swp_seq ?_
 refine swp_region ?_
 refine s_pu (pu_move rfl) ?_
 refine s_pu (pu_xor_w32 (a := 2166136261#32) rfl rfl) ?_
 refine s_pu (pu_assign rfl) ?_
 refine swl_sub _ (.cons (t := 1) rfl (.cons (t := 5) rfl .nil)) ?_
 refine swl_nil ?_
 refine then_n ?_
 refine swp_seq ?_
 refine swp_seq ?_
 refine swp_region ?_
 refine s_pu (pu_assign rfl) ?_
 refine swl_sub _ (.cons (t := 1) rfl (.cons (t := 5) rfl (.cons (t := 6) rfl .nil))) ?_
 refine swl_nil ?_
 refine then_n ?_
 refine swp_block ?_
 refine swp_loop (ι := Nat) (fun i env L => Sub env [(1, .string p), (5, .int .u32 (((p.data.toList.take i).foldl hash1 (2166136261#32 ^^^ s)).toNat : Nat)), (6, .int .i64 (i : Nat))] ∧ L = [] ∧ i ≤ p.size) (fun i => p.size - i) 0 ⟨⟨rfl, rfl, rfl, trivial⟩, rfl, Nat.zero_le _⟩ ?_
 rintro i env L ⟨hsub, rfl, hi⟩
 refine swp_sub _ hsub ?_
 clear hsub env
 refine swp_seq ?_
 refine swp_seq ?_
 refine swp_region ?_
 refine s_pu (pu_move rfl) ?_
 refine s_pu (pu_move rfl) ?_
 refine s_pu (pu_strlen rfl) ?_
 refine s_pu (pu_lss rfl rfl) ?_
 refine swl_sub _ (.cons (t := 1) rfl (.cons (t := 5) rfl (.cons (t := 6) rfl (.cons (t := 12) rfl .nil)))) ?_
 refine swl_nil ?_
 refine then_n ?_
 refine swp_cond (b := _) rfl (fun h12 => ?_) (fun h12 => ?_)
 ·skip
  have h12' : i < p.size := by have := of_decide_eq_true h12; omega
  obtain ⟨b, hb⟩ : ∃ b, p.data.toList[i]? = some b := ⟨_, List.getElem?_eq_getElem (by omega)⟩
  refine swp_skip ?_
  refine then_n ?_
  refine swp_seq ?_
  refine swp_block ?_
  refine swp_seq ?_
  refine swp_region ?_
  refine s_pu (pu_move rfl) ?_
  refine s_pu (pu_move rfl) ?_
  refine s_pu (pu_move rfl) ?_
  refine s_pu (pu_str_index rfl rfl rfl hb) ?_
  refine s_pu (pu_conv_as (k' := .u32) (n := ((BitVec.ofNat 32 b.toNat).toNat : Int)) (by rw [← byte32]; rfl) (wrap_word32 _)) ?_
  refine s_pu (pu_xor_w32 rfl rfl) ?_
  refine s_pu (pu_assign rfl) ?_
  refine swl_sub _ (.cons (t := 1) rfl (.cons (t := 5) rfl (.cons (t := 6) rfl .nil))) ?_
  refine swl_nil ?_
  refine then_n ?_
  refine swp_region ?_
  refine s_pu (pu_move rfl) ?_
  refine s_pu (pu_mul_w32 (b := 16777619#32) rfl rfl) ?_
  refine s_pu (pu_assign rfl) ?_
  refine swl_sub _ (.cons (t := 1) rfl (.cons (t := 5) rfl (.cons (t := 6) rfl .nil))) ?_
  refine swl_nil ?_
  refine block_n ?_
  refine then_n ?_
  refine swp_region ?_
  refine s_pu (pu_move rfl) ?_
  refine s_pu (pu_add_as ((i + 1 : Nat) : Int) rfl rfl (by omega) (by omega) (by omega)) ?_
  refine s_pu (pu_assign rfl) ?_
  refine swl_sub _ (.cons (t := 1) rfl (.cons (t := 5) rfl (.cons (t := 6) rfl .nil))) ?_
  refine swl_nil ?_
  refine then_n ⟨i + 1, ⟨⟨rfl, ?_, rfl, trivial⟩, rfl, h12'⟩, by omega⟩
  rw [List.take_add_one, hb, List.foldl_append]; rfl
 ·skip
  have h12' := of_decide_eq_false h12
  obtain rfl : i = p.size := by omega
  rw [List.take_of_length_le (by omega)]
  refine swp_exit ?_
  refine then_x ?_
  refine then_x ?_
  refine block_hit rfl ?_
  refine then_n ?_
  refine swp_seq ?_
  refine swp_region ?_
  refine s_pu (pu_move rfl) ?_
  refine s_pu (pu_move rfl) ?_
  refine s_pu (pu_shr_w32 16 rfl rfl (by omega)) ?_
  refine s_pu (pu_xor_w32 rfl rfl) ?_
  refine s_pu (pu_assign rfl) ?_
  refine swl_sub _ (.cons (t := 5) rfl .nil) ?_
  refine swl_nil ?_
  refine then_n ?_
  refine swp_seq ?_
  refine swp_region ?_
  refine s_pu (pu_move rfl) ?_
  refine s_pu (pu_mul_w32 (b := 2246822507#32) rfl rfl) ?_
  refine s_pu (pu_assign rfl) ?_
  refine swl_sub _ (.cons (t := 5) rfl .nil) ?_
  refine swl_nil ?_
  refine then_n ?_
  refine swp_seq ?_
  refine swp_region ?_
  refine s_pu (pu_move rfl) ?_
  refine s_pu (pu_move rfl) ?_
  refine s_pu (pu_shr_w32 13 rfl rfl (by omega)) ?_
  refine s_pu (pu_xor_w32 rfl rfl) ?_
  refine s_pu (pu_assign rfl) ?_
  refine swl_sub _ (.cons (t := 5) rfl .nil) ?_
  refine swl_nil ?_
  refine then_n ?_
  refine swp_seq ?_
  refine swp_region ?_
  refine s_pu (pu_move rfl) ?_
  refine s_pu (pu_mul_w32 (b := 3266489909#32) rfl rfl) ?_
  refine s_pu (pu_assign rfl) ?_
  refine swl_sub _ (.cons (t := 5) rfl .nil) ?_
  refine swl_nil ?_
  refine then_n ?_
  refine swp_seq ?_
  refine swp_region ?_
  refine s_pu (pu_move rfl) ?_
  refine s_pu (pu_move rfl) ?_
  refine s_pu (pu_shr_w32 16 rfl rfl (by omega)) ?_
  refine s_pu (pu_xor_w32 rfl rfl) ?_
  refine s_pu (pu_assign rfl) ?_
  refine swl_sub _ (.cons (t := 4) rfl .nil) ?_
  refine swl_nil ?_
  refine then_n ?_
  refine swp_ret ?_
  exact done_ret [] (.tmp rfl .nil) ⟨rfl, rfl⟩ (by repeat (first | exact Split.nil | (apply Split.cons; (repeat (first | with_reducible exact Take.here | apply Take.there)))))
theorem scheck_spec (s : Sett) : Spec Tryd.prog 49 [.agg (encS s).toArray] [] (fun v L => v = .int .i64 (if s.bad then 1 else 0) ∧ L = []) := by
 refine Spec.of 31 Tryd.func49 rfl rfl rfl ?_
 refine swp_seq ?_
 refine swp_region ?_
 refine s_ef (ef_box rfl rfl) ?_
 intro b1
 refine s_pu (pu_assign rfl) ?_
 refine swl_sub _ (.cons (t := 1) rfl .nil) ?_
 refine swl_nil ?_
 refine then_n ?_
 refine swp_seq ?_
 refine swp_seq ?_
 refine swp_region ?_
 first | refine s_pu (pu_fieldAddr0 rfl) ?_ | refine s_pu (pu_fieldAddr rfl) ?_
 refine s_rd (rd_load rfl rfl) ?_
 refine s_pu (pu_lss rfl rfl) ?_
 refine s_pu (pu_move rfl) ?_
 refine s_split 6 rfl (fun h6 => ?_) (fun h6 => ?_)
 ·skip
  refine s_off rfl rfl rfl ?_
  refine s_off rfl rfl rfl ?_
  refine s_off rfl rfl rfl ?_
  first | refine s_pu (pu_pick_t rfl rfl) ?_ | refine s_pu (pu_pick_f rfl rfl) ?_
  refine s_pu (pu_move rfl) ?_
  refine s_split 11 rfl (fun h11 => ?_) (fun h11 => ?_)
  ·skip
   refine s_off rfl rfl rfl ?_
   refine s_off rfl rfl rfl ?_
   refine s_off rfl rfl rfl ?_
   first | refine s_pu (pu_pick_t rfl rfl) ?_ | refine s_pu (pu_pick_f rfl rfl) ?_
   refine s_pu (pu_move rfl) ?_
   refine s_split 16 rfl (fun h16 => ?_) (fun h16 => ?_)
   ·skip
    refine s_off rfl rfl rfl ?_
    refine s_off rfl rfl rfl ?_
    refine s_off rfl rfl rfl ?_
    first | refine s_pu (pu_pick_t rfl rfl) ?_ | refine s_pu (pu_pick_f rfl rfl) ?_
    refine s_pu (pu_move rfl) ?_
    refine s_split 21 rfl (fun h21 => ?_) (fun h21 => ?_)
    ·skip
     refine s_off rfl rfl rfl ?_
     refine s_off rfl rfl rfl ?_
     refine s_off rfl rfl rfl ?_
     first | refine s_pu (pu_pick_t rfl rfl) ?_ | refine s_pu (pu_pick_f rfl rfl) ?_
     refine s_pu (pu_move rfl) ?_
     refine s_split 26 rfl (fun h26 => ?_) (fun h26 => ?_)
     ·skip
      refine s_off rfl rfl rfl ?_
      refine s_off rfl rfl rfl ?_
      refine s_off rfl rfl rfl ?_
      first | refine s_pu (pu_pick_t rfl rfl) ?_ | refine s_pu (pu_pick_f rfl rfl) ?_
      refine swl_sub _ (.cons (t := 30) rfl .nil) ?_
      refine swl_nil ?_
      refine then_n ?_
      refine swp_cond (b := _) rfl (fun h30 => ?_) (fun h30 => ?_)
      ·skip
       refine swp_seq ?_
       refine swp_region ?_
       refine s_pu (pu_assign rfl) ?_
       refine swl_sub _ (.cons (t := 2) rfl .nil) ?_
       refine swl_nil ?_
       refine then_n ?_
       refine swp_ret ?_
       refine then_r ?_
       refine done_ret [] (.tmp rfl .nil) ⟨congrArg (Value.int .i64) ?_, rfl⟩ (by repeat (first | exact Split.nil | (apply Split.cons; (repeat (first | with_reducible exact Take.here | apply Take.there)))))
       unfold Sett.bad; grind
      ·skip
       refine swp_skip ?_
       refine then_n ?_
       refine swp_seq ?_
       refine swp_region ?_
       refine s_pu (pu_assign rfl) ?_
       refine swl_sub _ (.cons (t := 2) rfl .nil) ?_
       refine swl_nil ?_
       refine then_n ?_
       refine swp_ret ?_
       refine done_ret [] (.tmp rfl .nil) ⟨congrArg (Value.int .i64) ?_, rfl⟩ (by repeat (first | exact Split.nil | (apply Split.cons; (repeat (first | with_reducible exact Take.here | apply Take.there)))))
       unfold Sett.bad; grind
     ·skip
      refine s_on rfl rfl ?_
      first | refine s_pu (pu_fieldAddr0 rfl) ?_ | refine s_pu (pu_fieldAddr rfl) ?_
      refine s_on rfl rfl ?_
      refine s_rd (rd_load rfl rfl) ?_
      refine s_on rfl rfl ?_
      refine s_pu (pu_gtr rfl rfl) ?_
      first | refine s_pu (pu_pick_t rfl rfl) ?_ | refine s_pu (pu_pick_f rfl rfl) ?_
      refine swl_sub _ (.cons (t := 30) rfl .nil) ?_
      refine swl_nil ?_
      refine then_n ?_
      refine swp_cond (b := _) rfl (fun h30 => ?_) (fun h30 => ?_)
      ·skip
       refine swp_seq ?_
       refine swp_region ?_
       refine s_pu (pu_assign rfl) ?_
       refine swl_sub _ (.cons (t := 2) rfl .nil) ?_
       refine swl_nil ?_
       refine then_n ?_
       refine swp_ret ?_
       refine then_r ?_
       refine done_ret [] (.tmp rfl .nil) ⟨congrArg (Value.int .i64) ?_, rfl⟩ (by repeat (first | exact Split.nil | (apply Split.cons; (repeat (first | with_reducible exact Take.here | apply Take.there)))))
       unfold Sett.bad; grind
      ·skip
       refine swp_skip ?_
       refine then_n ?_
       refine swp_seq ?_
       refine swp_region ?_
       refine s_pu (pu_assign rfl) ?_
       refine swl_sub _ (.cons (t := 2) rfl .nil) ?_
       refine swl_nil ?_
       refine then_n ?_
       refine swp_ret ?_
       refine done_ret [] (.tmp rfl .nil) ⟨congrArg (Value.int .i64) ?_, rfl⟩ (by repeat (first | exact Split.nil | (apply Split.cons; (repeat (first | with_reducible exact Take.here | apply Take.there)))))
       unfold Sett.bad; grind
    ·skip
     refine s_on rfl rfl ?_
     first | refine s_pu (pu_fieldAddr0 rfl) ?_ | refine s_pu (pu_fieldAddr rfl) ?_
     refine s_on rfl rfl ?_
     refine s_rd (rd_load rfl rfl) ?_
     refine s_on rfl rfl ?_
     refine s_pu (pu_lss rfl rfl) ?_
     first | refine s_pu (pu_pick_t rfl rfl) ?_ | refine s_pu (pu_pick_f rfl rfl) ?_
     refine s_pu (pu_move rfl) ?_
     refine s_split 26 rfl (fun h26 => ?_) (fun h26 => ?_)
     ·skip
      refine s_off rfl rfl rfl ?_
      refine s_off rfl rfl rfl ?_
      refine s_off rfl rfl rfl ?_
      first | refine s_pu (pu_pick_t rfl rfl) ?_ | refine s_pu (pu_pick_f rfl rfl) ?_
      refine swl_sub _ (.cons (t := 30) rfl .nil) ?_
      refine swl_nil ?_
      refine then_n ?_
      refine swp_cond (b := _) rfl (fun h30 => ?_) (fun h30 => ?_)
      ·skip
       refine swp_seq ?_
       refine swp_region ?_
       refine s_pu (pu_assign rfl) ?_
       refine swl_sub _ (.cons (t := 2) rfl .nil) ?_
       refine swl_nil ?_
       refine then_n ?_
       refine swp_ret ?_
       refine then_r ?_
       refine done_ret [] (.tmp rfl .nil) ⟨congrArg (Value.int .i64) ?_, rfl⟩ (by repeat (first | exact Split.nil | (apply Split.cons; (repeat (first | with_reducible exact Take.here | apply Take.there)))))
       unfold Sett.bad; grind
      ·skip
       refine swp_skip ?_
       refine then_n ?_
       refine swp_seq ?_
       refine swp_region ?_
       refine s_pu (pu_assign rfl) ?_
       refine swl_sub _ (.cons (t := 2) rfl .nil) ?_
       refine swl_nil ?_
       refine then_n ?_
       refine swp_ret ?_
       refine done_ret [] (.tmp rfl .nil) ⟨congrArg (Value.int .i64) ?_, rfl⟩ (by repeat (first | exact Split.nil | (apply Split.cons; (repeat (first | with_reducible exact Take.here | apply Take.there)))))
       unfold Sett.bad; grind
     ·skip
      refine s_on rfl rfl ?_
      first | refine s_pu (pu_fieldAddr0 rfl) ?_ | refine s_pu (pu_fieldAddr rfl) ?_
      refine s_on rfl rfl ?_
      refine s_rd (rd_load rfl rfl) ?_
      refine s_on rfl rfl ?_
      refine s_pu (pu_gtr rfl rfl) ?_
      first | refine s_pu (pu_pick_t rfl rfl) ?_ | refine s_pu (pu_pick_f rfl rfl) ?_
      refine swl_sub _ (.cons (t := 30) rfl .nil) ?_
      refine swl_nil ?_
      refine then_n ?_
      refine swp_cond (b := _) rfl (fun h30 => ?_) (fun h30 => ?_)
      ·skip
       refine swp_seq ?_
       refine swp_region ?_
       refine s_pu (pu_assign rfl) ?_
       refine swl_sub _ (.cons (t := 2) rfl .nil) ?_
       refine swl_nil ?_
       refine then_n ?_
       refine swp_ret ?_
       refine then_r ?_
       refine done_ret [] (.tmp rfl .nil) ⟨congrArg (Value.int .i64) ?_, rfl⟩ (by repeat (first | exact Split.nil | (apply Split.cons; (repeat (first | with_reducible exact Take.here | apply Take.there)))))
       unfold Sett.bad; grind
      ·skip
       refine swp_skip ?_
       refine then_n ?_
       refine swp_seq ?_
       refine swp_region ?_
       refine s_pu (pu_assign rfl) ?_
       refine swl_sub _ (.cons (t := 2) rfl .nil) ?_
       refine swl_nil ?_
       refine then_n ?_
       refine swp_ret ?_
       refine done_ret [] (.tmp rfl .nil) ⟨congrArg (Value.int .i64) ?_, rfl⟩ (by repeat (first | exact Split.nil | (apply Split.cons; (repeat (first | with_reducible exact Take.here | apply Take.there)))))
       unfold Sett.bad; grind
   ·skip
    refine s_on rfl rfl ?_
    first | refine s_pu (pu_fieldAddr0 rfl) ?_ | refine s_pu (pu_fieldAddr rfl) ?_
    refine s_on rfl rfl ?_
    refine s_rd (rd_load rfl rfl) ?_
    refine s_on rfl rfl ?_
    refine s_pu (pu_gtr rfl rfl) ?_
    first | refine s_pu (pu_pick_t rfl rfl) ?_ | refine s_pu (pu_pick_f rfl rfl) ?_
    refine s_pu (pu_move rfl) ?_
    refine s_split 21 rfl (fun h21 => ?_) (fun h21 => ?_)
    ·skip
     refine s_off rfl rfl rfl ?_
     refine s_off rfl rfl rfl ?_
     refine s_off rfl rfl rfl ?_
     first | refine s_pu (pu_pick_t rfl rfl) ?_ | refine s_pu (pu_pick_f rfl rfl) ?_
     refine s_pu (pu_move rfl) ?_
     refine s_split 26 rfl (fun h26 => ?_) (fun h26 => ?_)
     ·skip
      refine s_off rfl rfl rfl ?_
      refine s_off rfl rfl rfl ?_
      refine s_off rfl rfl rfl ?_
      first | refine s_pu (pu_pick_t rfl rfl) ?_ | refine s_pu (pu_pick_f rfl rfl) ?_
      refine swl_sub _ (.cons (t := 30) rfl .nil) ?_
      refine swl_nil ?_
      refine then_n ?_
      refine swp_cond (b := _) rfl (fun h30 => ?_) (fun h30 => ?_)
      ·skip
       refine swp_seq ?_
       refine swp_region ?_
       refine s_pu (pu_assign rfl) ?_
       refine swl_sub _ (.cons (t := 2) rfl .nil) ?_
       refine swl_nil ?_
       refine then_n ?_
       refine swp_ret ?_
       refine then_r ?_
       refine done_ret [] (.tmp rfl .nil) ⟨congrArg (Value.int .i64) ?_, rfl⟩ (by repeat (first | exact Split.nil | (apply Split.cons; (repeat (first | with_reducible exact Take.here | apply Take.there)))))
       unfold Sett.bad; grind
      ·skip
       refine swp_skip ?_
       refine then_n ?_
       refine swp_seq ?_
       refine swp_region ?_
       refine s_pu (pu_assign rfl) ?_
       refine swl_sub _ (.cons (t := 2) rfl .nil) ?_
       refine swl_nil ?_
       refine then_n ?_
       refine swp_ret ?_
       refine done_ret [] (.tmp rfl .nil) ⟨congrArg (Value.int .i64) ?_, rfl⟩ (by repeat (first | exact Split.nil | (apply Split.cons; (repeat (first | with_reducible exact Take.here | apply Take.there)))))
       unfold Sett.bad; grind
     ·skip
      refine s_on rfl rfl ?_
      first | refine s_pu (pu_fieldAddr0 rfl) ?_ | refine s_pu (pu_fieldAddr rfl) ?_
      refine s_on rfl rfl ?_
      refine s_rd (rd_load rfl rfl) ?_
      refine s_on rfl rfl ?_
      refine s_pu (pu_gtr rfl rfl) ?_
      first | refine s_pu (pu_pick_t rfl rfl) ?_ | refine s_pu (pu_pick_f rfl rfl) ?_
      refine swl_sub _ (.cons (t := 30) rfl .nil) ?_
      refine swl_nil ?_
      refine then_n ?_
      refine swp_cond (b := _) rfl (fun h30 => ?_) (fun h30 => ?_)
      ·skip
       refine swp_seq ?_
       refine swp_region ?_
       refine s_pu (pu_assign rfl) ?_
       refine swl_sub _ (.cons (t := 2) rfl .nil) ?_
       refine swl_nil ?_
       refine then_n ?_
       refine swp_ret ?_
       refine then_r ?_
       refine done_ret [] (.tmp rfl .nil) ⟨congrArg (Value.int .i64) ?_, rfl⟩ (by repeat (first | exact Split.nil | (apply Split.cons; (repeat (first | with_reducible exact Take.here | apply Take.there)))))
       unfold Sett.bad; grind
      ·skip
       refine swp_skip ?_
       refine then_n ?_
       refine swp_seq ?_
       refine swp_region ?_
       refine s_pu (pu_assign rfl) ?_
       refine swl_sub _ (.cons (t := 2) rfl .nil) ?_
       refine swl_nil ?_
       refine then_n ?_
       refine swp_ret ?_
       refine done_ret [] (.tmp rfl .nil) ⟨congrArg (Value.int .i64) ?_, rfl⟩ (by repeat (first | exact Split.nil | (apply Split.cons; (repeat (first | with_reducible exact Take.here | apply Take.there)))))
       unfold Sett.bad; grind
    ·skip
     refine s_on rfl rfl ?_
     first | refine s_pu (pu_fieldAddr0 rfl) ?_ | refine s_pu (pu_fieldAddr rfl) ?_
     refine s_on rfl rfl ?_
     refine s_rd (rd_load rfl rfl) ?_
     refine s_on rfl rfl ?_
     refine s_pu (pu_lss rfl rfl) ?_
     first | refine s_pu (pu_pick_t rfl rfl) ?_ | refine s_pu (pu_pick_f rfl rfl) ?_
     refine s_pu (pu_move rfl) ?_
     refine s_split 26 rfl (fun h26 => ?_) (fun h26 => ?_)
     ·skip
      refine s_off rfl rfl rfl ?_
      refine s_off rfl rfl rfl ?_
      refine s_off rfl rfl rfl ?_
      first | refine s_pu (pu_pick_t rfl rfl) ?_ | refine s_pu (pu_pick_f rfl rfl) ?_
      refine swl_sub _ (.cons (t := 30) rfl .nil) ?_
      refine swl_nil ?_
      refine then_n ?_
      refine swp_cond (b := _) rfl (fun h30 => ?_) (fun h30 => ?_)
      ·skip
       refine swp_seq ?_
       refine swp_region ?_
       refine s_pu (pu_assign rfl) ?_
       refine swl_sub _ (.cons (t := 2) rfl .nil) ?_
       refine swl_nil ?_
       refine then_n ?_
       refine swp_ret ?_
       refine then_r ?_
       refine done_ret [] (.tmp rfl .nil) ⟨congrArg (Value.int .i64) ?_, rfl⟩ (by repeat (first | exact Split.nil | (apply Split.cons; (repeat (first | with_reducible exact Take.here | apply Take.there)))))
       unfold Sett.bad; grind
      ·skip
       refine swp_skip ?_
       refine then_n ?_
       refine swp_seq ?_
       refine swp_region ?_
       refine s_pu (pu_assign rfl) ?_
       refine swl_sub _ (.cons (t := 2) rfl .nil) ?_
       refine swl_nil ?_
       refine then_n ?_
       refine swp_ret ?_
       refine done_ret [] (.tmp rfl .nil) ⟨congrArg (Value.int .i64) ?_, rfl⟩ (by repeat (first | exact Split.nil | (apply Split.cons; (repeat (first | with_reducible exact Take.here | apply Take.there)))))
       unfold Sett.bad; grind
     ·skip
      refine s_on rfl rfl ?_
      first | refine s_pu (pu_fieldAddr0 rfl) ?_ | refine s_pu (pu_fieldAddr rfl) ?_
      refine s_on rfl rfl ?_
      refine s_rd (rd_load rfl rfl) ?_
      refine s_on rfl rfl ?_
      refine s_pu (pu_gtr rfl rfl) ?_
      first | refine s_pu (pu_pick_t rfl rfl) ?_ | refine s_pu (pu_pick_f rfl rfl) ?_
      refine swl_sub _ (.cons (t := 30) rfl .nil) ?_
      refine swl_nil ?_
      refine then_n ?_
      refine swp_cond (b := _) rfl (fun h30 => ?_) (fun h30 => ?_)
      ·skip
       refine swp_seq ?_
       refine swp_region ?_
       refine s_pu (pu_assign rfl) ?_
       refine swl_sub _ (.cons (t := 2) rfl .nil) ?_
       refine swl_nil ?_
       refine then_n ?_
       refine swp_ret ?_
       refine then_r ?_
       refine done_ret [] (.tmp rfl .nil) ⟨congrArg (Value.int .i64) ?_, rfl⟩ (by repeat (first | exact Split.nil | (apply Split.cons; (repeat (first | with_reducible exact Take.here | apply Take.there)))))
       unfold Sett.bad; grind
      ·skip
       refine swp_skip ?_
       refine then_n ?_
       refine swp_seq ?_
       refine swp_region ?_
       refine s_pu (pu_assign rfl) ?_
       refine swl_sub _ (.cons (t := 2) rfl .nil) ?_
       refine swl_nil ?_
       refine then_n ?_
       refine swp_ret ?_
       refine done_ret [] (.tmp rfl .nil) ⟨congrArg (Value.int .i64) ?_, rfl⟩ (by repeat (first | exact Split.nil | (apply Split.cons; (repeat (first | with_reducible exact Take.here | apply Take.there)))))
       unfold Sett.bad; grind
  ·skip
   refine s_on rfl rfl ?_
   first | refine s_pu (pu_fieldAddr0 rfl) ?_ | refine s_pu (pu_fieldAddr rfl) ?_
   refine s_on rfl rfl ?_
   refine s_rd (rd_load rfl rfl) ?_
   refine s_on rfl rfl ?_
   refine s_pu (pu_lss rfl rfl) ?_
   first | refine s_pu (pu_pick_t rfl rfl) ?_ | refine s_pu (pu_pick_f rfl rfl) ?_
   refine s_pu (pu_move rfl) ?_
   refine s_split 16 rfl (fun h16 => ?_) (fun h16 => ?_)
   ·skip
    refine s_off rfl rfl rfl ?_
    refine s_off rfl rfl rfl ?_
    refine s_off rfl rfl rfl ?_
    first | refine s_pu (pu_pick_t rfl rfl) ?_ | refine s_pu (pu_pick_f rfl rfl) ?_
    refine s_pu (pu_move rfl) ?_
    refine s_split 21 rfl (fun h21 => ?_) (fun h21 => ?_)
    ·skip
     refine s_off rfl rfl rfl ?_
     refine s_off rfl rfl rfl ?_
     refine s_off rfl rfl rfl ?_
     first | refine s_pu (pu_pick_t rfl rfl) ?_ | refine s_pu (pu_pick_f rfl rfl) ?_
     refine s_pu (pu_move rfl) ?_
     refine s_split 26 rfl (fun h26 => ?_) (fun h26 => ?_)
     ·skip
      refine s_off rfl rfl rfl ?_
      refine s_off rfl rfl rfl ?_
      refine s_off rfl rfl rfl ?_
      first | refine s_pu (pu_pick_t rfl rfl) ?_ | refine s_pu (pu_pick_f rfl rfl) ?_
      refine swl_sub _ (.cons (t := 30) rfl .nil) ?_
      refine swl_nil ?_
      refine then_n ?_
      refine swp_cond (b := _) rfl (fun h30 => ?_) (fun h30 => ?_)
      ·skip
       refine swp_seq ?_
       refine swp_region ?_
       refine s_pu (pu_assign rfl) ?_
       refine swl_sub _ (.cons (t := 2) rfl .nil) ?_
       refine swl_nil ?_
       refine then_n ?_
       refine swp_ret ?_
       refine then_r ?_
       refine done_ret [] (.tmp rfl .nil) ⟨congrArg (Value.int .i64) ?_, rfl⟩ (by repeat (first | exact Split.nil | (apply Split.cons; (repeat (first | with_reducible exact Take.here | apply Take.there)))))
       unfold Sett.bad; grind
      ·skip
       refine swp_skip ?_
       refine then_n ?_
       refine swp_seq ?_
       refine swp_region ?_
       refine s_pu (pu_assign rfl) ?_
       refine swl_sub _ (.cons (t := 2) rfl .nil) ?_
       refine swl_nil ?_
       refine then_n ?_
       refine swp_ret ?_
       refine done_ret [] (.tmp rfl .nil) ⟨congrArg (Value.int .i64) ?_, rfl⟩ (by repeat (first | exact Split.nil | (apply Split.cons; (repeat (first | with_reducible exact Take.here | apply Take.there)))))
       unfold Sett.bad; grind
     ·skip
      refine s_on rfl rfl ?_
      first | refine s_pu (pu_fieldAddr0 rfl) ?_ | refine s_pu (pu_fieldAddr rfl) ?_
      refine s_on rfl rfl ?_
      refine s_rd (rd_load rfl rfl) ?_
      refine s_on rfl rfl ?_
      refine s_pu (pu_gtr rfl rfl) ?_
      first | refine s_pu (pu_pick_t rfl rfl) ?_ | refine s_pu (pu_pick_f rfl rfl) ?_
      refine swl_sub _ (.cons (t := 30) rfl .nil) ?_
      refine swl_nil ?_
      refine then_n ?_
      refine swp_cond (b := _) rfl (fun h30 => ?_) (fun h30 => ?_)
      ·skip
       refine swp_seq ?_
       refine swp_region ?_
       refine s_pu (pu_assign rfl) ?_
       refine swl_sub _ (.cons (t := 2) rfl .nil) ?_
       refine swl_nil ?_
       refine then_n ?_
       refine swp_ret ?_
       refine then_r ?_
       refine done_ret [] (.tmp rfl .nil) ⟨congrArg (Value.int .i64) ?_, rfl⟩ (by repeat (first | exact Split.nil | (apply Split.cons; (repeat (first | with_reducible exact Take.here | apply Take.there)))))
       unfold Sett.bad; grind
      ·skip
       refine swp_skip ?_
       refine then_n ?_
       refine swp_seq ?_
       refine swp_region ?_
       refine s_pu (pu_assign rfl) ?_
       refine swl_sub _ (.cons (t := 2) rfl .nil) ?_
       refine swl_nil ?_
       refine then_n ?_
       refine swp_ret ?_
       refine done_ret [] (.tmp rfl .nil) ⟨congrArg (Value.int .i64) ?_, rfl⟩ (by repeat (first | exact Split.nil | (apply Split.cons; (repeat (first | with_reducible exact Take.here | apply Take.there)))))
       unfold Sett.bad; grind
    ·skip
     refine s_on rfl rfl ?_
     first | refine s_pu (pu_fieldAddr0 rfl) ?_ | refine s_pu (pu_fieldAddr rfl) ?_
     refine s_on rfl rfl ?_
     refine s_rd (rd_load rfl rfl) ?_
     refine s_on rfl rfl ?_
     refine s_pu (pu_lss rfl rfl) ?_
     first | refine s_pu (pu_pick_t rfl rfl) ?_ | refine s_pu (pu_pick_f rfl rfl) ?_
     refine s_pu (pu_move rfl) ?_
     refine s_split 26 rfl (fun h26 => ?_) (fun h26 => ?_)
     ·skip
      refine s_off rfl rfl rfl ?_
      refine s_off rfl rfl rfl ?_
      refine s_off rfl rfl rfl ?_
      first | refine s_pu (pu_pick_t rfl rfl) ?_ | refine s_pu (pu_pick_f rfl rfl) ?_
      refine swl_sub _ (.cons (t := 30) rfl .nil) ?_
      refine swl_nil ?_
      refine then_n ?_
      refine swp_cond (b := _) rfl (fun h30 => ?_) (fun h30 => ?_)
      ·skip
       refine swp_seq ?_
       refine swp_region ?_
       refine s_pu (pu_assign rfl) ?_
       refine swl_sub _ (.cons (t := 2) rfl .nil) ?_
       refine swl_nil ?_
       refine then_n ?_
       refine swp_ret ?_
       refine then_r ?_
       refine done_ret [] (.tmp rfl .nil) ⟨congrArg (Value.int .i64) ?_, rfl⟩ (by repeat (first | exact Split.nil | (apply Split.cons; (repeat (first | with_reducible exact Take.here | apply Take.there)))))
       unfold Sett.bad; grind
      ·skip
       refine swp_skip ?_
       refine then_n ?_
       refine swp_seq ?_
       refine swp_region ?_
       refine s_pu (pu_assign rfl) ?_
       refine swl_sub _ (.cons (t := 2) rfl .nil) ?_
       refine swl_nil ?_
       refine then_n ?_
       refine swp_ret ?_
       refine done_ret [] (.tmp rfl .nil) ⟨congrArg (Value.int .i64) ?_, rfl⟩ (by repeat (first | exact Split.nil | (apply Split.cons; (repeat (first | with_reducible exact Take.here | apply Take.there)))))
       unfold Sett.bad; grind
     ·skip
      refine s_on rfl rfl ?_
      first | refine s_pu (pu_fieldAddr0 rfl) ?_ | refine s_pu (pu_fieldAddr rfl) ?_
      refine s_on rfl rfl ?_
      refine s_rd (rd_load rfl rfl) ?_
      refine s_on rfl rfl ?_
      refine s_pu (pu_gtr rfl rfl) ?_
      first | refine s_pu (pu_pick_t rfl rfl) ?_ | refine s_pu (pu_pick_f rfl rfl) ?_
      refine swl_sub _ (.cons (t := 30) rfl .nil) ?_
      refine swl_nil ?_
      refine then_n ?_
      refine swp_cond (b := _) rfl (fun h30 => ?_) (fun h30 => ?_)
      ·skip
       refine swp_seq ?_
       refine swp_region ?_
       refine s_pu (pu_assign rfl) ?_
       refine swl_sub _ (.cons (t := 2) rfl .nil) ?_
       refine swl_nil ?_
       refine then_n ?_
       refine swp_ret ?_
       refine then_r ?_
       refine done_ret [] (.tmp rfl .nil) ⟨congrArg (Value.int .i64) ?_, rfl⟩ (by repeat (first | exact Split.nil | (apply Split.cons; (repeat (first | with_reducible exact Take.here | apply Take.there)))))
       unfold Sett.bad; grind
      ·skip
       refine swp_skip ?_
       refine then_n ?_
       refine swp_seq ?_
       refine swp_region ?_
       refine s_pu (pu_assign rfl) ?_
       refine swl_sub _ (.cons (t := 2) rfl .nil) ?_
       refine swl_nil ?_
       refine then_n ?_
       refine swp_ret ?_
       refine done_ret [] (.tmp rfl .nil) ⟨congrArg (Value.int .i64) ?_, rfl⟩ (by repeat (first | exact Split.nil | (apply Split.cons; (repeat (first | with_reducible exact Take.here | apply Take.there)))))
       unfold Sett.bad; grind
   ·skip
    refine s_on rfl rfl ?_
    first | refine s_pu (pu_fieldAddr0 rfl) ?_ | refine s_pu (pu_fieldAddr rfl) ?_
    refine s_on rfl rfl ?_
    refine s_rd (rd_load rfl rfl) ?_
    refine s_on rfl rfl ?_
    refine s_pu (pu_gtr rfl rfl) ?_
    first | refine s_pu (pu_pick_t rfl rfl) ?_ | refine s_pu (pu_pick_f rfl rfl) ?_
    refine s_pu (pu_move rfl) ?_
    refine s_split 21 rfl (fun h21 => ?_) (fun h21 => ?_)
    ·skip
     refine s_off rfl rfl rfl ?_
     refine s_off rfl rfl rfl ?_
     refine s_off rfl rfl rfl ?_
     first | refine s_pu (pu_pick_t rfl rfl) ?_ | refine s_pu (pu_pick_f rfl rfl) ?_
     refine s_pu (pu_move rfl) ?_
     refine s_split 26 rfl (fun h26 => ?_) (fun h26 => ?_)
     ·skip
      refine s_off rfl rfl rfl ?_
      refine s_off rfl rfl rfl ?_
      refine s_off rfl rfl rfl ?_
      first | refine s_pu (pu_pick_t rfl rfl) ?_ | refine s_pu (pu_pick_f rfl rfl) ?_
      refine swl_sub _ (.cons (t := 30) rfl .nil) ?_
      refine swl_nil ?_
      refine then_n ?_
      refine swp_cond (b := _) rfl (fun h30 => ?_) (fun h30 => ?_)
      ·skip
       refine swp_seq ?_
       refine swp_region ?_
       refine s_pu (pu_assign rfl) ?_
       refine swl_sub _ (.cons (t := 2) rfl .nil) ?_
       refine swl_nil ?_
       refine then_n ?_
       refine swp_ret ?_
       refine then_r ?_
       refine done_ret [] (.tmp rfl .nil) ⟨congrArg (Value.int .i64) ?_, rfl⟩ (by repeat (first | exact Split.nil | (apply Split.cons; (repeat (first | with_reducible exact Take.here | apply Take.there)))))
       unfold Sett.bad; grind
      ·skip
       refine swp_skip ?_
       refine then_n ?_
       refine swp_seq ?_
       refine swp_region ?_
       refine s_pu (pu_assign rfl) ?_
       refine swl_sub _ (.cons (t := 2) rfl .nil) ?_
       refine swl_nil ?_
       refine then_n ?_
       refine swp_ret ?_
       refine done_ret [] (.tmp rfl .nil) ⟨congrArg (Value.int .i64) ?_, rfl⟩ (by repeat (first | exact Split.nil | (apply Split.cons; (repeat (first | with_reducible exact Take.here | apply Take.there)))))
       unfold Sett.bad; grind
     ·skip
      refine s_on rfl rfl ?_
      first | refine s_pu (pu_fieldAddr0 rfl) ?_ | refine s_pu (pu_fieldAddr rfl) ?_
      refine s_on rfl rfl ?_
      refine s_rd (rd_load rfl rfl) ?_
      refine s_on rfl rfl ?_
      refine s_pu (pu_gtr rfl rfl) ?_
      first | refine s_pu (pu_pick_t rfl rfl) ?_ | refine s_pu (pu_pick_f rfl rfl) ?_
      refine swl_sub _ (.cons (t := 30) rfl .nil) ?_
      refine swl_nil ?_
      refine then_n ?_
      refine swp_cond (b := _) rfl (fun h30 => ?_) (fun h30 => ?_)
      ·skip
       refine swp_seq ?_
       refine swp_region ?_
       refine s_pu (pu_assign rfl) ?_
       refine swl_sub _ (.cons (t := 2) rfl .nil) ?_
       refine swl_nil ?_
       refine then_n ?_
       refine swp_ret ?_
       refine then_r ?_
       refine done_ret [] (.tmp rfl .nil) ⟨congrArg (Value.int .i64) ?_, rfl⟩ (by repeat (first | exact Split.nil | (apply Split.cons; (repeat (first | with_reducible exact Take.here | apply Take.there)))))
       unfold Sett.bad; grind
      ·skip
       refine swp_skip ?_
       refine then_n ?_
       refine swp_seq ?_
       refine swp_region ?_
       refine s_pu (pu_assign rfl) ?_
       refine swl_sub _ (.cons (t := 2) rfl .nil) ?_
       refine swl_nil ?_
       refine then_n ?_
       refine swp_ret ?_
       refine done_ret [] (.tmp rfl .nil) ⟨congrArg (Value.int .i64) ?_, rfl⟩ (by repeat (first | exact Split.nil | (apply Split.cons; (repeat (first | with_reducible exact Take.here | apply Take.there)))))
       unfold Sett.bad; grind
    ·skip
     refine s_on rfl rfl ?_
     first | refine s_pu (pu_fieldAddr0 rfl) ?_ | refine s_pu (pu_fieldAddr rfl) ?_
     refine s_on rfl rfl ?_
     refine s_rd (rd_load rfl rfl) ?_
     refine s_on rfl rfl ?_
     refine s_pu (pu_lss rfl rfl) ?_
     first | refine s_pu (pu_pick_t rfl rfl) ?_ | refine s_pu (pu_pick_f rfl rfl) ?_
     refine s_pu (pu_move rfl) ?_
     refine s_split 26 rfl (fun h26 => ?_) (fun h26 => ?_)
     ·skip
      refine s_off rfl rfl rfl ?_
      refine s_off rfl rfl rfl ?_
      refine s_off rfl rfl rfl ?_
      first | refine s_pu (pu_pick_t rfl rfl) ?_ | refine s_pu (pu_pick_f rfl rfl) ?_
      refine swl_sub _ (.cons (t := 30) rfl .nil) ?_
      refine swl_nil ?_
      refine then_n ?_
      refine swp_cond (b := _) rfl (fun h30 => ?_) (fun h30 => ?_)
      ·skip
       refine swp_seq ?_
       refine swp_region ?_
       refine s_pu (pu_assign rfl) ?_
       refine swl_sub _ (.cons (t := 2) rfl .nil) ?_
       refine swl_nil ?_
       refine then_n ?_
       refine swp_ret ?_
       refine then_r ?_
       refine done_ret [] (.tmp rfl .nil) ⟨congrArg (Value.int .i64) ?_, rfl⟩ (by repeat (first | exact Split.nil | (apply Split.cons; (repeat (first | with_reducible exact Take.here | apply Take.there)))))
       unfold Sett.bad; grind
      ·skip
       refine swp_skip ?_
       refine then_n ?_
       refine swp_seq ?_
       refine swp_region ?_
       refine s_pu (pu_assign rfl) ?_
       refine swl_sub _ (.cons (t := 2) rfl .nil) ?_
       refine swl_nil ?_
       refine then_n ?_
       refine swp_ret ?_
       refine done_ret [] (.tmp rfl .nil) ⟨congrArg (Value.int .i64) ?_, rfl⟩ (by repeat (first | exact Split.nil | (apply Split.cons; (repeat (first | with_reducible exact Take.here | apply Take.there)))))
       unfold Sett.bad; grind
     ·skip
      refine s_on rfl rfl ?_
      first | refine s_pu (pu_fieldAddr0 rfl) ?_ | refine s_pu (pu_fieldAddr rfl) ?_
      refine s_on rfl rfl ?_
      refine s_rd (rd_load rfl rfl) ?_
      refine s_on rfl rfl ?_
      refine s_pu (pu_gtr rfl rfl) ?_
      first | refine s_pu (pu_pick_t rfl rfl) ?_ | refine s_pu (pu_pick_f rfl rfl) ?_
      refine swl_sub _ (.cons (t := 30) rfl .nil) ?_
      refine swl_nil ?_
      refine then_n ?_
      refine swp_cond (b := _) rfl (fun h30 => ?_) (fun h30 => ?_)
      ·skip
       refine swp_seq ?_
       refine swp_region ?_
       refine s_pu (pu_assign rfl) ?_
       refine swl_sub _ (.cons (t := 2) rfl .nil) ?_
       refine swl_nil ?_
       refine then_n ?_
       refine swp_ret ?_
       refine then_r ?_
       refine done_ret [] (.tmp rfl .nil) ⟨congrArg (Value.int .i64) ?_, rfl⟩ (by repeat (first | exact Split.nil | (apply Split.cons; (repeat (first | with_reducible exact Take.here | apply Take.there)))))
       unfold Sett.bad; grind
      ·skip
       refine swp_skip ?_
       refine then_n ?_
       refine swp_seq ?_
       refine swp_region ?_
       refine s_pu (pu_assign rfl) ?_
       refine swl_sub _ (.cons (t := 2) rfl .nil) ?_
       refine swl_nil ?_
       refine then_n ?_
       refine swp_ret ?_
       refine done_ret [] (.tmp rfl .nil) ⟨congrArg (Value.int .i64) ?_, rfl⟩ (by repeat (first | exact Split.nil | (apply Split.cons; (repeat (first | with_reducible exact Take.here | apply Take.there)))))
       unfold Sett.bad; grind
 ·skip
  refine s_on rfl rfl ?_
  first | refine s_pu (pu_fieldAddr0 rfl) ?_ | refine s_pu (pu_fieldAddr rfl) ?_
  refine s_on rfl rfl ?_
  refine s_rd (rd_load rfl rfl) ?_
  refine s_on rfl rfl ?_
  refine s_pu (pu_gtr rfl rfl) ?_
  first | refine s_pu (pu_pick_t rfl rfl) ?_ | refine s_pu (pu_pick_f rfl rfl) ?_
  refine s_pu (pu_move rfl) ?_
  refine s_split 11 rfl (fun h11 => ?_) (fun h11 => ?_)
  ·skip
   refine s_off rfl rfl rfl ?_
   refine s_off rfl rfl rfl ?_
   refine s_off rfl rfl rfl ?_
   first | refine s_pu (pu_pick_t rfl rfl) ?_ | refine s_pu (pu_pick_f rfl rfl) ?_
   refine s_pu (pu_move rfl) ?_
   refine s_split 16 rfl (fun h16 => ?_) (fun h16 => ?_)
   ·skip
    refine s_off rfl rfl rfl ?_
    refine s_off rfl rfl rfl ?_
    refine s_off rfl rfl rfl ?_
    first | refine s_pu (pu_pick_t rfl rfl) ?_ | refine s_pu (pu_pick_f rfl rfl) ?_
    refine s_pu (pu_move rfl) ?_
    refine s_split 21 rfl (fun h21 => ?_) (fun h21 => ?_)
    ·skip
     refine s_off rfl rfl rfl ?_
     refine s_off rfl rfl rfl ?_
     refine s_off rfl rfl rfl ?_
     first | refine s_pu (pu_pick_t rfl rfl) ?_ | refine s_pu (pu_pick_f rfl rfl) ?_
     refine s_pu (pu_move rfl) ?_
     refine s_split 26 rfl (fun h26 => ?_) (fun h26 => ?_)
     ·skip
      refine s_off rfl rfl rfl ?_
      refine s_off rfl rfl rfl ?_
      refine s_off rfl rfl rfl ?_
      first | refine s_pu (pu_pick_t rfl rfl) ?_ | refine s_pu (pu_pick_f rfl rfl) ?_
      refine swl_sub _ (.cons (t := 30) rfl .nil) ?_
      refine swl_nil ?_
      refine then_n ?_
      refine swp_cond (b := _) rfl (fun h30 => ?_) (fun h30 => ?_)
      ·skip
       refine swp_seq ?_
       refine swp_region ?_
       refine s_pu (pu_assign rfl) ?_
       refine swl_sub _ (.cons (t := 2) rfl .nil) ?_
       refine swl_nil ?_
       refine then_n ?_
       refine swp_ret ?_
       refine then_r ?_
       refine done_ret [] (.tmp rfl .nil) ⟨congrArg (Value.int .i64) ?_, rfl⟩ (by repeat (first | exact Split.nil | (apply Split.cons; (repeat (first | with_reducible exact Take.here | apply Take.there)))))
       unfold Sett.bad; grind
      ·skip
       refine swp_skip ?_
       refine then_n ?_
       refine swp_seq ?_
       refine swp_region ?_
       refine s_pu (pu_assign rfl) ?_
       refine swl_sub _ (.cons (t := 2) rfl .nil) ?_
       refine swl_nil ?_
       refine then_n ?_
       refine swp_ret ?_
       refine done_ret [] (.tmp rfl .nil) ⟨congrArg (Value.int .i64) ?_, rfl⟩ (by repeat (first | exact Split.nil | (apply Split.cons; (repeat (first | with_reducible exact Take.here | apply Take.there)))))
       unfold Sett.bad; grind
     ·skip
      refine s_on rfl rfl ?_
      first | refine s_pu (pu_fieldAddr0 rfl) ?_ | refine s_pu (pu_fieldAddr rfl) ?_
      refine s_on rfl rfl ?_
      refine s_rd (rd_load rfl rfl) ?_
      refine s_on rfl rfl ?_
      refine s_pu (pu_gtr rfl rfl) ?_
      first | refine s_pu (pu_pick_t rfl rfl) ?_ | refine s_pu (pu_pick_f rfl rfl) ?_
      refine swl_sub _ (.cons (t := 30) rfl .nil) ?_
      refine swl_nil ?_
      refine then_n ?_
      refine swp_cond (b := _) rfl (fun h30 => ?_) (fun h30 => ?_)
      ·skip
       refine swp_seq ?_
       refine swp_region ?_
       refine s_pu (pu_assign rfl) ?_
       refine swl_sub _ (.cons (t := 2) rfl .nil) ?_
       refine swl_nil ?_
       refine then_n ?_
       refine swp_ret ?_
       refine then_r ?_
       refine done_ret [] (.tmp rfl .nil) ⟨congrArg (Value.int .i64) ?_, rfl⟩ (by repeat (first | exact Split.nil | (apply Split.cons; (repeat (first | with_reducible exact Take.here | apply Take.there)))))
       unfold Sett.bad; grind
      ·skip
       refine swp_skip ?_
       refine then_n ?_
       refine swp_seq ?_
       refine swp_region ?_
       refine s_pu (pu_assign rfl) ?_
       refine swl_sub _ (.cons (t := 2) rfl .nil) ?_
       refine swl_nil ?_
       refine then_n ?_
       refine swp_ret ?_
       refine done_ret [] (.tmp rfl .nil) ⟨congrArg (Value.int .i64) ?_, rfl⟩ (by repeat (first | exact Split.nil | (apply Split.cons; (repeat (first | with_reducible exact Take.here | apply Take.there)))))
       unfold Sett.bad; grind
    ·skip
     refine s_on rfl rfl ?_
     first | refine s_pu (pu_fieldAddr0 rfl) ?_ | refine s_pu (pu_fieldAddr rfl) ?_
     refine s_on rfl rfl ?_
     refine s_rd (rd_load rfl rfl) ?_
     refine s_on rfl rfl ?_
     refine s_pu (pu_lss rfl rfl) ?_
     first | refine s_pu (pu_pick_t rfl rfl) ?_ | refine s_pu (pu_pick_f rfl rfl) ?_
     refine s_pu (pu_move rfl) ?_
     refine s_split 26 rfl (fun h26 => ?_) (fun h26 => ?_)
     ·skip
      refine s_off rfl rfl rfl ?_
      refine s_off rfl rfl rfl ?_
      refine s_off rfl rfl rfl ?_
      first | refine s_pu (pu_pick_t rfl rfl) ?_ | refine s_pu (pu_pick_f rfl rfl) ?_
      refine swl_sub _ (.cons (t := 30) rfl .nil) ?_
      refine swl_nil ?_
      refine then_n ?_
      refine swp_cond (b := _) rfl (fun h30 => ?_) (fun h30 => ?_)
      ·skip
       refine swp_seq ?_
       refine swp_region ?_
       refine s_pu (pu_assign rfl) ?_
       refine swl_sub _ (.cons (t := 2) rfl .nil) ?_
       refine swl_nil ?_
       refine then_n ?_
       refine swp_ret ?_
       refine then_r ?_
       refine done_ret [] (.tmp rfl .nil) ⟨congrArg (Value.int .i64) ?_, rfl⟩ (by repeat (first | exact Split.nil | (apply Split.cons; (repeat (first | with_reducible exact Take.here | apply Take.there)))))
       unfold Sett.bad; grind
      ·skip
       refine swp_skip ?_
       refine then_n ?_
       refine swp_seq ?_
       refine swp_region ?_
       refine s_pu (pu_assign rfl) ?_
       refine swl_sub _ (.cons (t := 2) rfl .nil) ?_
       refine swl_nil ?_
       refine then_n ?_
       refine swp_ret ?_
       refine done_ret [] (.tmp rfl .nil) ⟨congrArg (Value.int .i64) ?_, rfl⟩ (by repeat (first | exact Split.nil | (apply Split.cons; (repeat (first | with_reducible exact Take.here | apply Take.there)))))
       unfold Sett.bad; grind
     ·skip
      refine s_on rfl rfl ?_
      first | refine s_pu (pu_fieldAddr0 rfl) ?_ | refine s_pu (pu_fieldAddr rfl) ?_
      refine s_on rfl rfl ?_
      refine s_rd (rd_load rfl rfl) ?_
      refine s_on rfl rfl ?_
      refine s_pu (pu_gtr rfl rfl) ?_
      first | refine s_pu (pu_pick_t rfl rfl) ?_ | refine s_pu (pu_pick_f rfl rfl) ?_
      refine swl_sub _ (.cons (t := 30) rfl .nil) ?_
      refine swl_nil ?_
      refine then_n ?_
      refine swp_cond (b := _) rfl (fun h30 => ?_) (fun h30 => ?_)
      ·skip
       refine swp_seq ?_
       refine swp_region ?_
       refine s_pu (pu_assign rfl) ?_
       refine swl_sub _ (.cons (t := 2) rfl .nil) ?_
       refine swl_nil ?_
       refine then_n ?_
       refine swp_ret ?_
       refine then_r ?_
       refine done_ret [] (.tmp rfl .nil) ⟨congrArg (Value.int .i64) ?_, rfl⟩ (by repeat (first | exact Split.nil | (apply Split.cons; (repeat (first | with_reducible exact Take.here | apply Take.there)))))
       unfold Sett.bad; grind
      ·skip
       refine swp_skip ?_
       refine then_n ?_
       refine swp_seq ?_
       refine swp_region ?_
       refine s_pu (pu_assign rfl) ?_
       refine swl_sub _ (.cons (t := 2) rfl .nil) ?_
       refine swl_nil ?_
       refine then_n ?_
       refine swp_ret ?_
       refine done_ret [] (.tmp rfl .nil) ⟨congrArg (Value.int .i64) ?_, rfl⟩ (by repeat (first | exact Split.nil | (apply Split.cons; (repeat (first | with_reducible exact Take.here | apply Take.there)))))
       unfold Sett.bad; grind
   ·skip
    refine s_on rfl rfl ?_
    first | refine s_pu (pu_fieldAddr0 rfl) ?_ | refine s_pu (pu_fieldAddr rfl) ?_
    refine s_on rfl rfl ?_
    refine s_rd (rd_load rfl rfl) ?_
    refine s_on rfl rfl ?_
    refine s_pu (pu_gtr rfl rfl) ?_
    first | refine s_pu (pu_pick_t rfl rfl) ?_ | refine s_pu (pu_pick_f rfl rfl) ?_
    refine s_pu (pu_move rfl) ?_
    refine s_split 21 rfl (fun h21 => ?_) (fun h21 => ?_)
    ·skip
     refine s_off rfl rfl rfl ?_
     refine s_off rfl rfl rfl ?_
     refine s_off rfl rfl rfl ?_
     first | refine s_pu (pu_pick_t rfl rfl) ?_ | refine s_pu (pu_pick_f rfl rfl) ?_
     refine s_pu (pu_move rfl) ?_
     refine s_split 26 rfl (fun h26 => ?_) (fun h26 => ?_)
     ·skip
      refine s_off rfl rfl rfl ?_
      refine s_off rfl rfl rfl ?_
      refine s_off rfl rfl rfl ?_
      first | refine s_pu (pu_pick_t rfl rfl) ?_ | refine s_pu (pu_pick_f rfl rfl) ?_
      refine swl_sub _ (.cons (t := 30) rfl .nil) ?_
      refine swl_nil ?_
      refine then_n ?_
      refine swp_cond (b := _) rfl (fun h30 => ?_) (fun h30 => ?_)
      ·skip
       refine swp_seq ?_
       refine swp_region ?_
       refine s_pu (pu_assign rfl) ?_
       refine swl_sub _ (.cons (t := 2) rfl .nil) ?_
       refine swl_nil ?_
       refine then_n ?_
       refine swp_ret ?_
       refine then_r ?_
       refine done_ret [] (.tmp rfl .nil) ⟨congrArg (Value.int .i64) ?_, rfl⟩ (by repeat (first | exact Split.nil | (apply Split.cons; (repeat (first | with_reducible exact Take.here | apply Take.there)))))
       unfold Sett.bad; grind
      ·skip
       refine swp_skip ?_
       refine then_n ?_
       refine swp_seq ?_
       refine swp_region ?_
       refine s_pu (pu_assign rfl) ?_
       refine swl_sub _ (.cons (t := 2) rfl .nil) ?_
       refine swl_nil ?_
       refine then_n ?_
       refine swp_ret ?_
       refine done_ret [] (.tmp rfl .nil) ⟨congrArg (Value.int .i64) ?_, rfl⟩ (by repeat (first | exact Split.nil | (apply Split.cons; (repeat (first | with_reducible exact Take.here | apply Take.there)))))
       unfold Sett.bad; grind
     ·skip
      refine s_on rfl rfl ?_
      first | refine s_pu (pu_fieldAddr0 rfl) ?_ | refine s_pu (pu_fieldAddr rfl) ?_
      refine s_on rfl rfl ?_
      refine s_rd (rd_load rfl rfl) ?_
      refine s_on rfl rfl ?_
      refine s_pu (pu_gtr rfl rfl) ?_
      first | refine s_pu (pu_pick_t rfl rfl) ?_ | refine s_pu (pu_pick_f rfl rfl) ?_
      refine swl_sub _ (.cons (t := 30) rfl .nil) ?_
      refine swl_nil ?_
      refine then_n ?_
      refine swp_cond (b := _) rfl (fun h30 => ?_) (fun h30 => ?_)
      ·skip
       refine swp_seq ?_
       refine swp_region ?_
       refine s_pu (pu_assign rfl) ?_
       refine swl_sub _ (.cons (t := 2) rfl .nil) ?_
       refine swl_nil ?_
       refine then_n ?_
       refine swp_ret ?_
       refine then_r ?_
       refine done_ret [] (.tmp rfl .nil) ⟨congrArg (Value.int .i64) ?_, rfl⟩ (by repeat (first | exact Split.nil | (apply Split.cons; (repeat (first | with_reducible exact Take.here | apply Take.there)))))
       unfold Sett.bad; grind
      ·skip
       refine swp_skip ?_
       refine then_n ?_
       refine swp_seq ?_
       refine swp_region ?_
       refine s_pu (pu_assign rfl) ?_
       refine swl_sub _ (.cons (t := 2) rfl .nil) ?_
       refine swl_nil ?_
       refine then_n ?_
       refine swp_ret ?_
       refine done_ret [] (.tmp rfl .nil) ⟨congrArg (Value.int .i64) ?_, rfl⟩ (by repeat (first | exact Split.nil | (apply Split.cons; (repeat (first | with_reducible exact Take.here | apply Take.there)))))
       unfold Sett.bad; grind
    ·skip
     refine s_on rfl rfl ?_
     first | refine s_pu (pu_fieldAddr0 rfl) ?_ | refine s_pu (pu_fieldAddr rfl) ?_
     refine s_on rfl rfl ?_
     refine s_rd (rd_load rfl rfl) ?_
     refine s_on rfl rfl ?_
     refine s_pu (pu_lss rfl rfl) ?_
     first | refine s_pu (pu_pick_t rfl rfl) ?_ | refine s_pu (pu_pick_f rfl rfl) ?_
     refine s_pu (pu_move rfl) ?_
     refine s_split 26 rfl (fun h26 => ?_) (fun h26 => ?_)
     ·skip
      refine s_off rfl rfl rfl ?_
      refine s_off rfl rfl rfl ?_
      refine s_off rfl rfl rfl ?_
      first | refine s_pu (pu_pick_t rfl rfl) ?_ | refine s_pu (pu_pick_f rfl rfl) ?_
      refine swl_sub _ (.cons (t := 30) rfl .nil) ?_
      refine swl_nil ?_
      refine then_n ?_
      refine swp_cond (b := _) rfl (fun h30 => ?_) (fun h30 => ?_)
      ·skip
       refine swp_seq ?_
       refine swp_region ?_
       refine s_pu (pu_assign rfl) ?_
       refine swl_sub _ (.cons (t := 2) rfl .nil) ?_
       refine swl_nil ?_
       refine then_n ?_
       refine swp_ret ?_
       refine then_r ?_
       refine done_ret [] (.tmp rfl .nil) ⟨congrArg (Value.int .i64) ?_, rfl⟩ (by repeat (first | exact Split.nil | (apply Split.cons; (repeat (first | with_reducible exact Take.here | apply Take.there)))))
       unfold Sett.bad; grind
      ·skip
       refine swp_skip ?_
       refine then_n ?_
       refine swp_seq ?_
       refine swp_region ?_
       refine s_pu (pu_assign rfl) ?_
       refine swl_sub _ (.cons (t := 2) rfl .nil) ?_
       refine swl_nil ?_
       refine then_n ?_
       refine swp_ret ?_
       refine done_ret [] (.tmp rfl .nil) ⟨congrArg (Value.int .i64) ?_, rfl⟩ (by repeat (first | exact Split.nil | (apply Split.cons; (repeat (first | with_reducible exact Take.here | apply Take.there)))))
       unfold Sett.bad; grind
     ·skip
      refine s_on rfl rfl ?_
      first | refine s_pu (pu_fieldAddr0 rfl) ?_ | refine s_pu (pu_fieldAddr rfl) ?_
      refine s_on rfl rfl ?_
      refine s_rd (rd_load rfl rfl) ?_
      refine s_on rfl rfl ?_
      refine s_pu (pu_gtr rfl rfl) ?_
      first | refine s_pu (pu_pick_t rfl rfl) ?_ | refine s_pu (pu_pick_f rfl rfl) ?_
      refine swl_sub _ (.cons (t := 30) rfl .nil) ?_
      refine swl_nil ?_
      refine then_n ?_
      refine swp_cond (b := _) rfl (fun h30 => ?_) (fun h30 => ?_)
      ·skip
       refine swp_seq ?_
       refine swp_region ?_
       refine s_pu (pu_assign rfl) ?_
       refine swl_sub _ (.cons (t := 2) rfl .nil) ?_
       refine swl_nil ?_
       refine then_n ?_
       refine swp_ret ?_
       refine then_r ?_
       refine done_ret [] (.tmp rfl .nil) ⟨congrArg (Value.int .i64) ?_, rfl⟩ (by repeat (first | exact Split.nil | (apply Split.cons; (repeat (first | with_reducible exact Take.here | apply Take.there)))))
       unfold Sett.bad; grind
      ·skip
       refine swp_skip ?_
       refine then_n ?_
       refine swp_seq ?_
       refine swp_region ?_
       refine s_pu (pu_assign rfl) ?_
       refine swl_sub _ (.cons (t := 2) rfl .nil) ?_
       refine swl_nil ?_
       refine then_n ?_
       refine swp_ret ?_
       refine done_ret [] (.tmp rfl .nil) ⟨congrArg (Value.int .i64) ?_, rfl⟩ (by repeat (first | exact Split.nil | (apply Split.cons; (repeat (first | with_reducible exact Take.here | apply Take.there)))))
       unfold Sett.bad; grind
  ·skip
   refine s_on rfl rfl ?_
   first | refine s_pu (pu_fieldAddr0 rfl) ?_ | refine s_pu (pu_fieldAddr rfl) ?_
   refine s_on rfl rfl ?_
   refine s_rd (rd_load rfl rfl) ?_
   refine s_on rfl rfl ?_
   refine s_pu (pu_lss rfl rfl) ?_
   first | refine s_pu (pu_pick_t rfl rfl) ?_ | refine s_pu (pu_pick_f rfl rfl) ?_
   refine s_pu (pu_move rfl) ?_
   refine s_split 16 rfl (fun h16 => ?_) (fun h16 => ?_)
   ·skip
    refine s_off rfl rfl rfl ?_
    refine s_off rfl rfl rfl ?_
    refine s_off rfl rfl rfl ?_
    first | refine s_pu (pu_pick_t rfl rfl) ?_ | refine s_pu (pu_pick_f rfl rfl) ?_
    refine s_pu (pu_move rfl) ?_
    refine s_split 21 rfl (fun h21 => ?_) (fun h21 => ?_)
    ·skip
     refine s_off rfl rfl rfl ?_
     refine s_off rfl rfl rfl ?_
     refine s_off rfl rfl rfl ?_
     first | refine s_pu (pu_pick_t rfl rfl) ?_ | refine s_pu (pu_pick_f rfl rfl) ?_
     refine s_pu (pu_move rfl) ?_
     refine s_split 26 rfl (fun h26 => ?_) (fun h26 => ?_)
     ·skip
      refine s_off rfl rfl rfl ?_
      refine s_off rfl rfl rfl ?_
      refine s_off rfl rfl rfl ?_
      first | refine s_pu (pu_pick_t rfl rfl) ?_ | refine s_pu (pu_pick_f rfl rfl) ?_
      refine swl_sub _ (.cons (t := 30) rfl .nil) ?_
      refine swl_nil ?_
      refine then_n ?_
      refine swp_cond (b := _) rfl (fun h30 => ?_) (fun h30 => ?_)
      ·skip
       refine swp_seq ?_
       refine swp_region ?_
       refine s_pu (pu_assign rfl) ?_
       refine swl_sub _ (.cons (t := 2) rfl .nil) ?_
       refine swl_nil ?_
       refine then_n ?_
       refine swp_ret ?_
       refine then_r ?_
       refine done_ret [] (.tmp rfl .nil) ⟨congrArg (Value.int .i64) ?_, rfl⟩ (by repeat (first | exact Split.nil | (apply Split.cons; (repeat (first | with_reducible exact Take.here | apply Take.there)))))
       unfold Sett.bad; grind
      ·skip
       refine swp_skip ?_
       refine then_n ?_
       refine swp_seq ?_
       refine swp_region ?_
       refine s_pu (pu_assign rfl) ?_
       refine swl_sub _ (.cons (t := 2) rfl .nil) ?_
       refine swl_nil ?_
       refine then_n ?_
       refine swp_ret ?_
       refine done_ret [] (.tmp rfl .nil) ⟨congrArg (Value.int .i64) ?_, rfl⟩ (by repeat (first | exact Split.nil | (apply Split.cons; (repeat (first | with_reducible exact Take.here | apply Take.there)))))
       unfold Sett.bad; grind
     ·skip
      refine s_on rfl rfl ?_
      first | refine s_pu (pu_fieldAddr0 rfl) ?_ | refine s_pu (pu_fieldAddr rfl) ?_
      refine s_on rfl rfl ?_
      refine s_rd (rd_load rfl rfl) ?_
      refine s_on rfl rfl ?_
      refine s_pu (pu_gtr rfl rfl) ?_
      first | refine s_pu (pu_pick_t rfl rfl) ?_ | refine s_pu (pu_pick_f rfl rfl) ?_
      refine swl_sub _ (.cons (t := 30) rfl .nil) ?_
      refine swl_nil ?_
      refine then_n ?_
      refine swp_cond (b := _) rfl (fun h30 => ?_) (fun h30 => ?_)
      ·skip
       refine swp_seq ?_
       refine swp_region ?_
       refine s_pu (pu_assign rfl) ?_
       refine swl_sub _ (.cons (t := 2) rfl .nil) ?_
       refine swl_nil ?_
       refine then_n ?_
       refine swp_ret ?_
       refine then_r ?_
       refine done_ret [] (.tmp rfl .nil) ⟨congrArg (Value.int .i64) ?_, rfl⟩ (by repeat (first | exact Split.nil | (apply Split.cons; (repeat (first | with_reducible exact Take.here | apply Take.there)))))
       unfold Sett.bad; grind
      ·skip
       refine swp_skip ?_
       refine then_n ?_
       refine swp_seq ?_
       refine swp_region ?_
       refine s_pu (pu_assign rfl) ?_
       refine swl_sub _ (.cons (t := 2) rfl .nil) ?_
       refine swl_nil ?_
       refine then_n ?_
       refine swp_ret ?_
       refine done_ret [] (.tmp rfl .nil) ⟨congrArg (Value.int .i64) ?_, rfl⟩ (by repeat (first | exact Split.nil | (apply Split.cons; (repeat (first | with_reducible exact Take.here | apply Take.there)))))
       unfold Sett.bad; grind
    ·skip
     refine s_on rfl rfl ?_
     first | refine s_pu (pu_fieldAddr0 rfl) ?_ | refine s_pu (pu_fieldAddr rfl) ?_
     refine s_on rfl rfl ?_
     refine s_rd (rd_load rfl rfl) ?_
     refine s_on rfl rfl ?_
     refine s_pu (pu_lss rfl rfl) ?_
     first | refine s_pu (pu_pick_t rfl rfl) ?_ | refine s_pu (pu_pick_f rfl rfl) ?_
     refine s_pu (pu_move rfl) ?_
     refine s_split 26 rfl (fun h26 => ?_) (fun h26 => ?_)
     ·skip
      refine s_off rfl rfl rfl ?_
      refine s_off rfl rfl rfl ?_
      refine s_off rfl rfl rfl ?_
      first | refine s_pu (pu_pick_t rfl rfl) ?_ | refine s_pu (pu_pick_f rfl rfl) ?_
      refine swl_sub _ (.cons (t := 30) rfl .nil) ?_
      refine swl_nil ?_
      refine then_n ?_
      refine swp_cond (b := _) rfl (fun h30 => ?_) (fun h30 => ?_)
      ·skip
       refine swp_seq ?_
       refine swp_region ?_
       refine s_pu (pu_assign rfl) ?_
       refine swl_sub _ (.cons (t := 2) rfl .nil) ?_
       refine swl_nil ?_
       refine then_n ?_
       refine swp_ret ?_
       refine then_r ?_
       refine done_ret [] (.tmp rfl .nil) ⟨congrArg (Value.int .i64) ?_, rfl⟩ (by repeat (first | exact Split.nil | (apply Split.cons; (repeat (first | with_reducible exact Take.here | apply Take.there)))))
       unfold Sett.bad; grind
      ·skip
       refine swp_skip ?_
       refine then_n ?_
       refine swp_seq ?_
       refine swp_region ?_
       refine s_pu (pu_assign rfl) ?_
       refine swl_sub _ (.cons (t := 2) rfl .nil) ?_
       refine swl_nil ?_
       refine then_n ?_
       refine swp_ret ?_
       refine done_ret [] (.tmp rfl .nil) ⟨congrArg (Value.int .i64) ?_, rfl⟩ (by repeat (first | exact Split.nil | (apply Split.cons; (repeat (first | with_reducible exact Take.here | apply Take.there)))))
       unfold Sett.bad; grind
     ·skip
      refine s_on rfl rfl ?_
      first | refine s_pu (pu_fieldAddr0 rfl) ?_ | refine s_pu (pu_fieldAddr rfl) ?_
      refine s_on rfl rfl ?_
      refine s_rd (rd_load rfl rfl) ?_
      refine s_on rfl rfl ?_
      refine s_pu (pu_gtr rfl rfl) ?_
      first | refine s_pu (pu_pick_t rfl rfl) ?_ | refine s_pu (pu_pick_f rfl rfl) ?_
      refine swl_sub _ (.cons (t := 30) rfl .nil) ?_
      refine swl_nil ?_
      refine then_n ?_
      refine swp_cond (b := _) rfl (fun h30 => ?_) (fun h30 => ?_)
      ·skip
       refine swp_seq ?_
       refine swp_region ?_
       refine s_pu (pu_assign rfl) ?_
       refine swl_sub _ (.cons (t := 2) rfl .nil) ?_
       refine swl_nil ?_
       refine then_n ?_
       refine swp_ret ?_
       refine then_r ?_
       refine done_ret [] (.tmp rfl .nil) ⟨congrArg (Value.int .i64) ?_, rfl⟩ (by repeat (first | exact Split.nil | (apply Split.cons; (repeat (first | with_reducible exact Take.here | apply Take.there)))))
       unfold Sett.bad; grind
      ·skip
       refine swp_skip ?_
       refine then_n ?_
       refine swp_seq ?_
       refine swp_region ?_
       refine s_pu (pu_assign rfl) ?_
       refine swl_sub _ (.cons (t := 2) rfl .nil) ?_
       refine swl_nil ?_
       refine then_n ?_
       refine swp_ret ?_
       refine done_ret [] (.tmp rfl .nil) ⟨congrArg (Value.int .i64) ?_, rfl⟩ (by repeat (first | exact Split.nil | (apply Split.cons; (repeat (first | with_reducible exact Take.here | apply Take.there)))))
       unfold Sett.bad; grind
   ·skip
    refine s_on rfl rfl ?_
    first | refine s_pu (pu_fieldAddr0 rfl) ?_ | refine s_pu (pu_fieldAddr rfl) ?_
    refine s_on rfl rfl ?_
    refine s_rd (rd_load rfl rfl) ?_
    refine s_on rfl rfl ?_
    refine s_pu (pu_gtr rfl rfl) ?_
    first | refine s_pu (pu_pick_t rfl rfl) ?_ | refine s_pu (pu_pick_f rfl rfl) ?_
    refine s_pu (pu_move rfl) ?_
    refine s_split 21 rfl (fun h21 => ?_) (fun h21 => ?_)
    ·skip
     refine s_off rfl rfl rfl ?_
     refine s_off rfl rfl rfl ?_
     refine s_off rfl rfl rfl ?_
     first | refine s_pu (pu_pick_t rfl rfl) ?_ | refine s_pu (pu_pick_f rfl rfl) ?_
     refine s_pu (pu_move rfl) ?_
     refine s_split 26 rfl (fun h26 => ?_) (fun h26 => ?_)
     ·skip
      refine s_off rfl rfl rfl ?_
      refine s_off rfl rfl rfl ?_
      refine s_off rfl rfl rfl ?_
      first | refine s_pu (pu_pick_t rfl rfl) ?_ | refine s_pu (pu_pick_f rfl rfl) ?_
      refine swl_sub _ (.cons (t := 30) rfl .nil) ?_
      refine swl_nil ?_
      refine then_n ?_
      refine swp_cond (b := _) rfl (fun h30 => ?_) (fun h30 => ?_)
      ·skip
       refine swp_seq ?_
       refine swp_region ?_
       refine s_pu (pu_assign rfl) ?_
       refine swl_sub _ (.cons (t := 2) rfl .nil) ?_
       refine swl_nil ?_
       refine then_n ?_
       refine swp_ret ?_
       refine then_r ?_
       refine done_ret [] (.tmp rfl .nil) ⟨congrArg (Value.int .i64) ?_, rfl⟩ (by repeat (first | exact Split.nil | (apply Split.cons; (repeat (first | with_reducible exact Take.here | apply Take.there)))))
       unfold Sett.bad; grind
      ·skip
       refine swp_skip ?_
       refine then_n ?_
       refine swp_seq ?_
       refine swp_region ?_
       refine s_pu (pu_assign rfl) ?_
       refine swl_sub _ (.cons (t := 2) rfl .nil) ?_
       refine swl_nil ?_
       refine then_n ?_
       refine swp_ret ?_
       refine done_ret [] (.tmp rfl .nil) ⟨congrArg (Value.int .i64) ?_, rfl⟩ (by repeat (first | exact Split.nil | (apply Split.cons; (repeat (first | with_reducible exact Take.here | apply Take.there)))))
       unfold Sett.bad; grind
     ·skip
      refine s_on rfl rfl ?_
      first | refine s_pu (pu_fieldAddr0 rfl) ?_ | refine s_pu (pu_fieldAddr rfl) ?_
      refine s_on rfl rfl ?_
      refine s_rd (rd_load rfl rfl) ?_
      refine s_on rfl rfl ?_
      refine s_pu (pu_gtr rfl rfl) ?_
      first | refine s_pu (pu_pick_t rfl rfl) ?_ | refine s_pu (pu_pick_f rfl rfl) ?_
      refine swl_sub _ (.cons (t := 30) rfl .nil) ?_
      refine swl_nil ?_
      refine then_n ?_
      refine swp_cond (b := _) rfl (fun h30 => ?_) (fun h30 => ?_)
      ·skip
       refine swp_seq ?_
       refine swp_region ?_
       refine s_pu (pu_assign rfl) ?_
       refine swl_sub _ (.cons (t := 2) rfl .nil) ?_
       refine swl_nil ?_
       refine then_n ?_
       refine swp_ret ?_
       refine then_r ?_
       refine done_ret [] (.tmp rfl .nil) ⟨congrArg (Value.int .i64) ?_, rfl⟩ (by repeat (first | exact Split.nil | (apply Split.cons; (repeat (first | with_reducible exact Take.here | apply Take.there)))))
       unfold Sett.bad; grind
      ·skip
       refine swp_skip ?_
       refine then_n ?_
       refine swp_seq ?_
       refine swp_region ?_
       refine s_pu (pu_assign rfl) ?_
       refine swl_sub _ (.cons (t := 2) rfl .nil) ?_
       refine swl_nil ?_
       refine then_n ?_
       refine swp_ret ?_
       refine done_ret [] (.tmp rfl .nil) ⟨congrArg (Value.int .i64) ?_, rfl⟩ (by repeat (first | exact Split.nil | (apply Split.cons; (repeat (first | with_reducible exact Take.here | apply Take.there)))))
       unfold Sett.bad; grind
    ·skip
     refine s_on rfl rfl ?_
     first | refine s_pu (pu_fieldAddr0 rfl) ?_ | refine s_pu (pu_fieldAddr rfl) ?_
     refine s_on rfl rfl ?_
     refine s_rd (rd_load rfl rfl) ?_
     refine s_on rfl rfl ?_
     refine s_pu (pu_lss rfl rfl) ?_
     first | refine s_pu (pu_pick_t rfl rfl) ?_ | refine s_pu (pu_pick_f rfl rfl) ?_
     refine s_pu (pu_move rfl) ?_
     refine s_split 26 rfl (fun h26 => ?_) (fun h26 => ?_)
     ·skip
      refine s_off rfl rfl rfl ?_
      refine s_off rfl rfl rfl ?_
      refine s_off rfl rfl rfl ?_
      first | refine s_pu (pu_pick_t rfl rfl) ?_ | refine s_pu (pu_pick_f rfl rfl) ?_
      refine swl_sub _ (.cons (t := 30) rfl .nil) ?_
      refine swl_nil ?_
      refine then_n ?_
      refine swp_cond (b := _) rfl (fun h30 => ?_) (fun h30 => ?_)
      ·skip
       refine swp_seq ?_
       refine swp_region ?_
       refine s_pu (pu_assign rfl) ?_
       refine swl_sub _ (.cons (t := 2) rfl .nil) ?_
       refine swl_nil ?_
       refine then_n ?_
       refine swp_ret ?_
       refine then_r ?_
       refine done_ret [] (.tmp rfl .nil) ⟨congrArg (Value.int .i64) ?_, rfl⟩ (by repeat (first | exact Split.nil | (apply Split.cons; (repeat (first | with_reducible exact Take.here | apply Take.there)))))
       unfold Sett.bad; grind
      ·skip
       refine swp_skip ?_
       refine then_n ?_
       refine swp_seq ?_
       refine swp_region ?_
       refine s_pu (pu_assign rfl) ?_
       refine swl_sub _ (.cons (t := 2) rfl .nil) ?_
       refine swl_nil ?_
       refine then_n ?_
       refine swp_ret ?_
       refine done_ret [] (.tmp rfl .nil) ⟨congrArg (Value.int .i64) ?_, rfl⟩ (by repeat (first | exact Split.nil | (apply Split.cons; (repeat (first | with_reducible exact Take.here | apply Take.there)))))
       unfold Sett.bad; grind
     ·skip
      refine s_on rfl rfl ?_
      first | refine s_pu (pu_fieldAddr0 rfl) ?_ | refine s_pu (pu_fieldAddr rfl) ?_
      refine s_on rfl rfl ?_
      refine s_rd (rd_load rfl rfl) ?_
      refine s_on rfl rfl ?_
      refine s_pu (pu_gtr rfl rfl) ?_
      first | refine s_pu (pu_pick_t rfl rfl) ?_ | refine s_pu (pu_pick_f rfl rfl) ?_
      refine swl_sub _ (.cons (t := 30) rfl .nil) ?_
      refine swl_nil ?_
      refine then_n ?_
      refine swp_cond (b := _) rfl (fun h30 => ?_) (fun h30 => ?_)
      ·skip
       refine swp_seq ?_
       refine swp_region ?_
       refine s_pu (pu_assign rfl) ?_
       refine swl_sub _ (.cons (t := 2) rfl .nil) ?_
       refine swl_nil ?_
       refine then_n ?_
       refine swp_ret ?_
       refine then_r ?_
       refine done_ret [] (.tmp rfl .nil) ⟨congrArg (Value.int .i64) ?_, rfl⟩ (by repeat (first | exact Split.nil | (apply Split.cons; (repeat (first | with_reducible exact Take.here | apply Take.there)))))
       unfold Sett.bad; grind
      ·skip
       refine swp_skip ?_
       refine then_n ?_
       refine swp_seq ?_
       refine swp_region ?_
       refine s_pu (pu_assign rfl) ?_
       refine swl_sub _ (.cons (t := 2) rfl .nil) ?_
       refine swl_nil ?_
       refine then_n ?_
       refine swp_ret ?_
       refine done_ret [] (.tmp rfl .nil) ⟨congrArg (Value.int .i64) ?_, rfl⟩ (by repeat (first | exact Split.nil | (apply Split.cons; (repeat (first | with_reducible exact Take.here | apply Take.there)))))
       unfold Sett.bad; grind
set_option maxHeartbeats 2000000 in
theorem places_spec (s : Sett) (p : ByteArray) (n : Nat) (hs : p.size ≤ 1048576) : Spec Tryd.prog 51 [.agg (encS s).toArray, .string p, .int .i64 (n : Nat)] [] (fun v L => L = [own 3 1 v (placesW s p.data.toList n).length ((placesW s p.data.toList n).flatMap (icsk .i64))]) := by
  refine Spec.of 53 Tryd.func51 rfl rfl rfl ?_
  refine swp_seq ?_
  refine swp_region ?_
  refine s_ef (ef_box rfl rfl) ?_
  intro b3
  refine s_pu (pu_assign rfl) ?_
  refine swl_sub _ (.cons (t := 1) rfl (.cons (t := 2) rfl (.cons (t := 3) rfl .nil))) ?_
  refine swl_nil ?_
  refine then_n ?_
  refine swp_seq ?_
  refine swp_region ?_
  refine s_pu (pu_assign rfl) ?_
  refine swl_sub _ (.cons (t := 1) rfl (.cons (t := 2) rfl (.cons (t := 3) rfl (.cons (t := 7) rfl .nil)))) ?_
  refine swl_nil ?_
  refine then_n ?_
  refine swp_cut (fun env L => Sub env [(1, .string p), (2, .int .i64 (n : Nat)), (3, .pointer (some ⟨b3, 0, none⟩)), (7, .slice none 0 0)] ∧ L = [blk b3 26 (encS s)] ∧ ¬ (s.bad ∨ n < 1 ∨ 4294967295 < n)) ?_ ?_
  · skip
    refine swp_seq ?_
    refine swp_region ?_
    first | refine s_rd (rd_loadW rfl rfl) ?_ | refine s_rd (rd_loadX rfl rfl rfl) ?_
    refine s_ef (ef_fn (scheck_spec s) rfl rfl (by repeat (first | exact Split.nil | (apply Split.cons; (repeat (first | with_reducible exact Take.here | apply Take.there)))))) ?_
    rintro v12 L1 ⟨rfl, rfl⟩
    refine swl_app ?_
    refine s_pu (pu_neq rfl rfl) ?_
    refine s_pu (pu_move rfl) ?_
    refine s_split 14 rfl (fun h14 => ?_) (fun h14 => ?_)
    · skip   -- 14 T
      refine s_off rfl rfl rfl ?_
      refine s_off rfl rfl rfl ?_
      first | refine s_pu (pu_pick_t rfl rfl) ?_ | refine s_pu (pu_pick_f rfl rfl) ?_
      refine s_pu (pu_move rfl) ?_
      refine s_split 18 rfl (fun h18 => ?_) (fun h18 => ?_)
      · skip   -- 18 T
        refine s_off rfl rfl rfl ?_
        refine s_off rfl rfl rfl ?_
        first | refine s_pu (pu_pick_t rfl rfl) ?_ | refine s_pu (pu_pick_f rfl rfl) ?_
        refine swl_sub _ (.cons (t := 1) rfl (.cons (t := 2) rfl (.cons (t := 3) rfl (.cons (t := 7) rfl (.cons (t := 21) rfl .nil))))) ?_
        refine swl_nil ?_
        refine then_n ?_
        refine swp_cond (b := _) rfl (fun h21 => ?_) (fun h21 => ?_)
        · skip   -- 21 T
          refine swp_seq ?_
          refine swp_region ?_
          refine s_pu (pu_move rfl) ?_
          refine s_pu (pu_assign rfl) ?_
          refine swl_sub _ (.cons (t := 6) rfl .nil) ?_
          refine swl_nil ?_
          refine then_n ?_
          refine swp_ret ?_
          refine then_r ?_
          first
            | (refine done_ret [own 3 1 v s.ha.toNat ((placesW s p.data.toList n).flatMap (icsk .i64))] (.tmp rfl .nil) ?_ (by repeat (first | exact Split.nil | (apply Split.cons; (repeat (first | with_reducible exact Take.here | apply Take.there)))))
               rw [hlen]; rfl)
            | (refine done_retE [own 3 1 (.slice none 0 0) 0 []] (.tmp rfl .nil) ?_ (own_nil_ent.trans (Split.ent' (by repeat (first | exact Split.nil | (apply Split.cons; (repeat (first | with_reducible exact Take.here | apply Take.there)))))))
               rw [show placesW s p.data.toList n = [] by unfold placesW; rw [if_pos (by grind)]]; rfl)
        · skip   -- 21 F
          refine swp_skip ?_
          exact then_n ⟨⟨rfl, rfl, rfl, rfl, trivial⟩, rfl, by grind⟩
      · skip   -- 18 F
        refine s_on rfl rfl ?_
        refine s_pu (pu_move rfl) ?_
        refine s_on rfl rfl ?_
        refine s_pu (pu_gtr rfl rfl) ?_
        first | refine s_pu (pu_pick_t rfl rfl) ?_ | refine s_pu (pu_pick_f rfl rfl) ?_
        refine swl_sub _ (.cons (t := 1) rfl (.cons (t := 2) rfl (.cons (t := 3) rfl (.cons (t := 7) rfl (.cons (t := 21) rfl .nil))))) ?_
        refine swl_nil ?_
        refine then_n ?_
        refine swp_cond (b := _) rfl (fun h21 => ?_) (fun h21 => ?_)
        · skip   -- 21 T
          refine swp_seq ?_
          refine swp_region ?_
          refine s_pu (pu_move rfl) ?_
          refine s_pu (pu_assign rfl) ?_
          refine swl_sub _ (.cons (t := 6) rfl .nil) ?_
          refine swl_nil ?_
          refine then_n ?_
          refine swp_ret ?_
          refine then_r ?_
          first
            | (refine done_ret [own 3 1 v s.ha.toNat ((placesW s p.data.toList n).flatMap (icsk .i64))] (.tmp rfl .nil) ?_ (by repeat (first | exact Split.nil | (apply Split.cons; (repeat (first | with_reducible exact Take.here | apply Take.there)))))
               rw [hlen]; rfl)
            | (refine done_retE [own 3 1 (.slice none 0 0) 0 []] (.tmp rfl .nil) ?_ (own_nil_ent.trans (Split.ent' (by repeat (first | exact Split.nil | (apply Split.cons; (repeat (first | with_reducible exact Take.here | apply Take.there)))))))
               rw [show placesW s p.data.toList n = [] by unfold placesW; rw [if_pos (by grind)]]; rfl)
        · skip   -- 21 F
          refine swp_skip ?_
          exact then_n ⟨⟨rfl, rfl, rfl, rfl, trivial⟩, rfl, by grind⟩
    · skip   -- 14 F
      refine s_on rfl rfl ?_
      refine s_pu (pu_move rfl) ?_
      refine s_on rfl rfl ?_
      refine s_pu (pu_lss rfl rfl) ?_
      first | refine s_pu (pu_pick_t rfl rfl) ?_ | refine s_pu (pu_pick_f rfl rfl) ?_
      refine s_pu (pu_move rfl) ?_
      refine s_split 18 rfl (fun h18 => ?_) (fun h18 => ?_)
      · skip   -- 18 T
        refine s_off rfl rfl rfl ?_
        refine s_off rfl rfl rfl ?_
        first | refine s_pu (pu_pick_t rfl rfl) ?_ | refine s_pu (pu_pick_f rfl rfl) ?_
        refine swl_sub _ (.cons (t := 1) rfl (.cons (t := 2) rfl (.cons (t := 3) rfl (.cons (t := 7) rfl (.cons (t := 21) rfl .nil))))) ?_
        refine swl_nil ?_
        refine then_n ?_
        refine swp_cond (b := _) rfl (fun h21 => ?_) (fun h21 => ?_)
        · skip   -- 21 T
          refine swp_seq ?_
          refine swp_region ?_
          refine s_pu (pu_move rfl) ?_
          refine s_pu (pu_assign rfl) ?_
          refine swl_sub _ (.cons (t := 6) rfl .nil) ?_
          refine swl_nil ?_
          refine then_n ?_
          refine swp_ret ?_
          refine then_r ?_
          first
            | (refine done_ret [own 3 1 v s.ha.toNat ((placesW s p.data.toList n).flatMap (icsk .i64))] (.tmp rfl .nil) ?_ (by repeat (first | exact Split.nil | (apply Split.cons; (repeat (first | with_reducible exact Take.here | apply Take.there)))))
               rw [hlen]; rfl)
            | (refine done_retE [own 3 1 (.slice none 0 0) 0 []] (.tmp rfl .nil) ?_ (own_nil_ent.trans (Split.ent' (by repeat (first | exact Split.nil | (apply Split.cons; (repeat (first | with_reducible exact Take.here | apply Take.there)))))))
               rw [show placesW s p.data.toList n = [] by unfold placesW; rw [if_pos (by grind)]]; rfl)
        · skip   -- 21 F
          refine swp_skip ?_
          exact then_n ⟨⟨rfl, rfl, rfl, rfl, trivial⟩, rfl, by grind⟩
      · skip   -- 18 F
        refine s_on rfl rfl ?_
        refine s_pu (pu_move rfl) ?_
        refine s_on rfl rfl ?_
        refine s_pu (pu_gtr rfl rfl) ?_
        first | refine s_pu (pu_pick_t rfl rfl) ?_ | refine s_pu (pu_pick_f rfl rfl) ?_
        refine swl_sub _ (.cons (t := 1) rfl (.cons (t := 2) rfl (.cons (t := 3) rfl (.cons (t := 7) rfl (.cons (t := 21) rfl .nil))))) ?_
        refine swl_nil ?_
        refine then_n ?_
        refine swp_cond (b := _) rfl (fun h21 => ?_) (fun h21 => ?_)
        · skip   -- 21 T
          refine swp_seq ?_
          refine swp_region ?_
          refine s_pu (pu_move rfl) ?_
          refine s_pu (pu_assign rfl) ?_
          refine swl_sub _ (.cons (t := 6) rfl .nil) ?_
          refine swl_nil ?_
          refine then_n ?_
          refine swp_ret ?_
          refine then_r ?_
          first
            | (refine done_ret [own 3 1 v s.ha.toNat ((placesW s p.data.toList n).flatMap (icsk .i64))] (.tmp rfl .nil) ?_ (by repeat (first | exact Split.nil | (apply Split.cons; (repeat (first | with_reducible exact Take.here | apply Take.there)))))
               rw [hlen]; rfl)
            | (refine done_retE [own 3 1 (.slice none 0 0) 0 []] (.tmp rfl .nil) ?_ (own_nil_ent.trans (Split.ent' (by repeat (first | exact Split.nil | (apply Split.cons; (repeat (first | with_reducible exact Take.here | apply Take.there)))))))
               rw [show placesW s p.data.toList n = [] by unfold placesW; rw [if_pos (by grind)]]; rfl)
        · skip   -- 21 F
          refine swp_skip ?_
          exact then_n ⟨⟨rfl, rfl, rfl, rfl, trivial⟩, rfl, by grind⟩
  rintro env L ⟨hsub, rfl, hok⟩
  refine swp_sub _ hsub ?_
  clear hsub env
  have hn : 0 < n := by omega
  have hb : ¬ s.bad := fun h => hok (.inl h)
  have hpl : placesW s p.data.toList n = (List.range s.ha.toNat).map fun i => ((placeW s p.data.toList n i : Nat) : Int) := by unfold placesW; rw [if_neg hok]
  have hh : 1 ≤ s.ha ∧ s.ha ≤ 16 := by unfold Sett.bad at hb; omega
  have hget : ∀ i, i < s.ha.toNat → (placesW s p.data.toList n)[i]? = some ((placeW s p.data.toList n i : Nat) : Int) := fun i hi => by rw [hpl, List.getElem?_map, List.getElem?_range hi]; rfl
  have hlen : (placesW s p.data.toList n).length = s.ha.toNat := by rw [hpl, List.length_map, List.length_range]
  clear hpl
  refine swp_seq ?_
  refine swp_region ?_
  first | refine s_pu (pu_fieldAddr0 rfl) ?_ | refine s_pu (pu_fieldAddr rfl) ?_
  refine s_rd (rd_load rfl rfl) ?_
  refine s_pu (pu_move rfl) ?_
  refine s_ef (ef_fn (hash_spec s.seed p hs) rfl rfl (by repeat (first | exact Split.nil | (apply Split.cons; (repeat (first | with_reducible exact Take.here | apply Take.there)))))) ?_
  rintro v26 L1 ⟨rfl, rfl⟩
  refine swl_app ?_
  refine s_pu (pu_assign rfl) ?_
  refine swl_sub _ (.cons (t := 1) rfl (.cons (t := 2) rfl (.cons (t := 3) rfl (.cons (t := 7) rfl (.cons (t := 8) rfl .nil))))) ?_
  refine swl_nil ?_
  refine then_n ?_
  refine swp_seq ?_
  refine swp_region ?_
  first | refine s_pu (pu_fieldAddr0 rfl) ?_ | refine s_pu (pu_fieldAddr rfl) ?_
  refine s_rd (rd_load rfl rfl) ?_
  refine s_pu (pu_add_w32 (b := 1#32) rfl rfl) ?_
  refine s_pu (pu_move rfl) ?_
  refine s_ef (ef_fn (hash_spec (s.seed + 1#32) p hs) rfl rfl (by repeat (first | exact Split.nil | (apply Split.cons; (repeat (first | with_reducible exact Take.here | apply Take.there)))))) ?_
  rintro v31 L1 ⟨rfl, rfl⟩
  refine swl_app ?_
  refine s_pu (pu_or_w32 (b := 1#32) rfl rfl) ?_
  refine s_pu (pu_assign rfl) ?_
  refine swl_sub _ (.cons (t := 2) rfl (.cons (t := 3) rfl (.cons (t := 7) rfl (.cons (t := 8) rfl (.cons (t := 9) rfl .nil))))) ?_
  refine swl_nil ?_
  refine then_n ?_
  refine swp_seq ?_
  refine swp_seq ?_
  refine swp_region ?_
  refine s_pu (pu_assign rfl) ?_
  refine swl_sub _ (.cons (t := 2) rfl (.cons (t := 3) rfl (.cons (t := 7) rfl (.cons (t := 8) rfl (.cons (t := 9) rfl (.cons (t := 10) rfl .nil)))))) ?_
  refine swl_nil ?_
  refine then_n ?_
  refine swp_block ?_
  refine swp_ent (show Ent _ (own 3 1 (.slice none 0 0) 0 (((placesW s p.data.toList n).take 0).flatMap (icsk .i64)) :: _) from own_nil_ent) ?_
  refine swp_loop (ι := Nat × Value) (fun k env L => Sub env [(2, .int .i64 (n : Nat)), (3, .pointer (some ⟨b3, 0, none⟩)), (7, k.2), (8, .int .u32 ((hashW s.seed p.data.toList).toNat : Nat)), (9, .int .u32 ((hashW (s.seed + 1#32) p.data.toList ||| 1#32).toNat : Nat)), (10, .int .i64 (k.1 : Nat))] ∧ Ent L [own 3 1 k.2 k.1 (((placesW s p.data.toList n).take k.1).flatMap (icsk .i64)), blk b3 26 (encS s)] ∧ k.1 ≤ s.ha.toNat) (fun k => s.ha.toNat - k.1) (0, .slice none 0 0) ⟨⟨rfl, rfl, rfl, rfl, rfl, rfl, trivial⟩, Ent.refl _, Nat.zero_le _⟩ ?_
  rintro ⟨i, v⟩ env L ⟨hsub, hE, hi⟩
  dsimp only at hsub hE hi
  refine swp_sub _ hsub ?_
  refine swp_ent hE ?_
  clear hsub hE env L
  refine swp_seq ?_
  refine swp_seq ?_
  refine swp_region ?_
  refine s_pu (pu_move rfl) ?_
  first | refine s_pu (pu_fieldAddr0 rfl) ?_ | refine s_pu (pu_fieldAddr rfl) ?_
  refine s_rd (rd_load rfl rfl) ?_
  refine s_pu (pu_lss rfl rfl) ?_
  refine swl_sub _ (.cons (t := 2) rfl (.cons (t := 3) rfl (.cons (t := 7) rfl (.cons (t := 8) rfl (.cons (t := 9) rfl (.cons (t := 10) rfl (.cons (t := 36) rfl .nil))))))) ?_
  refine swl_nil ?_
  refine then_n ?_
  refine swp_cond (b := _) rfl (fun h36 => ?_) (fun h36 => ?_)
  · skip   -- 36 T
    have h36' : i < s.ha.toNat := by have := of_decide_eq_true h36; omega
    refine swp_skip ?_
    refine then_n ?_
    refine swp_seq ?_
    refine swp_block ?_
    refine swp_region ?_
    refine s_pu (pu_move rfl) ?_
    refine s_pu (pu_move rfl) ?_
    refine s_pu (pu_move rfl) ?_
    refine s_pu (pu_conv_as (k' := .u32) (n := ((BitVec.ofNat 32 i).toNat : Int)) (by rw [show ((BitVec.ofNat 32 i).toNat : Int) = (i : Int) by rw [BitVec.toNat_ofNat, Nat.mod_eq_of_lt (by omega)]]; rfl) (wrap_word32 _)) ?_
    refine s_pu (pu_move rfl) ?_
    refine s_pu (pu_mul_w32 rfl rfl) ?_
    refine s_pu (pu_add_w32 rfl rfl) ?_
    refine s_pu (pu_move rfl) ?_
    refine s_pu (pu_conv_as (k' := .u32) rfl (IntWalk.u32_in _ ⟨by omega, by omega⟩)) ?_
    refine s_pu (pu_rem_nat rfl rfl hn) ?_
    refine s_pu (pu_conv_i64 (n := ((placeW s p.data.toList n i : Nat) : Int)) rfl (by omega) (by have : placeW s p.data.toList n i < n := Nat.mod_lt _ hn; omega)) ?_
    refine s_ef (ef_bldS (qs := [(0, _)]) rfl rfl rfl) ?_
    intro b50
    refine s_ef (ef_append_lit (l := i) (m := 1) rfl rfl (by repeat (first | exact Split.nil | (apply Split.cons; (repeat (first | with_reducible exact Take.here | apply Take.there))))) (by simp only [maxLen]; omega) (by omega)) ?_
    rintro v51 -
    skip
    refine s_pu (pu_assign rfl) ?_
    refine swl_sub _ (.cons (t := 2) rfl (.cons (t := 3) rfl (.cons (t := 7) rfl (.cons (t := 8) rfl (.cons (t := 9) rfl (.cons (t := 10) rfl .nil)))))) ?_
    refine swl_nil ?_
    refine block_n ?_
    refine then_n ?_
    refine swp_region ?_
    refine s_pu (pu_move rfl) ?_
    refine s_pu (pu_add_as ((i + 1 : Nat) : Int) rfl rfl (by omega) (by omega) (by omega)) ?_
    refine s_pu (pu_assign rfl) ?_
    refine swl_sub _ (.cons (t := 2) rfl (.cons (t := 3) rfl (.cons (t := 7) rfl (.cons (t := 8) rfl (.cons (t := 9) rfl (.cons (t := 10) rfl .nil)))))) ?_
    refine swl_nil ?_
    refine then_n ⟨(i + 1, v51), ⟨⟨rfl, rfl, rfl, rfl, rfl, rfl, trivial⟩, ?_, h36'⟩, by show s.ha.toNat - (i + 1) < s.ha.toNat - i; omega⟩
    have e1 : ((placesW s p.data.toList n).take (i + 1)).flatMap (icsk .i64) = ((placesW s p.data.toList n).take i).flatMap (icsk .i64) ++ [.int .i64 ((placeW s p.data.toList n i : Nat) : Int)] := by rw [List.take_add_one, hget i h36', List.flatMap_append]; rfl
    show Ent _ [own 3 1 v51 (i + 1) (((placesW s p.data.toList n).take (i + 1)).flatMap (icsk .i64)), blk b3 26 (encS s)]
    rw [e1]
    exact Split.ent' (by repeat (first | exact Split.nil | (apply Split.cons; (repeat (first | with_reducible exact Take.here | apply Take.there)))))
  · skip   -- 36 F
    have h36' := of_decide_eq_false h36
    obtain rfl : i = s.ha.toNat := by omega
    rw [List.take_of_length_le (by omega)]
    refine swp_exit ?_
    refine then_x ?_
    refine then_x ?_
    refine block_hit rfl ?_
    refine then_n ?_
    refine swp_seq ?_
    refine swp_region ?_
    refine s_pu (pu_move rfl) ?_
    refine s_pu (pu_assign rfl) ?_
    refine swl_sub _ (.cons (t := 6) rfl .nil) ?_
    refine swl_nil ?_
    refine then_n ?_
    refine swp_ret ?_
    first
      | (refine done_ret [own 3 1 v s.ha.toNat ((placesW s p.data.toList n).flatMap (icsk .i64))] (.tmp rfl .nil) ?_ (by repeat (first | exact Split.nil | (apply Split.cons; (repeat (first | with_reducible exact Take.here | apply Take.there)))))
         rw [hlen]; rfl)
      | (refine done_retE [own 3 1 (.slice none 0 0) 0 []] (.tmp rfl .nil) ?_ (own_nil_ent.trans (Split.ent' (by repeat (first | exact Split.nil | (apply Split.cons; (repeat (first | with_reducible exact Take.here | apply Take.there)))))))
         rw [show placesW s p.data.toList n = [] by unfold placesW; rw [if_pos (by grind)]]; rfl)
theorem row_str {μ : PH} {v : Value} {l : List ByteArray} (h : Row μ v 1 l.length (sts l)) {i : Nat} {p : ByteArray} (hi : l[i]? = some p) : ∃ b off cap, v = .slice (some ⟨b, off, none⟩) l.length cap ∧ CellAt μ b (off + i * 1) (.string p) := by
  have hlt := (List.getElem?_eq_some_iff.1 hi).1
  obtain ⟨b, off, cap, hv, _, _, hr⟩ := h.pos (by omega)
  exact ⟨b, off, cap, hv, (hr.elem (f := scsv) (n := 1) scsv_len hi).cell⟩
set_option maxHeartbeats 2000000 in
theorem unlike_spec (μ : PH) (v : Value) (ps : List ByteArray) (m : Int) (h : Row μ v 1 ps.length (sts ps)) (hsz : ps.length ≤ 1048576) (hm : 0 ≤ m ∧ m ≤ 512) :
  Spec Tryd.prog 50 [v, .int .i64 m] [ro μ] (fun r L => ∃ l : List ByteArray, (∀ p ∈ l, p ∈ ps) ∧ (l.length ≤ m → ∀ p ∈ ps, p ∈ l) ∧ L = [own 9 1 r l.length (sts l), ro μ]) := by
 obtain ⟨A0, c0, rfl⟩ := h.sl
 refine Spec.of 48 Tryd.func50 rfl rfl rfl ?_
 refine swp_seq ?_
 refine swp_region ?_
 refine s_pu (pu_assign rfl) ?_
 refine swl_sub _ (.cons (t := 0) rfl (.cons (t := 1) rfl .nil)) ?_
 refine swl_nil ?_
 refine then_n ?_
 refine swp_seq ?_
 refine swp_region ?_
 refine s_pu (pu_assign rfl) ?_
 refine swl_sub _ (.cons (t := 0) rfl (.cons (t := 1) rfl (.cons (t := 5) rfl .nil))) ?_
 refine swl_nil ?_
 refine then_n ?_
 refine swp_seq ?_
 refine swp_seq ?_
 refine swp_region ?_
 refine s_pu (pu_assign rfl) ?_
 refine swl_sub _ (.cons (t := 0) rfl (.cons (t := 1) rfl (.cons (t := 5) rfl (.cons (t := 6) rfl .nil)))) ?_
 refine swl_nil ?_
 refine then_n ?_
 refine swp_block ?_
 refine swp_ent (show Ent _ (own 9 1 (.slice none 0 0) ([] : List ByteArray).length (sts []) :: _) from own_nil_ent) ?_
 refine swp_loop (ι := Nat × Value × List ByteArray) (fun k env L => Sub env [(0, .slice A0 ps.length c0), (1, .int .i64 m), (5, k.2.1), (6, .int .i64 (k.1 : Nat))] ∧ Ent L [own 9 1 k.2.1 k.2.2.length (sts k.2.2), ro μ] ∧ k.1 ≤ ps.length ∧ (∀ p ∈ k.2.2, p ∈ ps) ∧ (∀ p ∈ ps.take k.1, p ∈ k.2.2) ∧ k.2.2.length ≤ k.1) (fun k => ps.length - k.1) (0, .slice none 0 0, []) ⟨⟨rfl, rfl, rfl, rfl, trivial⟩, Ent.refl _, Nat.zero_le _, fun _ h => (by cases h), fun _ h => (by cases h), Nat.le_refl _⟩ ?_
 rintro ⟨i, w, l⟩ env L ⟨hsub, hE, hi, h1, h2, h3⟩
 dsimp only at hsub hE hi h1 h2 h3
 refine swp_sub _ hsub ?_
 refine swp_ent hE ?_
 clear hsub hE env L
 refine swp_fact (fun m h => own_form h) fun ⟨Aw, cw, hw⟩ => ?_
 refine swp_cut (fun env L => Sub env [(0, .slice A0 ps.length c0), (1, .int .i64 m), (5, w), (6, .int .i64 (i : Nat))] ∧ Ent L [own 9 1 w l.length (sts l), ro μ] ∧ i < ps.length ∧ l.length ≤ m) ?_ ?_
 ·skip
  refine swp_seq ?_
  refine swp_region ?_
  refine s_pu (pu_move rfl) ?_
  refine s_pu (pu_move rfl) ?_
  refine s_pu (pu_len rfl) ?_
  refine s_pu (pu_lss rfl rfl) ?_
  refine s_pu (pu_move rfl) ?_
  refine s_split 13 rfl (fun h13 => ?_) (fun h13 => ?_)
  ·skip
   refine s_on rfl rfl ?_
   refine s_pu (pu_move rfl) ?_
   refine s_on rfl rfl ?_
   refine s_pu (pu_len_own ⟨Aw, cw, hw⟩ rfl) ?_
   refine s_on rfl rfl ?_
   refine s_pu (pu_move rfl) ?_
   refine s_on rfl rfl ?_
   refine s_pu (pu_leq rfl rfl) ?_
   first | refine s_pu (pu_pick_t rfl rfl) ?_ | refine s_pu (pu_pick_f rfl rfl) ?_
   refine swl_sub _ (.cons (t := 0) rfl (.cons (t := 1) rfl (.cons (t := 5) rfl (.cons (t := 6) rfl (.cons (t := 18) rfl .nil))))) ?_
   refine swl_nil ?_
   refine then_n ?_
   refine swp_cond (b := _) rfl (fun h18 => ?_) (fun h18 => ?_)
   ·skip
    refine swp_skip ?_
    exact then_n ⟨⟨rfl, rfl, rfl, rfl, trivial⟩, Ent.refl _, by grind, by grind⟩
   ·skip
    refine swp_exit ?_
    refine then_x ?_
    refine then_x ?_
    refine block_hit rfl ?_
    refine then_n ?_
    refine swp_seq ?_
    refine swp_region ?_
    refine s_pu (pu_move rfl) ?_
    refine s_pu (pu_assign rfl) ?_
    refine swl_sub _ (.cons (t := 4) rfl .nil) ?_
    refine swl_nil ?_
    refine then_n ?_
    refine swp_ret ?_
    refine done_ret [own 9 1 w l.length (sts l), ro μ] (.tmp rfl .nil) ⟨l, h1, fun hl x hx => ?_, rfl⟩ (by repeat (first | exact Split.nil | (apply Split.cons; (repeat (first | with_reducible exact Take.here | apply Take.there)))))
    have : i = ps.length := by grind
    rw [this, List.take_length] at h2
    exact h2 x hx
  ·skip
   refine s_off rfl rfl rfl ?_
   refine s_off rfl rfl rfl ?_
   refine s_off rfl rfl rfl ?_
   refine s_off rfl rfl rfl ?_
   first | refine s_pu (pu_pick_t rfl rfl) ?_ | refine s_pu (pu_pick_f rfl rfl) ?_
   refine swl_sub _ (.cons (t := 0) rfl (.cons (t := 1) rfl (.cons (t := 5) rfl (.cons (t := 6) rfl (.cons (t := 18) rfl .nil))))) ?_
   refine swl_nil ?_
   refine then_n ?_
   refine swp_cond (b := _) rfl (fun h18 => ?_) (fun h18 => ?_)
   ·skip
    refine swp_skip ?_
    exact then_n ⟨⟨rfl, rfl, rfl, rfl, trivial⟩, Ent.refl _, by grind, by grind⟩
   ·skip
    refine swp_exit ?_
    refine then_x ?_
    refine then_x ?_
    refine block_hit rfl ?_
    refine then_n ?_
    refine swp_seq ?_
    refine swp_region ?_
    refine s_pu (pu_move rfl) ?_
    refine s_pu (pu_assign rfl) ?_
    refine swl_sub _ (.cons (t := 4) rfl .nil) ?_
    refine swl_nil ?_
    refine then_n ?_
    refine swp_ret ?_
    refine done_ret [own 9 1 w l.length (sts l), ro μ] (.tmp rfl .nil) ⟨l, h1, fun hl x hx => ?_, rfl⟩ (by repeat (first | exact Split.nil | (apply Split.cons; (repeat (first | with_reducible exact Take.here | apply Take.there)))))
    have : i = ps.length := by grind
    rw [this, List.take_length] at h2
    exact h2 x hx
 rintro env L ⟨hsub, hE, hi', hlm⟩
 refine swp_sub _ hsub ?_
 refine swp_ent hE ?_
 clear hsub hE env L
 obtain ⟨p, hp⟩ : ∃ p, ps[i]? = some p := ⟨_, List.getElem?_eq_getElem hi'⟩
 obtain ⟨pb, po, pc, hpv, hpc⟩ := row_str h hp
 refine swp_seq ?_
 refine swp_block ?_
 refine swp_seq ?_
 refine swp_region ?_
 refine s_pu (pu_assign rfl) ?_
 refine swl_sub _ (.cons (t := 0) rfl (.cons (t := 1) rfl (.cons (t := 5) rfl (.cons (t := 6) rfl (.cons (t := 7) rfl .nil))))) ?_
 refine swl_nil ?_
 refine then_n ?_
 refine swp_seq ?_
 refine swp_seq ?_
 refine swp_region ?_
 refine s_pu (pu_assign rfl) ?_
 refine swl_sub _ (.cons (t := 0) rfl (.cons (t := 1) rfl (.cons (t := 5) rfl (.cons (t := 6) rfl (.cons (t := 7) rfl (.cons (t := 8) rfl .nil)))))) ?_
 refine swl_nil ?_
 refine then_n ?_
 refine swp_block ?_
 refine swp_loop (ι := Nat × Bool) (fun k env L => Sub env [(0, .slice A0 ps.length c0), (1, .int .i64 m), (5, w), (6, .int .i64 (i : Nat)), (7, .bool k.2), (8, .int .i64 (k.1 : Nat))] ∧ Ent L [own 9 1 w l.length (sts l), ro μ] ∧ k.1 ≤ l.length ∧ (k.2 = false → p ∈ l)) (fun k => l.length - k.1) (0, true) ⟨⟨rfl, rfl, rfl, rfl, rfl, rfl, trivial⟩, Ent.refl _, Nat.zero_le _, fun h => (by cases h)⟩ ?_
 rintro ⟨k, fr⟩ env L ⟨hsub, hE, hk, hfr⟩
 dsimp only at hsub hE hk hfr
 refine swp_sub _ hsub ?_
 refine swp_ent hE ?_
 clear hsub hE env L
 refine swp_seq ?_
 refine swp_seq ?_
 refine swp_region ?_
 refine s_pu (pu_move rfl) ?_
 refine s_pu (pu_move rfl) ?_
 refine s_pu (pu_len_own ⟨Aw, cw, hw⟩ rfl) ?_
 refine s_pu (pu_lss rfl rfl) ?_
 refine swl_sub _ (.cons (t := 0) rfl (.cons (t := 1) rfl (.cons (t := 5) rfl (.cons (t := 6) rfl (.cons (t := 7) rfl (.cons (t := 8) rfl (.cons (t := 24) rfl .nil))))))) ?_
 refine swl_nil ?_
 refine then_n ?_
 refine swp_cond (b := _) rfl (fun h24 => ?_) (fun h24 => ?_)
 ·skip
  have h24' : k < l.length := by have := of_decide_eq_true h24; omega
  obtain ⟨q, hq⟩ : ∃ q, l[k]? = some q := ⟨_, List.getElem?_eq_getElem h24'⟩
  refine swp_own (fun h0 l0 _ => by omega) (fun b1 c1 ex1 hv1 e1 e2 e3 e4 => ?_)
  have hqc : (sts l ++ ex1)[0 + k * 1]? = some (.string q) := by
   have := flat_get (f := scsv) (k := 1) scsv_len l ex1 k q hq 0 (.string q) rfl
   rwa [Nat.zero_add]
  refine swp_skip ?_
  refine then_n ?_
  refine swp_cut (fun env L => ∃ fr', Sub env [(0, .slice A0 ps.length c0), (1, .int .i64 m), (5, w), (6, .int .i64 (i : Nat)), (7, .bool fr'), (8, .int .i64 (k : Nat))] ∧ Ent L [own 9 1 w l.length (sts l), ro μ] ∧ (fr' = false → p ∈ l)) ?_ ?_
  ·skip
   refine swp_block ?_
   refine swp_draw [5, 9] _ [] (by simp only [List.append_nil]; exact Ent.refl _) (by kernel_rfl) ?_
   refine d_pu 0 rfl (pu_move rfl) (by kernel_rfl) (by kernel_rfl) (by kernel_rfl) ?_
   refine d_pu 1 rfl (pu_move rfl) (by kernel_rfl) (by kernel_rfl) (by kernel_rfl) ?_
   refine d_split 28 rfl (fun h28 => ?_) (fun h28 => ?_)
   ·skip
    refine d_pu_on 2 rfl rfl rfl (pu_move rfl) (by kernel_rfl) (by kernel_rfl) (by kernel_rfl) ?_
    refine d_pu_on 3 rfl rfl rfl (pu_move rfl) (by kernel_rfl) (by kernel_rfl) (by kernel_rfl) ?_
    refine d_pu_on 4 rfl rfl rfl (pu_indexAddr (0 + k * 1) (congrArg some hv1) rfl (by omega) (by omega) (by rw [Int.toNat_natCast])) (by kernel_rfl) (by kernel_rfl) (by kernel_rfl) ?_
    refine d_rd_on 5 rfl rfl rfl (rd_load rfl hqc) rfl (by kernel_rfl) (by kernel_rfl) (by kernel_rfl) ?_
    refine d_pu_on 6 rfl rfl rfl (pu_move rfl) (by kernel_rfl) (by kernel_rfl) (by kernel_rfl) ?_
    refine d_pu_on 7 rfl rfl rfl (pu_move rfl) (by kernel_rfl) (by kernel_rfl) (by kernel_rfl) ?_
    refine d_pu_on 8 rfl rfl rfl (pu_indexAddr (po + i * 1) (congrArg some hpv) rfl (by omega) (by omega) (by rw [Int.toNat_natCast])) (by kernel_rfl) (by kernel_rfl) (by kernel_rfl) ?_
    refine d_rd_on 9 rfl rfl rfl (rd_ro rfl hpc) rfl (by kernel_rfl) (by kernel_rfl) (by kernel_rfl) ?_
    refine d_pu_on 10 rfl rfl rfl (pu_str_neq rfl rfl) (by kernel_rfl) (by kernel_rfl) (by kernel_rfl) ?_
    first | refine d_pu 11 rfl (pu_pick_t rfl rfl) (by kernel_rfl) (by kernel_rfl) (by kernel_rfl) ?_ | refine d_pu 11 rfl (pu_pick_f rfl rfl) (by kernel_rfl) (by kernel_rfl) (by kernel_rfl) ?_
    refine d_pu 12 rfl (pu_assign rfl) (by kernel_rfl) (by kernel_rfl) (by kernel_rfl) ?_
    refine d_sub _ (.cons (t := 0) rfl (.cons (t := 1) rfl (.cons (t := 5) rfl (.cons (t := 6) rfl (.cons (t := 7) rfl (.cons (t := 8) rfl .nil)))))) ?_
    first | refine d_nilt (by kernel_rfl) ?_ | refine d_nilf (by kernel_rfl) ?_
    refine block_n ?_
    refine then_n ⟨_, ⟨rfl, rfl, rfl, rfl, rfl, rfl, trivial⟩, ?_, fun hf => ?_⟩
    ·rw [hv1]; exact own_close e3 e4 e1 e2
    ·have hqp : strEq q p = true := by simpa using hf
     rw [← strEq_iff.1 hqp]; exact List.mem_of_getElem? hq
   ·skip
    refine d_off 2 rfl rfl rfl rfl (by kernel_rfl) (by kernel_rfl) (by kernel_rfl) ?_
    refine d_off 3 rfl rfl rfl rfl (by kernel_rfl) (by kernel_rfl) (by kernel_rfl) ?_
    refine d_off 4 rfl rfl rfl rfl (by kernel_rfl) (by kernel_rfl) (by kernel_rfl) ?_
    refine d_off 5 rfl rfl rfl rfl (by kernel_rfl) (by kernel_rfl) (by kernel_rfl) ?_
    refine d_off 6 rfl rfl rfl rfl (by kernel_rfl) (by kernel_rfl) (by kernel_rfl) ?_
    refine d_off 7 rfl rfl rfl rfl (by kernel_rfl) (by kernel_rfl) (by kernel_rfl) ?_
    refine d_off 8 rfl rfl rfl rfl (by kernel_rfl) (by kernel_rfl) (by kernel_rfl) ?_
    refine d_off 9 rfl rfl rfl rfl (by kernel_rfl) (by kernel_rfl) (by kernel_rfl) ?_
    refine d_off 10 rfl rfl rfl rfl (by kernel_rfl) (by kernel_rfl) (by kernel_rfl) ?_
    first | refine d_pu 11 rfl (pu_pick_t rfl rfl) (by kernel_rfl) (by kernel_rfl) (by kernel_rfl) ?_ | refine d_pu 11 rfl (pu_pick_f rfl rfl) (by kernel_rfl) (by kernel_rfl) (by kernel_rfl) ?_
    refine d_pu 12 rfl (pu_assign rfl) (by kernel_rfl) (by kernel_rfl) (by kernel_rfl) ?_
    refine d_sub _ (.cons (t := 0) rfl (.cons (t := 1) rfl (.cons (t := 5) rfl (.cons (t := 6) rfl (.cons (t := 7) rfl (.cons (t := 8) rfl .nil)))))) ?_
    first | refine d_nilt (by kernel_rfl) ?_ | refine d_nilf (by kernel_rfl) ?_
    refine block_n ?_
    refine then_n ⟨_, ⟨rfl, rfl, rfl, rfl, rfl, rfl, trivial⟩, ?_, fun _ => hfr h28⟩
    rw [hv1]; exact own_close e3 e4 e1 e2
  rintro env L ⟨fr', hsub, hE, hfr'⟩
  refine swp_sub _ hsub ?_
  refine swp_ent hE ?_
  clear hsub hE env L
  refine swp_region ?_
  refine s_pu (pu_move rfl) ?_
  refine s_pu (pu_add_as ((k + 1 : Nat) : Int) rfl rfl (by omega) (by omega) (by omega)) ?_
  refine s_pu (pu_assign rfl) ?_
  refine swl_sub _ (.cons (t := 0) rfl (.cons (t := 1) rfl (.cons (t := 5) rfl (.cons (t := 6) rfl (.cons (t := 7) rfl (.cons (t := 8) rfl .nil)))))) ?_
  refine swl_nil ?_
  exact then_n ⟨(k + 1, fr'), ⟨⟨rfl, rfl, rfl, rfl, rfl, rfl, trivial⟩, Ent.refl _, h24', hfr'⟩, by show l.length - (k + 1) < l.length - k; omega⟩
 ·skip
  refine swp_exit ?_
  refine then_x ?_
  refine then_x ?_
  refine block_hit rfl ?_
  refine then_n ?_
  refine swp_seq ?_
  refine swp_region ?_
  refine s_pu (pu_move rfl) ?_
  refine swl_sub _ (.cons (t := 0) rfl (.cons (t := 1) rfl (.cons (t := 5) rfl (.cons (t := 6) rfl (.cons (t := 39) rfl .nil))))) ?_
  refine swl_nil ?_
  refine then_n ?_
  refine swp_cond (b := _) rfl (fun h39 => ?_) (fun h39 => ?_)
  ·skip
   refine swp_region ?_
   refine s_pu (pu_move rfl) ?_
   refine s_pu (pu_move rfl) ?_
   refine s_pu (pu_move rfl) ?_
   refine s_pu (pu_indexAddr (po + i * 1) (congrArg some hpv) rfl (by omega) (by omega) (by rw [Int.toNat_natCast])) ?_
   refine s_rd (rd_ro rfl hpc) ?_
   refine s_ef (ef_bldS (qs := [(0, _)]) rfl rfl rfl) ?_
   intro b45
   refine s_ef (ef_append_lit (l := l.length) (m := 1) rfl rfl (by repeat (first | exact Split.nil | (apply Split.cons; (repeat (first | with_reducible exact Take.here | apply Take.there))))) (by simp only [maxLen]; omega) (by omega)) ?_
   rintro v46 -
   skip
   refine s_pu (pu_assign rfl) ?_
   refine swl_sub _ (.cons (t := 0) rfl (.cons (t := 1) rfl (.cons (t := 5) rfl (.cons (t := 6) rfl .nil)))) ?_
   refine swl_nil ?_
   refine block_n ?_
   refine then_n ?_
   refine swp_region ?_
   refine s_pu (pu_move rfl) ?_
   refine s_pu (pu_add_as ((i + 1 : Nat) : Int) rfl rfl (by omega) (by omega) (by omega)) ?_
   refine s_pu (pu_assign rfl) ?_
   refine swl_sub _ (.cons (t := 0) rfl (.cons (t := 1) rfl (.cons (t := 5) rfl (.cons (t := 6) rfl .nil)))) ?_
   refine swl_nil ?_
   refine then_n ⟨(i + 1, v46, l ++ [p]), ⟨⟨rfl, rfl, rfl, rfl, trivial⟩, ?_, hi', fun x hx => ?_, fun x hx => ?_, ?_⟩, by show ps.length - (i + 1) < ps.length - i; omega⟩
   ·show Ent _ [own 9 1 v46 (l ++ [p]).length (sts (l ++ [p])), ro μ]
    rw [sts_app, List.length_append, show sts [p] = [.string p] from rfl, show [p].length = 1 from rfl]
    exact Split.ent' (by repeat (first | exact Split.nil | (apply Split.cons; (repeat (first | with_reducible exact Take.here | apply Take.there)))))
   ·rcases List.mem_append.1 hx with hx | hx
    ·exact h1 x hx
    ·rw [List.mem_singleton.1 hx]; exact List.mem_of_getElem? hp
   ·rw [List.take_add_one, hp] at hx
    rcases List.mem_append.1 hx with hx | hx
    ·exact List.mem_append_left _ (h2 x hx)
    ·exact List.mem_append_right _ hx
   ·rw [List.length_append]; show l.length + 1 ≤ i + 1; omega
  ·skip
   refine swp_skip ?_
   refine block_n ?_
   refine then_n ?_
   refine swp_region ?_
   refine s_pu (pu_move rfl) ?_
   refine s_pu (pu_add_as ((i + 1 : Nat) : Int) rfl rfl (by omega) (by omega) (by omega)) ?_
   refine s_pu (pu_assign rfl) ?_
   refine swl_sub _ (.cons (t := 0) rfl (.cons (t := 1) rfl (.cons (t := 5) rfl (.cons (t := 6) rfl .nil)))) ?_
   refine swl_nil ?_
   refine then_n ⟨(i + 1, w, l), ⟨⟨rfl, rfl, rfl, rfl, trivial⟩, Ent.refl _, hi', h1, fun x hx => ?_, by show l.length ≤ i + 1; omega⟩, by show ps.length - (i + 1) < ps.length - i; omega⟩
   rw [List.take_add_one, hp] at hx
   rcases List.mem_append.1 hx with hx | hx
   ·exact h2 x hx
   ·rw [List.mem_singleton.1 hx]; exact hfr h39
end SX
