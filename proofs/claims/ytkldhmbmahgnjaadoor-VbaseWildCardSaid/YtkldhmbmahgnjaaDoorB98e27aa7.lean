/- A part of the proof: walks of the program's functions, and the rules by which they go. -/
import Derived.Test.YtkldhmbmahgnjaaDoorB2efceca2
import Derived.Test.YtkldhmbmahgnjaaDoorB02e9fa8c
import Derived.Test.YtkldhmbmahgnjaaDoorB2fe6d66a
import Derived.Test.YtkldhmbmahgnjaaDoorB06a2a5ea
import Derived.Test.YtkldhmbmahgnjaaDoorB5c872605
namespace SX
open Go Go.Proofs
theorem byte_at {l : List UInt8} {k : Nat} {b : UInt8} (h : l[k]? = some b) : (bcs l)[0 + k * 1]? = some (.int .u8 (b.toNat : Nat)) := by rw [bcs_map, List.getElem?_map, Nat.zero_add, Nat.mul_one, h]; rfl
theorem bcs_set (l : List UInt8) (k : Nat) (b : UInt8) : (bcs l).set (0 + k * 1) (.int .u8 (b.toNat : Nat)) = bcs (l.set k b) := by rw [bcs_map, bcs_map, Nat.zero_add, Nat.mul_one, List.map_set]
set_option maxHeartbeats 4000000 in
theorem smake_spec (μ : PH) (s : Sett) (v : Value) (ps : List ByteArray) (h : Row μ v 1 ps.length (sts ps)) (hsz : ps.length ≤ 1048576) (hps : ∀ p ∈ ps, p.size ≤ 1048576) :
  Spec Tryd.prog 34 [.agg (encS s).toArray, v] [ro μ] (fun r L => ∃ (f : Fil) (e : Int) (μ' : PH), Le μ μ' ∧ r = .tuple #[.agg (encF f).toArray, .int .i64 e] ∧ f.2.length ≤ 1048576 ∧ (∀ p ∈ ps, mayF s f p.data.toList = true) ∧ L = [ro μ']) := by
 refine Spec.of 80 Tryd.func34 rfl rfl rfl ?_
 refine swp_seq ?_
 refine swp_region ?_
 refine s_ef (ef_box rfl rfl) ?_
 intro b2
 refine s_ef (ef_alloc) ?_
 intro b4
 refine s_pu (pu_assign rfl) ?_
 refine swl_sub _ (.cons (t := 1) rfl (.cons (t := 2) rfl (.cons (t := 4) rfl .nil))) ?_
 refine swl_nil ?_
 refine then_n ?_
 refine swp_seq ?_
 refine swp_seq ?_
 refine swp_region ?_
 first | refine s_rd (rd_loadW rfl rfl) ?_ | refine s_rd (rd_loadX rfl rfl rfl) ?_
 refine s_ef (ef_fn (scheck_spec s) rfl rfl (by repeat (first | exact Split.nil | (apply Split.cons; (repeat (first | with_reducible exact Take.here | apply Take.there)))))) ?_
 rintro v12 L1 ⟨rfl, rfl⟩
 refine swl_app ?_
 refine s_pu (pu_neq rfl rfl) ?_
 refine swl_sub _ (.cons (t := 1) rfl (.cons (t := 2) rfl (.cons (t := 4) rfl (.cons (t := 13) rfl .nil)))) ?_
 refine swl_nil ?_
 refine then_n ?_
 refine swp_cond (b := _) rfl (fun h13 => ?_) (fun h13 => ?_)
 ·skip
  have h13' : s.bad := by by_cases hb : s.bad <;> simp_all
  refine swp_seq ?_
  refine swp_region ?_
  refine s_pu (pu_bld (qs := []) rfl) ?_
  refine s_ef0 (ef_storeA rfl rfl rfl rfl) ?_
  refine s_pu (pu_assign rfl) ?_
  refine swl_sub _ (.cons (t := 4) rfl (.cons (t := 5) rfl .nil)) ?_
  refine swl_nil ?_
  refine then_n ?_
  refine swp_ret ?_
  refine then_r ?_
  refine done_ret [ro μ] (.cell rfl (ld_whole rfl) (.tmp rfl .nil)) ⟨(0, []), 1, μ, Le.refl _, rfl, by decide, fun p _ => rfl, rfl⟩ (by repeat (first | exact Split.nil | (apply Split.cons; (repeat (first | with_reducible exact Take.here | apply Take.there)))))
 ·skip
  have hb : ¬ s.bad := by by_cases hb : s.bad <;> simp_all
  have hbr : 0 ≤ s.mo ∧ s.mo ≤ 512 ∧ 1 ≤ s.pe ∧ s.pe ≤ 64 := by unfold Sett.bad at hb; omega
  obtain ⟨q, hq⟩ : ∃ q : Nat, s.pe = q := ⟨s.pe.toNat, by omega⟩
  refine swp_skip ?_
  refine then_n ?_
  refine swp_seq ?_
  refine swp_region ?_
  refine s_pu (pu_move rfl) ?_
  first | refine s_pu (pu_fieldAddr0 rfl) ?_ | refine s_pu (pu_fieldAddr rfl) ?_
  refine s_rd (rd_load rfl rfl) ?_
  refine s_ef (ef_fn (unlike_spec μ v ps s.mo h hsz ⟨by omega, by omega⟩) rfl rfl (by repeat (first | exact Split.nil | (apply Split.cons; (repeat (first | with_reducible exact Take.here | apply Take.there)))))) ?_
  rintro v18 L1 ⟨l, q1, q2, rfl⟩
  refine swl_app ?_
  refine swl_share_own (v := v18) (μ := μ) (by repeat (first | exact Split.nil | (apply Split.cons; (repeat (first | with_reducible exact Take.here | apply Take.there))))) fun μ1 l1 r18 => ?_
  obtain ⟨A18, c18, rfl⟩ := r18.sl
  refine s_pu (pu_assign rfl) ?_
  refine swl_sub _ (.cons (t := 2) rfl (.cons (t := 4) rfl (.cons (t := 6) rfl .nil))) ?_
  refine swl_nil ?_
  refine then_n ?_
  refine swp_seq ?_
  refine swp_seq ?_
  refine swp_region ?_
  refine s_pu (pu_move rfl) ?_
  refine s_pu (pu_len_row r18 rfl) ?_
  first | refine s_pu (pu_fieldAddr0 rfl) ?_ | refine s_pu (pu_fieldAddr rfl) ?_
  refine s_rd (rd_load rfl rfl) ?_
  refine s_pu (pu_gtr rfl rfl) ?_
  refine swl_sub _ (.cons (t := 2) rfl (.cons (t := 4) rfl (.cons (t := 6) rfl (.cons (t := 23) rfl .nil)))) ?_
  refine swl_nil ?_
  refine then_n ?_
  refine swp_cond (b := _) rfl (fun h23 => ?_) (fun h23 => ?_)
  ·skip
   refine swp_seq ?_
   refine swp_region ?_
   refine s_pu (pu_bld (qs := [(0, _)]) rfl) ?_
   refine s_ef0 (ef_storeA rfl rfl rfl rfl) ?_
   refine s_pu (pu_assign rfl) ?_
   refine swl_sub _ (.cons (t := 4) rfl (.cons (t := 5) rfl .nil)) ?_
   refine swl_nil ?_
   refine then_n ?_
   refine swp_ret ?_
   refine then_r ?_
   refine done_ret [ro μ1] (.cell rfl (ld_whole rfl) (.tmp rfl .nil)) ⟨(2, []), 0, μ1, l1, rfl, by decide, fun p _ => rfl, rfl⟩ (by repeat (first | exact Split.nil | (apply Split.cons; (repeat (first | with_reducible exact Take.here | apply Take.there)))))
  ·skip
   have h23' : (l.length : Int) ≤ s.mo := by have := of_decide_eq_false h23; omega
   have hlq : l.length * q ≤ 512 * 64 := Nat.mul_le_mul (by omega) (by omega)
   replace q2 := q2 h23'
   obtain ⟨nb, hnb⟩ : ∃ nb, nb = max 1 ((l.length * q + 7) / 8) := ⟨_, rfl⟩
   have hnb1 : 1 ≤ nb ∧ nb ≤ 8192 := by omega
   refine swp_skip ?_
   refine then_n ?_
   refine swp_seq ?_
   refine swp_region ?_
   refine s_pu (pu_move rfl) ?_
   refine s_pu (pu_len_row r18 rfl) ?_
   first | refine s_pu (pu_fieldAddr0 rfl) ?_ | refine s_pu (pu_fieldAddr rfl) ?_
   refine s_rd (rd_load rfl rfl) ?_
   refine s_pu (pu_mul_as ((l.length * q : Nat) : Int) rfl rfl (by rw [Int.natCast_mul, ← hq]) (by omega) (by omega)) ?_
   refine s_pu (pu_add_as ((l.length * q + 7 : Nat) : Int) rfl rfl (by omega) (by omega) (by omega)) ?_
   refine s_pu (pu_quo_nat (b := 8) rfl rfl (by omega) (wrap_i64 (by omega) (by omega))) ?_
   refine s_pu (pu_max2 rfl rfl) ?_
   refine s_ef (ef_make1 nb rfl rfl (by omega) (by omega) (by simp only [maxLen]; omega)) ?_
   rintro b33
   rw [show List.replicate nb (Value.int .u8 0) = bcs (List.replicate nb 0) by rw [bcs_map, List.map_replicate]; rfl]
   refine s_pu (pu_assign rfl) ?_
   refine swl_sub _ (.cons (t := 2) rfl (.cons (t := 4) rfl (.cons (t := 6) rfl (.cons (t := 7) rfl .nil)))) ?_
   refine swl_nil ?_
   refine then_n ?_
   refine swp_seq ?_
   refine swp_seq ?_
   refine swp_region ?_
   refine s_pu (pu_assign rfl) ?_
   refine swl_sub _ (.cons (t := 2) rfl (.cons (t := 4) rfl (.cons (t := 6) rfl (.cons (t := 7) rfl (.cons (t := 8) rfl .nil))))) ?_
   refine swl_nil ?_
   refine then_n ?_
   refine swp_block ?_
   refine swp_loop (ι := Nat × List UInt8 × PH) (fun k env L => Sub env [(2, .pointer (some ⟨b2, 0, none⟩)), (4, .pointer (some ⟨b4, 0, none⟩)), (6, .slice A18 l.length c18), (7, .slice (some ⟨b33, 0, none⟩) nb nb), (8, .int .i64 (k.1 : Nat))] ∧ Ent L [blk b33 5 (bcs k.2.1), blk b2 26 (encS s), blk b4 72 [.int .i64 0, .string ⟨#[]⟩], ro k.2.2] ∧ k.1 ≤ l.length ∧ k.2.1.length = nb ∧ Le μ1 k.2.2 ∧ (∀ x ∈ l.take k.1, ∀ y ∈ placesW s x.data.toList (8 * nb), bitB k.2.1 y.toNat ≠ 0#8)) (fun k => l.length - k.1) (0, List.replicate nb 0, μ1) ⟨⟨rfl, rfl, rfl, rfl, rfl, trivial⟩, Split.ent' (by repeat (first | exact Split.nil | (apply Split.cons; (repeat (first | with_reducible exact Take.here | apply Take.there))))), Nat.zero_le _, List.length_replicate, Le.refl _, fun _ h => (by cases h)⟩ ?_
   rintro ⟨i, bs, μa⟩ env L ⟨hsub, hE, hi, hbl, hla, hbit⟩
   dsimp only at hsub hE hi hbl hla hbit
   refine swp_sub _ hsub ?_
   refine swp_ent hE ?_
   clear hsub hE env L
   refine swp_seq ?_
   refine swp_seq ?_
   refine swp_region ?_
   refine s_pu (pu_move rfl) ?_
   refine s_pu (pu_move rfl) ?_
   refine s_pu (pu_len_row r18 rfl) ?_
   refine s_pu (pu_lss rfl rfl) ?_
   refine swl_sub _ (.cons (t := 2) rfl (.cons (t := 4) rfl (.cons (t := 6) rfl (.cons (t := 7) rfl (.cons (t := 8) rfl (.cons (t := 37) rfl .nil)))))) ?_
   refine swl_nil ?_
   refine then_n ?_
   refine swp_cond (b := _) rfl (fun h37 => ?_) (fun h37 => ?_)
   ·skip
    have h37' : i < l.length := by have := of_decide_eq_true h37; omega
    obtain ⟨p, hp⟩ : ∃ p, l[i]? = some p := ⟨_, List.getElem?_eq_getElem h37'⟩
    obtain ⟨pb, po, pc, hpv, hpc⟩ := row_str r18 hp
    have hpsz := hps p (q1 p (List.mem_of_getElem? hp))
    refine swp_skip ?_
    refine then_n ?_
    refine swp_seq ?_
    refine swp_block ?_
    refine swp_seq ?_
    refine swp_draw [0, 4] _ [] (by simp only [List.append_nil]; exact Ent.refl _) (by kernel_rfl) ?_
    first | refine d_rd 0 rfl (rd_loadW rfl rfl) rfl (by kernel_rfl) (by kernel_rfl) (by kernel_rfl) ?_ | refine d_rd 0 rfl (rd_loadX rfl rfl rfl) rfl (by kernel_rfl) (by kernel_rfl) (by kernel_rfl) ?_
    refine d_pu 1 rfl (pu_move rfl) (by kernel_rfl) (by kernel_rfl) (by kernel_rfl) ?_
    refine d_pu 2 rfl (pu_move rfl) (by kernel_rfl) (by kernel_rfl) (by kernel_rfl) ?_
    refine d_pu 3 rfl (pu_indexAddr (po + i * 1) (congrArg some hpv) rfl (by omega) (by omega) (by rw [Int.toNat_natCast])) (by kernel_rfl) (by kernel_rfl) (by kernel_rfl) ?_
    refine d_rd 4 rfl (rd_ro rfl (hpc.le hla)) rfl (by kernel_rfl) (by kernel_rfl) (by kernel_rfl) ?_
    refine d_pu 5 rfl (pu_move rfl) (by kernel_rfl) (by kernel_rfl) (by kernel_rfl) ?_
    refine d_pu 6 rfl (pu_len rfl) (by kernel_rfl) (by kernel_rfl) (by kernel_rfl) ?_
    refine d_pu 7 rfl (pu_mul_as ((8 * nb : Nat) : Int) rfl rfl (by omega) (by omega) (by omega)) (by kernel_rfl) (by kernel_rfl) (by kernel_rfl) ?_
    first | refine d_fint 8 rfl (by kernel_rfl) (by kernel_rfl) (ef_fn (places_spec s p (8 * nb) hpsz) rfl rfl (by repeat (first | exact Split.nil | (apply Split.cons; (repeat (first | with_reducible exact Take.here | apply Take.there)))))) ?_ | refine d_finf 8 rfl (by kernel_rfl) (by kernel_rfl) (ef_fn (places_spec s p (8 * nb) hpsz) rfl rfl (by repeat (first | exact Split.nil | (apply Split.cons; (repeat (first | with_reducible exact Take.here | apply Take.there)))))) ?_
    rintro v48 L1 rfl
    refine swd_app ?_
    refine d_pu 9 rfl (pu_assign rfl) (by kernel_rfl) (by kernel_rfl) (by kernel_rfl) ?_
    refine d_sub _ (.cons (t := 2) rfl (.cons (t := 4) rfl (.cons (t := 6) rfl (.cons (t := 7) rfl (.cons (t := 8) rfl (.cons (t := 9) rfl .nil)))))) ?_
    first | refine d_nilt (by kernel_rfl) ?_ | refine d_nilf (by kernel_rfl) ?_
    refine then_n ?_
    refine swp_seq ?_
    refine swp_share_own (v := v48) (μ := μa) (by repeat (first | exact Split.nil | (apply Split.cons; (repeat (first | with_reducible exact Take.here | apply Take.there))))) fun μb lb r48 => ?_
    have hplt := fun x => places_lt (s := s) (p := p.data.toList) (n := 8 * nb) (x := x)
    have hpll := places_len s p.data.toList (8 * nb)
    have hbit' : ∀ x ∈ l.take i, ∀ y ∈ placesW s x.data.toList (8 * nb), bitB bs y.toNat ≠ 0#8 := hbit
    have hple : ∀ bs' : List UInt8, (∀ k, bitB bs k ≠ 0#8 → bitB bs' k ≠ 0#8) → (∀ y ∈ placesW s p.data.toList (8 * nb), bitB bs' y.toNat ≠ 0#8) → ∀ x ∈ l.take (i + 1), ∀ y ∈ placesW s x.data.toList (8 * nb), bitB bs' y.toNat ≠ 0#8 := fun bs' k1 k2 x hx y hy => by
     rw [List.take_add_one, hp] at hx
     rcases List.mem_append.1 hx with hx | hx
     ·exact k1 _ (hbit x hx y hy)
     ·rw [List.mem_singleton.1 hx] at hy; exact k2 y hy
    clear hbit hbit'
    generalize placesW s p.data.toList (8 * nb) = pl at r48 hplt hpll hple
    refine swp_region ?_
    refine s_pu (pu_assign rfl) ?_
    refine swl_sub _ (.cons (t := 2) rfl (.cons (t := 4) rfl (.cons (t := 6) rfl (.cons (t := 7) rfl (.cons (t := 8) rfl (.cons (t := 9) rfl (.cons (t := 10) rfl .nil))))))) ?_
    refine swl_nil ?_
    refine then_n ?_
    refine swp_block ?_
    refine swp_loop (ι := Nat × List UInt8) (fun k env L => Sub env [(2, .pointer (some ⟨b2, 0, none⟩)), (4, .pointer (some ⟨b4, 0, none⟩)), (6, .slice A18 l.length c18), (7, .slice (some ⟨b33, 0, none⟩) nb nb), (8, .int .i64 (i : Nat)), (9, v48), (10, .int .i64 (k.1 : Nat))] ∧ Ent L [blk b33 5 (bcs k.2), blk b2 26 (encS s), blk b4 72 [.int .i64 0, .string ⟨#[]⟩], ro μb] ∧ k.1 ≤ pl.length ∧ k.2.length = nb ∧ (∀ j, bitB bs j ≠ 0#8 → bitB k.2 j ≠ 0#8) ∧ (∀ y ∈ pl.take k.1, bitB k.2 y.toNat ≠ 0#8)) (fun k => pl.length - k.1) (0, bs) ⟨⟨rfl, rfl, rfl, rfl, rfl, rfl, rfl, trivial⟩, Split.ent' (by repeat (first | exact Split.nil | (apply Split.cons; (repeat (first | with_reducible exact Take.here | apply Take.there))))), Nat.zero_le _, hbl, fun _ h => h, fun _ h => (by cases h)⟩ ?_
    rintro ⟨k, cs⟩ env L ⟨hsub, hE, hk, hcl, hk1, hk2⟩
    dsimp only at hsub hE hk hcl hk1 hk2
    refine swp_sub _ hsub ?_
    refine swp_ent hE ?_
    clear hsub hE env L
    refine swp_seq ?_
    refine swp_seq ?_
    refine swp_region ?_
    refine s_pu (pu_move rfl) ?_
    refine s_pu (pu_move rfl) ?_
    refine s_pu (pu_len_row r48 rfl) ?_
    refine s_pu (pu_lss rfl rfl) ?_
    refine swl_sub _ (.cons (t := 2) rfl (.cons (t := 4) rfl (.cons (t := 6) rfl (.cons (t := 7) rfl (.cons (t := 8) rfl (.cons (t := 9) rfl (.cons (t := 10) rfl (.cons (t := 52) rfl .nil)))))))) ?_
    refine swl_nil ?_
    refine then_n ?_
    refine swp_cond (b := _) rfl (fun h52 => ?_) (fun h52 => ?_)
    ·skip
     have h52' : k < pl.length := by have := of_decide_eq_true h52; omega
     obtain ⟨x, hx⟩ : ∃ x, pl[k]? = some x := ⟨_, List.getElem?_eq_getElem h52'⟩
     obtain ⟨hx0, hxn⟩ := hplt x (List.mem_of_getElem? hx)
     obtain ⟨z, rfl⟩ : ∃ z : Nat, x = z := ⟨x.toNat, by omega⟩
     obtain ⟨g, o, c, hv, hc⟩ := r48.atk hx
     obtain ⟨b, hb8⟩ : ∃ b, cs[z / 8]? = some b := ⟨_, List.getElem?_eq_getElem (by omega)⟩
     refine swp_skip ?_
     refine then_n ?_
     refine swp_seq ?_
     refine swp_block ?_
     refine swp_draw [4, 10, 13, 17] _ [] (by simp only [List.append_nil]; exact Ent.refl _) (by kernel_rfl) ?_
     refine d_pu 0 rfl (pu_move rfl) (by kernel_rfl) (by kernel_rfl) (by kernel_rfl) ?_
     refine d_pu 1 rfl (pu_move rfl) (by kernel_rfl) (by kernel_rfl) (by kernel_rfl) ?_
     refine d_pu 2 rfl (pu_move rfl) (by kernel_rfl) (by kernel_rfl) (by kernel_rfl) ?_
     refine d_pu 3 rfl (pu_indexAddr (o + k * 1) (congrArg some hv) rfl (by omega) (by omega) (by rw [Int.toNat_natCast])) (by kernel_rfl) (by kernel_rfl) (by kernel_rfl) ?_
     refine d_rd 4 rfl (rd_ro rfl hc) rfl (by kernel_rfl) (by kernel_rfl) (by kernel_rfl) ?_
     refine d_pu 5 rfl (pu_quo_nat (b := 8) rfl rfl (by omega) (wrap_i64 (by omega) (by omega))) (by kernel_rfl) (by kernel_rfl) (by kernel_rfl) ?_
     refine d_pu 6 rfl (pu_move rfl) (by kernel_rfl) (by kernel_rfl) (by kernel_rfl) ?_
     refine d_pu 7 rfl (pu_move rfl) (by kernel_rfl) (by kernel_rfl) (by kernel_rfl) ?_
     refine d_pu 8 rfl (pu_move rfl) (by kernel_rfl) (by kernel_rfl) (by kernel_rfl) ?_
     refine d_pu 9 rfl (pu_indexAddr (o + k * 1) (congrArg some hv) rfl (by omega) (by omega) (by rw [Int.toNat_natCast])) (by kernel_rfl) (by kernel_rfl) (by kernel_rfl) ?_
     refine d_rd 10 rfl (rd_ro rfl hc) rfl (by kernel_rfl) (by kernel_rfl) (by kernel_rfl) ?_
     refine d_pu 11 rfl (pu_quo_nat (b := 8) rfl rfl (by omega) (wrap_i64 (by omega) (by omega))) (by kernel_rfl) (by kernel_rfl) (by kernel_rfl) ?_
     refine d_pu 12 rfl (pu_indexAddr (0 + (z / 8) * 1) rfl rfl (by omega) (by omega) (by rw [Int.toNat_natCast])) (by kernel_rfl) (by kernel_rfl) (by kernel_rfl) ?_
     refine d_rd 13 rfl (rd_load rfl (byte_at hb8)) rfl (by kernel_rfl) (by kernel_rfl) (by kernel_rfl) ?_
     refine d_pu 14 rfl (pu_move rfl) (by kernel_rfl) (by kernel_rfl) (by kernel_rfl) ?_
     refine d_pu 15 rfl (pu_move rfl) (by kernel_rfl) (by kernel_rfl) (by kernel_rfl) ?_
     refine d_pu 16 rfl (pu_indexAddr (o + k * 1) (congrArg some hv) rfl (by omega) (by omega) (by rw [Int.toNat_natCast])) (by kernel_rfl) (by kernel_rfl) (by kernel_rfl) ?_
     refine d_rd 17 rfl (rd_ro rfl hc) rfl (by kernel_rfl) (by kernel_rfl) (by kernel_rfl) ?_
     refine d_pu 18 rfl (pu_rem_nat (b := 8) rfl rfl (by omega)) (by kernel_rfl) (by kernel_rfl) (by kernel_rfl) ?_
     refine d_pu 19 rfl (pu_shl_w8 (a := 1#8) (z % 8) rfl rfl (by omega)) (by kernel_rfl) (by kernel_rfl) (by kernel_rfl) ?_
     refine d_pu 20 rfl (pu_or_w8 (a := b.toBitVec) rfl rfl) (by kernel_rfl) (by kernel_rfl) (by kernel_rfl) ?_
     refine d_pu 21 rfl (pu_indexAddr (0 + (z / 8) * 1) rfl rfl (by omega) (by omega) (by rw [Int.toNat_natCast])) (by kernel_rfl) (by kernel_rfl) (by kernel_rfl) ?_
     first | refine d_fin0t 22 rfl (by kernel_rfl) (by kernel_rfl) (ef_storeP rfl rfl rfl (by rw [bcs_len]; omega)) ?_ | refine d_fin0f 22 rfl (by kernel_rfl) (by kernel_rfl) (ef_storeP rfl rfl rfl (by rw [bcs_len]; omega)) ?_
     refine d_sub _ (.cons (t := 2) rfl (.cons (t := 4) rfl (.cons (t := 6) rfl (.cons (t := 7) rfl (.cons (t := 8) rfl (.cons (t := 9) rfl (.cons (t := 10) rfl .nil))))))) ?_
     first | refine d_nilt (by kernel_rfl) ?_ | refine d_nilf (by kernel_rfl) ?_
     have e14 : (bcs cs).set (0 + z / 8 * 1) (.int .u8 ((b.toBitVec ||| 1#8 <<< (z % 8)).toNat : Nat)) = bcs (setB cs z) := by
      rw [show Value.int .u8 ((b.toBitVec ||| 1#8 <<< (z % 8)).toNat : Nat) = .int .u8 ((UInt8.ofBitVec (((cs[z / 8]?).getD 0).toBitVec ||| (1#8 <<< (z % 8)))).toNat : Nat) by rw [hb8]; rfl, bcs_set]; rfl
     rw [e14]
     refine block_n ?_
     refine then_n ?_
     refine swp_region ?_
     refine s_pu (pu_move rfl) ?_
     refine s_pu (pu_add_as ((k + 1 : Nat) : Int) rfl rfl (by omega) (by omega) (by omega)) ?_
     refine s_pu (pu_assign rfl) ?_
     refine swl_sub _ (.cons (t := 2) rfl (.cons (t := 4) rfl (.cons (t := 6) rfl (.cons (t := 7) rfl (.cons (t := 8) rfl (.cons (t := 9) rfl (.cons (t := 10) rfl .nil))))))) ?_
     refine swl_nil ?_
     refine then_n ⟨(k + 1, setB cs z), ⟨⟨rfl, rfl, rfl, rfl, rfl, rfl, rfl, trivial⟩, Split.ent' (by repeat (first | exact Split.nil | (apply Split.cons; (repeat (first | with_reducible exact Take.here | apply Take.there))))), h52', by rw [setB_len]; exact hcl, fun j hj => setB_keep (hk1 j hj), fun y hy => ?_⟩, by show pl.length - (k + 1) < pl.length - k; omega⟩
     rw [List.take_add_one, hx] at hy
     rcases List.mem_append.1 hy with hy | hy
     ·exact setB_keep (hk2 y hy)
     ·rw [List.mem_singleton.1 hy]; exact setB_self (by rw [hcl]; omega)
    ·skip
     have h52' := of_decide_eq_false h52
     obtain rfl : k = pl.length := by omega
     rw [List.take_length] at hk2
     refine swp_exit ?_
     refine then_x ?_
     refine then_x ?_
     refine block_hit rfl ?_
     refine block_n ?_
     refine then_n ?_
     refine swp_region ?_
     refine s_pu (pu_move rfl) ?_
     refine s_pu (pu_add_as ((i + 1 : Nat) : Int) rfl rfl (by omega) (by omega) (by omega)) ?_
     refine s_pu (pu_assign rfl) ?_
     refine swl_sub _ (.cons (t := 2) rfl (.cons (t := 4) rfl (.cons (t := 6) rfl (.cons (t := 7) rfl (.cons (t := 8) rfl .nil))))) ?_
     refine swl_nil ?_
     exact then_n ⟨(i + 1, cs, μb), ⟨⟨rfl, rfl, rfl, rfl, rfl, trivial⟩, Split.ent' (by repeat (first | exact Split.nil | (apply Split.cons; (repeat (first | with_reducible exact Take.here | apply Take.there))))), h37', hcl, hla.trans lb, hple cs hk1 hk2⟩, by show l.length - (i + 1) < l.length - i; omega⟩
   ·skip
    have h37' := of_decide_eq_false h37
    obtain rfl : i = l.length := by omega
    rw [List.take_length] at hbit
    refine swp_exit ?_
    refine then_x ?_
    refine then_x ?_
    refine block_hit rfl ?_
    refine then_n ?_
    refine swp_seq ?_
    refine swp_ent (Split.ent' (K := [blk b33 5 (bcs bs ++ []), blk b2 26 (encS s), blk b4 72 [.int .i64 0, .string ⟨#[]⟩], ro μa]) (by rw [List.append_nil]; exact (by repeat (first | exact Split.nil | (apply Split.cons; (repeat (first | with_reducible exact Take.here | apply Take.there))))))) ?_
    rw [← hbl]
    refine swp_region ?_
    refine s_pu (pu_move rfl) ?_
    refine s_rd (rd_bytes bs rfl (by repeat (first | with_reducible exact Take.here | apply Take.there))) ?_
    refine s_pu (pu_bld (qs := [(0, _), (1, _)]) rfl) ?_
    refine s_ef0 (ef_storeA rfl rfl rfl rfl) ?_
    refine s_pu (pu_assign rfl) ?_
    refine swl_sub _ (.cons (t := 4) rfl (.cons (t := 5) rfl .nil)) ?_
    refine swl_nil ?_
    refine then_n ?_
    refine swp_ret ?_
    refine done_ret [ro μa] (.cell rfl (ld_whole rfl) (.tmp rfl .nil)) ⟨(1, bs), 0, μa, l1.trans hla, rfl, by show bs.length ≤ _; omega, fun p hp => ?_, rfl⟩ (by repeat (first | exact Split.nil | (apply Split.cons; (repeat (first | with_reducible exact Take.here | apply Take.there)))))
    have hbit' := hbit p (q2 p hp)
    unfold mayF
    rw [show (1, bs).2.length = bs.length from rfl, hbl]
    simp only [Bool.or_eq_true]
    right
    refine List.all_eq_true.2 fun y hy => ?_
    have := hbit' y hy
    simp [this]
end SX
namespace SX
open Go Go.Proofs
theorem drop_cons {l : List En} {i : Nat} {e : En} (h : l[i]? = some e) : l.drop i = e :: l.drop (i + 1) := by
  have hlt := (List.getElem?_eq_some_iff.1 h).1
  rw [List.drop_eq_getElem_cons hlt, (List.getElem?_eq_some_iff.1 h).2]
theorem drop_head {l : List En} {i : Nat} {f : En} {r : List En} (h : l.drop i = f :: r) : l[i]? = some f := by
  have : (l.drop i)[0]? = some f := by rw [h]; rfl
  rwa [List.getElem?_drop, Nat.add_zero] at this
def c1E (x y : Option En) : Bool := match x, y with | some e, some f => strLt e.1 f.1 | some _, none => true | none, _ => false
def c2E (x : Option En) (f : En) : Bool := match x with | some e => strLt f.1 e.1 | none => true
set_option maxHeartbeats 4000000 in
theorem rdiff_spec (μ : PH) (va vb : Value) (a b : List En) (ha : Row μ va 2 a.length (ens a)) (hb : Row μ vb 2 b.length (ens b)) (hsz : a.length ≤ 1048576 ∧ b.length ≤ 1048576) :
  Spec Tryd.prog 33 [va, vb] [ro μ] (fun r L => L = [own 104 3 r (diffE a b).length (chs (diffE a b)), ro μ]) := by
 obtain ⟨Aa, ca, rfl⟩ := ha.sl
 obtain ⟨Ab, cb, rfl⟩ := hb.sl
 refine Spec.of 127 Tryd.func33 rfl rfl rfl ?_
 refine swp_seq ?_
 refine swp_region ?_
 refine s_pu (pu_assign rfl) ?_
 refine swl_sub _ (.cons (t := 0) rfl (.cons (t := 1) rfl .nil)) ?_
 refine swl_nil ?_
 refine then_n ?_
 refine swp_seq ?_
 refine swp_region ?_
 refine s_pu (pu_assign rfl) ?_
 refine swl_sub _ (.cons (t := 0) rfl (.cons (t := 1) rfl (.cons (t := 5) rfl .nil))) ?_
 refine swl_nil ?_
 refine then_n ?_
 refine swp_seq ?_
 refine swp_region ?_
 refine s_pu (pu_assign rfl) ?_
 refine swl_sub _ (.cons (t := 0) rfl (.cons (t := 1) rfl (.cons (t := 5) rfl (.cons (t := 6) rfl .nil)))) ?_
 refine swl_nil ?_
 refine then_n ?_
 refine swp_seq ?_
 refine swp_region ?_
 refine s_pu (pu_assign rfl) ?_
 refine swl_sub _ (.cons (t := 0) rfl (.cons (t := 1) rfl (.cons (t := 5) rfl (.cons (t := 6) rfl (.cons (t := 7) rfl .nil))))) ?_
 refine swl_nil ?_
 refine then_n ?_
 refine swp_seq ?_
 refine swp_block ?_
 refine swp_ent (show Ent _ (own 104 3 (.slice none 0 0) ([] : List Chg).length (chs []) :: _) from own_nil_ent) ?_
 refine swp_loop (ι := Nat × Nat × Value × List Chg) (fun k env L => Sub env [(0, .slice Aa a.length ca), (1, .slice Ab b.length cb), (5, k.2.2.1), (6, .int .i64 (k.1 : Nat)), (7, .int .i64 (k.2.1 : Nat))] ∧ Ent L [own 104 3 k.2.2.1 k.2.2.2.length (chs k.2.2.2), ro μ] ∧ k.1 ≤ a.length ∧ k.2.1 ≤ b.length ∧ k.2.2.2 ++ diffE (a.drop k.1) (b.drop k.2.1) = diffE a b ∧ k.2.2.2.length ≤ k.1 + k.2.1) (fun k => (a.length - k.1) + (b.length - k.2.1)) (0, 0, .slice none 0 0, []) ⟨⟨rfl, rfl, rfl, rfl, rfl, trivial⟩, Ent.refl _, Nat.zero_le _, Nat.zero_le _, rfl, Nat.zero_le _⟩ ?_
 rintro ⟨i, j, v, out⟩ env L ⟨hsub, hE, hi, hj, hD, hol⟩
 dsimp only at hsub hE hi hj hD hol
 refine swp_sub _ hsub ?_
 refine swp_ent hE ?_
 clear hsub hE env L
 refine swp_cut (fun env L => Sub env [(0, .slice Aa a.length ca), (1, .slice Ab b.length cb), (5, v), (6, .int .i64 (i : Nat)), (7, .int .i64 (j : Nat))] ∧ Ent L [own 104 3 v out.length (chs out), ro μ] ∧ (i < a.length ∨ j < b.length)) ?_ ?_
 ·skip
  refine swp_seq ?_
  refine swp_region ?_
  refine s_pu (pu_move rfl) ?_
  refine s_pu (pu_move rfl) ?_
  refine s_pu (pu_len_row ha rfl) ?_
  refine s_pu (pu_lss rfl rfl) ?_
  refine s_pu (pu_move rfl) ?_
  refine s_split 12 rfl (fun h12 => ?_) (fun h12 => ?_)
  ·skip
   refine s_off rfl rfl rfl ?_
   refine s_off rfl rfl rfl ?_
   refine s_off rfl rfl rfl ?_
   refine s_off rfl rfl rfl ?_
   first | refine s_pu (pu_pick_t rfl rfl) ?_ | refine s_pu (pu_pick_f rfl rfl) ?_
   refine swl_sub _ (.cons (t := 0) rfl (.cons (t := 1) rfl (.cons (t := 5) rfl (.cons (t := 6) rfl (.cons (t := 7) rfl (.cons (t := 17) rfl .nil)))))) ?_
   refine swl_nil ?_
   refine then_n ?_
   refine swp_cond (b := _) rfl (fun h17 => ?_) (fun h17 => ?_)
   ·skip
    refine swp_skip ?_
    exact then_n ⟨⟨rfl, rfl, rfl, rfl, rfl, trivial⟩, Ent.refl _, by grind⟩
   ·skip
    refine swp_exit ?_
    refine then_x ?_
    refine then_x ?_
    refine block_hit rfl ?_
    refine then_n ?_
    refine swp_seq ?_
    refine swp_region ?_
    refine s_pu (pu_move rfl) ?_
    refine s_pu (pu_assign rfl) ?_
    refine swl_sub _ (.cons (t := 4) rfl .nil) ?_
    refine swl_nil ?_
    refine then_n ?_
    refine swp_ret ?_
    have h1 : i = a.length ∧ j = b.length := by grind
    rw [h1.1, h1.2, List.drop_length, List.drop_length, diff_nn, List.append_nil] at hD
    exact done_ret [own 104 3 v (diffE a b).length (chs (diffE a b)), ro μ] (.tmp rfl .nil) rfl (by rw [← hD]; exact (by repeat (first | exact Split.nil | (apply Split.cons; (repeat (first | with_reducible exact Take.here | apply Take.there))))))
  ·skip
   refine s_on rfl rfl ?_
   refine s_pu (pu_move rfl) ?_
   refine s_on rfl rfl ?_
   refine s_pu (pu_move rfl) ?_
   refine s_on rfl rfl ?_
   refine s_pu (pu_len_row hb rfl) ?_
   refine s_on rfl rfl ?_
   refine s_pu (pu_lss rfl rfl) ?_
   first | refine s_pu (pu_pick_t rfl rfl) ?_ | refine s_pu (pu_pick_f rfl rfl) ?_
   refine swl_sub _ (.cons (t := 0) rfl (.cons (t := 1) rfl (.cons (t := 5) rfl (.cons (t := 6) rfl (.cons (t := 7) rfl (.cons (t := 17) rfl .nil)))))) ?_
   refine swl_nil ?_
   refine then_n ?_
   refine swp_cond (b := _) rfl (fun h17 => ?_) (fun h17 => ?_)
   ·skip
    refine swp_skip ?_
    exact then_n ⟨⟨rfl, rfl, rfl, rfl, rfl, trivial⟩, Ent.refl _, by grind⟩
   ·skip
    refine swp_exit ?_
    refine then_x ?_
    refine then_x ?_
    refine block_hit rfl ?_
    refine then_n ?_
    refine swp_seq ?_
    refine swp_region ?_
    refine s_pu (pu_move rfl) ?_
    refine s_pu (pu_assign rfl) ?_
    refine swl_sub _ (.cons (t := 4) rfl .nil) ?_
    refine swl_nil ?_
    refine then_n ?_
    refine swp_ret ?_
    have h1 : i = a.length ∧ j = b.length := by grind
    rw [h1.1, h1.2, List.drop_length, List.drop_length, diff_nn, List.append_nil] at hD
    exact done_ret [own 104 3 v (diffE a b).length (chs (diffE a b)), ro μ] (.tmp rfl .nil) rfl (by rw [← hD]; exact (by repeat (first | exact Split.nil | (apply Split.cons; (repeat (first | with_reducible exact Take.here | apply Take.there))))))
 rintro env L ⟨hsub, hE, hij⟩
 refine swp_sub _ hsub ?_
 refine swp_ent hE ?_
 clear hsub hE env L
 refine swp_block ?_
 refine swp_block ?_
 refine swp_cut (fun env L => Sub env [(0, .slice Aa a.length ca), (1, .slice Ab b.length cb), (5, v), (6, .int .i64 (i : Nat)), (7, .int .i64 (j : Nat)), (52, .bool (c1E a[i]? b[j]?))] ∧ Ent L [own 104 3 v out.length (chs out), ro μ]) ?_ ?_
 ·skip
  refine swp_draw [14, 19] _ [] (by simp only [List.append_nil]; exact Ent.refl _) (by kernel_rfl) ?_
  refine d_pu 0 rfl (pu_move rfl) (by kernel_rfl) (by kernel_rfl) (by kernel_rfl) ?_
  refine d_pu 1 rfl (pu_move rfl) (by kernel_rfl) (by kernel_rfl) (by kernel_rfl) ?_
  refine d_pu 2 rfl (pu_len_row hb rfl) (by kernel_rfl) (by kernel_rfl) (by kernel_rfl) ?_
  refine d_pu 3 rfl (pu_eql rfl rfl) (by kernel_rfl) (by kernel_rfl) (by kernel_rfl) ?_
  refine d_pu 4 rfl (pu_move rfl) (by kernel_rfl) (by kernel_rfl) (by kernel_rfl) ?_
  refine d_split 57 rfl (fun h57 => ?_) (fun h57 => ?_)
  ·skip
   refine d_off 5 rfl rfl rfl rfl (by kernel_rfl) (by kernel_rfl) (by kernel_rfl) ?_
   refine d_off 6 rfl rfl rfl rfl (by kernel_rfl) (by kernel_rfl) (by kernel_rfl) ?_
   refine d_off 7 rfl rfl rfl rfl (by kernel_rfl) (by kernel_rfl) (by kernel_rfl) ?_
   refine d_off 8 rfl rfl rfl rfl (by kernel_rfl) (by kernel_rfl) (by kernel_rfl) ?_
   refine d_off 9 rfl rfl rfl rfl (by kernel_rfl) (by kernel_rfl) (by kernel_rfl) ?_
   refine d_off 10 rfl rfl rfl rfl (by kernel_rfl) (by kernel_rfl) (by kernel_rfl) ?_
   refine d_off 11 rfl rfl rfl rfl (by kernel_rfl) (by kernel_rfl) (by kernel_rfl) ?_
   refine d_off 12 rfl rfl rfl rfl (by kernel_rfl) (by kernel_rfl) (by kernel_rfl) ?_
   refine d_off 13 rfl rfl rfl rfl (by kernel_rfl) (by kernel_rfl) (by kernel_rfl) ?_
   refine d_off 14 rfl rfl rfl rfl (by kernel_rfl) (by kernel_rfl) (by kernel_rfl) ?_
   refine d_off 15 rfl rfl rfl rfl (by kernel_rfl) (by kernel_rfl) (by kernel_rfl) ?_
   refine d_off 16 rfl rfl rfl rfl (by kernel_rfl) (by kernel_rfl) (by kernel_rfl) ?_
   refine d_off 17 rfl rfl rfl rfl (by kernel_rfl) (by kernel_rfl) (by kernel_rfl) ?_
   refine d_off 18 rfl rfl rfl rfl (by kernel_rfl) (by kernel_rfl) (by kernel_rfl) ?_
   refine d_off 19 rfl rfl rfl rfl (by kernel_rfl) (by kernel_rfl) (by kernel_rfl) ?_
   refine d_off 20 rfl rfl rfl rfl (by kernel_rfl) (by kernel_rfl) (by kernel_rfl) ?_
   refine d_off 21 rfl rfl rfl rfl (by kernel_rfl) (by kernel_rfl) (by kernel_rfl) ?_
   first | refine d_pu 22 rfl (pu_pick_t rfl rfl) (by kernel_rfl) (by kernel_rfl) (by kernel_rfl) ?_ | refine d_pu 22 rfl (pu_pick_f rfl rfl) (by kernel_rfl) (by kernel_rfl) (by kernel_rfl) ?_
   refine d_pu 23 rfl (pu_assign rfl) (by kernel_rfl) (by kernel_rfl) (by kernel_rfl) ?_
   refine d_sub _ (.cons (t := 0) rfl (.cons (t := 1) rfl (.cons (t := 5) rfl (.cons (t := 6) rfl (.cons (t := 7) rfl (.cons (t := 52) rfl .nil)))))) ?_
   first | refine d_nilt (by kernel_rfl) ?_ | refine d_nilf (by kernel_rfl) ?_
   have h57' : j = b.length := by have := of_decide_eq_true h57; omega
   refine then_n ⟨⟨rfl, rfl, rfl, rfl, rfl, ?_, trivial⟩, Ent.refl _⟩
   rw [List.getElem?_eq_none (l := b) (by omega), List.getElem?_eq_getElem (show i < a.length by omega)]; rfl
  ·skip
   have h57' : j < b.length := by have := of_decide_eq_false h57; omega
   obtain ⟨f, hf⟩ : ∃ f, b[j]? = some f := ⟨_, List.getElem?_eq_getElem h57'⟩
   obtain ⟨fb, fo, fc, hfv, _, hf0, hf1⟩ := tree_at hb hf
   refine d_pu_on 5 rfl rfl rfl (pu_move rfl) (by kernel_rfl) (by kernel_rfl) (by kernel_rfl) ?_
   refine d_pu_on 6 rfl rfl rfl (pu_move rfl) (by kernel_rfl) (by kernel_rfl) (by kernel_rfl) ?_
   refine d_pu_on 7 rfl rfl rfl (pu_len_row ha rfl) (by kernel_rfl) (by kernel_rfl) (by kernel_rfl) ?_
   refine d_pu_on 8 rfl rfl rfl (pu_lss rfl rfl) (by kernel_rfl) (by kernel_rfl) (by kernel_rfl) ?_
   refine d_pu_on 9 rfl rfl rfl (pu_move rfl) (by kernel_rfl) (by kernel_rfl) (by kernel_rfl) ?_
   refine d_split 62 rfl (fun h62 => ?_) (fun h62 => ?_)
   ·skip
    have h62' : i < a.length := by have := of_decide_eq_true h62; omega
    obtain ⟨e, he⟩ : ∃ e, a[i]? = some e := ⟨_, List.getElem?_eq_getElem h62'⟩
    obtain ⟨eb, eo, ec, hev, _, he0, he1⟩ := tree_at ha he
    refine d_pu_on 10 rfl rfl rfl (pu_move rfl) (by kernel_rfl) (by kernel_rfl) (by kernel_rfl) ?_
    refine d_pu_on 11 rfl rfl rfl (pu_move rfl) (by kernel_rfl) (by kernel_rfl) (by kernel_rfl) ?_
    refine d_pu_on 12 rfl rfl rfl (pu_indexAddr (eo + i * 2) (congrArg some hev) rfl (by omega) (by omega) (by rw [Int.toNat_natCast])) (by kernel_rfl) (by kernel_rfl) (by kernel_rfl) ?_
    first | refine d_pu_on 13 rfl rfl rfl (pu_fieldAddr0 rfl) (by kernel_rfl) (by kernel_rfl) (by kernel_rfl) ?_ | refine d_pu_on 13 rfl rfl rfl (pu_fieldAddr rfl) (by kernel_rfl) (by kernel_rfl) (by kernel_rfl) ?_
    refine d_rd_on 14 rfl rfl rfl (rd_ro rfl he0) rfl (by kernel_rfl) (by kernel_rfl) (by kernel_rfl) ?_
    refine d_pu_on 15 rfl rfl rfl (pu_move rfl) (by kernel_rfl) (by kernel_rfl) (by kernel_rfl) ?_
    refine d_pu_on 16 rfl rfl rfl (pu_move rfl) (by kernel_rfl) (by kernel_rfl) (by kernel_rfl) ?_
    refine d_pu_on 17 rfl rfl rfl (pu_indexAddr (fo + j * 2) (congrArg some hfv) rfl (by omega) (by omega) (by rw [Int.toNat_natCast])) (by kernel_rfl) (by kernel_rfl) (by kernel_rfl) ?_
    first | refine d_pu_on 18 rfl rfl rfl (pu_fieldAddr0 rfl) (by kernel_rfl) (by kernel_rfl) (by kernel_rfl) ?_ | refine d_pu_on 18 rfl rfl rfl (pu_fieldAddr rfl) (by kernel_rfl) (by kernel_rfl) (by kernel_rfl) ?_
    refine d_rd_on 19 rfl rfl rfl (rd_ro rfl hf0) rfl (by kernel_rfl) (by kernel_rfl) (by kernel_rfl) ?_
    refine d_pu_on 20 rfl rfl rfl (pu_str_lss rfl rfl) (by kernel_rfl) (by kernel_rfl) (by kernel_rfl) ?_
    first | refine d_pu_on 21 rfl rfl rfl (pu_pick_t rfl rfl) (by kernel_rfl) (by kernel_rfl) (by kernel_rfl) ?_ | refine d_pu_on 21 rfl rfl rfl (pu_pick_f rfl rfl) (by kernel_rfl) (by kernel_rfl) (by kernel_rfl) ?_
    first | refine d_pu 22 rfl (pu_pick_t rfl rfl) (by kernel_rfl) (by kernel_rfl) (by kernel_rfl) ?_ | refine d_pu 22 rfl (pu_pick_f rfl rfl) (by kernel_rfl) (by kernel_rfl) (by kernel_rfl) ?_
    refine d_pu 23 rfl (pu_assign rfl) (by kernel_rfl) (by kernel_rfl) (by kernel_rfl) ?_
    refine d_sub _ (.cons (t := 0) rfl (.cons (t := 1) rfl (.cons (t := 5) rfl (.cons (t := 6) rfl (.cons (t := 7) rfl (.cons (t := 52) rfl .nil)))))) ?_
    first | refine d_nilt (by kernel_rfl) ?_ | refine d_nilf (by kernel_rfl) ?_
    refine then_n ⟨⟨rfl, rfl, rfl, rfl, rfl, ?_, trivial⟩, Ent.refl _⟩
    rw [he, hf]; rfl
   ·skip
    refine d_off 10 rfl rfl rfl rfl (by kernel_rfl) (by kernel_rfl) (by kernel_rfl) ?_
    refine d_off 11 rfl rfl rfl rfl (by kernel_rfl) (by kernel_rfl) (by kernel_rfl) ?_
    refine d_off 12 rfl rfl rfl rfl (by kernel_rfl) (by kernel_rfl) (by kernel_rfl) ?_
    refine d_off 13 rfl rfl rfl rfl (by kernel_rfl) (by kernel_rfl) (by kernel_rfl) ?_
    refine d_off 14 rfl rfl rfl rfl (by kernel_rfl) (by kernel_rfl) (by kernel_rfl) ?_
    refine d_off 15 rfl rfl rfl rfl (by kernel_rfl) (by kernel_rfl) (by kernel_rfl) ?_
    refine d_off 16 rfl rfl rfl rfl (by kernel_rfl) (by kernel_rfl) (by kernel_rfl) ?_
    refine d_off 17 rfl rfl rfl rfl (by kernel_rfl) (by kernel_rfl) (by kernel_rfl) ?_
    refine d_off 18 rfl rfl rfl rfl (by kernel_rfl) (by kernel_rfl) (by kernel_rfl) ?_
    refine d_off 19 rfl rfl rfl rfl (by kernel_rfl) (by kernel_rfl) (by kernel_rfl) ?_
    refine d_off 20 rfl rfl rfl rfl (by kernel_rfl) (by kernel_rfl) (by kernel_rfl) ?_
    first | refine d_pu_on 21 rfl rfl rfl (pu_pick_t rfl rfl) (by kernel_rfl) (by kernel_rfl) (by kernel_rfl) ?_ | refine d_pu_on 21 rfl rfl rfl (pu_pick_f rfl rfl) (by kernel_rfl) (by kernel_rfl) (by kernel_rfl) ?_
    first | refine d_pu 22 rfl (pu_pick_t rfl rfl) (by kernel_rfl) (by kernel_rfl) (by kernel_rfl) ?_ | refine d_pu 22 rfl (pu_pick_f rfl rfl) (by kernel_rfl) (by kernel_rfl) (by kernel_rfl) ?_
    refine d_pu 23 rfl (pu_assign rfl) (by kernel_rfl) (by kernel_rfl) (by kernel_rfl) ?_
    refine d_sub _ (.cons (t := 0) rfl (.cons (t := 1) rfl (.cons (t := 5) rfl (.cons (t := 6) rfl (.cons (t := 7) rfl (.cons (t := 52) rfl .nil)))))) ?_
    first | refine d_nilt (by kernel_rfl) ?_ | refine d_nilf (by kernel_rfl) ?_
    refine then_n ⟨⟨rfl, rfl, rfl, rfl, rfl, ?_, trivial⟩, Ent.refl _⟩
    rw [List.getElem?_eq_none (l := a) (by have := of_decide_eq_false h62; omega)]; rfl
 rintro env L ⟨hsub, hE⟩
 refine swp_sub _ hsub ?_
 refine swp_ent hE ?_
 clear hsub hE env L
 refine swp_cond (b := _) rfl (fun h52 => ?_) (fun h52 => ?_)
 ·skip
  obtain ⟨e, he, hlt⟩ : ∃ e, a[i]? = some e ∧ ∀ f, b[j]? = some f → strLt e.1 f.1 = true := by
   unfold c1E at h52
   cases hx : a[i]? with
   | none => rw [hx] at h52; cases h52
   | some e => exact ⟨e, rfl, fun f hf => by rw [hx, hf] at h52; exact h52⟩
  have hil := (List.getElem?_eq_some_iff.1 he).1
  obtain ⟨eb, eo, ec, hev, _, he0, he1⟩ := tree_at ha he
  have hd1 : diffE (a.drop i) (b.drop j) = (e.1, e.2, 0) :: diffE (a.drop (i + 1)) (b.drop j) := by rw [drop_cons he]; exact diff_a e _ _ fun f r h => hlt f (drop_head h)
  refine swp_seq ?_
  refine swp_draw [5, 10] _ [] (by simp only [List.append_nil]; exact Ent.refl _) (by kernel_rfl) ?_
  refine d_pu 0 rfl (pu_move rfl) (by kernel_rfl) (by kernel_rfl) (by kernel_rfl) ?_
  refine d_pu 1 rfl (pu_move rfl) (by kernel_rfl) (by kernel_rfl) (by kernel_rfl) ?_
  refine d_pu 2 rfl (pu_move rfl) (by kernel_rfl) (by kernel_rfl) (by kernel_rfl) ?_
  refine d_pu 3 rfl (pu_indexAddr (eo + i * 2) (congrArg some hev) rfl (by omega) (by omega) (by rw [Int.toNat_natCast])) (by kernel_rfl) (by kernel_rfl) (by kernel_rfl) ?_
  first | refine d_pu 4 rfl (pu_fieldAddr0 rfl) (by kernel_rfl) (by kernel_rfl) (by kernel_rfl) ?_ | refine d_pu 4 rfl (pu_fieldAddr rfl) (by kernel_rfl) (by kernel_rfl) (by kernel_rfl) ?_
  refine d_rd 5 rfl (rd_ro rfl he0) rfl (by kernel_rfl) (by kernel_rfl) (by kernel_rfl) ?_
  refine d_pu 6 rfl (pu_move rfl) (by kernel_rfl) (by kernel_rfl) (by kernel_rfl) ?_
  refine d_pu 7 rfl (pu_move rfl) (by kernel_rfl) (by kernel_rfl) (by kernel_rfl) ?_
  refine d_pu 8 rfl (pu_indexAddr (eo + i * 2) (congrArg some hev) rfl (by omega) (by omega) (by rw [Int.toNat_natCast])) (by kernel_rfl) (by kernel_rfl) (by kernel_rfl) ?_
  first | refine d_pu 9 rfl (pu_fieldAddr0 rfl) (by kernel_rfl) (by kernel_rfl) (by kernel_rfl) ?_ | refine d_pu 9 rfl (pu_fieldAddr rfl) (by kernel_rfl) (by kernel_rfl) (by kernel_rfl) ?_
  refine d_rd 10 rfl (rd_ro rfl he1) rfl (by kernel_rfl) (by kernel_rfl) (by kernel_rfl) ?_
  refine d_pu 11 rfl (pu_bld (qs := [(0, _), (1, _)]) rfl) (by kernel_rfl) (by kernel_rfl) (by kernel_rfl) ?_
  first | refine d_fint 12 rfl (by kernel_rfl) (by kernel_rfl) (ef_bldS (qs := [(0, _)]) rfl rfl rfl) ?_ | refine d_finf 12 rfl (by kernel_rfl) (by kernel_rfl) (ef_bldS (qs := [(0, _)]) rfl rfl rfl) ?_
  intro b88
  first | refine d_fint 13 rfl (by kernel_rfl) (by kernel_rfl) (ef_append_lit (l := out.length) (m := 1) rfl rfl (by repeat (first | exact Split.nil | (apply Split.cons; (repeat (first | with_reducible exact Take.here | apply Take.there))))) (by simp only [maxLen]; omega) (by omega)) ?_ | refine d_finf 13 rfl (by kernel_rfl) (by kernel_rfl) (ef_append_lit (l := out.length) (m := 1) rfl rfl (by repeat (first | exact Split.nil | (apply Split.cons; (repeat (first | with_reducible exact Take.here | apply Take.there))))) (by simp only [maxLen]; omega) (by omega)) ?_
  rintro v89 -
  skip
  refine d_pu 14 rfl (pu_assign rfl) (by kernel_rfl) (by kernel_rfl) (by kernel_rfl) ?_
  refine d_sub _ (.cons (t := 0) rfl (.cons (t := 1) rfl (.cons (t := 5) rfl (.cons (t := 6) rfl (.cons (t := 7) rfl .nil))))) ?_
  first | refine d_nilt (by kernel_rfl) ?_ | refine d_nilf (by kernel_rfl) ?_
  refine then_n ?_
  refine swp_region ?_
  refine s_pu (pu_move rfl) ?_
  refine s_pu (pu_add_as ((i + 1 : Nat) : Int) rfl rfl (by omega) (by omega) (by omega)) ?_
  refine s_pu (pu_assign rfl) ?_
  refine swl_sub _ (.cons (t := 0) rfl (.cons (t := 1) rfl (.cons (t := 5) rfl (.cons (t := 6) rfl (.cons (t := 7) rfl .nil))))) ?_
  refine swl_nil ?_
  refine block_n ?_
  refine block_n ?_
  refine then_n ⟨(i + 1, j, v89, out ++ [(e.1, e.2, 0)]), ⟨⟨rfl, rfl, rfl, rfl, rfl, trivial⟩, ?_, hil, hj, by rw [List.append_assoc, ← hD, hd1]; rfl, by rw [List.length_append]; show out.length + 1 ≤ i + 1 + j; omega⟩, by show (a.length - (i + 1)) + (b.length - j) < (a.length - i) + (b.length - j); omega⟩
  show Ent _ [own 104 3 v89 (out ++ [(e.1, e.2, 0)]).length (chs (out ++ [(e.1, e.2, 0)])), ro μ]
  rw [chs_app, List.length_append]
  show Ent _ [own 104 3 v89 (out.length + 1) (chs out ++ [.string e.1, .int .u32 e.2, .int .u32 0]), ro μ]
  exact Split.ent' (by repeat (first | exact Split.nil | (apply Split.cons; (repeat (first | with_reducible exact Take.here | apply Take.there)))))
 ·skip
  obtain ⟨f, hf, hge⟩ : ∃ f, b[j]? = some f ∧ ∀ e, a[i]? = some e → strLt e.1 f.1 = false := by
   unfold c1E at h52
   cases hy : b[j]? with
   | none =>
    have : b.length ≤ j := List.getElem?_eq_none_iff.1 hy
    have hi' : i < a.length := by omega
    rw [hy, List.getElem?_eq_getElem hi'] at h52; cases h52
   | some f => exact ⟨f, rfl, fun e he => by rw [he, hy] at h52; exact h52⟩
  have hjl := (List.getElem?_eq_some_iff.1 hf).1
  obtain ⟨fb, fo, fc, hfv, _, hf0, hf1⟩ := tree_at hb hf
  refine swp_cut (fun env L => Sub env [(0, .slice Aa a.length ca), (1, .slice Ab b.length cb), (5, v), (6, .int .i64 (i : Nat)), (7, .int .i64 (j : Nat)), (92, .bool (c2E a[i]? f))] ∧ Ent L [own 104 3 v out.length (chs out), ro μ]) ?_ ?_
  ·skip
   refine swp_draw [9, 14] _ [] (by simp only [List.append_nil]; exact Ent.refl _) (by kernel_rfl) ?_
   refine d_pu 0 rfl (pu_move rfl) (by kernel_rfl) (by kernel_rfl) (by kernel_rfl) ?_
   refine d_pu 1 rfl (pu_move rfl) (by kernel_rfl) (by kernel_rfl) (by kernel_rfl) ?_
   refine d_pu 2 rfl (pu_len_row ha rfl) (by kernel_rfl) (by kernel_rfl) (by kernel_rfl) ?_
   refine d_pu 3 rfl (pu_eql rfl rfl) (by kernel_rfl) (by kernel_rfl) (by kernel_rfl) ?_
   refine d_pu 4 rfl (pu_move rfl) (by kernel_rfl) (by kernel_rfl) (by kernel_rfl) ?_
   refine d_split 97 rfl (fun h97 => ?_) (fun h97 => ?_)
   ·skip
    refine d_off 5 rfl rfl rfl rfl (by kernel_rfl) (by kernel_rfl) (by kernel_rfl) ?_
    refine d_off 6 rfl rfl rfl rfl (by kernel_rfl) (by kernel_rfl) (by kernel_rfl) ?_
    refine d_off 7 rfl rfl rfl rfl (by kernel_rfl) (by kernel_rfl) (by kernel_rfl) ?_
    refine d_off 8 rfl rfl rfl rfl (by kernel_rfl) (by kernel_rfl) (by kernel_rfl) ?_
    refine d_off 9 rfl rfl rfl rfl (by kernel_rfl) (by kernel_rfl) (by kernel_rfl) ?_
    refine d_off 10 rfl rfl rfl rfl (by kernel_rfl) (by kernel_rfl) (by kernel_rfl) ?_
    refine d_off 11 rfl rfl rfl rfl (by kernel_rfl) (by kernel_rfl) (by kernel_rfl) ?_
    refine d_off 12 rfl rfl rfl rfl (by kernel_rfl) (by kernel_rfl) (by kernel_rfl) ?_
    refine d_off 13 rfl rfl rfl rfl (by kernel_rfl) (by kernel_rfl) (by kernel_rfl) ?_
    refine d_off 14 rfl rfl rfl rfl (by kernel_rfl) (by kernel_rfl) (by kernel_rfl) ?_
    refine d_off 15 rfl rfl rfl rfl (by kernel_rfl) (by kernel_rfl) (by kernel_rfl) ?_
    first | refine d_pu 16 rfl (pu_pick_t rfl rfl) (by kernel_rfl) (by kernel_rfl) (by kernel_rfl) ?_ | refine d_pu 16 rfl (pu_pick_f rfl rfl) (by kernel_rfl) (by kernel_rfl) (by kernel_rfl) ?_
    refine d_pu 17 rfl (pu_assign rfl) (by kernel_rfl) (by kernel_rfl) (by kernel_rfl) ?_
    refine d_sub _ (.cons (t := 0) rfl (.cons (t := 1) rfl (.cons (t := 5) rfl (.cons (t := 6) rfl (.cons (t := 7) rfl (.cons (t := 92) rfl .nil)))))) ?_
    first | refine d_nilt (by kernel_rfl) ?_ | refine d_nilf (by kernel_rfl) ?_
    refine then_n ⟨⟨rfl, rfl, rfl, rfl, rfl, ?_, trivial⟩, Ent.refl _⟩
    rw [List.getElem?_eq_none (l := a) (by have := of_decide_eq_true h97; omega)]; rfl
   ·skip
    have h97' : i < a.length := by have := of_decide_eq_false h97; omega
    obtain ⟨e, he⟩ : ∃ e, a[i]? = some e := ⟨_, List.getElem?_eq_getElem h97'⟩
    obtain ⟨eb, eo, ec, hev, _, he0, he1⟩ := tree_at ha he
    refine d_pu_on 5 rfl rfl rfl (pu_move rfl) (by kernel_rfl) (by kernel_rfl) (by kernel_rfl) ?_
    refine d_pu_on 6 rfl rfl rfl (pu_move rfl) (by kernel_rfl) (by kernel_rfl) (by kernel_rfl) ?_
    refine d_pu_on 7 rfl rfl rfl (pu_indexAddr (fo + j * 2) (congrArg some hfv) rfl (by omega) (by omega) (by rw [Int.toNat_natCast])) (by kernel_rfl) (by kernel_rfl) (by kernel_rfl) ?_
    first | refine d_pu_on 8 rfl rfl rfl (pu_fieldAddr0 rfl) (by kernel_rfl) (by kernel_rfl) (by kernel_rfl) ?_ | refine d_pu_on 8 rfl rfl rfl (pu_fieldAddr rfl) (by kernel_rfl) (by kernel_rfl) (by kernel_rfl) ?_
    refine d_rd_on 9 rfl rfl rfl (rd_ro rfl hf0) rfl (by kernel_rfl) (by kernel_rfl) (by kernel_rfl) ?_
    refine d_pu_on 10 rfl rfl rfl (pu_move rfl) (by kernel_rfl) (by kernel_rfl) (by kernel_rfl) ?_
    refine d_pu_on 11 rfl rfl rfl (pu_move rfl) (by kernel_rfl) (by kernel_rfl) (by kernel_rfl) ?_
    refine d_pu_on 12 rfl rfl rfl (pu_indexAddr (eo + i * 2) (congrArg some hev) rfl (by omega) (by omega) (by rw [Int.toNat_natCast])) (by kernel_rfl) (by kernel_rfl) (by kernel_rfl) ?_
    first | refine d_pu_on 13 rfl rfl rfl (pu_fieldAddr0 rfl) (by kernel_rfl) (by kernel_rfl) (by kernel_rfl) ?_ | refine d_pu_on 13 rfl rfl rfl (pu_fieldAddr rfl) (by kernel_rfl) (by kernel_rfl) (by kernel_rfl) ?_
    refine d_rd_on 14 rfl rfl rfl (rd_ro rfl he0) rfl (by kernel_rfl) (by kernel_rfl) (by kernel_rfl) ?_
    refine d_pu_on 15 rfl rfl rfl (pu_str_lss rfl rfl) (by kernel_rfl) (by kernel_rfl) (by kernel_rfl) ?_
    first | refine d_pu 16 rfl (pu_pick_t rfl rfl) (by kernel_rfl) (by kernel_rfl) (by kernel_rfl) ?_ | refine d_pu 16 rfl (pu_pick_f rfl rfl) (by kernel_rfl) (by kernel_rfl) (by kernel_rfl) ?_
    refine d_pu 17 rfl (pu_assign rfl) (by kernel_rfl) (by kernel_rfl) (by kernel_rfl) ?_
    refine d_sub _ (.cons (t := 0) rfl (.cons (t := 1) rfl (.cons (t := 5) rfl (.cons (t := 6) rfl (.cons (t := 7) rfl (.cons (t := 92) rfl .nil)))))) ?_
    first | refine d_nilt (by kernel_rfl) ?_ | refine d_nilf (by kernel_rfl) ?_
    refine then_n ⟨⟨rfl, rfl, rfl, rfl, rfl, ?_, trivial⟩, Ent.refl _⟩
    rw [he]; rfl
  rintro env L ⟨hsub, hE⟩
  refine swp_sub _ hsub ?_
  refine swp_ent hE ?_
  clear hsub hE env L
  refine swp_cond (b := _) rfl (fun h92 => ?_) (fun h92 => ?_)
  ·skip
   have hd2 : diffE (a.drop i) (b.drop j) = (f.1, 0, f.2) :: diffE (a.drop i) (b.drop (j + 1)) := by
    rw [drop_cons hf]; exact diff_b f _ _ fun e r h => by
     have he := drop_head h
     rw [he] at h92; exact h92
   refine swp_seq ?_
   refine swp_draw [5, 10] _ [] (by simp only [List.append_nil]; exact Ent.refl _) (by kernel_rfl) ?_
   refine d_pu 0 rfl (pu_move rfl) (by kernel_rfl) (by kernel_rfl) (by kernel_rfl) ?_
   refine d_pu 1 rfl (pu_move rfl) (by kernel_rfl) (by kernel_rfl) (by kernel_rfl) ?_
   refine d_pu 2 rfl (pu_move rfl) (by kernel_rfl) (by kernel_rfl) (by kernel_rfl) ?_
   refine d_pu 3 rfl (pu_indexAddr (fo + j * 2) (congrArg some hfv) rfl (by omega) (by omega) (by rw [Int.toNat_natCast])) (by kernel_rfl) (by kernel_rfl) (by kernel_rfl) ?_
   first | refine d_pu 4 rfl (pu_fieldAddr0 rfl) (by kernel_rfl) (by kernel_rfl) (by kernel_rfl) ?_ | refine d_pu 4 rfl (pu_fieldAddr rfl) (by kernel_rfl) (by kernel_rfl) (by kernel_rfl) ?_
   refine d_rd 5 rfl (rd_ro rfl hf0) rfl (by kernel_rfl) (by kernel_rfl) (by kernel_rfl) ?_
   refine d_pu 6 rfl (pu_move rfl) (by kernel_rfl) (by kernel_rfl) (by kernel_rfl) ?_
   refine d_pu 7 rfl (pu_move rfl) (by kernel_rfl) (by kernel_rfl) (by kernel_rfl) ?_
   refine d_pu 8 rfl (pu_indexAddr (fo + j * 2) (congrArg some hfv) rfl (by omega) (by omega) (by rw [Int.toNat_natCast])) (by kernel_rfl) (by kernel_rfl) (by kernel_rfl) ?_
   first | refine d_pu 9 rfl (pu_fieldAddr0 rfl) (by kernel_rfl) (by kernel_rfl) (by kernel_rfl) ?_ | refine d_pu 9 rfl (pu_fieldAddr rfl) (by kernel_rfl) (by kernel_rfl) (by kernel_rfl) ?_
   refine d_rd 10 rfl (rd_ro rfl hf1) rfl (by kernel_rfl) (by kernel_rfl) (by kernel_rfl) ?_
   refine d_pu 11 rfl (pu_bld (qs := [(0, _), (2, _)]) rfl) (by kernel_rfl) (by kernel_rfl) (by kernel_rfl) ?_
   first | refine d_fint 12 rfl (by kernel_rfl) (by kernel_rfl) (ef_bldS (qs := [(0, _)]) rfl rfl rfl) ?_ | refine d_finf 12 rfl (by kernel_rfl) (by kernel_rfl) (ef_bldS (qs := [(0, _)]) rfl rfl rfl) ?_
   intro b122
   first | refine d_fint 13 rfl (by kernel_rfl) (by kernel_rfl) (ef_append_lit (l := out.length) (m := 1) rfl rfl (by repeat (first | exact Split.nil | (apply Split.cons; (repeat (first | with_reducible exact Take.here | apply Take.there))))) (by simp only [maxLen]; omega) (by omega)) ?_ | refine d_finf 13 rfl (by kernel_rfl) (by kernel_rfl) (ef_append_lit (l := out.length) (m := 1) rfl rfl (by repeat (first | exact Split.nil | (apply Split.cons; (repeat (first | with_reducible exact Take.here | apply Take.there))))) (by simp only [maxLen]; omega) (by omega)) ?_
   rintro v123 -
   skip
   refine d_pu 14 rfl (pu_assign rfl) (by kernel_rfl) (by kernel_rfl) (by kernel_rfl) ?_
   refine d_sub _ (.cons (t := 0) rfl (.cons (t := 1) rfl (.cons (t := 5) rfl (.cons (t := 6) rfl (.cons (t := 7) rfl .nil))))) ?_
   first | refine d_nilt (by kernel_rfl) ?_ | refine d_nilf (by kernel_rfl) ?_
   refine then_n ?_
   refine swp_region ?_
   refine s_pu (pu_move rfl) ?_
   refine s_pu (pu_add_as ((j + 1 : Nat) : Int) rfl rfl (by omega) (by omega) (by omega)) ?_
   refine s_pu (pu_assign rfl) ?_
   refine swl_sub _ (.cons (t := 0) rfl (.cons (t := 1) rfl (.cons (t := 5) rfl (.cons (t := 6) rfl (.cons (t := 7) rfl .nil))))) ?_
   refine swl_nil ?_
   refine block_n ?_
   refine block_n ?_
   refine then_n ⟨(i, j + 1, v123, out ++ [(f.1, 0, f.2)]), ⟨⟨rfl, rfl, rfl, rfl, rfl, trivial⟩, ?_, hi, hjl, by rw [List.append_assoc, ← hD, hd2]; rfl, by rw [List.length_append]; show out.length + 1 ≤ i + (j + 1); omega⟩, by show (a.length - i) + (b.length - (j + 1)) < (a.length - i) + (b.length - j); omega⟩
   show Ent _ [own 104 3 v123 (out ++ [(f.1, 0, f.2)]).length (chs (out ++ [(f.1, 0, f.2)])), ro μ]
   rw [chs_app, List.length_append]
   show Ent _ [own 104 3 v123 (out.length + 1) (chs out ++ [.string f.1, .int .u32 0, .int .u32 f.2]), ro μ]
   exact Split.ent' (by repeat (first | exact Split.nil | (apply Split.cons; (repeat (first | with_reducible exact Take.here | apply Take.there)))))
  ·skip
   obtain ⟨e, he, hef⟩ : ∃ e, a[i]? = some e ∧ e.1 = f.1 := by
    unfold c2E at h92
    cases hx : a[i]? with
    | none => rw [hx] at h92; cases h92
    | some e =>
     rw [hx] at h92
     refine ⟨e, rfl, ?_⟩
     have h1 := hge e hx
     rcases strLt_total e.1 f.1 with k | k | k
     ·rw [k] at h1; cases h1
     ·exact k
     ·simp only at h92; rw [k] at h92; cases h92
   have hil := (List.getElem?_eq_some_iff.1 he).1
   obtain ⟨eb, eo, ec, hev, _, he0, he1⟩ := tree_at ha he
   have hd3 : diffE (a.drop i) (b.drop j) = (if e.2 = f.2 then [] else [(e.1, e.2, f.2)]) ++ diffE (a.drop (i + 1)) (b.drop (j + 1)) := by rw [drop_cons he, drop_cons hf]; exact diff_ab e f _ _ hef
   refine swp_seq ?_
   refine swp_seq ?_
   refine swp_draw [4, 9] _ [] (by simp only [List.append_nil]; exact Ent.refl _) (by kernel_rfl) ?_
   refine d_pu 0 rfl (pu_move rfl) (by kernel_rfl) (by kernel_rfl) (by kernel_rfl) ?_
   refine d_pu 1 rfl (pu_move rfl) (by kernel_rfl) (by kernel_rfl) (by kernel_rfl) ?_
   refine d_pu 2 rfl (pu_indexAddr (eo + i * 2) (congrArg some hev) rfl (by omega) (by omega) (by rw [Int.toNat_natCast])) (by kernel_rfl) (by kernel_rfl) (by kernel_rfl) ?_
   first | refine d_pu 3 rfl (pu_fieldAddr0 rfl) (by kernel_rfl) (by kernel_rfl) (by kernel_rfl) ?_ | refine d_pu 3 rfl (pu_fieldAddr rfl) (by kernel_rfl) (by kernel_rfl) (by kernel_rfl) ?_
   refine d_rd 4 rfl (rd_ro rfl he1) rfl (by kernel_rfl) (by kernel_rfl) (by kernel_rfl) ?_
   refine d_pu 5 rfl (pu_move rfl) (by kernel_rfl) (by kernel_rfl) (by kernel_rfl) ?_
   refine d_pu 6 rfl (pu_move rfl) (by kernel_rfl) (by kernel_rfl) (by kernel_rfl) ?_
   refine d_pu 7 rfl (pu_indexAddr (fo + j * 2) (congrArg some hfv) rfl (by omega) (by omega) (by rw [Int.toNat_natCast])) (by kernel_rfl) (by kernel_rfl) (by kernel_rfl) ?_
   first | refine d_pu 8 rfl (pu_fieldAddr0 rfl) (by kernel_rfl) (by kernel_rfl) (by kernel_rfl) ?_ | refine d_pu 8 rfl (pu_fieldAddr rfl) (by kernel_rfl) (by kernel_rfl) (by kernel_rfl) ?_
   refine d_rd 9 rfl (rd_ro rfl hf1) rfl (by kernel_rfl) (by kernel_rfl) (by kernel_rfl) ?_
   refine d_pu 10 rfl (pu_neq rfl rfl) (by kernel_rfl) (by kernel_rfl) (by kernel_rfl) ?_
   refine d_sub _ (.cons (t := 0) rfl (.cons (t := 1) rfl (.cons (t := 5) rfl (.cons (t := 6) rfl (.cons (t := 7) rfl (.cons (t := 28) rfl .nil)))))) ?_
   first | refine d_nilt (by kernel_rfl) ?_ | refine d_nilf (by kernel_rfl) ?_
   refine then_n ?_
   refine swp_cond (b := _) rfl (fun h28 => ?_) (fun h28 => ?_)
   ·skip
    refine swp_draw [5, 10, 15] _ [] (by simp only [List.append_nil]; exact Ent.refl _) (by kernel_rfl) ?_
    refine d_pu 0 rfl (pu_move rfl) (by kernel_rfl) (by kernel_rfl) (by kernel_rfl) ?_
    refine d_pu 1 rfl (pu_move rfl) (by kernel_rfl) (by kernel_rfl) (by kernel_rfl) ?_
    refine d_pu 2 rfl (pu_move rfl) (by kernel_rfl) (by kernel_rfl) (by kernel_rfl) ?_
    refine d_pu 3 rfl (pu_indexAddr (eo + i * 2) (congrArg some hev) rfl (by omega) (by omega) (by rw [Int.toNat_natCast])) (by kernel_rfl) (by kernel_rfl) (by kernel_rfl) ?_
    first | refine d_pu 4 rfl (pu_fieldAddr0 rfl) (by kernel_rfl) (by kernel_rfl) (by kernel_rfl) ?_ | refine d_pu 4 rfl (pu_fieldAddr rfl) (by kernel_rfl) (by kernel_rfl) (by kernel_rfl) ?_
    refine d_rd 5 rfl (rd_ro rfl he0) rfl (by kernel_rfl) (by kernel_rfl) (by kernel_rfl) ?_
    refine d_pu 6 rfl (pu_move rfl) (by kernel_rfl) (by kernel_rfl) (by kernel_rfl) ?_
    refine d_pu 7 rfl (pu_move rfl) (by kernel_rfl) (by kernel_rfl) (by kernel_rfl) ?_
    refine d_pu 8 rfl (pu_indexAddr (eo + i * 2) (congrArg some hev) rfl (by omega) (by omega) (by rw [Int.toNat_natCast])) (by kernel_rfl) (by kernel_rfl) (by kernel_rfl) ?_
    first | refine d_pu 9 rfl (pu_fieldAddr0 rfl) (by kernel_rfl) (by kernel_rfl) (by kernel_rfl) ?_ | refine d_pu 9 rfl (pu_fieldAddr rfl) (by kernel_rfl) (by kernel_rfl) (by kernel_rfl) ?_
    refine d_rd 10 rfl (rd_ro rfl he1) rfl (by kernel_rfl) (by kernel_rfl) (by kernel_rfl) ?_
    refine d_pu 11 rfl (pu_move rfl) (by kernel_rfl) (by kernel_rfl) (by kernel_rfl) ?_
    refine d_pu 12 rfl (pu_move rfl) (by kernel_rfl) (by kernel_rfl) (by kernel_rfl) ?_
    refine d_pu 13 rfl (pu_indexAddr (fo + j * 2) (congrArg some hfv) rfl (by omega) (by omega) (by rw [Int.toNat_natCast])) (by kernel_rfl) (by kernel_rfl) (by kernel_rfl) ?_
    first | refine d_pu 14 rfl (pu_fieldAddr0 rfl) (by kernel_rfl) (by kernel_rfl) (by kernel_rfl) ?_ | refine d_pu 14 rfl (pu_fieldAddr rfl) (by kernel_rfl) (by kernel_rfl) (by kernel_rfl) ?_
    refine d_rd 15 rfl (rd_ro rfl hf1) rfl (by kernel_rfl) (by kernel_rfl) (by kernel_rfl) ?_
    refine d_pu 16 rfl (pu_bld (qs := [(0, _), (1, _), (2, _)]) rfl) (by kernel_rfl) (by kernel_rfl) (by kernel_rfl) ?_
    first | refine d_fint 17 rfl (by kernel_rfl) (by kernel_rfl) (ef_bldS (qs := [(0, _)]) rfl rfl rfl) ?_ | refine d_finf 17 rfl (by kernel_rfl) (by kernel_rfl) (ef_bldS (qs := [(0, _)]) rfl rfl rfl) ?_
    intro b46
    first | refine d_fint 18 rfl (by kernel_rfl) (by kernel_rfl) (ef_append_lit (l := out.length) (m := 1) rfl rfl (by repeat (first | exact Split.nil | (apply Split.cons; (repeat (first | with_reducible exact Take.here | apply Take.there))))) (by simp only [maxLen]; omega) (by omega)) ?_ | refine d_finf 18 rfl (by kernel_rfl) (by kernel_rfl) (ef_append_lit (l := out.length) (m := 1) rfl rfl (by repeat (first | exact Split.nil | (apply Split.cons; (repeat (first | with_reducible exact Take.here | apply Take.there))))) (by simp only [maxLen]; omega) (by omega)) ?_
    rintro v47 -
    skip
    refine d_pu 19 rfl (pu_assign rfl) (by kernel_rfl) (by kernel_rfl) (by kernel_rfl) ?_
    refine d_sub _ (.cons (t := 0) rfl (.cons (t := 1) rfl (.cons (t := 5) rfl (.cons (t := 6) rfl (.cons (t := 7) rfl .nil))))) ?_
    first | refine d_nilt (by kernel_rfl) ?_ | refine d_nilf (by kernel_rfl) ?_
    refine then_n ?_
    refine swp_seq ?_
    refine swp_region ?_
    refine s_pu (pu_move rfl) ?_
    refine s_pu (pu_add_as ((i + 1 : Nat) : Int) rfl rfl (by omega) (by omega) (by omega)) ?_
    refine s_pu (pu_assign rfl) ?_
    refine swl_sub _ (.cons (t := 0) rfl (.cons (t := 1) rfl (.cons (t := 5) rfl (.cons (t := 6) rfl (.cons (t := 7) rfl .nil))))) ?_
    refine swl_nil ?_
    refine then_n ?_
    refine swp_region ?_
    refine s_pu (pu_move rfl) ?_
    refine s_pu (pu_add_as ((j + 1 : Nat) : Int) rfl rfl (by omega) (by omega) (by omega)) ?_
    refine s_pu (pu_assign rfl) ?_
    refine swl_sub _ (.cons (t := 0) rfl (.cons (t := 1) rfl (.cons (t := 5) rfl (.cons (t := 6) rfl (.cons (t := 7) rfl .nil))))) ?_
    refine swl_nil ?_
    refine block_n ?_
    refine block_n ?_
    have hne : ¬ e.2 = f.2 := by simpa using h28
    rw [if_neg hne] at hd3
    refine then_n ⟨(i + 1, j + 1, v47, out ++ [(e.1, e.2, f.2)]), ⟨⟨rfl, rfl, rfl, rfl, rfl, trivial⟩, ?_, hil, hjl, by rw [List.append_assoc, ← hD, hd3], by rw [List.length_append]; show out.length + 1 ≤ i + 1 + (j + 1); omega⟩, by show (a.length - (i + 1)) + (b.length - (j + 1)) < (a.length - i) + (b.length - j); omega⟩
    show Ent _ [own 104 3 v47 (out ++ [(e.1, e.2, f.2)]).length (chs (out ++ [(e.1, e.2, f.2)])), ro μ]
    rw [chs_app, List.length_append]
    show Ent _ [own 104 3 v47 (out.length + 1) (chs out ++ [.string e.1, .int .u32 e.2, .int .u32 f.2]), ro μ]
    exact Split.ent' (by repeat (first | exact Split.nil | (apply Split.cons; (repeat (first | with_reducible exact Take.here | apply Take.there)))))
   ·skip
    refine swp_skip ?_
    refine then_n ?_
    refine swp_seq ?_
    refine swp_region ?_
    refine s_pu (pu_move rfl) ?_
    refine s_pu (pu_add_as ((i + 1 : Nat) : Int) rfl rfl (by omega) (by omega) (by omega)) ?_
    refine s_pu (pu_assign rfl) ?_
    refine swl_sub _ (.cons (t := 0) rfl (.cons (t := 1) rfl (.cons (t := 5) rfl (.cons (t := 6) rfl (.cons (t := 7) rfl .nil))))) ?_
    refine swl_nil ?_
    refine then_n ?_
    refine swp_region ?_
    refine s_pu (pu_move rfl) ?_
    refine s_pu (pu_add_as ((j + 1 : Nat) : Int) rfl rfl (by omega) (by omega) (by omega)) ?_
    refine s_pu (pu_assign rfl) ?_
    refine swl_sub _ (.cons (t := 0) rfl (.cons (t := 1) rfl (.cons (t := 5) rfl (.cons (t := 6) rfl (.cons (t := 7) rfl .nil))))) ?_
    refine swl_nil ?_
    refine block_n ?_
    refine block_n ?_
    have hne : e.2 = f.2 := by simpa using h28
    rw [if_pos hne, List.nil_append] at hd3
    exact then_n ⟨(i + 1, j + 1, v, out), ⟨⟨rfl, rfl, rfl, rfl, rfl, trivial⟩, Split.ent' (by repeat (first | exact Split.nil | (apply Split.cons; (repeat (first | with_reducible exact Take.here | apply Take.there))))), hil, hjl, by rw [← hD, hd3], by show out.length ≤ i + 1 + (j + 1); omega⟩, by show (a.length - (i + 1)) + (b.length - (j + 1)) < (a.length - i) + (b.length - j); omega⟩
end SX
namespace SX
open Go Go.Proofs
theorem chg_at {μ : PH} {v : Value} {l : List Chg} (h : Row μ v 3 l.length (chs l)) {i : Nat} {e : Chg} (hi : l[i]? = some e) : ∃ b off cap, v = .slice (some ⟨b, off, none⟩) l.length cap ∧ CellAt μ b (off + i * 3) (.string e.1) ∧ CellAt μ b (off + i * 3 + 1) (.int .u32 e.2.1) ∧ CellAt μ b (off + i * 3 + 2) (.int .u32 e.2.2) := by
  have hlt := (List.getElem?_eq_some_iff.1 hi).1
  obtain ⟨b, off, cap, hv, _, _, hr⟩ := h.pos (by omega)
  have hra := hr.elem (f := encD) (n := 3) (fun _ => rfl) hi
  exact ⟨b, off, cap, hv, hra 0 _ rfl, hra 1 _ rfl, hra 2 _ rfl⟩
set_option maxHeartbeats 2000000 in
theorem sof_spec (μ : PH) (s : Sett) (va vb : Value) (a b : List En) (ha : Row μ va 2 a.length (ens a)) (hb : Row μ vb 2 b.length (ens b)) (hsz : a.length ≤ 100 ∧ b.length ≤ 100) (ga : GoodT a) (gb : GoodT b) :
  Spec Tryd.prog 21 [.agg (encS s).toArray, va, vb] [ro μ] (fun r L => ∃ (f : Fil) (e : Int) (μ' : PH), Le μ μ' ∧ r = .tuple #[.agg (encF f).toArray, .int .i64 e] ∧ f.2.length ≤ 1048576 ∧ (∀ p, lookE a p ≠ lookE b p → mayF s f p.data.toList = true) ∧ L = [ro μ']) := by
 have hdl := diff_len 200 a b (by omega)
 have hds := diff_short ga.short gb.short ga gb
 have hdm := diff_mem a b ga gb
 have hd := rdiff_spec μ va vb a b ha hb ⟨by omega, by omega⟩
 generalize diffE a b = d at hdl hds hdm hd
 refine Spec.of 33 Tryd.func21 rfl rfl rfl ?_
 refine swp_seq ?_
 refine swp_region ?_
 refine s_ef (ef_box rfl rfl) ?_
 intro b3
 refine s_ef (ef_alloc) ?_
 intro b6
 refine s_pu (pu_assign rfl) ?_
 refine swl_sub _ (.cons (t := 1) rfl (.cons (t := 2) rfl (.cons (t := 3) rfl (.cons (t := 6) rfl .nil)))) ?_
 refine swl_nil ?_
 refine then_n ?_
 refine swp_seq ?_
 refine swp_region ?_
 refine s_pu (pu_move rfl) ?_
 refine s_pu (pu_move rfl) ?_
 refine s_ef (ef_fn hd rfl rfl (by repeat (first | exact Split.nil | (apply Split.cons; (repeat (first | with_reducible exact Take.here | apply Take.there)))))) ?_
 rintro v13 L1 rfl
 refine swl_app ?_
 refine swl_share_own (v := v13) (μ := μ) (by repeat (first | exact Split.nil | (apply Split.cons; (repeat (first | with_reducible exact Take.here | apply Take.there))))) fun μ1 l1 r13 => ?_
 refine s_pu (pu_assign rfl) ?_
 refine swl_sub _ (.cons (t := 3) rfl (.cons (t := 6) rfl (.cons (t := 8) rfl .nil))) ?_
 refine swl_nil ?_
 refine then_n ?_
 refine swp_seq ?_
 refine swp_region ?_
 refine s_pu (pu_assign rfl) ?_
 refine swl_sub _ (.cons (t := 3) rfl (.cons (t := 6) rfl (.cons (t := 8) rfl (.cons (t := 9) rfl .nil)))) ?_
 refine swl_nil ?_
 refine then_n ?_
 refine swp_seq ?_
 refine swp_seq ?_
 refine swp_region ?_
 refine s_pu (pu_assign rfl) ?_
 refine swl_sub _ (.cons (t := 3) rfl (.cons (t := 6) rfl (.cons (t := 8) rfl (.cons (t := 9) rfl (.cons (t := 10) rfl .nil))))) ?_
 refine swl_nil ?_
 refine then_n ?_
 refine swp_block ?_
 refine swp_ent (show Ent _ (own 9 1 (.slice none 0 0) 0 (sts ((d.take 0).map (·.1))) :: _) from own_nil_ent) ?_
 refine swp_loop (ι := Nat × Value) (fun k env L => Sub env [(3, .pointer (some ⟨b3, 0, none⟩)), (6, .pointer (some ⟨b6, 0, none⟩)), (8, v13), (9, k.2), (10, .int .i64 (k.1 : Nat))] ∧ Ent L [own 9 1 k.2 k.1 (sts ((d.take k.1).map (·.1))), blk b3 26 (encS s), blk b6 72 [.int .i64 0, .string ⟨#[]⟩], ro μ1] ∧ k.1 ≤ d.length) (fun k => d.length - k.1) (0, .slice none 0 0) ⟨⟨rfl, rfl, rfl, rfl, rfl, trivial⟩, Ent.cons (Split.ent' (by repeat (first | exact Split.nil | (apply Split.cons; (repeat (first | with_reducible exact Take.here | apply Take.there)))))), Nat.zero_le _⟩ ?_
 rintro ⟨i, v⟩ env L ⟨hsub, hE, hi⟩
 dsimp only at hsub hE hi
 refine swp_sub _ hsub ?_
 refine swp_ent hE ?_
 clear hsub hE env L
 refine swp_seq ?_
 refine swp_seq ?_
 refine swp_region ?_
 refine s_pu (pu_move rfl) ?_
 refine s_pu (pu_move rfl) ?_
 refine s_pu (pu_len_row r13 rfl) ?_
 refine s_pu (pu_lss rfl rfl) ?_
 refine swl_sub _ (.cons (t := 3) rfl (.cons (t := 6) rfl (.cons (t := 8) rfl (.cons (t := 9) rfl (.cons (t := 10) rfl (.cons (t := 17) rfl .nil)))))) ?_
 refine swl_nil ?_
 refine then_n ?_
 refine swp_cond (b := _) rfl (fun h17 => ?_) (fun h17 => ?_)
 ·skip
  have h17' : i < d.length := by have := of_decide_eq_true h17; omega
  obtain ⟨e, he⟩ : ∃ e, d[i]? = some e := ⟨_, List.getElem?_eq_getElem h17'⟩
  obtain ⟨eb, eo, ec, hev, he0, _, _⟩ := chg_at r13 he
  refine swp_skip ?_
  refine then_n ?_
  refine swp_seq ?_
  refine swp_block ?_
  refine swp_region ?_
  refine s_pu (pu_move rfl) ?_
  refine s_pu (pu_move rfl) ?_
  refine s_pu (pu_move rfl) ?_
  refine s_pu (pu_indexAddr (eo + i * 3) (congrArg some hev) rfl (by omega) (by omega) (by rw [Int.toNat_natCast])) ?_
  first | refine s_pu (pu_fieldAddr0 rfl) ?_ | refine s_pu (pu_fieldAddr rfl) ?_
  refine s_rd (rd_ro rfl he0) ?_
  refine s_ef (ef_bldS (qs := [(0, _)]) rfl rfl rfl) ?_
  intro b26
  refine s_ef (ef_append_lit (l := i) (m := 1) rfl rfl (by repeat (first | exact Split.nil | (apply Split.cons; (repeat (first | with_reducible exact Take.here | apply Take.there))))) (by simp only [maxLen]; omega) (by omega)) ?_
  rintro v27 -
  skip
  refine s_pu (pu_assign rfl) ?_
  refine swl_sub _ (.cons (t := 3) rfl (.cons (t := 6) rfl (.cons (t := 8) rfl (.cons (t := 9) rfl (.cons (t := 10) rfl .nil))))) ?_
  refine swl_nil ?_
  refine block_n ?_
  refine then_n ?_
  refine swp_region ?_
  refine s_pu (pu_move rfl) ?_
  refine s_pu (pu_add_as ((i + 1 : Nat) : Int) rfl rfl (by omega) (by omega) (by omega)) ?_
  refine s_pu (pu_assign rfl) ?_
  refine swl_sub _ (.cons (t := 3) rfl (.cons (t := 6) rfl (.cons (t := 8) rfl (.cons (t := 9) rfl (.cons (t := 10) rfl .nil))))) ?_
  refine swl_nil ?_
  refine then_n ⟨(i + 1, v27), ⟨⟨rfl, rfl, rfl, rfl, rfl, trivial⟩, ?_, h17'⟩, by show d.length - (i + 1) < d.length - i; omega⟩
  have e1 : sts ((d.take (i + 1)).map (·.1)) = sts ((d.take i).map (·.1)) ++ [.string e.1] := by rw [List.take_add_one, he, List.map_append, sts_app]; rfl
  show Ent _ [own 9 1 v27 (i + 1) (sts ((d.take (i + 1)).map (·.1))), blk b3 26 (encS s), blk b6 72 [.int .i64 0, .string ⟨#[]⟩], ro μ1]
  rw [e1]
  exact Split.ent' (by repeat (first | exact Split.nil | (apply Split.cons; (repeat (first | with_reducible exact Take.here | apply Take.there)))))
 ·skip
  have h17' := of_decide_eq_false h17
  obtain rfl : i = d.length := by omega
  rw [List.take_length]
  refine swp_share_own (v := v) (μ := μ1) (by repeat (first | exact Split.nil | (apply Split.cons; (repeat (first | with_reducible exact Take.here | apply Take.there))))) fun μ2 l2 r9 => ?_
  rw [show d.length = (d.map (·.1)).length by rw [List.length_map]] at r9
  refine swp_exit ?_
  refine then_x ?_
  refine then_x ?_
  refine block_hit rfl ?_
  refine then_n ?_
  refine swp_seq ?_
  refine swp_region ?_
  first | refine s_rd (rd_loadW rfl rfl) ?_ | refine s_rd (rd_loadX rfl rfl rfl) ?_
  refine s_pu (pu_move rfl) ?_
  refine s_ef (ef_fn (smake_spec μ2 s v (d.map (·.1)) r9 (by rw [List.length_map]; omega) (fun p hp => by obtain ⟨x, hx, rfl⟩ := List.mem_map.1 hp; have := hds x hx; omega)) rfl rfl (by repeat (first | exact Split.nil | (apply Split.cons; (repeat (first | with_reducible exact Take.here | apply Take.there)))))) ?_
  rintro v30 L1 ⟨f, e, μ3, l3, rfl, hfl, hfm, rfl⟩
  refine swl_app ?_
  first | refine s_pu (pu_extractL rfl) ?_ | refine s_pu (pu_extract rfl rfl) ?_
  first | refine s_pu (pu_extractL rfl) ?_ | refine s_pu (pu_extract rfl rfl) ?_
  refine s_ef0 (ef_storeAs (vs := encF f) (cs' := encF f) rfl rfl rfl (Nat.le_refl _) rfl rfl) ?_
  refine s_pu (pu_assign rfl) ?_
  refine swl_sub _ (.cons (t := 6) rfl (.cons (t := 7) rfl .nil)) ?_
  refine swl_nil ?_
  refine then_n ?_
  refine swp_ret ?_
  exact done_ret [ro μ3] (.cell rfl (ld_whole rfl) (.tmp rfl .nil)) ⟨f, e, μ3, (l1.trans l2).trans l3, rfl, hfl, fun p hp => hfm p ((hdm p).2 hp), rfl⟩ (by repeat (first | exact Split.nil | (apply Split.cons; (repeat (first | with_reducible exact Take.here | apply Take.there)))))
end SX
namespace SX
open Go Go.Proofs
/-- a source that the body of a range over its descent changes: Sh behind each commit's parents, Gb ahead of them -/
structure DSrc where
  t : TypeId
  v : Value
  d : Nat
  hd : d ≤ 7
  g : List (List Int)
  hg : Good g
  hn : g.length ≤ 65536
  xs : List Int
  Sh : List Nat → PH → Assn
  Gb : List Nat → Nat → PH → Assn
  μ0 : PH
  commits : ∀ μ, InvS Tryd.prog d t v "Commits" [] [Sh [] μ] (fun r L => r = .int .i64 (g.length : Nat) ∧ L = [Sh [] μ])
  parents : ∀ pre (c : Nat) μ, Le μ0 μ → c < g.length → (∃ post, downL g xs = pre ++ c :: post) → InvS Tryd.prog d t v "Parents" [.int .i64 (c : Nat)] [Gb pre c μ, ro μ] (fun r L => ∃ μ', Le μ μ' ∧ Row μ' r 1 (rowOf g c).length ((rowOf g c).flatMap (icsk .i64)) ∧ L = [Sh (pre ++ [c]) μ', ro μ'])
abbrev DSrc.n (X : DSrc) : Nat := X.g.length
abbrev DSrc.sv (X : DSrc) : Value := .iface X.t X.v
def DSrc.gb (X : DSrc) (μ : PH) (ys : List Nat) (c : Nat) : Assn := exA fun m : {m : PH // Le μ m} => [X.Gb ys c m.1, ro m.1]
end SX
namespace SX
open Go Go.Proofs
instance : TVia Tryd.prog 31 "Commits" 39 0 (some (111, true)) := ⟨by kernel_rfl⟩
instance : TVia Tryd.prog 31 "Parents" 39 0 (some (113, true)) := ⟨by kernel_rfl⟩
def bcn (n : Nat) (f : Nat → Bool) : List Value := (List.range n).map fun j => .bool (f j)
theorem bcn_len (n : Nat) (f : Nat → Bool) : (bcn n f).length = n := by unfold bcn; rw [List.length_map, List.length_range]
theorem bcn_get {n j : Nat} (f : Nat → Bool) (h : j < n) : (bcn n f)[j]? = some (.bool (f j)) := by unfold bcn; rw [List.getElem?_map, List.getElem?_range h]; rfl
def on1 (f : Nat → Bool) (c : Nat) : Nat → Bool := fun j => f j || decide (j = c)
theorem bcn_set {n c : Nat} (f : Nat → Bool) : (bcn n f).set c (.bool true) = bcn n (on1 f c) := by
  apply List.ext_getElem?
  intro j
  by_cases hj : j < n
  · rw [bcn_get _ hj]
    by_cases e : c = j
    · subst e; rw [List.getElem?_set_self (by rw [bcn_len]; exact hj)]; simp [on1]
    · rw [List.getElem?_set_ne e, bcn_get _ hj]; simp only [on1, decide_eq_false (fun h : j = c => e h.symm), Bool.or_false]
  · rw [List.getElem?_eq_none (by rw [List.length_set, bcn_len]; omega), List.getElem?_eq_none (by rw [bcn_len]; omega)]
/-- what a source keeps of what it was asked -/
structure HSt where
  ask : Nat → Nat
  lk : Nat → Bool
  my : Nat → Bool
/-- a source of the law: what does not change -/
structure HW where
  p : Nat
  pg : Nat
  vg : Value
  vn : Value
  vT : Value
  vF : Value
  S : Sett
  G : List (Value × List Int)
  T : List (Value × List En)
  F : List Fil
abbrev HW.n (W : HW) : Nat := W.G.length
abbrev HW.cells (W : HW) (vl vm : Value) : List Value := [.pointer (some ⟨W.pg, 0, none⟩), W.vT, .int .i64 W.S.ha, .int .i64 W.S.pe, .int .i64 W.S.mo, .int .u32 (W.S.seed.toNat : Nat), W.vF, vl, vm]
def HW.A (W : HW) (s : HSt) : Assn := exA fun x : Value × Value => [blk W.p 42 (W.cells x.1 x.2), gA W.pg W.vg W.vn W.n s.ask, own 4 1 x.1 W.n (bcn W.n s.lk), own 4 1 x.2 W.n (bcn W.n s.my)]
theorem HW.close {W : HW} {s : HSt} {vl vm : Value} {L : List Assn} : Ent (blk W.p 42 (W.cells vl vm) :: gA W.pg W.vg W.vn W.n s.ask :: own 4 1 vl W.n (bcn W.n s.lk) :: own 4 1 vm W.n (bcn W.n s.my) :: L) (W.A s :: L) :=
  ent_ex (F := fun x : Value × Value => [blk W.p 42 (W.cells x.1 x.2), gA W.pg W.vg W.vn W.n s.ask, own 4 1 x.1 W.n (bcn W.n s.lk), own 4 1 x.2 W.n (bcn W.n s.my)]) (vl, vm) (by repeat (first | exact Split.nil | (apply Split.cons; (repeat (first | with_reducible exact Take.here | apply Take.there)))))
abbrev gT (t : Value × List En) : List Value := [t.1]
structure HW.Ok (W : HW) (μ : PH) : Prop where
  hG : Graph μ W.vg W.G
  hg : Good (nums W.G)
  hn : W.G.length ≤ 65536
  hr : ∀ x ∈ W.G, x.2.length ≤ 1048576
  hT : Row μ W.vT 1 W.T.length (W.T.flatMap gT)
  hTr : ∀ t ∈ W.T, Row μ t.1 2 t.2.length (ens t.2) ∧ t.2.length ≤ 100 ∧ GoodT t.2 ∧ U32s t.2
  hTn : W.T.length = W.G.length
  hF : Row μ W.vF 2 W.F.length (W.F.flatMap encF)
  hFn : W.F.length = W.G.length
  hFs : ∀ f ∈ W.F, f.2.length ≤ 1048576
theorem HW.Ok.le {W : HW} {μ μ' : PH} (h : W.Ok μ) (k : Le μ μ') : W.Ok μ' :=
  ⟨h.hG.le k, h.hg, h.hn, h.hr, h.hT.le k, fun t ht => ⟨(h.hTr t ht).1.le k, (h.hTr t ht).2⟩, h.hTn, h.hF.le k, h.hFn, h.hFs⟩
def treeOf (T : List (Value × List En)) (c : Nat) : List En := ((T[c]?).getD (.slice none 0 0, [])).2
theorem tree_row {W : HW} {μ : PH} (h : W.Ok μ) {c : Nat} (hc : c < W.n) : ∃ b off cap u, W.vT = .slice (some ⟨b, off, none⟩) W.T.length cap ∧ CellAt μ b (off + c * 1) u ∧ Row μ u 2 (treeOf W.T c).length (ens (treeOf W.T c)) ∧ (treeOf W.T c).length ≤ 100 ∧ GoodT (treeOf W.T c) ∧ U32s (treeOf W.T c) := by
  have hlt : c < W.T.length := by rw [h.hTn]; exact hc
  obtain ⟨b, off, cap, hv, _, _, hr⟩ := h.hT.pos (by omega)
  have ht : W.T[c]? = some W.T[c] := List.getElem?_eq_getElem hlt
  have he := (hr.elem (f := gT) (n := 1) (fun _ => rfl) ht).cell
  have e : treeOf W.T c = (W.T[c]).2 := by unfold treeOf; rw [ht]; rfl
  rw [e]
  exact ⟨b, off, cap, _, hv, he, h.hTr _ (List.getElem_mem _)⟩
theorem HW.ask_spec {W : HW} {f : FuncId} {args : List Value} {μ : PH} {post : Value → List Assn → Prop} {s : HSt}
    (h : ∀ vl vm, Spec Tryd.prog f args [blk W.p 42 (W.cells vl vm), gA W.pg W.vg W.vn W.n s.ask, own 4 1 vl W.n (bcn W.n s.lk), own 4 1 vm W.n (bcn W.n s.my), ro μ] post) : Spec Tryd.prog f args [W.A s, ro μ] post := Spec.exA' fun x => h x.1 x.2
set_option maxHeartbeats 2000000 in
theorem content_spec (W : HW) (μ : PH) (h : W.Ok μ) (s : HSt) (c : Nat) (hc : c < W.n) : Spec Tryd.prog 13 [.pointer (some ⟨W.p, 0, none⟩), .int .i64 (c : Nat)] [W.A s, ro μ]
  (fun r L => L = [own 52 2 r (treeOf W.T c).length (ens (treeOf W.T c)), W.A { s with lk := on1 s.lk c }, ro μ]) := by
 refine HW.ask_spec fun vl vm => ?_
 refine Spec.ent3 (post := fun r L => ∃ vl', L = [own 52 2 r (treeOf W.T c).length (ens (treeOf W.T c)), blk W.p 42 (W.cells vl' vm), gA W.pg W.vg W.vn W.n s.ask, own 4 1 vl' W.n (bcn W.n (on1 s.lk c)), own 4 1 vm W.n (bcn W.n s.my), ro μ]) ?_ (fun v L ⟨vl', h3⟩ => ⟨_, by rw [h3]; exact Ent.cons (HW.close (s := { s with lk := on1 s.lk c })), rfl⟩)
 obtain ⟨tb, to, tc, u, hTv, hTc, hTr, hTl, _, _⟩ := tree_row h hc
 have hTn := h.hTn
 have hnn : W.n = W.G.length := rfl
 refine Spec.of 31 Tryd.func13 rfl rfl rfl ?_
 refine swp_seq ?_
 refine swp_region ?_
 refine s_pu (pu_assign rfl) ?_
 refine swl_sub _ (.cons (t := 0) rfl (.cons (t := 1) rfl .nil)) ?_
 refine swl_nil ?_
 refine then_n ?_
 refine swp_seq ?_
 refine swp_seq ?_
 refine swp_region ?_
 refine s_pu (pu_move rfl) ?_
 refine s_pu (pu_lss rfl rfl) ?_
 refine s_pu (pu_move rfl) ?_
 refine s_split 7 rfl (fun h7 => by exfalso; have h7' := of_decide_eq_true h7; omega) (fun h7 => ?_)
 refine s_on rfl rfl ?_
 refine s_pu (pu_move rfl) ?_
 refine s_on rfl rfl ?_
 refine s_pu (pu_move rfl) ?_
 refine s_on rfl rfl ?_
 first | refine s_pu (pu_nilCheck rfl) ?_ | refine s_pu (pu_nilCheck_fn rfl) ?_ | refine s_pu (pu_nilCheck_if rfl) ?_
 refine s_on rfl rfl ?_
 first | refine s_pu (pu_fieldAddr0 rfl) ?_ | refine s_pu (pu_fieldAddr rfl) ?_
 refine s_on rfl rfl ?_
 refine s_rd (rd_load rfl rfl) ?_
 refine s_on rfl rfl ?_
 refine s_pu (pu_len_row h.hT rfl) ?_
 refine s_on rfl rfl ?_
 refine s_pu (pu_geq rfl rfl) ?_
 first | refine s_pu (pu_pick_t rfl rfl) ?_ | refine s_pu (pu_pick_f rfl rfl) ?_
 refine swl_sub _ (.cons (t := 0) rfl (.cons (t := 1) rfl (.cons (t := 15) rfl .nil))) ?_
 refine swl_nil ?_
 refine then_n ?_
 refine swp_cond (b := _) rfl (fun h15 => by exfalso; have h15' := of_decide_eq_true h15; omega) (fun h15 => ?_)
 refine swp_skip ?_
 refine then_n ?_
 refine swp_seq ?_
 refine swp_ent (Split.ent' (K := [own 4 1 vl W.n (bcn W.n s.lk), blk W.p 42 (W.cells vl vm), gA W.pg W.vg W.vn W.n s.ask, own 4 1 vm W.n (bcn W.n s.my), ro μ]) (by repeat (first | exact Split.nil | (apply Split.cons; (repeat (first | with_reducible exact Take.here | apply Take.there)))))) ?_
 refine swp_own (fun _ h0 _ => by omega) (fun b1 c1 ex1 hv1 w1 w2 w3 w4 => ?_)
 subst hv1
 refine swp_region ?_
 refine s_pu (pu_move rfl) ?_
 first | refine s_pu (pu_nilCheck rfl) ?_ | refine s_pu (pu_nilCheck_fn rfl) ?_ | refine s_pu (pu_nilCheck_if rfl) ?_
 first | refine s_pu (pu_fieldAddr0 rfl) ?_ | refine s_pu (pu_fieldAddr rfl) ?_
 refine s_rd (rd_load rfl rfl) ?_
 refine s_pu (pu_move rfl) ?_
 refine s_pu (pu_indexAddr (0 + c * 1) rfl rfl (by omega) (by omega) (by rw [Int.toNat_natCast])) ?_
 refine s_ef0 (ef_storeP rfl rfl rfl (by rw [List.length_append, bcn_len]; omega)) ?_
 refine swl_sub _ (.cons (t := 0) rfl (.cons (t := 1) rfl .nil)) ?_
 rw [Nat.zero_add, Nat.mul_one, List.set_append_left (h := by rw [bcn_len]; exact hc), bcn_set]
 refine swl_ent (own_close (n := 1) (by rw [bcn_len]; omega) w4 w1 w2) ?_
 refine swl_nil ?_
 refine then_n ?_
 refine swp_seq ?_
 refine swp_region ?_
 refine s_ef (ef_bldS (qs := []) rfl rfl rfl) ?_
 intro b22
 refine swl_ent (own_empty (e := 52) (n := 2)) ?_
 refine s_pu (pu_move rfl) ?_
 first | refine s_pu (pu_nilCheck rfl) ?_ | refine s_pu (pu_nilCheck_fn rfl) ?_ | refine s_pu (pu_nilCheck_if rfl) ?_
 first | refine s_pu (pu_fieldAddr0 rfl) ?_ | refine s_pu (pu_fieldAddr rfl) ?_
 refine s_rd (rd_load rfl rfl) ?_
 refine s_pu (pu_move rfl) ?_
 refine s_pu (pu_indexAddr (to + c * 1) (congrArg some hTv) rfl (by omega) (by omega) (by rw [Int.toNat_natCast])) ?_
 refine s_rd (rd_ro rfl hTc) ?_
 refine s_ef (ef_append_ro hTr rfl rfl (by repeat (first | exact Split.nil | (apply Split.cons; (repeat (first | with_reducible exact Take.here | apply Take.there))))) (ens_one _) (by simp only [maxLen]; omega) (by omega)) ?_
 rintro v30 -
 rw [Nat.zero_add, List.nil_append]
 refine s_pu (pu_assign rfl) ?_
 refine swl_sub _ (.cons (t := 4) rfl .nil) ?_
 refine swl_nil ?_
 refine then_n ?_
 refine swp_ret ?_
 exact done_ret [own 52 2 v30 (treeOf W.T c).length (ens (treeOf W.T c)), blk W.p 42 (W.cells (.slice (some ⟨b1, 0, none⟩) W.n c1) vm), gA W.pg W.vg W.vn W.n s.ask, own 4 1 (.slice (some ⟨b1, 0, none⟩) W.n c1) W.n (bcn W.n (on1 s.lk c)), own 4 1 vm W.n (bcn W.n s.my), ro μ] (.tmp rfl .nil) ⟨_, rfl⟩ (by repeat (first | exact Split.nil | (apply Split.cons; (repeat (first | with_reducible exact Take.here | apply Take.there)))))
/-- a source of histories -/
structure HSrc where
  t : TypeId
  v : Value
  d : Nat
  hd : d ≤ 7
  n : Nat
  hn : n ≤ 65536
  tree : Nat → List En
  hT : ∀ c, c < n → (tree c).length ≤ 100 ∧ GoodT (tree c) ∧ U32s (tree c)
  mayb : Nat → ByteArray → Bool
  σ : Type
  A : σ → PH → Assn
  mono : ∀ {s μ μ'}, Le μ μ' → Ent [A s μ] [A s μ']
  looked : σ → Nat → σ
  mayed : σ → Nat → σ
  μ0 : PH
  content : ∀ s μ c, Le μ0 μ → c < n → InvS Tryd.prog d t v "Content" [.int .i64 (c : Nat)] [A s μ, ro μ] (fun r L => L = [own 52 2 r (tree c).length (ens (tree c)), A (looked s c) μ, ro μ])
  may : ∀ s μ c (p : ByteArray), Le μ0 μ → c < n → p.size ≤ 1048576 → InvS Tryd.prog d t v "May" [.int .i64 (c : Nat), .string p] [A s μ, ro μ] (fun r L => r = .bool (mayb c p) ∧ L = [A (mayed s c) μ, ro μ])
abbrev HSrc.sv (X : HSrc) : Value := .iface X.t X.v
end SX
namespace SX
open Go Go.Proofs
abbrev HW.rest (W : HW) (s : HSt) (x : Value × Value) : List Assn := [blk W.p 42 (W.cells x.1 x.2), own 4 1 x.1 W.n (bcn W.n s.lk), own 4 1 x.2 W.n (bcn W.n s.my)]
/-- the law's source as one of commits -/
def HW.bsrc (W : HW) (μ0 : PH) (h : W.Ok μ0) : Src where
  t := 31
  v := .pointer (some ⟨W.p, 0, none⟩)
  d := 0
  hd := Nat.zero_le _
  g := nums W.G
  hg := h.hg
  hn := by rw [List.length_map]; exact h.hn
  σ := HSt
  A := fun s _ => W.A s
  mono := fun _ => Ent.refl _
  ok := fun s c => s.ask c ≤ 4611686018427387904
  step := fun s c => { s with ask := ask1 s.ask c }
  μ0 := μ0
  commits := fun s μ => by
    refine InvS.exA fun x => ?_
    have hk := gcommits_spec W.pg W.n W.vg W.vn s.ask h.hG.1.sl
    have hq := InvS.ptr (t := 31) (name := "Commits") (b := W.p) (a := some ⟨W.pg, 0, none⟩) (pre := [gA W.pg W.vg W.vn W.n s.ask]) (R := W.rest s x) (by simp only [List.cons_append, List.nil_append, HW.rest]; exact ld_one rfl) hk
    simp only [List.cons_append, List.nil_append, HW.rest] at hq ⊢
    refine hq.ent (Split.ent' (by repeat (first | exact Split.nil | (apply Split.cons; (repeat (first | with_reducible exact Take.here | apply Take.there)))))) fun v L ⟨L', ⟨h1, h2⟩, h3⟩ => ?_
    subst h2 h3
    simp only [List.cons_append, List.nil_append]
    refine ⟨_, (Split.ent' (K := [blk W.p 42 (W.cells x.1 x.2), gA W.pg W.vg W.vn W.n s.ask, own 4 1 x.1 W.n (bcn W.n s.lk), own 4 1 x.2 W.n (bcn W.n s.my)]) (by repeat (first | exact Split.nil | (apply Split.cons; (repeat (first | with_reducible exact Take.here | apply Take.there)))))).trans HW.close, ?_, rfl⟩
    rw [h1, show (nums W.G).length = W.n from List.length_map _]
  parents := fun s μ c hl hc ha => by
    refine InvS.exA fun x => ?_
    have hk := gparents_spec μ W.pg W.vg W.vn s.ask W.G c (h.hG.le hl) (by rwa [show (nums W.G).length = W.G.length from List.length_map _] at hc) ha h.hr
    have hq := InvS.ptr (t := 31) (name := "Parents") (b := W.p) (a := some ⟨W.pg, 0, none⟩) (pre := [gA W.pg W.vg W.vn W.n s.ask, ro μ]) (R := W.rest s x) (by simp only [List.cons_append, List.nil_append, HW.rest]; exact ld_one rfl) hk
    simp only [List.cons_append, List.nil_append, HW.rest] at hq ⊢
    refine hq.ent (Split.ent' (by repeat (first | exact Split.nil | (apply Split.cons; (repeat (first | with_reducible exact Take.here | apply Take.there)))))) fun v L ⟨L', ⟨μ', h1, h2, h3⟩, h4⟩ => ?_
    subst h3 h4
    simp only [List.cons_append, List.nil_append]
    exact ⟨_, (Split.ent' (K := [blk W.p 42 (W.cells x.1 x.2), gA W.pg W.vg W.vn W.n (ask1 s.ask c), own 4 1 x.1 W.n (bcn W.n s.lk), own 4 1 x.2 W.n (bcn W.n s.my), ro μ']) (by repeat (first | exact Split.nil | (apply Split.cons; (repeat (first | with_reducible exact Take.here | apply Take.there)))))).trans (HW.close (s := { s with ask := ask1 s.ask c })), μ', h1, h2, rfl⟩
end SX
namespace SX
open Go Go.Proofs
theorem one_u32 {b o t : Int} (ho : U32 o) (ht : U32 t) : U32 (oneE b o t).1 := by
  unfold oneE
  split
  · exact ho
  · split
    · exact ht
    · have h := (markW (BitVec.ofInt 32 b) (BitVec.ofInt 32 o) (BitVec.ofInt 32 t)).isLt
      unfold markZ U32
      dsimp only
      omega
theorem nodup_in {α : Type} : ∀ {xs U : List α}, xs.Nodup → (∀ x ∈ xs, x ∈ U) → xs.length ≤ U.length
  | [], _, _, _ => Nat.zero_le _
  | x :: xs, U, hn, hs => by
    obtain ⟨h1, h2⟩ := List.nodup_cons.1 hn
    obtain ⟨s, t, rfl⟩ := List.append_of_mem (hs x (List.mem_cons_self ..))
    have h3 := nodup_in (U := s ++ t) h2 fun y hy => by
      rcases List.mem_append.1 (hs y (List.mem_cons_of_mem _ hy)) with k | k
      · exact List.mem_append_left _ k
      · rcases List.mem_cons.1 k with rfl | k
        · exact absurd hy h1
        · exact List.mem_append_right _ k
    rw [List.length_append] at h3
    rw [List.length_cons, List.length_append, List.length_cons]
    omega
/-- a good tree over some paths -/
structure TOk (U : List ByteArray) (t : List En) : Prop where
  good : GoodT t
  u32 : U32s t
  sub : ∀ e ∈ t, e.1 ∈ U
theorem TOk.nil (U : List ByteArray) : TOk U [] := ⟨good_nil, (fun _ h => by cases h), fun _ h => by cases h⟩
theorem TOk.len {U : List ByteArray} {t : List En} (h : TOk U t) : t.length ≤ U.length := by
  have hn : (t.map (·.1)).Nodup := by
    rw [List.Nodup, List.pairwise_map]
    exact h.good.rises.imp fun k => strLt_ne k
  have := nodup_in (U := U) hn fun p hp => by
    obtain ⟨e, he, rfl⟩ := List.mem_map.1 hp
    exact h.sub e he
  rwa [List.length_map] at this
def VM (a b c : List En) : List En := outR (rowsB a b c)
theorem TOk.merge {U : List ByteArray} {a b c : List En} (ha : TOk U a) (hb : TOk U b) (hc : TOk U c) : TOk U (VM a b c) where
  good := out_good ha.good hb.good hc.good
  u32 := fun e he => by
    obtain ⟨r, hr, h1, _⟩ := outR_mem he
    unfold rowsB at hr
    obtain ⟨p, _, rfl⟩ := List.mem_map.1 hr
    rw [h1]
    exact one_u32 (hb.u32.lookB p) (hc.u32.lookB p)
  sub := fun e he => by
    obtain ⟨r, hr, h1, _⟩ := outR_mem he
    unfold rowsB at hr
    obtain ⟨p, hp, rfl⟩ := List.mem_map.1 hr
    rw [h1]
    have hm : ∀ t, TOk U t → p ∈ t.map (·.1) → p ∈ U := fun t ht hq => by
      obtain ⟨x, hx, rfl⟩ := List.mem_map.1 hq
      exact ht.sub x hx
    rcases (pathsE_mem a b c p).1 hp with k | k | k
    · exact hm a ha k
    · exact hm b hb k
    · exact hm c hc k
theorem els_in {n : Nat} {S : Nat → Bool} {c : Int} (h : c ∈ elsTo n S) : 0 ≤ c ∧ c < n := by
  unfold elsTo numsI at h
  obtain ⟨k, hk, rfl⟩ := List.mem_map.1 h
  have := List.mem_range.1 (List.mem_filter.1 hk).1
  omega
theorem sidesA_in {g : List (List Int)} {xs ys : List Int} {c : Int} (h : c ∈ sidesA g xs ys) : 0 ≤ c ∧ c < g.length := by
  unfold sidesA sidesB at h
  split at h
  · exact els_in h
  · cases h
theorem sidesA_le (g : List (List Int)) (xs ys : List Int) : (sidesA g xs ys).length ≤ g.length := by
  unfold sidesA
  split
  · exact elsTo_len _ _
  · exact Nat.zero_le _
/-- what of the source is asked -/
def HW.U (W : HW) : List ByteArray := W.T.flatMap fun t => t.2.map (·.1)
theorem sum_all {α : Type} (f : α → Nat) (m : Nat) : ∀ (l : List α), (∀ x ∈ l, f x ≤ m) → (l.map f).sum ≤ l.length * m
  | [], _ => Nat.zero_le _
  | x :: l, h => by
    rw [List.map_cons, List.sum_cons, List.length_cons, Nat.succ_mul]
    have h1 := h x (List.mem_cons_self ..)
    have h2 := sum_all f m l fun y hy => h y (List.mem_cons_of_mem _ hy)
    omega
theorem HW.U_len {W : HW} {μ : PH} (h : W.Ok μ) (hn : W.n ≤ 10000) : W.U.length ≤ 1000000 := by
  unfold HW.U
  rw [List.length_flatMap]
  have h1 := sum_all (fun t : Value × List En => (t.2.map (·.1)).length) 100 W.T fun t ht => by
    rw [List.length_map]; exact (h.hTr t ht).2.1
  have h2 := h.hTn
  have h3 : W.G.length ≤ 10000 := hn
  omega
def VT (W : HW) (c : Int) : List En := treeOf W.T c.toNat
def VS (W : HW) (x : List Int) (y : Int) : List Int := sidesA (nums W.G) x [y]
theorem vt_ok {W : HW} {μ : PH} (h : W.Ok μ) {c : Nat} (hc : c < W.n) : TOk W.U (treeOf W.T c) := by
  have hlt : c < W.T.length := by rw [h.hTn]; exact hc
  have e : treeOf W.T c = (W.T[c]).2 := by unfold treeOf; rw [List.getElem?_eq_getElem hlt]; rfl
  have ht := h.hTr _ (List.getElem_mem hlt)
  rw [e]
  refine ⟨ht.2.2.1, ht.2.2.2, fun x hx => ?_⟩
  exact List.mem_flatMap.2 ⟨_, List.getElem_mem hlt, List.mem_map.2 ⟨x, hx, rfl⟩⟩
/-- a question under work, as it lies in memory -/
structure VV where
  rest : Value
  node : Value
  tree : Value
  f : VF (List En)
  own : Bool
abbrev encV (x : VV) : List Value := [x.rest, x.node, x.tree]
abbrev ivs (l : List Int) : List Value := l.flatMap (icsk .i64)
def nodeA (x : VV) : List Assn := if x.own = true then [own 3 1 x.node x.f.node.length (ivs x.f.node)] else []
abbrev treeA (x : VV) : Assn := own 52 2 x.tree x.f.tree.length (ens x.f.tree)
structure VV.Ok (n : Nat) (U : List ByteArray) (μ : PH) (x : VV) : Prop where
  rest : Row μ x.rest 1 x.f.rest.length (ivs x.f.rest)
  node : x.own = false → Row μ x.node 1 x.f.node.length (ivs x.f.node) ∧ ∃ A, x.node = .slice A x.f.node.length x.f.node.length
  one : (∃ A c, x.node = .slice A x.f.node.length c) ∧ ∃ A c, x.tree = .slice A x.f.tree.length c
  ins : ∀ c ∈ x.f.node ++ x.f.rest, 0 ≤ c ∧ c < n
  len : x.f.node.length + x.f.rest.length ≤ n
  tree : TOk U x.f.tree
theorem VV.Ok.le {n : Nat} {U : List ByteArray} {μ μ' : PH} {x : VV} (h : x.Ok n U μ) (k : Le μ μ') : x.Ok n U μ' := ⟨h.rest.le k, fun e => ⟨(h.node e).1.le k, (h.node e).2⟩, h.one, h.ins, h.len, h.tree⟩
abbrev wkV (w : Nat) (sv st : Value) (steps limit : Nat) : Assn := blk w 82 [sv, st, .int .i64 (steps : Nat), .int .i64 (limit : Nat)]
abbrev HW.sv (W : HW) : Value := .iface 31 (.pointer (some ⟨W.p, 0, none⟩))
/-- how often commits were asked -/
def AskB (m : Nat) (s : HSt) : Prop := ∀ c, s.ask c ≤ m
def askS (s : HSt) (c : Nat) : HSt := { s with ask := ask1 s.ask c }
theorem askS_ask : ∀ (ys : List Nat) (s : HSt), (ys.foldl askS s).ask = ys.foldl ask1 s.ask
  | [], _ => rfl
  | y :: ys, s => by rw [List.foldl_cons, List.foldl_cons, askS_ask ys]; rfl
theorem bsrc_fine {W : HW} {μ0 : PH} (h : W.Ok μ0) {s : HSt} {m : Nat} (hs : AskB m s) (hm : m + 1 ≤ 4611686018427387904) : (W.bsrc μ0 h).fine s := fun ys c hn _ _ _ => by
  show (ys.foldl askS s).ask c ≤ _
  rw [askS_ask]
  exact Nat.le_trans (ask_le hn (hs c)) hm
theorem askS_le {n : Nat} {s : HSt} {m : Nat} (hs : AskB m s) {zs : List Nat} (hz : askedIn n zs) : AskB (m + 1) (zs.foldl askS s) := fun c => by
  rw [askS_ask]
  exact ask_le hz.1 (hs c)
/-- the bases of two sides, over the law's source -/
theorem hsides_spec (W : HW) (μ0 : PH) (h : W.Ok μ0) (s : HSt) (m : Nat) (hs : AskB m s) (hm : m + 1 ≤ 4611686018427387904) (μ : PH) (v u : Value) (xs ys : List Int) (hT : RowAt μ 1 0 tabV) (hv : Row μ v 1 xs.length (ivs xs)) (hu : Row μ u 1 ys.length (ivs ys)) (h0 : Le μ0 μ) :
    Spec Tryd.prog 26 [W.sv, v, u] [W.A s, ro μ] (fun r L => ∃ lv s' μ', AskB (m + 1) s' ∧ Le μ μ' ∧ r = .tuple #[lv, .int .i64 (onlyE (nums W.G) xs ys)] ∧ L = [own 3 1 lv (sidesA (nums W.G) xs ys).length (ivs (sidesA (nums W.G) xs ys)), W.A s', ro μ']) := by
  refine (sides_spec (W.bsrc μ0 h) s μ v u xs ys hT hv hu h0 (bsrc_fine h hs hm)).mono fun r L ⟨lv, zs, μ', h1, h2, h3, h4⟩ => ?_
  exact ⟨lv, zs.foldl askS s, μ', askS_le hs h1, h2, h3, h4⟩
/-- a node: only read, or of the call's own -/
def naA (x : VV) : Assn := star (nodeA x)
theorem naA_no {x : VV} (h : x.own = false) {L : List Assn} : Ent L (naA x :: L) := by
  have e : nodeA x = [] := by unfold nodeA; rw [if_neg (by rw [h]; decide)]
  unfold naA
  rw [e]
  exact star_close (K := [])
theorem naA_open {x : VV} (h : x.own = true) {L : List Assn} : Ent (naA x :: L) (own 3 1 x.node x.f.node.length (ivs x.f.node) :: L) := by
  have e : nodeA x = [own 3 1 x.node x.f.node.length (ivs x.f.node)] := if_pos h
  unfold naA
  rw [e]
  exact star_ent
theorem naA_close {x : VV} (h : x.own = true) {L : List Assn} : Ent (own 3 1 x.node x.f.node.length (ivs x.f.node) :: L) (naA x :: L) := by
  have e : nodeA x = [own 3 1 x.node x.f.node.length (ivs x.f.node)] := if_pos h
  unfold naA
  rw [e]
  exact star_close (K := [own 3 1 x.node x.f.node.length (ivs x.f.node)])
theorem hsides_node (W : HW) (μ0 : PH) (h : W.Ok μ0) (s : HSt) (m : Nat) (hs : AskB m s) (hm : m + 1 ≤ 4611686018427387904) (μ : PH) (x : VV) (u : Value) (ys : List Int) (hT : RowAt μ 1 0 tabV) (hx : x.own = false → Row μ x.node 1 x.f.node.length (ivs x.f.node)) (hu : Row μ u 1 ys.length (ivs ys)) (h0 : Le μ0 μ) :
    Spec Tryd.prog 26 [W.sv, x.node, u] [naA x, W.A s, ro μ] (fun r L => ∃ lv s' μ', AskB (m + 1) s' ∧ Le μ μ' ∧ r = .tuple #[lv, .int .i64 (onlyE (nums W.G) x.f.node ys)] ∧ L = [own 3 1 lv (sidesA (nums W.G) x.f.node ys).length (ivs (sidesA (nums W.G) x.f.node ys)), naA x, W.A s', ro μ']) := by
  intro E w hh
  cases ho : x.own with
  | false =>
    refine ((hsides_spec W μ0 h s m hs hm μ x.node u x.f.node ys hT (hx ho) hu h0) E w (hh.ent Ent.drop)).mono fun e w' ⟨v, L', he, ⟨lv, s', μ', q1, q2, q3, q4⟩, h5⟩ => ?_
    subst q4
    exact ⟨v, _, he, ⟨lv, s', μ', q1, q2, q3, rfl⟩, h5.ent ((naA_no ho).trans Ent.swap)⟩
  | true =>
    have hh1 := hh.ent ((naA_open ho).trans (Split.ent' (K := [own 3 1 x.node x.f.node.length (ivs x.f.node), ro μ, W.A s]) (by repeat (first | exact Split.nil | (apply Split.cons; (repeat (first | with_reducible exact Take.here | apply Take.there)))))))
    obtain ⟨μL, hl, hrow, hh2, hback⟩ := hh1.lend_own
    refine ((hsides_spec W μ0 h s m hs hm μL x.node u x.f.node ys (hT.le hl) hrow (hu.le hl) (h0.trans hl)) E w (hh2.ent Ent.swap)).mono fun e w' ⟨v, L', he, ⟨lv, s', μ', q1, q2, q3, q4⟩, h5⟩ => ?_
    subst q4
    obtain ⟨μ3, b1, b2⟩ := hback μ' q2
    refine ⟨v, _, he, ⟨lv, s', μ3, q1, b1, q3, rfl⟩, h5.ent ?_⟩
    refine (Split.ent' (K := [ro μ', own 3 1 lv (sidesA (nums W.G) x.f.node ys).length (ivs (sidesA (nums W.G) x.f.node ys)), W.A s']) (by repeat (first | exact Split.nil | (apply Split.cons; (repeat (first | with_reducible exact Take.here | apply Take.there)))))).trans ?_
    refine (b2 _).trans ((naA_close ho).trans (Split.ent' (by repeat (first | exact Split.nil | (apply Split.cons; (repeat (first | with_reducible exact Take.here | apply Take.there)))))))
end SX
namespace SX
open Go Go.Proofs
/-- what comes as a slice of the call's own has a slice's form -/
theorem Spec.formed {P : Program} {f : FuncId} {args : List Value} {pre : List Assn} {e n l : Nat} {xs : List Value} {R : List Assn} (h : Spec P f args pre (fun r L => L = own e n r l xs :: R)) : Spec P f args pre (fun r L => (∃ A c, r = .slice A l c) ∧ L = own e n r l xs :: R) := fun E w hw =>
  (h E w hw).mono fun e' w' ⟨v, L', he, hl, hh⟩ => by
    subst hl
    obtain ⟨h1, h2, h3, h4, h5⟩ := hh
    obtain ⟨A, c, hv, _⟩ := own_cap2 (Sat.perm (perm_out (X := E.X) (.refl _)) _ h5)
    exact ⟨v, _, he, ⟨⟨A, c, hv⟩, rfl⟩, h1, h2, h3, h4, h5⟩
def lookS (s : HSt) (c : Nat) : HSt := { s with lk := on1 s.lk c }
theorem hcontent (W : HW) (μ : PH) (h : W.Ok μ) (s : HSt) (c : Nat) (hc : c < W.n) : InvS Tryd.prog 0 31 (.pointer (some ⟨W.p, 0, none⟩)) "Content" [.int .i64 (c : Nat)] [W.A s, ro μ]
    (fun r L => (∃ A k, r = .slice A (treeOf W.T c).length k) ∧ L = [own 52 2 r (treeOf W.T c).length (ens (treeOf W.T c)), W.A (lookS s c), ro μ]) := InvS.of (Spec.formed (content_spec W μ h s c hc))
theorem encV_one {x : VV} {n : Nat} {U : List ByteArray} {μ : PH} (h : x.Ok n U μ) : (encV x).all Value.oneCell' = true := by
  obtain ⟨_, A, c, e1, _⟩ := h.rest
  obtain ⟨⟨A2, c2, e2⟩, A3, c3, e3⟩ := h.one
  show ([x.rest, x.node, x.tree]).all _ = true
  rw [e1, e2, e3]; rfl
set_option maxHeartbeats 8000000 in
theorem push_spec (W : HW) (μ0 : PH) (hW : W.Ok μ0) (_ : W.n ≤ 10000) (μ : PH) (h0 : Le μ0 μ) (hT : RowAt μ 1 0 tabV) (w : Nat) (s : HSt) (m : Nat) (hs : AskB m s) (hm : m + 1 ≤ 4611686018427387904) (A : Option Addr) (cap : Nat) (xs : List VV) (steps limit : Nat) (hsl : xs.length ≤ steps) (hlim : limit ≤ 4096)
  (tv : VV) (y : Int) (hx : tv.own = false → Row μ tv.node 1 tv.f.node.length (ivs tv.f.node)) :
  Spec Tryd.prog 24 [.pointer (some ⟨w, 0, none⟩), tv.node, .int .i64 y] [naA tv, wkV w W.sv (.slice A xs.length cap) steps limit, own 85 3 (.slice A xs.length cap) xs.length (xs.flatMap encV), W.A s, ro μ]
   (fun r L => (limit ≤ steps ∧ r = .int .i64 12 ∧ L = [naA tv, wkV w W.sv (.slice A xs.length cap) steps limit, own 85 3 (.slice A xs.length cap) xs.length (xs.flatMap encV), W.A s, ro μ]) ∨
    (steps < limit ∧ r = .int .i64 0 ∧ ∃ (nv : VV) (A2 : Option Addr) (cap2 : Nat) (s2 : HSt) (μ2 : PH), nv.own = false ∧ nv.f = vfr (VT W) [] (VS W tv.f.node y) ∧ nv.Ok W.n W.U μ2 ∧ AskB (m + 1) s2 ∧ Le μ μ2 ∧
     L = [naA tv, wkV w W.sv (.slice A2 (xs.length + 1) cap2) (steps + 1) limit, own 85 3 (.slice A2 (xs.length + 1) cap2) (xs.length + 1) (xs.flatMap encV ++ encV nv), treeA nv, W.A s2, ro μ2])) := by
 refine Spec.of 66 Tryd.func24 rfl rfl rfl ?_
 refine swp_seq ?_
 refine swp_region ?_
 refine s_pu (pu_assign rfl) ?_
 refine swl_sub _ (.cons (t := 0) rfl (.cons (t := 1) rfl (.cons (t := 2) rfl .nil))) ?_
 refine swl_nil ?_
 refine then_n ?_
 refine swp_seq ?_
 refine swp_seq ?_
 refine swp_draw [3, 7] _ [] (by simp only [List.append_nil]; exact Ent.refl _) (by kernel_rfl) ?_
 refine d_pu 0 rfl (pu_move rfl) (by kernel_rfl) (by kernel_rfl) (by kernel_rfl) ?_
 first | refine d_pu 1 rfl (pu_nilCheck rfl) (by kernel_rfl) (by kernel_rfl) (by kernel_rfl) ?_ | refine d_pu 1 rfl (pu_nilCheck_fn rfl) (by kernel_rfl) (by kernel_rfl) (by kernel_rfl) ?_ | refine d_pu 1 rfl (pu_nilCheck_if rfl) (by kernel_rfl) (by kernel_rfl) (by kernel_rfl) ?_
 first | refine d_pu 2 rfl (pu_fieldAddr0 rfl) (by kernel_rfl) (by kernel_rfl) (by kernel_rfl) ?_ | refine d_pu 2 rfl (pu_fieldAddr rfl) (by kernel_rfl) (by kernel_rfl) (by kernel_rfl) ?_
 refine d_rd 3 rfl (rd_load rfl rfl) rfl (by kernel_rfl) (by kernel_rfl) (by kernel_rfl) ?_
 refine d_pu 4 rfl (pu_move rfl) (by kernel_rfl) (by kernel_rfl) (by kernel_rfl) ?_
 first | refine d_pu 5 rfl (pu_nilCheck rfl) (by kernel_rfl) (by kernel_rfl) (by kernel_rfl) ?_ | refine d_pu 5 rfl (pu_nilCheck_fn rfl) (by kernel_rfl) (by kernel_rfl) (by kernel_rfl) ?_ | refine d_pu 5 rfl (pu_nilCheck_if rfl) (by kernel_rfl) (by kernel_rfl) (by kernel_rfl) ?_
 first | refine d_pu 6 rfl (pu_fieldAddr0 rfl) (by kernel_rfl) (by kernel_rfl) (by kernel_rfl) ?_ | refine d_pu 6 rfl (pu_fieldAddr rfl) (by kernel_rfl) (by kernel_rfl) (by kernel_rfl) ?_
 refine d_rd 7 rfl (rd_load rfl rfl) rfl (by kernel_rfl) (by kernel_rfl) (by kernel_rfl) ?_
 refine d_pu 8 rfl (pu_geq rfl rfl) (by kernel_rfl) (by kernel_rfl) (by kernel_rfl) ?_
 refine d_sub _ (.cons (t := 0) rfl (.cons (t := 1) rfl (.cons (t := 2) rfl (.cons (t := 18) rfl .nil)))) ?_
 first | refine d_nilt (by kernel_rfl) ?_ | refine d_nilf (by kernel_rfl) ?_
 refine then_n ?_
 refine swp_cond (b := _) rfl (fun h18 => ?_) (fun h18 => ?_)
 ·skip
  refine swp_seq ?_
  refine swp_region ?_
  refine s_pu (pu_assign rfl) ?_
  refine swl_sub _ (.cons (t := 6) rfl .nil) ?_
  refine swl_nil ?_
  refine then_n ?_
  refine swp_ret ?_
  refine then_r ?_
  have h18' := of_decide_eq_true h18
  exact done_ret [naA tv, wkV w W.sv (.slice A xs.length cap) steps limit, own 85 3 (.slice A xs.length cap) xs.length (xs.flatMap encV), W.A s, ro μ] (.tmp rfl .nil) (.inl ⟨by omega, rfl, rfl⟩) (by repeat (first | exact Split.nil | (apply Split.cons; (repeat (first | with_reducible exact Take.here | apply Take.there)))))
 ·skip
  have h18' : steps < limit := by have := of_decide_eq_false h18; omega
  refine swp_skip ?_
  refine then_n ?_
  refine swp_seq ?_
  refine swp_region ?_
  refine s_pu (pu_move rfl) ?_
  first | refine s_pu (pu_nilCheck rfl) ?_ | refine s_pu (pu_nilCheck_fn rfl) ?_ | refine s_pu (pu_nilCheck_if rfl) ?_
  first | refine s_pu (pu_fieldAddr0 rfl) ?_ | refine s_pu (pu_fieldAddr rfl) ?_
  refine s_rd (rd_load rfl rfl) ?_
  refine s_pu (pu_add_as ((steps + 1 : Nat) : Int) rfl rfl (by omega) (by omega) (by omega)) ?_
  first | refine s_pu (pu_nilCheck rfl) ?_ | refine s_pu (pu_nilCheck_fn rfl) ?_ | refine s_pu (pu_nilCheck_if rfl) ?_
  first | refine s_pu (pu_fieldAddr0 rfl) ?_ | refine s_pu (pu_fieldAddr rfl) ?_
  refine s_ef0 (ef_store rfl rfl rfl) ?_
  refine swl_sub _ (.cons (t := 0) rfl (.cons (t := 1) rfl (.cons (t := 2) rfl .nil))) ?_
  refine swl_nil ?_
  refine then_n ?_
  refine swp_seq ?_
  refine swp_region ?_
  refine s_pu (pu_move rfl) ?_
  first | refine s_pu (pu_nilCheck rfl) ?_ | refine s_pu (pu_nilCheck_fn rfl) ?_ | refine s_pu (pu_nilCheck_if rfl) ?_
  first | refine s_pu (pu_fieldAddr0 rfl) ?_ | refine s_pu (pu_fieldAddr rfl) ?_
  refine s_rd (rd_load rfl rfl) ?_
  refine s_pu (pu_move rfl) ?_
  refine s_pu (pu_move rfl) ?_
  refine s_ef (ef_bldS (qs := [(0, _)]) rfl rfl rfl) ?_
  intro b33
  refine swl_share (b := b33) (μ := μ) (by repeat (first | exact Split.nil | (apply Split.cons; (repeat (first | with_reducible exact Take.here | apply Take.there))))) fun μ1 h1 k1 => ?_
  have r2 : Row μ1 (.slice (some ⟨b33, 0, none⟩) 1 1) 1 1 (ivs [y]) := row_of_blk (n := 1) (l := 1) (cs := [y].flatMap (icsk .i64)) k1 (by rfl) (by decide)
  refine s_ef (ef_fn (hsides_node W μ0 hW s m hs hm μ1 tv _ [y] (hT.le h1) (fun e => (hx e).le h1) r2 (h0.trans h1)) rfl rfl (by repeat (first | exact Split.nil | (apply Split.cons; (repeat (first | with_reducible exact Take.here | apply Take.there)))))) ?_
  rintro v34 L1 ⟨lv, s1, μ2, hs1, h2, rfl, rfl⟩
  refine swl_app ?_
  refine s_pu (pu_move rfl) ?_
  first | refine s_pu (pu_extractL rfl) ?_ | refine s_pu (pu_extract rfl rfl) ?_
  first | refine s_pu (pu_extractL rfl) ?_ | refine s_pu (pu_extract rfl rfl) ?_
  refine s_pu (pu_assign rfl) ?_
  refine s_pu (pu_assign rfl) ?_
  refine swl_sub _ (.cons (t := 0) rfl (.cons (t := 7) rfl .nil)) ?_
  refine swl_nil ?_
  refine then_n ?_
  refine swp_seq ?_
  rw [show sidesA (nums W.G) tv.f.node [y] = VS W tv.f.node y from rfl]
  have hin : ∀ c ∈ VS W tv.f.node y, 0 ≤ c ∧ c < (W.n : Int) := fun c hc => by
   have := sidesA_in hc
   rwa [show (nums W.G).length = W.n from List.length_map _] at this
  have hle : (VS W tv.f.node y).length ≤ W.n := by
   have := sidesA_le (nums W.G) tv.f.node [y]
   rwa [show (nums W.G).length = W.n from List.length_map _] at this
  generalize hbs : VS W tv.f.node y = bs at *
  refine swp_share_own (e := 3) (n := 1) (v := lv) (μ := μ2) (by repeat (first | exact Split.nil | (apply Split.cons; (repeat (first | with_reducible exact Take.here | apply Take.there))))) fun μ3 h3 hrow => ?_
  refine swp_region ?_
  refine s_pu (pu_bld (qs := []) rfl) ?_
  refine s_ef (ef_alloc) ?_
  intro b9
  refine s_ef0 (ef_storeA rfl rfl rfl rfl) ?_
  refine swl_sub _ (.cons (t := 0) rfl (.cons (t := 7) rfl (.cons (t := 9) rfl .nil))) ?_
  refine swl_nil ?_
  refine then_n ?_
  refine swp_cut (fun env L => ∃ (nv : VV) (s3 : HSt), Sub env [(0, .pointer (some ⟨w, 0, none⟩)), (9, .pointer (some ⟨b9, 0, none⟩))] ∧ Ent L [blk b9 85 (encV nv), treeA nv, naA tv, wkV w W.sv (.slice A xs.length cap) (steps + 1) limit, own 85 3 (.slice A xs.length cap) xs.length (xs.flatMap encV), W.A s3, ro μ3] ∧ nv.own = false ∧ nv.f = vfr (VT W) [] bs ∧ nv.Ok W.n W.U μ3 ∧ AskB (m + 1) s3) ?_ ?_
  ·skip
   refine swp_seq ?_
   refine swp_region ?_
   refine s_pu (pu_move rfl) ?_
   refine s_pu (pu_len_row hrow rfl) ?_
   refine s_pu (pu_gtr rfl rfl) ?_
   refine swl_sub _ (.cons (t := 0) rfl (.cons (t := 7) rfl (.cons (t := 9) rfl (.cons (t := 40) rfl .nil)))) ?_
   refine swl_nil ?_
   refine then_n ?_
   refine swp_cond (b := _) rfl (fun h40 => ?_) (fun h40 => ?_)
   ·skip
    have h40' : 0 < bs.length := by have := of_decide_eq_true h40; omega
    obtain ⟨b0, bl, rfl⟩ : ∃ b0 bl, bs = b0 :: bl := by
     cases bs with
     | nil => exact absurd h40' (by decide)
     | cons b0 bl => exact ⟨b0, bl, rfl⟩
    obtain ⟨k0, hk0⟩ : ∃ k : Nat, b0 = (k : Int) := ⟨b0.toNat, by have := (hin b0 (List.mem_cons_self ..)).1; omega⟩
    subst hk0
    have hk0n : k0 < W.n := by have := (hin _ (List.mem_cons_self ..)).2; omega
    have hW3 := hW.le (h0.trans (h1.trans (h2.trans h3)))
    obtain ⟨gb, go, gc, hlv, hlc, hcm, hra⟩ := hrow.pos h40'
    obtain ⟨v', hr', hlo⟩ := Row.lo (P := Tryd.prog) (t := 43) hrow 1 (by omega)
    obtain ⟨AR, cR, rfl⟩ : ∃ A c, v' = .slice A bl.length c := by obtain ⟨_, A, c, e, _⟩ := hr'; exact ⟨A, c, e⟩
    have hcell : CellAt μ3 gb (go + 0 * 1) (.int .i64 (k0 : Nat)) := (hra.elem (f := icsk .i64) (n := 1) (fun _ => rfl) (show ((k0 : Int) :: bl)[0]? = some (k0 : Int) from rfl)).cell
    refine swp_ent (Split.ent' (K := [wkV w W.sv (.slice A xs.length cap) (steps + 1) limit, ro μ3, blk b9 85 [.slice none 0 0, .slice none 0 0, .slice none 0 0], W.A s1, naA tv, own 85 3 (.slice A xs.length cap) xs.length (xs.flatMap encV)]) (by repeat (first | exact Split.nil | (apply Split.cons; (repeat (first | with_reducible exact Take.here | apply Take.there)))))) ?_
    refine swp_draw [7, 10] ([wkV w W.sv (.slice A xs.length cap) (steps + 1) limit, ro μ3]) ([blk b9 85 [.slice none 0 0, .slice none 0 0, .slice none 0 0], W.A s1, naA tv, own 85 3 (.slice A xs.length cap) xs.length (xs.flatMap encV)]) (Split.ent (by repeat (first | exact Split.nil | (apply Split.cons; (repeat (first | with_reducible exact Take.here | apply Take.there)))))) (by kernel_rfl) ?_
    refine d_pu 0 rfl (pu_move rfl) (by kernel_rfl) (by kernel_rfl) (by kernel_rfl) ?_
    refine d_pu 1 rfl (hlo _ _ _ .i64 1 rfl rfl rfl) (by kernel_rfl) (by kernel_rfl) (by kernel_rfl) ?_
    refine d_pu 2 rfl (pu_move rfl) (by kernel_rfl) (by kernel_rfl) (by kernel_rfl) ?_
    refine d_pu 3 rfl (pu_slice3 1 1 (congrArg some hlv) rfl rfl rfl rfl (Nat.le_refl _) (by rw [List.length_cons] at hlc; omega)) (by kernel_rfl) (by kernel_rfl) (by kernel_rfl) ?_
    refine d_pu 4 rfl (pu_move rfl) (by kernel_rfl) (by kernel_rfl) (by kernel_rfl) ?_
    first | refine d_pu 5 rfl (pu_nilCheck rfl) (by kernel_rfl) (by kernel_rfl) (by kernel_rfl) ?_ | refine d_pu 5 rfl (pu_nilCheck_fn rfl) (by kernel_rfl) (by kernel_rfl) (by kernel_rfl) ?_ | refine d_pu 5 rfl (pu_nilCheck_if rfl) (by kernel_rfl) (by kernel_rfl) (by kernel_rfl) ?_
    first | refine d_pu 6 rfl (pu_fieldAddr0 rfl) (by kernel_rfl) (by kernel_rfl) (by kernel_rfl) ?_ | refine d_pu 6 rfl (pu_fieldAddr rfl) (by kernel_rfl) (by kernel_rfl) (by kernel_rfl) ?_
    refine d_rd 7 rfl (rd_load rfl rfl) rfl (by kernel_rfl) (by kernel_rfl) (by kernel_rfl) ?_
    refine d_pu 8 rfl (pu_move rfl) (by kernel_rfl) (by kernel_rfl) (by kernel_rfl) ?_
    refine d_pu 9 rfl (pu_indexAddr (go + 0 * 1) (congrArg some hlv) rfl (by omega) (by rw [List.length_cons]; omega) rfl) (by kernel_rfl) (by kernel_rfl) (by kernel_rfl) ?_
    refine d_rd 10 rfl (rd_ro rfl hcell) rfl (by kernel_rfl) (by kernel_rfl) (by kernel_rfl) ?_
    first | refine d_pu 11 rfl (pu_nilCheck rfl) (by kernel_rfl) (by kernel_rfl) (by kernel_rfl) ?_ | refine d_pu 11 rfl (pu_nilCheck_fn rfl) (by kernel_rfl) (by kernel_rfl) (by kernel_rfl) ?_ | refine d_pu 11 rfl (pu_nilCheck_if rfl) (by kernel_rfl) (by kernel_rfl) (by kernel_rfl) ?_
    refine d_pu 12 rfl (pu_move rfl) (by kernel_rfl) (by kernel_rfl) (by kernel_rfl) ?_
    first | refine d_fint 13 rfl (by kernel_rfl) (by kernel_rfl) (ef_invS rfl (Nat.zero_le _) (hcontent W μ3 hW3 s1 k0 hk0n) rfl (by repeat (first | exact Split.nil | (apply Split.cons; (repeat (first | with_reducible exact Take.here | apply Take.there)))))) ?_ | refine d_finf 13 rfl (by kernel_rfl) (by kernel_rfl) (ef_invS rfl (Nat.zero_le _) (hcontent W μ3 hW3 s1 k0 hk0n) rfl (by repeat (first | exact Split.nil | (apply Split.cons; (repeat (first | with_reducible exact Take.here | apply Take.there)))))) ?_
    rintro v54 L1 ⟨⟨AT, cT, rfl⟩, rfl⟩
    refine swd_app ?_
    refine d_pu 14 rfl (pu_bld (qs := [(0, _), (1, _), (2, _)]) rfl) (by kernel_rfl) (by kernel_rfl) (by kernel_rfl) ?_
    first | refine d_fin0t 15 rfl (by kernel_rfl) (by kernel_rfl) (ef_storeA rfl rfl rfl rfl) ?_ | refine d_fin0f 15 rfl (by kernel_rfl) (by kernel_rfl) (ef_storeA rfl rfl rfl rfl) ?_
    refine d_sub _ (.cons (t := 0) rfl (.cons (t := 9) rfl .nil)) ?_
    first | refine d_nilt (by kernel_rfl) ?_ | refine d_nilf (by kernel_rfl) ?_
    refine then_n ⟨⟨.slice AR bl.length cR, .slice (some ⟨gb, go, none⟩) 1 1, .slice AT (treeOf W.T k0).length cT, ⟨bl, [(k0 : Int)], treeOf W.T k0⟩, false⟩, lookS s1 k0, ⟨rfl, rfl, trivial⟩, Split.ent' (by repeat (first | exact Split.nil | (apply Split.cons; (repeat (first | with_reducible exact Take.here | apply Take.there))))), rfl, ?_, ⟨hr', fun _ => ⟨⟨rfl, some ⟨gb, go, none⟩, 1, rfl, Nat.le_refl _, by decide, (fun h => by cases h), fun _ => ⟨gb, go, rfl, fun j u hj => hra j u ?_⟩⟩, _, rfl⟩, ⟨⟨_, _, rfl⟩, _, _, rfl⟩, ?_, ?_, vt_ok hW3 hk0n⟩, hs1⟩
    ·rfl
    ·have hj0 : j = 0 := by
      have := (List.getElem?_eq_some_iff.1 hj).1
      rw [show (ivs [(k0 : Int)]).length = 1 from rfl] at this
      omega
     subst hj0
     exact hj
    ·intro c hc
     exact hin c hc
    ·rw [List.length_cons] at hle
     show 1 + bl.length ≤ W.n
     omega
   ·skip
    have h40' : bs = [] := by
     have := of_decide_eq_false h40
     cases bs with
     | nil => rfl
     | cons _ _ => exfalso; rw [List.length_cons] at this; omega
    refine swp_skip ?_
    subst h40'
    refine then_n ⟨⟨.slice none 0 0, .slice none 0 0, .slice none 0 0, ⟨[], [], []⟩, false⟩, s1, ⟨rfl, rfl, trivial⟩, ?_, rfl, rfl, ⟨Row.nil _ _, fun _ => ⟨Row.nil _ _, _, rfl⟩, ⟨⟨_, _, rfl⟩, _, _, rfl⟩, (fun c hc => by cases hc), Nat.zero_le _, TOk.nil _⟩, hs1⟩
    exact own_nil_ent.trans (Split.ent' (K := [blk b9 85 [.slice none 0 0, .slice none 0 0, .slice none 0 0], own 52 2 (.slice none 0 0) 0 [], naA tv, wkV w W.sv (.slice A xs.length cap) (steps + 1) limit, own 85 3 (.slice A xs.length cap) xs.length (xs.flatMap encV), W.A s1, ro μ3]) (by repeat (first | exact Split.nil | (apply Split.cons; (repeat (first | with_reducible exact Take.here | apply Take.there))))))
  rintro env L ⟨nv, s3, hsub, hE, hown, hfr, hok, hs3⟩
  refine swp_sub _ hsub ?_
  refine swp_ent hE ?_
  clear hsub hE env L
  obtain ⟨nr, nn, nt, nf, no⟩ := nv
  have hok' := hok
  obtain ⟨hq1, _, hq3, _⟩ := hok'
  obtain ⟨_, AR, cR, e1, _⟩ := hq1
  obtain ⟨⟨AN, cN, e2⟩, AT, cT, e3⟩ := hq3
  dsimp only at e1 e2 e3
  subst e1 e2 e3
  refine swp_seq ?_
  refine swp_draw [4, 5] _ [] (by simp only [List.append_nil]; exact Ent.refl _) (by kernel_rfl) ?_
  refine d_pu 0 rfl (pu_move rfl) (by kernel_rfl) (by kernel_rfl) (by kernel_rfl) ?_
  refine d_pu 1 rfl (pu_move rfl) (by kernel_rfl) (by kernel_rfl) (by kernel_rfl) ?_
  first | refine d_pu 2 rfl (pu_nilCheck rfl) (by kernel_rfl) (by kernel_rfl) (by kernel_rfl) ?_ | refine d_pu 2 rfl (pu_nilCheck_fn rfl) (by kernel_rfl) (by kernel_rfl) (by kernel_rfl) ?_ | refine d_pu 2 rfl (pu_nilCheck_if rfl) (by kernel_rfl) (by kernel_rfl) (by kernel_rfl) ?_
  first | refine d_pu 3 rfl (pu_fieldAddr0 rfl) (by kernel_rfl) (by kernel_rfl) (by kernel_rfl) ?_ | refine d_pu 3 rfl (pu_fieldAddr rfl) (by kernel_rfl) (by kernel_rfl) (by kernel_rfl) ?_
  refine d_rd 4 rfl (rd_load rfl rfl) rfl (by kernel_rfl) (by kernel_rfl) (by kernel_rfl) ?_
  first | refine d_rd 5 rfl (rd_loadW rfl rfl) rfl (by kernel_rfl) (by kernel_rfl) (by kernel_rfl) ?_ | refine d_rd 5 rfl (rd_loadX rfl rfl rfl) rfl (by kernel_rfl) (by kernel_rfl) (by kernel_rfl) ?_
  refine d_eft 6 rfl (by kernel_rfl) (ef_bldS (qs := [(0, _)]) rfl rfl rfl) ?_
  intro b62
  refine ⟨_, Split.ent (by repeat (first | exact Split.nil | (apply Split.cons; (repeat (first | with_reducible exact Take.here | apply Take.there))))), ?_⟩
  first | refine d_fint 7 rfl (by kernel_rfl) (by kernel_rfl) (ef_append_lit (l := xs.length) (m := 1) (news := [.slice AR nf.rest.length cR, .slice AN nf.node.length cN, .slice AT nf.tree.length cT]) rfl rfl (by repeat (first | exact Split.nil | (apply Split.cons; (repeat (first | with_reducible exact Take.here | apply Take.there))))) (by simp only [maxLen]; omega) (by omega)) ?_ | refine d_finf 7 rfl (by kernel_rfl) (by kernel_rfl) (ef_append_lit (l := xs.length) (m := 1) (news := [.slice AR nf.rest.length cR, .slice AN nf.node.length cN, .slice AT nf.tree.length cT]) rfl rfl (by repeat (first | exact Split.nil | (apply Split.cons; (repeat (first | with_reducible exact Take.here | apply Take.there))))) (by simp only [maxLen]; omega) (by omega)) ?_
  rintro st' hst'
  obtain ⟨g7, c7, rfl⟩ := hst' (by decide)
  first | refine d_pu 8 rfl (pu_nilCheck rfl) (by kernel_rfl) (by kernel_rfl) (by kernel_rfl) ?_ | refine d_pu 8 rfl (pu_nilCheck_fn rfl) (by kernel_rfl) (by kernel_rfl) (by kernel_rfl) ?_ | refine d_pu 8 rfl (pu_nilCheck_if rfl) (by kernel_rfl) (by kernel_rfl) (by kernel_rfl) ?_
  first | refine d_pu 9 rfl (pu_fieldAddr0 rfl) (by kernel_rfl) (by kernel_rfl) (by kernel_rfl) ?_ | refine d_pu 9 rfl (pu_fieldAddr rfl) (by kernel_rfl) (by kernel_rfl) (by kernel_rfl) ?_
  first | refine d_fin0t 10 rfl (by kernel_rfl) (by kernel_rfl) (ef_store rfl rfl rfl) ?_ | refine d_fin0f 10 rfl (by kernel_rfl) (by kernel_rfl) (ef_store rfl rfl rfl) ?_
  refine d_sub _ .nil ?_
  first | refine d_nilt (by kernel_rfl) ?_ | refine d_nilf (by kernel_rfl) ?_
  refine then_n ?_
  refine swp_seq ?_
  refine swp_region ?_
  refine s_pu (pu_assign rfl) ?_
  refine swl_sub _ (.cons (t := 6) rfl .nil) ?_
  refine swl_nil ?_
  refine then_n ?_
  refine swp_ret ?_
  refine done_retE [naA tv, wkV w W.sv (.slice (some ⟨g7, 0, none⟩) (xs.length + 1) c7) (steps + 1) limit, own 85 3 (.slice (some ⟨g7, 0, none⟩) (xs.length + 1) c7) (xs.length + 1) (xs.flatMap encV ++ encV ⟨.slice AR nf.rest.length cR, .slice AN nf.node.length cN, .slice AT nf.tree.length cT, nf, no⟩), treeA ⟨.slice AR nf.rest.length cR, .slice AN nf.node.length cN, .slice AT nf.tree.length cT, nf, no⟩, W.A s3, ro μ3] (.tmp rfl .nil) (.inr ⟨h18', rfl, _, _, _, s3, μ3, hown, hfr, hok, hs3, h1.trans (h2.trans h3), rfl⟩) (Split.ent' (by repeat (first | exact Split.nil | (apply Split.cons; (repeat (first | with_reducible exact Take.here | apply Take.there))))))
end SX
namespace SX
open Go Go.Proofs
theorem own_less {e n l c : Nat} {A : Option Addr} {xs ys : List Value} {L : List Assn} (hx : xs.length = l * n) : Ent (own e n (.slice A (l + 1) c) (l + 1) (xs ++ ys) :: L) (own e n (.slice A l c) l xs :: L) :=
  Ent.imp fun m ⟨_, h2⟩ => by
    rcases h2 with ⟨h3, _⟩ | ⟨g, cap, cur, h3, h4, h5, h6, h7, h8⟩
    · have := (Value.slice.inj h3).2.1; omega
    · obtain ⟨rfl, _, rfl⟩ := Value.slice.inj h3
      refine ⟨hx, .inr ⟨g, c, cur, rfl, h4, by omega, h6, h7, ?_⟩⟩
      have h9 := congrArg (List.take (l * n)) h8
      rw [List.take_take, Nat.min_eq_left (Nat.mul_le_mul_right n (Nat.le_succ l)), ← hx, List.take_left'  rfl] at h9
      rw [← hx]; exact h9
theorem set_tail {α : Type} {xs ys : List α} {i j : Nat} {v : α} (h : i = xs.length + j) : (xs ++ ys).set i v = xs ++ ys.set j v := by
  subst h
  rw [List.set_append_right (h := Nat.le_add_right _ _), Nat.add_sub_cancel_left]
theorem Spec.rowed {P : Program} {f : FuncId} {args : List Value} {pre : List Assn} {e n l : Nat} {xs : List Value} {B : Assn} {μ : PH} (h : Spec P f args pre (fun r L => L = [own e n r l xs, B, ro μ])) : Spec P f args pre (fun r L => ∃ μ', Le μ μ' ∧ Row μ' r n l xs ∧ L = [B, ro μ']) := fun E w hw =>
  (h E w hw).mono fun e' w' ⟨v, L', he, hl, hh⟩ => by
    subst hl
    obtain ⟨μ', h1, h2, h3⟩ := (hh.ent (Split.ent' (K := [own e n v l xs, ro μ, B]) (by repeat (first | exact Split.nil | (apply Split.cons; (repeat (first | with_reducible exact Take.here | apply Take.there))))))).share_own
    exact ⟨v, _, he, ⟨μ', h1, h2, rfl⟩, h3.ent Ent.swap⟩
/-- a commit's tree, only to be read -/
theorem hcontentR (W : HW) (μ : PH) (h : W.Ok μ) (s : HSt) (c : Nat) (hc : c < W.n) : InvS Tryd.prog 0 31 (.pointer (some ⟨W.p, 0, none⟩)) "Content" [.int .i64 (c : Nat)] [W.A s, ro μ]
    (fun r L => ∃ μ', Le μ μ' ∧ Row μ' r 2 (treeOf W.T c).length (ens (treeOf W.T c)) ∧ L = [W.A (lookS s c), ro μ']) := InvS.of (Spec.rowed (content_spec W μ h s c hc))
theorem three_form (μ : PH) (va vb vc : Value) (a b c : List En) (ha : Row μ va 2 a.length (ens a)) (hb : Row μ vb 2 b.length (ens b)) (hc : Row μ vc 2 c.length (ens c)) (hsz : a.length ≤ 1048576 ∧ b.length ≤ 1048576 ∧ c.length ≤ 1048576) (hu : U32s a ∧ U32s b ∧ U32s c) :
    Spec Tryd.prog 16 [va, vb, vc] [ro μ] (fun r L => ∃ A k v9 μ', Le μ μ' ∧ r = .tuple #[.slice A (VM a b c).length k, v9] ∧ L = [own 52 2 (.slice A (VM a b c).length k) (VM a b c).length (ens (VM a b c)), own 96 4 v9 (cfR (rowsB a b c)).length (cfs (cfR (rowsB a b c))), ro μ']) := fun E w hw =>
  (three_spec μ va vb vc a b c ha hb hc hsz hu E w hw).mono fun e' w' ⟨v, L', he, ⟨v8, v9, μ', h1, h2, h3⟩, hh⟩ => by
    subst h3
    obtain ⟨k1, k2, k3, k4, k5⟩ := hh
    obtain ⟨A, k, hv, _⟩ := own_cap2 (Sat.perm (perm_out (X := E.X) (.refl _)) _ k5)
    subst hv
    exact ⟨v, _, he, ⟨A, k, v9, μ', h1, h2, rfl⟩, k1, k2, k3, k4, k5⟩
/-- a node, by its parts -/
def naB (v : Value) (l : List Int) (o : Bool) : Assn := star (if o = true then [own 3 1 v l.length (ivs l)] else [])
theorem naB_eq (x : VV) : naA x = naB x.node x.f.node x.own := rfl
theorem ef_append_na {env : Env} {L R : List Assn} {μ : PH} {x y : Operand} {v s : Value} {l : List Int} {c : Int} {o : Bool} (hx : evalE env x = some v) (hy : evalE env y = some s) (hs : Row μ s 1 1 [.int .i64 c]) (hL : Split L [naB v l o, ro μ] R)
    (hv : o = false → Row μ v 1 l.length (ivs l) ∧ ∃ A, v = .slice A l.length l.length) (hl : l.length ≤ 1000000) :
    Ef Tryd.prog env L (.call { callee := .builtin .append, args := #[x, y], argTypes := #[43, 43] }) (fun k => ∀ A cap o', (o' = false → Row μ (.slice A (l ++ [c]).length cap) 1 (l ++ [c]).length (ivs (l ++ [c])) ∧ ∃ A', Value.slice A (l ++ [c]).length cap = .slice A' (l ++ [c]).length (l ++ [c]).length) → k (.slice A (l ++ [c]).length cap) (naB (.slice A (l ++ [c]).length cap) (l ++ [c]) o' :: ro μ :: R)) := by
  intro ro_ dst tt pos af g N E a w next Q k hf hh hk hn
  have e1 : ivs (l ++ [c]) = ivs l ++ [.int .i64 c] := by rw [ivs, List.flatMap_append]; rfl
  have e2 : (l ++ [c]).length = l.length + 1 := by rw [List.length_append]; rfl
  have hcat : Cat μ 3 1 v l.length (ivs l) (if o = true then own 3 1 v l.length (ivs l) :: ro μ :: R else ro μ :: R) R := by
    cases o with
    | false => exact .inl ⟨rfl, (hv rfl).1, (hv rfl).2⟩
    | true => exact .inr rfl
  have hent : Ent L (if o = true then own 3 1 v l.length (ivs l) :: ro μ :: R else ro μ :: R) := by
    refine hL.ent.trans ?_
    cases o with
    | false => exact Ent.drop
    | true => exact star_ent
  refine ef_append_cat (P := Tryd.prog) (t := 43) (env := env) (x := x) (y := y) (m := 1) (news := [.int .i64 c]) hcat hs hx hy rfl (by simp only [maxLen]; omega) (by omega) rfl (by decide) ro_ dst tt pos af g N E a w next Q (fun u L' => Cat μ 3 1 u (l.length + 1) (ivs l ++ [.int .i64 c]) L' R) hf (hh.ent hent) (fun _ _ hc => hc) ?_
  rintro u w' L' hc hh'
  rcases hc with ⟨rfl, hr, A, hA⟩ | rfl
  · subst hA
    rw [← e1, ← e2] at hr
    rw [← e2]
    exact hn _ _ _ (hk A _ false fun _ => ⟨hr, A, rfl⟩) (hh'.ent (star_close (K := [])))
  · obtain ⟨h1, h2, h3, h4, h5⟩ := hh'
    obtain ⟨A, cap, hu, _⟩ := own_cap2 (Sat.perm (perm_out (X := E.X) (.refl _)) _ h5)
    subst hu
    rw [← e1, ← e2] at h5
    rw [← e2]
    exact hn _ _ _ (hk A cap true fun h => by cases h) ((show H E w' (own 3 1 (.slice A (l ++ [c]).length cap) (l ++ [c]).length (ivs (l ++ [c])) :: ro μ :: R) from ⟨h1, h2, h3, h4, h5⟩).ent (star_close (K := [own 3 1 (.slice A (l ++ [c]).length cap) (l ++ [c]).length (ivs (l ++ [c]))])))
end SX
namespace SX
open Go Go.Proofs
def vvsA (xs : List VV) : Assn := star (xs.flatMap fun x => [treeA x, naA x])
theorem vvs_open {ys : List VV} {x : VV} {L : List Assn} : Ent (vvsA (ys ++ [x]) :: L) (treeA x :: naA x :: vvsA ys :: L) := by
  refine star_ent.trans ?_
  rw [List.flatMap_append]
  refine Ent.trans (Ent.perm ?_) (Ent.under (X := [treeA x, naA x]) star_close)
  show List.Perm ((ys.flatMap (fun x => [treeA x, naA x]) ++ [treeA x, naA x]) ++ L) ([treeA x, naA x] ++ (ys.flatMap (fun x => [treeA x, naA x]) ++ L))
  rw [List.append_assoc]
  exact List.perm_append_comm_assoc _ _ _
theorem vvs_close {ys : List VV} {x : VV} {L : List Assn} : Ent (treeA x :: naA x :: vvsA ys :: L) (vvsA (ys ++ [x]) :: L) := by
  refine Ent.trans ?_ star_close
  rw [List.flatMap_append]
  refine Ent.trans (Ent.under (X := [treeA x, naA x]) star_ent) (Ent.perm ?_)
  show List.Perm ([treeA x, naA x] ++ (ys.flatMap (fun x => [treeA x, naA x]) ++ L)) ((ys.flatMap (fun x => [treeA x, naA x]) ++ [treeA x, naA x]) ++ L)
  rw [List.append_assoc]
  exact (List.perm_append_comm_assoc _ _ _)
/-- a stack of which the topmost is shown -/
abbrev stB (A : Option Addr) (cap : Nat) (zs : List VV) (u : VV) : Assn := own 85 3 (.slice A (zs.length + 1) cap) (zs.length + 1) (zs.flatMap encV ++ encV u)
theorem zs_len (zs : List VV) : (zs.flatMap encV).length = zs.length * 3 := flat_length (f := encV) (k := 3) (fun _ => rfl) zs
theorem stB_get {zs : List VV} {u : VV} {j : Nat} {v : Value} (h : (encV u)[j]? = some v) : (zs.flatMap encV ++ encV u)[0 + zs.length * 3 + j]? = some v := by
  rw [Nat.zero_add, ← zs_len, List.getElem?_append_right (Nat.le_add_right _ _), Nat.add_sub_cancel_left]; exact h
theorem tl_get {zs : List VV} {us : List Value} {j : Nat} {v : Value} (h : us[j]? = some v) : (zs.flatMap encV ++ us)[0 + zs.length * 3 + j]? = some v := by
  rw [Nat.zero_add, ← zs_len, List.getElem?_append_right (Nat.le_add_right _ _), Nat.add_sub_cancel_left]; exact h
theorem tl_set {zs : List VV} {us : List Value} {j : Nat} {v : Value} : (zs.flatMap encV ++ us).set (0 + zs.length * 3 + j) v = zs.flatMap encV ++ us.set j v := set_tail (by rw [zs_len]; omega)
theorem tl_len {zs : List VV} {us : List Value} (h : us.length = 3) : (zs.flatMap encV ++ us).length = zs.length * 3 + 3 := by rw [List.length_append, zs_len, h]
abbrev stA (A : Option Addr) (cap : Nat) (xs : List VV) : Assn := own 85 3 (.slice A xs.length cap) xs.length (xs.flatMap encV)
theorem stA_B (A : Option Addr) (cap : Nat) (zs : List VV) (u : VV) : stA A cap (zs ++ [u]) = stB A cap zs u := by
  have e1 : (zs ++ [u]).length = zs.length + 1 := by rw [List.length_append]; rfl
  have e2 : (zs ++ [u]).flatMap encV = zs.flatMap encV ++ encV u := by rw [List.flatMap_append]; simp only [List.flatMap_cons, List.flatMap_nil, List.append_nil]
  show own 85 3 _ _ _ = _
  rw [e1, e2]
/-- what push leaves -/
def PushL (W : HW) (w : Nat) (tv : VV) (A : Option Addr) (cap : Nat) (xs : List VV) (steps limit : Nat) (s : HSt) (m : Nat) (μ : PH) (y e : Int) (L : List Assn) : Prop :=
  (limit ≤ steps ∧ e = 12 ∧ L = [naA tv, wkV w W.sv (.slice A xs.length cap) steps limit, stA A cap xs, W.A s, ro μ]) ∨
  (steps < limit ∧ e = 0 ∧ ∃ (nv : VV) (A2 : Option Addr) (cap2 : Nat) (s2 : HSt) (μ2 : PH), nv.own = false ∧ nv.f = vfr (VT W) [] (VS W tv.f.node y) ∧ nv.Ok W.n W.U μ2 ∧ AskB (m + 1) s2 ∧ Le μ μ2 ∧
    L = [naA tv, wkV w W.sv (.slice A2 (xs ++ [nv]).length cap2) (steps + 1) limit, stA A2 cap2 (xs ++ [nv]), treeA nv, W.A s2, ro μ2])
theorem push_e (W : HW) (μ0 : PH) (hW : W.Ok μ0) (hn : W.n ≤ 10000) (μ : PH) (h0 : Le μ0 μ) (hT : RowAt μ 1 0 tabV) (w : Nat) (s : HSt) (m : Nat) (hs : AskB m s) (hm : m + 1 ≤ 4611686018427387904) (A : Option Addr) (cap : Nat) (xs : List VV) (steps limit : Nat) (hsl : xs.length ≤ steps) (hlim : limit ≤ 4096)
    (tv : VV) (y : Int) (hx : tv.own = false → Row μ tv.node 1 tv.f.node.length (ivs tv.f.node)) :
    Spec Tryd.prog 24 [.pointer (some ⟨w, 0, none⟩), tv.node, .int .i64 y] [naA tv, wkV w W.sv (.slice A xs.length cap) steps limit, stA A cap xs, W.A s, ro μ] (fun r L => ∃ e, r = .int .i64 e ∧ PushL W w tv A cap xs steps limit s m μ y e L) :=
  (push_spec W μ0 hW hn μ h0 hT w s m hs hm A cap xs steps limit hsl hlim tv y hx).mono fun r L k => by
    rcases k with ⟨h1, h2, h3⟩ | ⟨h1, h2, nv, A2, cap2, s2, μ2, h3, h4, h5, h6, h7, h8⟩
    · exact ⟨12, h2, .inl ⟨h1, rfl, h3⟩⟩
    · refine ⟨0, h2, .inr ⟨h1, rfl, nv, A2, cap2, s2, μ2, h3, h4, h5, h6, h7, ?_⟩⟩
      rw [h8, show (xs ++ [nv]).length = xs.length + 1 by rw [List.length_append]; rfl]
      show _ = [_, _, own 85 3 (.slice A2 (xs ++ [nv]).length cap2) (xs ++ [nv]).length ((xs ++ [nv]).flatMap encV), _, _, _]
      rw [show (xs ++ [nv]).length = xs.length + 1 by rw [List.length_append]; rfl, List.flatMap_append]
      simp only [List.flatMap_cons, List.flatMap_nil, List.append_nil]
/-- what is left of a call: nothing came, or the first question's node -/
def RunL (W : HW) (w : Nat) (limit m : Nat) (μ : PH) (R : Option (List En × Bool) × Nat) (r : Value) (L : List Assn) : Prop := ∃ (s' : HSt) (μ' : PH), Le μ μ' ∧ AskB (m + limit) s' ∧
  ((R.1 = none ∧ r = .tuple #[.agg #[.slice none 0 0, .slice none 0 0, .slice none 0 0], .int .i64 12] ∧ L = [W.A s', ro μ']) ∨
   ∃ (nv : VV) (st : Value) (steps : Nat), R = (some (nv.f.tree, !nv.f.node.isEmpty), limit - steps) ∧ steps ≤ limit ∧ nv.Ok W.n W.U μ' ∧ r = .tuple #[.agg (encV nv).toArray, .int .i64 0] ∧ L = [wkV w W.sv st steps limit, treeA nv, W.A s', ro μ'])
set_option maxHeartbeats 16000000 in
theorem run_spec (W : HW) (μ0 : PH) (hW : W.Ok μ0) (hn : W.n ≤ 10000) (μ : PH) (h0 : Le μ0 μ) (hT : RowAt μ 1 0 tabV) (w : Nat) (s : HSt) (m : Nat) (limit : Nat) (hlim : limit ≤ 4096) (hm : m + 4097 ≤ 4611686018427387904) (A : Option Addr) (cap : Nat) (nv0 : VV) (steps : Nat) (hs : AskB (m + steps) s) (h1 : 1 ≤ steps) (hsl : steps ≤ limit)
  (hok : nv0.Ok W.n W.U μ) (R : Option (List En × Bool) × Nat) (hR : vst (VS W) (VT W) VM [] [nv0.f] (limit - steps) = R) :
  Spec Tryd.prog 25 [.pointer (some ⟨w, 0, none⟩)] [wkV w W.sv (.slice A 1 cap) steps limit, stA A cap [nv0], treeA nv0, naA nv0, W.A s, ro μ] (RunL W w limit m μ R) := by
 have hUl := HW.U_len hW hn
 refine Spec.of 120 Tryd.func25 rfl rfl rfl ?_
 refine swp_seq ?_
 refine swp_region ?_
 refine s_ef (ef_alloc) ?_
 intro b2
 refine s_pu (pu_assign rfl) ?_
 refine swl_sub _ (.cons (t := 0) rfl (.cons (t := 2) rfl .nil)) ?_
 refine swl_nil ?_
 refine then_n ?_
 refine swp_block ?_
 refine swp_loop (ι := Nat × Nat) (fun k env L => ∃ (xs : List VV) (A : Option Addr) (cap : Nat) (s : HSt) (μ1 : PH), Sub env [(0, .pointer (some ⟨w, 0, none⟩)), (2, .pointer (some ⟨b2, 0, none⟩))] ∧ xs.length = k.2 ∧ 0 < k.2 ∧ k.2 ≤ k.1 ∧ k.1 ≤ limit ∧ Ent L [wkV w W.sv (.slice A xs.length cap) k.1 limit, stA A cap xs, vvsA xs, blk b2 85 [.slice none 0 0, .slice none 0 0, .slice none 0 0], W.A s, ro μ1] ∧ Le μ μ1 ∧ AskB (m + k.1) s ∧ (∀ x ∈ xs, x.Ok W.n W.U μ1) ∧ (∀ ys y, xs = ys ++ [y] → ∀ x ∈ ys, x.f.rest ≠ []) ∧ vst (VS W) (VT W) VM [] (xs.reverse.map (·.f)) (limit - k.1) = R) (fun k => 2 * (limit - k.1) + k.2) (steps, 1) ⟨[nv0], A, cap, s, μ, ⟨rfl, rfl, trivial⟩, rfl, Nat.zero_lt_one, h1, hsl, ?_, Le.refl _, hs, ?_, ?_, hR⟩ ?_
 ·exact Ent.trans (Split.ent' (K := [treeA nv0, naA nv0, wkV w W.sv (.slice A 1 cap) steps limit, stA A cap [nv0], blk b2 85 [.slice none 0 0, .slice none 0 0, .slice none 0 0], W.A s, ro μ]) (by repeat (first | exact Split.nil | (apply Split.cons; (repeat (first | with_reducible exact Take.here | apply Take.there)))))) ((Ent.under (X := [treeA nv0, naA nv0]) (star_close (K := []))).trans ((vvs_close (ys := [])).trans (show Ent (vvsA [nv0] :: wkV w W.sv (.slice A 1 cap) steps limit :: stA A cap [nv0] :: blk b2 85 [.slice none 0 0, .slice none 0 0, .slice none 0 0] :: W.A s :: ro μ :: []) [wkV w W.sv (.slice A 1 cap) steps limit, stA A cap [nv0], vvsA [nv0], blk b2 85 [.slice none 0 0, .slice none 0 0, .slice none 0 0], W.A s, ro μ] from Split.ent' (by repeat (first | exact Split.nil | (apply Split.cons; (repeat (first | with_reducible exact Take.here | apply Take.there))))))))
 ·intro x hx; rw [List.mem_singleton.1 hx]; exact hok
 ·intro ys y e x hx
  cases ys with
  | nil => cases hx
  | cons z zs =>
   have := congrArg List.length e
   simp at this
 clear hR hok hs hsl h1
 rintro ⟨steps, len⟩ env L ⟨xs, A, cap, s, μ1, hsub, hlen, hl0, hls, hsl, hE, hle, hs, hok, hrs, hR⟩
 dsimp only at hlen hl0 hls hsl hE hs hR
 refine swp_sub _ hsub ?_
 refine swp_ent hE ?_
 clear hsub hE env L
 obtain ⟨ys, top, rfl⟩ : ∃ ys top, xs = ys ++ [top] := by
  rcases List.eq_nil_or_concat xs with rfl | ⟨ys, top, e⟩
  ·rw [List.length_nil] at hlen; omega
  ·exact ⟨ys, top, by rw [e]; simp⟩
 have hyl : len = ys.length + 1 := by rw [← hlen, List.length_append]; rfl
 have hxl : (ys ++ [top]).length = ys.length + 1 := by rw [List.length_append]; rfl
 have htop := hok top (by simp)
 rw [stA_B, hxl]
 refine swp_ent (Split.ent' (K := [stB A cap ys top, vvsA (ys ++ [top]), wkV w W.sv (.slice A (ys.length + 1) cap) steps limit, blk b2 85 [.slice none 0 0, .slice none 0 0, .slice none 0 0], W.A s, ro μ1]) (by repeat (first | exact Split.nil | (apply Split.cons; (repeat (first | with_reducible exact Take.here | apply Take.there)))))) ?_
 refine swp_fact (fun m h => own_cap2 h) fun ⟨A', cap', hA1, hlc, hcm, hAn, hAs⟩ => ?_
 obtain ⟨rfl, _, rfl⟩ := Value.slice.inj hA1
 obtain ⟨a, ha⟩ : ∃ a, A = some a := by cases A with | none => have := hAn rfl; omega | some a => exact ⟨a, rfl⟩
 obtain ⟨g, rfl⟩ := hAs a ha
 subst ha
 simp only [maxLen] at hcm
 have hW1 := hW.le (h0.trans hle)
 have hT1 := hT.le hle
 refine swp_block ?_
 refine swp_seq ?_
 refine swp_draw [3, 7] _ [] (by simp only [List.append_nil]; exact Ent.refl _) (by kernel_rfl) ?_
 refine d_pu 0 rfl (pu_move rfl) (by kernel_rfl) (by kernel_rfl) (by kernel_rfl) ?_
 first | refine d_pu 1 rfl (pu_nilCheck rfl) (by kernel_rfl) (by kernel_rfl) (by kernel_rfl) ?_ | refine d_pu 1 rfl (pu_nilCheck_fn rfl) (by kernel_rfl) (by kernel_rfl) (by kernel_rfl) ?_ | refine d_pu 1 rfl (pu_nilCheck_if rfl) (by kernel_rfl) (by kernel_rfl) (by kernel_rfl) ?_
 first | refine d_pu 2 rfl (pu_fieldAddr0 rfl) (by kernel_rfl) (by kernel_rfl) (by kernel_rfl) ?_ | refine d_pu 2 rfl (pu_fieldAddr rfl) (by kernel_rfl) (by kernel_rfl) (by kernel_rfl) ?_
 refine d_rd 3 rfl (rd_load rfl rfl) rfl (by kernel_rfl) (by kernel_rfl) (by kernel_rfl) ?_
 refine d_pu 4 rfl (pu_move rfl) (by kernel_rfl) (by kernel_rfl) (by kernel_rfl) ?_
 first | refine d_pu 5 rfl (pu_nilCheck rfl) (by kernel_rfl) (by kernel_rfl) (by kernel_rfl) ?_ | refine d_pu 5 rfl (pu_nilCheck_fn rfl) (by kernel_rfl) (by kernel_rfl) (by kernel_rfl) ?_ | refine d_pu 5 rfl (pu_nilCheck_if rfl) (by kernel_rfl) (by kernel_rfl) (by kernel_rfl) ?_
 first | refine d_pu 6 rfl (pu_fieldAddr0 rfl) (by kernel_rfl) (by kernel_rfl) (by kernel_rfl) ?_ | refine d_pu 6 rfl (pu_fieldAddr rfl) (by kernel_rfl) (by kernel_rfl) (by kernel_rfl) ?_
 refine d_rd 7 rfl (rd_load rfl rfl) rfl (by kernel_rfl) (by kernel_rfl) (by kernel_rfl) ?_
 refine d_pu 8 rfl (pu_len rfl) (by kernel_rfl) (by kernel_rfl) (by kernel_rfl) ?_
 refine d_pu 9 rfl (pu_sub_as ((ys.length : Nat) : Int) rfl rfl (by omega) (by omega) (by omega)) (by kernel_rfl) (by kernel_rfl) (by kernel_rfl) ?_
 refine d_pu 10 rfl (pu_indexAddr (0 + ys.length * 3) rfl rfl (by omega) (by omega) (by rw [Int.toNat_natCast])) (by kernel_rfl) (by kernel_rfl) (by kernel_rfl) ?_
 refine d_pu 11 rfl (pu_assign rfl) (by kernel_rfl) (by kernel_rfl) (by kernel_rfl) ?_
 refine d_sub _ (.cons (t := 0) rfl (.cons (t := 2) rfl (.cons (t := 4) rfl .nil))) ?_
 first | refine d_nilt (by kernel_rfl) ?_ | refine d_nilf (by kernel_rfl) ?_
 refine then_n ?_
 refine swp_seq ?_
 refine swp_seq ?_
 refine swp_region ?_
 refine s_pu (pu_move rfl) ?_
 first | refine s_pu (pu_nilCheck rfl) ?_ | refine s_pu (pu_nilCheck_fn rfl) ?_ | refine s_pu (pu_nilCheck_if rfl) ?_
 first | refine s_pu (pu_fieldAddr0 rfl) ?_ | refine s_pu (pu_fieldAddr rfl) ?_
 refine s_rd (rd_own rfl (by repeat (first | with_reducible exact Take.here | apply Take.there)) (stB_get (j := 0) rfl)) ?_
 refine s_pu (pu_len_row htop.rest rfl) ?_
 refine s_pu (pu_gtr rfl rfl) ?_
 refine swl_sub _ (.cons (t := 0) rfl (.cons (t := 2) rfl (.cons (t := 4) rfl (.cons (t := 25) rfl .nil)))) ?_
 refine swl_nil ?_
 refine then_n ?_
 refine swp_cond (b := _) rfl (fun h25 => ?_) (fun h25 => ?_)
 ·skip
  have h25' : 0 < top.f.rest.length := by have := of_decide_eq_true h25; omega
  obtain ⟨c, rs, hrest⟩ : ∃ c rs, top.f.rest = c :: rs := by
   cases hq : top.f.rest with
   | nil => rw [hq] at h25'; exact absurd h25' (by decide)
   | cons c rs => exact ⟨c, rs, rfl⟩
  obtain ⟨rb, ro_, rc, hrv, _, _, hra⟩ := htop.rest.pos h25'
  have hcell := (hra.elem (f := icsk .i64) (n := 1) (fun _ => rfl) (show top.f.rest[0]? = some c by rw [hrest]; rfl)).cell
  refine swp_seq ?_
  refine swp_seq ?_
  refine swp_ent ((Split.ent' (K := [vvsA (ys ++ [top]), stB (some ⟨g, 0, none⟩) cap ys top, wkV w W.sv (.slice (some ⟨g, 0, none⟩) (ys.length + 1) cap) steps limit, blk b2 85 [.slice none 0 0, .slice none 0 0, .slice none 0 0], W.A s, ro μ1]) (by repeat (first | exact Split.nil | (apply Split.cons; (repeat (first | with_reducible exact Take.here | apply Take.there)))))).trans vvs_open) ?_
  refine swp_draw [4, 8, 10] _ [] (by simp only [List.append_nil]; exact Ent.refl _) (by kernel_rfl) ?_
  refine d_pu 0 rfl (pu_move rfl) (by kernel_rfl) (by kernel_rfl) (by kernel_rfl) ?_
  refine d_pu 1 rfl (pu_move rfl) (by kernel_rfl) (by kernel_rfl) (by kernel_rfl) ?_
  first | refine d_pu 2 rfl (pu_nilCheck rfl) (by kernel_rfl) (by kernel_rfl) (by kernel_rfl) ?_ | refine d_pu 2 rfl (pu_nilCheck_fn rfl) (by kernel_rfl) (by kernel_rfl) (by kernel_rfl) ?_ | refine d_pu 2 rfl (pu_nilCheck_if rfl) (by kernel_rfl) (by kernel_rfl) (by kernel_rfl) ?_
  first | refine d_pu 3 rfl (pu_fieldAddr0 rfl) (by kernel_rfl) (by kernel_rfl) (by kernel_rfl) ?_ | refine d_pu 3 rfl (pu_fieldAddr rfl) (by kernel_rfl) (by kernel_rfl) (by kernel_rfl) ?_
  refine d_rd 4 rfl (rd_own rfl (by repeat (first | with_reducible exact Take.here | apply Take.there)) (stB_get (j := 1) rfl)) rfl (by kernel_rfl) (by kernel_rfl) (by kernel_rfl) ?_
  refine d_pu 5 rfl (pu_move rfl) (by kernel_rfl) (by kernel_rfl) (by kernel_rfl) ?_
  first | refine d_pu 6 rfl (pu_nilCheck rfl) (by kernel_rfl) (by kernel_rfl) (by kernel_rfl) ?_ | refine d_pu 6 rfl (pu_nilCheck_fn rfl) (by kernel_rfl) (by kernel_rfl) (by kernel_rfl) ?_ | refine d_pu 6 rfl (pu_nilCheck_if rfl) (by kernel_rfl) (by kernel_rfl) (by kernel_rfl) ?_
  first | refine d_pu 7 rfl (pu_fieldAddr0 rfl) (by kernel_rfl) (by kernel_rfl) (by kernel_rfl) ?_ | refine d_pu 7 rfl (pu_fieldAddr rfl) (by kernel_rfl) (by kernel_rfl) (by kernel_rfl) ?_
  refine d_rd 8 rfl (rd_own rfl (by repeat (first | with_reducible exact Take.here | apply Take.there)) (stB_get (j := 0) rfl)) rfl (by kernel_rfl) (by kernel_rfl) (by kernel_rfl) ?_
  refine d_pu 9 rfl (pu_indexAddr (ro_ + 0 * 1) (congrArg some hrv) rfl (by omega) (by omega) rfl) (by kernel_rfl) (by kernel_rfl) (by kernel_rfl) ?_
  refine d_rd 10 rfl (rd_ro rfl hcell) rfl (by kernel_rfl) (by kernel_rfl) (by kernel_rfl) ?_
  first | refine d_fint 11 rfl (by kernel_rfl) (by kernel_rfl) (ef_fn (push_e W μ0 hW hn μ1 (h0.trans hle) hT1 w s (m + steps) hs (by omega) (some ⟨g, 0, none⟩) cap (ys ++ [top]) steps limit (by omega) hlim top c (fun e => (htop.node e).1)) rfl rfl (by rw [stA_B, hxl]; exact (by repeat (first | exact Split.nil | (apply Split.cons; (repeat (first | with_reducible exact Take.here | apply Take.there))))))) ?_ | refine d_finf 11 rfl (by kernel_rfl) (by kernel_rfl) (ef_fn (push_e W μ0 hW hn μ1 (h0.trans hle) hT1 w s (m + steps) hs (by omega) (some ⟨g, 0, none⟩) cap (ys ++ [top]) steps limit (by omega) hlim top c (fun e => (htop.node e).1)) rfl rfl (by rw [stA_B, hxl]; exact (by repeat (first | exact Split.nil | (apply Split.cons; (repeat (first | with_reducible exact Take.here | apply Take.there))))))) ?_
  rintro v37 L1 ⟨e, rfl, hp⟩
  skip
  refine d_pu 12 rfl (pu_assign rfl) (by kernel_rfl) (by kernel_rfl) (by kernel_rfl) ?_
  refine d_sub _ (.cons (t := 0) rfl (.cons (t := 2) rfl (.cons (t := 5) rfl .nil))) ?_
  first | refine d_nilt (by kernel_rfl) ?_ | refine d_nilf (by kernel_rfl) ?_
  refine then_n ?_
  refine swp_seq ?_
  refine swp_region ?_
  refine s_pu (pu_move rfl) ?_
  refine s_pu (pu_neq rfl rfl) ?_
  refine swl_sub _ (.cons (t := 0) rfl (.cons (t := 2) rfl (.cons (t := 5) rfl (.cons (t := 39) rfl .nil)))) ?_
  refine swl_nil ?_
  refine then_n ?_
  refine swp_cond (b := _) rfl (fun h39 => ?_) (fun h39 => ?_)
  ·skip
   obtain ⟨p1, rfl, rfl⟩ : limit ≤ steps ∧ e = 12 ∧ L1 = [naA top, wkV w W.sv (.slice (some ⟨g, 0, none⟩) (ys ++ [top]).length cap) steps limit, stA (some ⟨g, 0, none⟩) cap (ys ++ [top]), W.A s, ro μ1] := by
    rcases hp with k | ⟨_, he, _⟩
    ·exact k
    ·rw [he] at h39; cases h39
   simp only [List.cons_append, List.nil_append]
   refine swp_seq ?_
   refine swp_region ?_
   refine s_pu (pu_bld (qs := []) rfl) ?_
   refine s_pu (pu_move rfl) ?_
   refine s_ef0 (ef_storeA rfl rfl rfl rfl) ?_
   refine s_pu (pu_assign rfl) ?_
   refine swl_sub _ (.cons (t := 2) rfl (.cons (t := 3) rfl .nil)) ?_
   refine swl_nil ?_
   refine then_n ?_
   refine swp_ret ?_
   refine then_r ?_
   refine then_r ?_
   refine block_r ?_
   refine then_r ?_
   refine block_r ?_
   refine done_retE [W.A s, ro μ1] (.cell rfl (ld_whole rfl) (.tmp rfl .nil)) ⟨s, μ1, hle, fun c => Nat.le_trans (hs c) (by omega), .inl ⟨?_, rfl, rfl⟩⟩ (Split.ent' (by repeat (first | exact Split.nil | (apply Split.cons; (repeat (first | with_reducible exact Take.here | apply Take.there))))))
   have hout := vst_out (VS W) (VT W) VM [] c rs top.f.node top.f.tree (ys.reverse.map (·.f))
   have hte : (⟨c :: rs, top.f.node, top.f.tree⟩ : VF (List En)) = top.f := by rw [← hrest]
   rw [hte] at hout
   rw [← hR, show limit - steps = 0 by omega, List.reverse_append, List.map_append]
   exact hout
  ·skip
   obtain ⟨p1, rfl, nv, A2, cap2, s2, μ2, hno, hnf, hnok, hs2, hle2, rfl⟩ : steps < limit ∧ e = 0 ∧ ∃ (nv : VV) (A2 : Option Addr) (cap2 : Nat) (s2 : HSt) (μ2 : PH), nv.own = false ∧ nv.f = vfr (VT W) [] (VS W top.f.node c) ∧ nv.Ok W.n W.U μ2 ∧ AskB (m + steps + 1) s2 ∧ Le μ1 μ2 ∧ L1 = [naA top, wkV w W.sv (.slice A2 (ys ++ [top] ++ [nv]).length cap2) (steps + 1) limit, stA A2 cap2 (ys ++ [top] ++ [nv]), treeA nv, W.A s2, ro μ2] := by
    rcases hp with ⟨_, he, _⟩ | k
    ·rw [he] at h39; cases h39
    ·exact k
   simp only [List.cons_append, List.nil_append]
   refine swp_skip ?_
   refine then_n ?_
   refine swp_exit ?_
   refine then_x ?_
   refine block_hit rfl ?_
   refine then_n ⟨(steps + 1, len + 1), ⟨ys ++ [top] ++ [nv], A2, cap2, s2, μ2, ⟨rfl, rfl, trivial⟩, by rw [List.length_append, hlen]; rfl, by omega, by omega, p1, ?_, hle.trans hle2, hs2, ?_, ?_, ?_⟩, by dsimp only; omega⟩
   ·dsimp only
    refine (Split.ent' (K := [treeA top, naA top, vvsA ys, treeA nv, wkV w W.sv (.slice A2 (ys ++ [top] ++ [nv]).length cap2) (steps + 1) limit, stA A2 cap2 (ys ++ [top] ++ [nv]), blk b2 85 [.slice none 0 0, .slice none 0 0, .slice none 0 0], W.A s2, ro μ2]) (by repeat (first | exact Split.nil | (apply Split.cons; (repeat (first | with_reducible exact Take.here | apply Take.there)))))).trans (vvs_close.trans ?_)
    refine (naA_no hno).trans ?_
    refine (Split.ent' (K := [treeA nv, naA nv, vvsA (ys ++ [top]), wkV w W.sv (.slice A2 (ys ++ [top] ++ [nv]).length cap2) (steps + 1) limit, stA A2 cap2 (ys ++ [top] ++ [nv]), blk b2 85 [.slice none 0 0, .slice none 0 0, .slice none 0 0], W.A s2, ro μ2]) (by repeat (first | exact Split.nil | (apply Split.cons; (repeat (first | with_reducible exact Take.here | apply Take.there)))))).trans ?_
    refine vvs_close.trans ?_
    exact Split.ent' (by repeat (first | exact Split.nil | (apply Split.cons; (repeat (first | with_reducible exact Take.here | apply Take.there)))))
   ·intro x hx
    rcases List.mem_append.1 hx with hx | hx
    ·exact (hok x hx).le hle2
    ·rw [List.mem_singleton.1 hx]; exact hnok
   ·intro ys' y' he x hx
    obtain ⟨e1, _⟩ := List.append_inj' he rfl
    rw [← e1] at hx
    rcases List.mem_append.1 hx with hx | hx
    ·exact hrs ys top rfl x hx
    ·rw [List.mem_singleton.1 hx, hrest]; exact fun h => by cases h
   ·have hpush := vst_push (VS W) (VT W) VM [] c rs top.f.node top.f.tree (ys.reverse.map (·.f)) (limit - steps) (by omega)
    have hte : (⟨c :: rs, top.f.node, top.f.tree⟩ : VF (List En)) = top.f := by rw [← hrest]
    rw [hte] at hpush
    rw [← hR, List.reverse_append, List.reverse_append, List.map_append, List.map_append]
    show vst (VS W) (VT W) VM [] (nv.f :: top.f :: ys.reverse.map (·.f)) (limit - (steps + 1)) = vst (VS W) (VT W) VM [] (top.f :: ys.reverse.map (·.f)) (limit - steps)
    rw [hpush, hnf]; rfl
 ·skip
  have h25' : top.f.rest = [] := by
   have := of_decide_eq_false h25
   cases hq : top.f.rest with
   | nil => rfl
   | cons _ _ => rw [hq, List.length_cons] at this; omega
  have hte : top.f = ⟨[], top.f.node, top.f.tree⟩ := by rw [← h25']
  refine swp_skip ?_
  refine then_n ?_
  refine swp_seq ?_
  refine swp_region ?_
  refine s_pu (pu_move rfl) ?_
  first | refine s_pu (pu_nilCheck rfl) ?_ | refine s_pu (pu_nilCheck_fn rfl) ?_ | refine s_pu (pu_nilCheck_if rfl) ?_
  refine s_rd (rd_ownA (vs := encV top) rfl (by repeat (first | with_reducible exact Take.here | apply Take.there)) rfl (fun j v hj => stB_get hj)) ?_
  refine s_ef (ef_alloc) ?_
  intro b6
  refine s_ef0 (ef_storeA rfl rfl (encV_one htop) rfl) ?_
  refine swl_sub _ (.cons (t := 0) rfl (.cons (t := 2) rfl (.cons (t := 6) rfl .nil))) ?_
  refine swl_nil ?_
  refine then_n ?_
  refine swp_seq ?_
  refine swp_seq ?_
  refine swp_region ?_
  refine s_pu (pu_move rfl) ?_
  first | refine s_pu (pu_nilCheck rfl) ?_ | refine s_pu (pu_nilCheck_fn rfl) ?_ | refine s_pu (pu_nilCheck_if rfl) ?_
  first | refine s_pu (pu_fieldAddr0 rfl) ?_ | refine s_pu (pu_fieldAddr rfl) ?_
  refine s_rd (rd_load rfl rfl) ?_
  refine s_pu (pu_len rfl) ?_
  refine s_pu (pu_eql rfl rfl) ?_
  refine swl_sub _ (.cons (t := 0) rfl (.cons (t := 2) rfl (.cons (t := 6) rfl (.cons (t := 50) rfl .nil)))) ?_
  refine swl_nil ?_
  refine then_n ?_
  refine swp_cond (b := _) rfl (fun h50 => ?_) (fun h50 => ?_)
  ·skip
   have h50' : ys = [] := by
    have := of_decide_eq_true h50
    exact List.eq_nil_of_length_eq_zero (by omega)
   refine swp_seq ?_
   refine swp_region ?_
   first | refine s_rd (rd_loadW rfl rfl) ?_ | refine s_rd (rd_loadX rfl rfl rfl) ?_
   refine s_ef0 (ef_storeA rfl rfl (encV_one htop) rfl) ?_
   refine s_pu (pu_assign rfl) ?_
   refine swl_sub _ (.cons (t := 2) rfl (.cons (t := 3) rfl .nil)) ?_
   refine swl_nil ?_
   refine then_n ?_
   refine swp_ret ?_
   refine then_r ?_
   refine block_r ?_
   refine then_r ?_
   refine block_r ?_
   subst h50'
   refine done_retE [wkV w W.sv (.slice (some ⟨g, 0, none⟩) ([] : List VV).length.succ cap) steps limit, treeA top, W.A s, ro μ1] (.cell rfl (ld_whole rfl) (.tmp rfl .nil)) ⟨s, μ1, hle, fun c => Nat.le_trans (hs c) (by omega), .inr ⟨top, _, steps, ?_, hsl, htop, rfl, rfl⟩⟩ ?_
   ·rw [← hR]
    show vst (VS W) (VT W) VM [] [top.f] (limit - steps) = _
    rw [hte]
    exact vst_end _ _ _ _ _ _ _
   ·refine (Split.ent' (K := [vvsA ([] ++ [top]), wkV w W.sv (.slice (some ⟨g, 0, none⟩) (([] : List VV).length + 1) cap) steps limit, W.A s, ro μ1]) (by repeat (first | exact Split.nil | (apply Split.cons; (repeat (first | with_reducible exact Take.here | apply Take.there)))))).trans (vvs_open.trans (Split.ent' (by repeat (first | exact Split.nil | (apply Split.cons; (repeat (first | with_reducible exact Take.here | apply Take.there)))))))
  ·skip
   obtain ⟨zs, up, rfl⟩ : ∃ zs up, ys = zs ++ [up] := by
    rcases List.eq_nil_or_concat ys with rfl | ⟨zs, up, e⟩
    ·exact absurd rfl (of_decide_eq_false h50)
    ·exact ⟨zs, up, by rw [e]; simp⟩
   have hzl : (zs ++ [up]).length = zs.length + 1 := by rw [List.length_append]; rfl
   have hup := hok up (by simp)
   obtain ⟨c, rs, hrest⟩ : ∃ c rs, up.f.rest = c :: rs := by
    cases hq : up.f.rest with
    | nil => exact absurd hq (hrs (zs ++ [up]) top rfl up (by simp))
    | cons c rs => exact ⟨c, rs, rfl⟩
   have hcin := hup.ins c (by rw [hrest]; simp)
   obtain ⟨k, rfl⟩ : ∃ k : Nat, c = (k : Int) := ⟨c.toNat, by omega⟩
   have hkn : k < W.n := by omega
   obtain ⟨rb, ro_, rc, hrv, _, _, hra⟩ := hup.rest.pos (by rw [hrest]; exact Nat.succ_pos _)
   have hcell := (hra.elem (f := icsk .i64) (n := 1) (fun _ => rfl) (show up.f.rest[0]? = some (k : Int) by rw [hrest]; rfl)).cell
   have hrl : up.f.rest.length = rs.length + 1 := by rw [hrest]; rfl
   have hupl := hup.len
   rw [hzl]
   refine swp_skip ?_
   refine then_n ?_
   refine swp_seq ?_
   refine swp_draw [4, 8] _ [] (by simp only [List.append_nil]; exact Ent.refl _) (by kernel_rfl) ?_
   refine d_pu 0 rfl (pu_move rfl) (by kernel_rfl) (by kernel_rfl) (by kernel_rfl) ?_
   refine d_pu 1 rfl (pu_move rfl) (by kernel_rfl) (by kernel_rfl) (by kernel_rfl) ?_
   first | refine d_pu 2 rfl (pu_nilCheck rfl) (by kernel_rfl) (by kernel_rfl) (by kernel_rfl) ?_ | refine d_pu 2 rfl (pu_nilCheck_fn rfl) (by kernel_rfl) (by kernel_rfl) (by kernel_rfl) ?_ | refine d_pu 2 rfl (pu_nilCheck_if rfl) (by kernel_rfl) (by kernel_rfl) (by kernel_rfl) ?_
   first | refine d_pu 3 rfl (pu_fieldAddr0 rfl) (by kernel_rfl) (by kernel_rfl) (by kernel_rfl) ?_ | refine d_pu 3 rfl (pu_fieldAddr rfl) (by kernel_rfl) (by kernel_rfl) (by kernel_rfl) ?_
   refine d_rd 4 rfl (rd_load rfl rfl) rfl (by kernel_rfl) (by kernel_rfl) (by kernel_rfl) ?_
   refine d_pu 5 rfl (pu_move rfl) (by kernel_rfl) (by kernel_rfl) (by kernel_rfl) ?_
   first | refine d_pu 6 rfl (pu_nilCheck rfl) (by kernel_rfl) (by kernel_rfl) (by kernel_rfl) ?_ | refine d_pu 6 rfl (pu_nilCheck_fn rfl) (by kernel_rfl) (by kernel_rfl) (by kernel_rfl) ?_ | refine d_pu 6 rfl (pu_nilCheck_if rfl) (by kernel_rfl) (by kernel_rfl) (by kernel_rfl) ?_
   first | refine d_pu 7 rfl (pu_fieldAddr0 rfl) (by kernel_rfl) (by kernel_rfl) (by kernel_rfl) ?_ | refine d_pu 7 rfl (pu_fieldAddr rfl) (by kernel_rfl) (by kernel_rfl) (by kernel_rfl) ?_
   refine d_rd 8 rfl (rd_load rfl rfl) rfl (by kernel_rfl) (by kernel_rfl) (by kernel_rfl) ?_
   refine d_pu 9 rfl (pu_len rfl) (by kernel_rfl) (by kernel_rfl) (by kernel_rfl) ?_
   refine d_pu 10 rfl (pu_sub_as ((zs.length + 1 : Nat) : Int) rfl rfl (by omega) (by omega) (by omega)) (by kernel_rfl) (by kernel_rfl) (by kernel_rfl) ?_
   refine d_pu 11 rfl (pu_slice_hi (zs.length + 1) rfl rfl rfl (by omega)) (by kernel_rfl) (by kernel_rfl) (by kernel_rfl) ?_
   first | refine d_pu 12 rfl (pu_nilCheck rfl) (by kernel_rfl) (by kernel_rfl) (by kernel_rfl) ?_ | refine d_pu 12 rfl (pu_nilCheck_fn rfl) (by kernel_rfl) (by kernel_rfl) (by kernel_rfl) ?_ | refine d_pu 12 rfl (pu_nilCheck_if rfl) (by kernel_rfl) (by kernel_rfl) (by kernel_rfl) ?_
   first | refine d_pu 13 rfl (pu_fieldAddr0 rfl) (by kernel_rfl) (by kernel_rfl) (by kernel_rfl) ?_ | refine d_pu 13 rfl (pu_fieldAddr rfl) (by kernel_rfl) (by kernel_rfl) (by kernel_rfl) ?_
   first | refine d_fin0t 14 rfl (by kernel_rfl) (by kernel_rfl) (ef_store rfl rfl rfl) ?_ | refine d_fin0f 14 rfl (by kernel_rfl) (by kernel_rfl) (ef_store rfl rfl rfl) ?_
   refine d_sub _ (.cons (t := 0) rfl (.cons (t := 2) rfl (.cons (t := 6) rfl .nil))) ?_
   first | refine d_nilt (by kernel_rfl) ?_ | refine d_nilf (by kernel_rfl) ?_
   refine then_n ?_
   refine swp_seq ?_
   refine swp_ent ((Split.ent' (K := [stB (some ⟨g, 0, none⟩) cap (zs ++ [up]) top, vvsA (zs ++ [up] ++ [top]), wkV w W.sv (.slice (some ⟨g, 0, none⟩) (zs.length + 1) cap) steps limit, blk b6 85 (encV top), blk b2 85 [.slice none 0 0, .slice none 0 0, .slice none 0 0], W.A s, ro μ1]) (by repeat (first | exact Split.nil | (apply Split.cons; (repeat (first | with_reducible exact Take.here | apply Take.there)))))).trans (own_less (zs_len _))) ?_
   rw [show own 85 3 (.slice (some ⟨g, 0, none⟩) (zs ++ [up]).length cap) (zs ++ [up]).length ((zs ++ [up]).flatMap encV) = stB (some ⟨g, 0, none⟩) cap zs up from stA_B _ _ _ _]
   refine swp_ent ((Split.ent' (K := [vvsA (zs ++ [up] ++ [top]), stB (some ⟨g, 0, none⟩) cap zs up, wkV w W.sv (.slice (some ⟨g, 0, none⟩) (zs.length + 1) cap) steps limit, blk b6 85 (encV top), blk b2 85 [.slice none 0 0, .slice none 0 0, .slice none 0 0], W.A s, ro μ1]) (by repeat (first | exact Split.nil | (apply Split.cons; (repeat (first | with_reducible exact Take.here | apply Take.there)))))).trans vvs_open) ?_
   refine swp_ent ((Split.ent' (K := [vvsA (zs ++ [up]), treeA top, stB (some ⟨g, 0, none⟩) cap zs up, wkV w W.sv (.slice (some ⟨g, 0, none⟩) (zs.length + 1) cap) steps limit, blk b6 85 (encV top), blk b2 85 [.slice none 0 0, .slice none 0 0, .slice none 0 0], W.A s, ro μ1]) (by repeat (first | exact Split.nil | (apply Split.cons; (repeat (first | with_reducible exact Take.here | apply Take.there)))))).trans vvs_open) ?_
   refine swp_share_own (e := 52) (n := 2) (v := top.tree) (μ := μ1) (by repeat (first | exact Split.nil | (apply Split.cons; (repeat (first | with_reducible exact Take.here | apply Take.there))))) fun μ3 h3 rtop => ?_
   refine swp_share_own (e := 52) (n := 2) (v := up.tree) (μ := μ3) (by repeat (first | exact Split.nil | (apply Split.cons; (repeat (first | with_reducible exact Take.here | apply Take.there))))) fun μ4 h4 rup => ?_
   have hW4 := hW1.le (h3.trans h4)
   rw [naB_eq up]
   refine swp_draw [3, 7] _ [] (by simp only [List.append_nil]; exact Ent.refl _) (by kernel_rfl) ?_
   refine d_pu 0 rfl (pu_move rfl) (by kernel_rfl) (by kernel_rfl) (by kernel_rfl) ?_
   first | refine d_pu 1 rfl (pu_nilCheck rfl) (by kernel_rfl) (by kernel_rfl) (by kernel_rfl) ?_ | refine d_pu 1 rfl (pu_nilCheck_fn rfl) (by kernel_rfl) (by kernel_rfl) (by kernel_rfl) ?_ | refine d_pu 1 rfl (pu_nilCheck_if rfl) (by kernel_rfl) (by kernel_rfl) (by kernel_rfl) ?_
   first | refine d_pu 2 rfl (pu_fieldAddr0 rfl) (by kernel_rfl) (by kernel_rfl) (by kernel_rfl) ?_ | refine d_pu 2 rfl (pu_fieldAddr rfl) (by kernel_rfl) (by kernel_rfl) (by kernel_rfl) ?_
   refine d_rd 3 rfl (rd_load rfl rfl) rfl (by kernel_rfl) (by kernel_rfl) (by kernel_rfl) ?_
   refine d_pu 4 rfl (pu_move rfl) (by kernel_rfl) (by kernel_rfl) (by kernel_rfl) ?_
   first | refine d_pu 5 rfl (pu_nilCheck rfl) (by kernel_rfl) (by kernel_rfl) (by kernel_rfl) ?_ | refine d_pu 5 rfl (pu_nilCheck_fn rfl) (by kernel_rfl) (by kernel_rfl) (by kernel_rfl) ?_ | refine d_pu 5 rfl (pu_nilCheck_if rfl) (by kernel_rfl) (by kernel_rfl) (by kernel_rfl) ?_
   first | refine d_pu 6 rfl (pu_fieldAddr0 rfl) (by kernel_rfl) (by kernel_rfl) (by kernel_rfl) ?_ | refine d_pu 6 rfl (pu_fieldAddr rfl) (by kernel_rfl) (by kernel_rfl) (by kernel_rfl) ?_
   refine d_rd 7 rfl (rd_load rfl rfl) rfl (by kernel_rfl) (by kernel_rfl) (by kernel_rfl) ?_
   refine d_pu 8 rfl (pu_len rfl) (by kernel_rfl) (by kernel_rfl) (by kernel_rfl) ?_
   refine d_pu 9 rfl (pu_sub_as ((zs.length : Nat) : Int) rfl rfl (by omega) (by omega) (by omega)) (by kernel_rfl) (by kernel_rfl) (by kernel_rfl) ?_
   refine d_pu 10 rfl (pu_indexAddr (0 + zs.length * 3) rfl rfl (by omega) (by omega) (by rw [Int.toNat_natCast])) (by kernel_rfl) (by kernel_rfl) (by kernel_rfl) ?_
   refine d_pu 11 rfl (pu_assign rfl) (by kernel_rfl) (by kernel_rfl) (by kernel_rfl) ?_
   refine d_sub _ (.cons (t := 0) rfl (.cons (t := 2) rfl (.cons (t := 6) rfl (.cons (t := 7) rfl .nil)))) ?_
   first | refine d_nilt (by kernel_rfl) ?_ | refine d_nilf (by kernel_rfl) ?_
   refine then_n ?_
   refine swp_seq ?_
   refine swp_region ?_
   refine s_pu (pu_move rfl) ?_
   first | refine s_pu (pu_nilCheck rfl) ?_ | refine s_pu (pu_nilCheck_fn rfl) ?_ | refine s_pu (pu_nilCheck_if rfl) ?_
   first | refine s_pu (pu_fieldAddr0 rfl) ?_ | refine s_pu (pu_fieldAddr rfl) ?_
   refine s_rd (rd_own rfl (by repeat (first | with_reducible exact Take.here | apply Take.there)) (stB_get (j := 0) rfl)) ?_
   refine s_pu (pu_indexAddr (ro_ + 0 * 1) (congrArg some hrv) rfl (by omega) (by omega) rfl) ?_
   refine s_rd (rd_ro rfl (hcell.le (h3.trans h4))) ?_
   refine s_pu (pu_assign rfl) ?_
   refine swl_sub _ (.cons (t := 0) rfl (.cons (t := 2) rfl (.cons (t := 6) rfl (.cons (t := 7) rfl (.cons (t := 8) rfl .nil))))) ?_
   refine swl_nil ?_
   refine then_n ?_
   refine swp_seq ?_
   refine swp_ent (Split.ent' (K := [wkV w W.sv (.slice (some ⟨g, 0, none⟩) (zs.length + 1) cap) steps limit, blk b6 85 (encV top), stB (some ⟨g, 0, none⟩) cap zs up, W.A s, ro μ4, naB up.node up.f.node up.own, vvsA zs, blk b2 85 [.slice none 0 0, .slice none 0 0, .slice none 0 0]]) (by repeat (first | exact Split.nil | (apply Split.cons; (repeat (first | with_reducible exact Take.here | apply Take.there)))))) ?_
   refine swp_draw [2, 6, 10] ([wkV w W.sv (.slice (some ⟨g, 0, none⟩) (zs.length + 1) cap) steps limit, blk b6 85 (encV top), stB (some ⟨g, 0, none⟩) cap zs up]) ([W.A s, ro μ4, naB up.node up.f.node up.own, vvsA zs, blk b2 85 [.slice none 0 0, .slice none 0 0, .slice none 0 0]]) (Split.ent (by repeat (first | exact Split.nil | (apply Split.cons; (repeat (first | with_reducible exact Take.here | apply Take.there)))))) (by kernel_rfl) ?_
   refine d_pu 0 rfl (pu_move rfl) (by kernel_rfl) (by kernel_rfl) (by kernel_rfl) ?_
   first | refine d_pu 1 rfl (pu_fieldAddr0 rfl) (by kernel_rfl) (by kernel_rfl) (by kernel_rfl) ?_ | refine d_pu 1 rfl (pu_fieldAddr rfl) (by kernel_rfl) (by kernel_rfl) (by kernel_rfl) ?_
   refine d_rd 2 rfl (rd_load rfl rfl) rfl (by kernel_rfl) (by kernel_rfl) (by kernel_rfl) ?_
   refine d_pu 3 rfl (pu_move rfl) (by kernel_rfl) (by kernel_rfl) (by kernel_rfl) ?_
   first | refine d_pu 4 rfl (pu_nilCheck rfl) (by kernel_rfl) (by kernel_rfl) (by kernel_rfl) ?_ | refine d_pu 4 rfl (pu_nilCheck_fn rfl) (by kernel_rfl) (by kernel_rfl) (by kernel_rfl) ?_ | refine d_pu 4 rfl (pu_nilCheck_if rfl) (by kernel_rfl) (by kernel_rfl) (by kernel_rfl) ?_
   first | refine d_pu 5 rfl (pu_fieldAddr0 rfl) (by kernel_rfl) (by kernel_rfl) (by kernel_rfl) ?_ | refine d_pu 5 rfl (pu_fieldAddr rfl) (by kernel_rfl) (by kernel_rfl) (by kernel_rfl) ?_
   refine d_rd 6 rfl (rd_own rfl (by repeat (first | with_reducible exact Take.here | apply Take.there)) (stB_get (j := 2) rfl)) rfl (by kernel_rfl) (by kernel_rfl) (by kernel_rfl) ?_
   refine d_pu 7 rfl (pu_move rfl) (by kernel_rfl) (by kernel_rfl) (by kernel_rfl) ?_
   first | refine d_pu 8 rfl (pu_nilCheck rfl) (by kernel_rfl) (by kernel_rfl) (by kernel_rfl) ?_ | refine d_pu 8 rfl (pu_nilCheck_fn rfl) (by kernel_rfl) (by kernel_rfl) (by kernel_rfl) ?_ | refine d_pu 8 rfl (pu_nilCheck_if rfl) (by kernel_rfl) (by kernel_rfl) (by kernel_rfl) ?_
   first | refine d_pu 9 rfl (pu_fieldAddr0 rfl) (by kernel_rfl) (by kernel_rfl) (by kernel_rfl) ?_ | refine d_pu 9 rfl (pu_fieldAddr rfl) (by kernel_rfl) (by kernel_rfl) (by kernel_rfl) ?_
   refine d_rd 10 rfl (rd_load rfl rfl) rfl (by kernel_rfl) (by kernel_rfl) (by kernel_rfl) ?_
   refine d_pu 11 rfl (pu_move rfl) (by kernel_rfl) (by kernel_rfl) (by kernel_rfl) ?_
   refine d_eft 12 rfl (by kernel_rfl) (ef_invS rfl (Nat.zero_le _) (hcontentR W μ4 hW4 s k hkn) rfl (by repeat (first | exact Split.nil | (apply Split.cons; (repeat (first | with_reducible exact Take.here | apply Take.there)))))) ?_
   rintro v96 L1 ⟨μ6, h6, rowC, rfl⟩
   refine ⟨_, ent_appC (Split.ent (by repeat (first | exact Split.nil | (apply Split.cons; (repeat (first | with_reducible exact Take.here | apply Take.there)))))), ?_⟩
   first | refine d_fint 13 rfl (by kernel_rfl) (by kernel_rfl) (ef_fn (three_form μ6 top.tree up.tree v96 top.f.tree up.f.tree (treeOf W.T k) (rtop.le (h4.trans h6)) (rup.le h6) rowC ⟨by have := htop.tree.len; omega, by have := hup.tree.len; omega, by have := (vt_ok hW4 hkn).len; omega⟩ ⟨htop.tree.u32, hup.tree.u32, (vt_ok hW4 hkn).u32⟩) rfl rfl (by repeat (first | exact Split.nil | (apply Split.cons; (repeat (first | with_reducible exact Take.here | apply Take.there)))))) ?_ | refine d_finf 13 rfl (by kernel_rfl) (by kernel_rfl) (ef_fn (three_form μ6 top.tree up.tree v96 top.f.tree up.f.tree (treeOf W.T k) (rtop.le (h4.trans h6)) (rup.le h6) rowC ⟨by have := htop.tree.len; omega, by have := hup.tree.len; omega, by have := (vt_ok hW4 hkn).len; omega⟩ ⟨htop.tree.u32, hup.tree.u32, (vt_ok hW4 hkn).u32⟩) rfl rfl (by repeat (first | exact Split.nil | (apply Split.cons; (repeat (first | with_reducible exact Take.here | apply Take.there)))))) ?_
   rintro v97 L1 ⟨A8, k8, v9, μ7, h7, rfl, rfl⟩
   refine swd_app ?_
   refine d_pu 14 rfl (pu_move rfl) (by kernel_rfl) (by kernel_rfl) (by kernel_rfl) ?_
   first | refine d_pu 15 rfl (pu_extractL rfl) (by kernel_rfl) (by kernel_rfl) (by kernel_rfl) ?_ | refine d_pu 15 rfl (pu_extract rfl rfl) (by kernel_rfl) (by kernel_rfl) (by kernel_rfl) ?_
   first | refine d_pu 16 rfl (pu_extractL rfl) (by kernel_rfl) (by kernel_rfl) (by kernel_rfl) ?_ | refine d_pu 16 rfl (pu_extract rfl rfl) (by kernel_rfl) (by kernel_rfl) (by kernel_rfl) ?_
   first | refine d_pu 17 rfl (pu_nilCheck rfl) (by kernel_rfl) (by kernel_rfl) (by kernel_rfl) ?_ | refine d_pu 17 rfl (pu_nilCheck_fn rfl) (by kernel_rfl) (by kernel_rfl) (by kernel_rfl) ?_ | refine d_pu 17 rfl (pu_nilCheck_if rfl) (by kernel_rfl) (by kernel_rfl) (by kernel_rfl) ?_
   first | refine d_pu 18 rfl (pu_fieldAddr0 rfl) (by kernel_rfl) (by kernel_rfl) (by kernel_rfl) ?_ | refine d_pu 18 rfl (pu_fieldAddr rfl) (by kernel_rfl) (by kernel_rfl) (by kernel_rfl) ?_
   first | refine d_fin0t 19 rfl (by kernel_rfl) (by kernel_rfl) (ef_store_own rfl rfl (by repeat (first | exact Split.nil | (apply Split.cons; (repeat (first | with_reducible exact Take.here | apply Take.there))))) (by rw [tl_len rfl]; omega) rfl) ?_ | refine d_fin0f 19 rfl (by kernel_rfl) (by kernel_rfl) (ef_store_own rfl rfl (by repeat (first | exact Split.nil | (apply Split.cons; (repeat (first | with_reducible exact Take.here | apply Take.there))))) (by rw [tl_len rfl]; omega) rfl) ?_
   refine d_sub _ (.cons (t := 0) rfl (.cons (t := 2) rfl (.cons (t := 7) rfl (.cons (t := 8) rfl .nil)))) ?_
   first | refine d_nilt (by kernel_rfl) ?_ | refine d_nilf (by kernel_rfl) ?_
   refine then_n ?_
   refine swp_seq ?_
   rw [tl_set]
   refine swp_region ?_
   refine s_pu (pu_move rfl) ?_
   refine s_pu (pu_move rfl) ?_
   first | refine s_pu (pu_nilCheck rfl) ?_ | refine s_pu (pu_nilCheck_fn rfl) ?_ | refine s_pu (pu_nilCheck_if rfl) ?_
   first | refine s_pu (pu_fieldAddr0 rfl) ?_ | refine s_pu (pu_fieldAddr rfl) ?_
   refine s_rd (rd_own rfl (by repeat (first | with_reducible exact Take.here | apply Take.there)) (tl_get (j := 1) rfl)) ?_
   refine s_pu (pu_move rfl) ?_
   refine s_ef (ef_bldS (qs := [(0, _)]) rfl rfl rfl) ?_
   intro b108
   refine swl_share (b := b108) (μ := μ7) (by repeat (first | exact Split.nil | (apply Split.cons; (repeat (first | with_reducible exact Take.here | apply Take.there))))) fun μ8 h8 k108 => ?_
   have rn : Row μ8 (.slice (some ⟨b108, 0, none⟩) 1 1) 1 1 [.int .i64 (k : Nat)] := row_of_blk (n := 1) (l := 1) (cs := [.int .i64 (k : Nat)]) k108 (by rfl) (by decide)
   have h18 : Le μ1 μ8 := h3.trans (h4.trans (h6.trans (h7.trans h8)))
   refine s_ef (ef_append_na (o := up.own) (v := up.node) (l := up.f.node) rfl rfl rn (by repeat (first | exact Split.nil | (apply Split.cons; (repeat (first | with_reducible exact Take.here | apply Take.there))))) (fun e => ⟨(hup.node e).1.le h18, (hup.node e).2⟩) (by omega)) ?_
   rintro A9 c9 o9 ho9
   skip
   first | refine s_pu (pu_nilCheck rfl) ?_ | refine s_pu (pu_nilCheck_fn rfl) ?_ | refine s_pu (pu_nilCheck_if rfl) ?_
   first | refine s_pu (pu_fieldAddr0 rfl) ?_ | refine s_pu (pu_fieldAddr rfl) ?_
   refine s_ef0 (ef_store_own rfl rfl (by repeat (first | exact Split.nil | (apply Split.cons; (repeat (first | with_reducible exact Take.here | apply Take.there))))) (by rw [tl_len rfl]; omega) rfl) ?_
   refine swl_sub _ (.cons (t := 0) rfl (.cons (t := 2) rfl (.cons (t := 7) rfl .nil))) ?_
   refine swl_nil ?_
   refine then_n ?_
   rw [tl_set]
   obtain ⟨v', hr', hlo⟩ := Row.lo (P := Tryd.prog) (t := 43) (hup.rest.le h18) 1 (by omega)
   obtain ⟨AR, cR, hv'⟩ : ∃ A c, v' = .slice A (up.f.rest.length - 1) c := by obtain ⟨_, A, c, e, _⟩ := hr'; exact ⟨A, c, e⟩
   refine swp_region ?_
   refine s_pu (pu_move rfl) ?_
   refine s_pu (pu_move rfl) ?_
   first | refine s_pu (pu_nilCheck rfl) ?_ | refine s_pu (pu_nilCheck_fn rfl) ?_ | refine s_pu (pu_nilCheck_if rfl) ?_
   first | refine s_pu (pu_fieldAddr0 rfl) ?_ | refine s_pu (pu_fieldAddr rfl) ?_
   refine s_rd (rd_own rfl (by repeat (first | with_reducible exact Take.here | apply Take.there)) (tl_get (j := 0) rfl)) ?_
   refine s_pu (hlo _ _ _ .i64 1 rfl rfl rfl) ?_
   first | refine s_pu (pu_nilCheck rfl) ?_ | refine s_pu (pu_nilCheck_fn rfl) ?_ | refine s_pu (pu_nilCheck_if rfl) ?_
   first | refine s_pu (pu_fieldAddr0 rfl) ?_ | refine s_pu (pu_fieldAddr rfl) ?_
   refine s_ef0 (ef_store_own rfl rfl (by repeat (first | exact Split.nil | (apply Split.cons; (repeat (first | with_reducible exact Take.here | apply Take.there))))) (by rw [tl_len rfl]; omega) (by rw [hv']; rfl)) ?_
   refine swl_sub _ (.cons (t := 0) rfl (.cons (t := 2) rfl .nil)) ?_
   refine swl_nil ?_
   refine block_n ?_
   rw [tl_set]
   have hvok : VV.Ok W.n W.U μ8 (⟨v', .slice A9 (up.f.node ++ [(k : Int)]).length c9, .slice A8 (VM top.f.tree up.f.tree (treeOf W.T k)).length k8, ⟨rs, up.f.node ++ [(k : Int)], VM top.f.tree up.f.tree (treeOf W.T k)⟩, o9⟩ : VV) := by
    refine ⟨?_, ho9, ⟨⟨_, _, rfl⟩, _, _, rfl⟩, fun c hc => ?_, ?_, ?_⟩
    ·have e : (ivs up.f.rest).drop (1 * 1) = ivs rs := by rw [hrest]; rfl
     rw [e, hrl, Nat.add_sub_cancel] at hr'
     exact hr'
    ·refine hup.ins c ?_
     rw [hrest]
     simpa using hc
    ·show (up.f.node ++ [(k : Int)]).length + rs.length ≤ W.n
     rw [List.length_append, List.length_singleton]; omega
    ·exact htop.tree.merge hup.tree (vt_ok hW4 hkn)
   have hul : (zs ++ [(⟨v', .slice A9 (up.f.node ++ [(k : Int)]).length c9, .slice A8 (VM top.f.tree up.f.tree (treeOf W.T k)).length k8, ⟨rs, up.f.node ++ [(k : Int)], VM top.f.tree up.f.tree (treeOf W.T k)⟩, o9⟩ : VV)]).length = zs.length + 1 := by rw [List.length_append]; rfl
   refine then_n ⟨(steps, zs.length + 1), ⟨zs ++ [(⟨v', .slice A9 (up.f.node ++ [(k : Int)]).length c9, .slice A8 (VM top.f.tree up.f.tree (treeOf W.T k)).length k8, ⟨rs, up.f.node ++ [(k : Int)], VM top.f.tree up.f.tree (treeOf W.T k)⟩, o9⟩ : VV)], (some ⟨g, 0, none⟩), cap, lookS s k, μ8, ⟨rfl, rfl, trivial⟩, hul, Nat.succ_pos _, by omega, hsl, ?_, hle.trans h18, hs, ?_, ?_, ?_⟩, by dsimp only; omega⟩
   ·dsimp only
    rw [stA_B, hul]
    refine (Split.ent' (K := [own 52 2 (.slice A8 (VM top.f.tree up.f.tree (treeOf W.T k)).length k8) (VM top.f.tree up.f.tree (treeOf W.T k)).length (ens (VM top.f.tree up.f.tree (treeOf W.T k))), naB (.slice A9 (up.f.node ++ [(k : Int)]).length c9) (up.f.node ++ [(k : Int)]) o9, vvsA zs, wkV w W.sv (.slice (some ⟨g, 0, none⟩) (zs.length + 1) cap) steps limit, own 85 3 (.slice (some ⟨g, 0, none⟩) (zs.length + 1) cap) (zs.length + 1) (zs.flatMap encV ++ (((encV up).set 2 (.slice A8 (VM top.f.tree up.f.tree (treeOf W.T k)).length k8)).set 1 (.slice A9 (up.f.node ++ [(k : Int)]).length c9)).set 0 v'), blk b2 85 [.slice none 0 0, .slice none 0 0, .slice none 0 0], W.A (lookS s k), ro μ8]) (by repeat (first | exact Split.nil | (apply Split.cons; (repeat (first | with_reducible exact Take.here | apply Take.there)))))).trans ?_
    refine Ent.trans (show Ent _ (treeA (⟨v', .slice A9 (up.f.node ++ [(k : Int)]).length c9, .slice A8 (VM top.f.tree up.f.tree (treeOf W.T k)).length k8, ⟨rs, up.f.node ++ [(k : Int)], VM top.f.tree up.f.tree (treeOf W.T k)⟩, o9⟩ : VV) :: naA (⟨v', .slice A9 (up.f.node ++ [(k : Int)]).length c9, .slice A8 (VM top.f.tree up.f.tree (treeOf W.T k)).length k8, ⟨rs, up.f.node ++ [(k : Int)], VM top.f.tree up.f.tree (treeOf W.T k)⟩, o9⟩ : VV) :: vvsA zs :: wkV w W.sv (.slice (some ⟨g, 0, none⟩) (zs.length + 1) cap) steps limit :: stB (some ⟨g, 0, none⟩) cap zs (⟨v', .slice A9 (up.f.node ++ [(k : Int)]).length c9, .slice A8 (VM top.f.tree up.f.tree (treeOf W.T k)).length k8, ⟨rs, up.f.node ++ [(k : Int)], VM top.f.tree up.f.tree (treeOf W.T k)⟩, o9⟩ : VV) :: blk b2 85 [.slice none 0 0, .slice none 0 0, .slice none 0 0] :: W.A (lookS s k) :: ro μ8 :: []) from Ent.refl _) ?_
    refine vvs_close.trans ?_
    exact Split.ent' (by repeat (first | exact Split.nil | (apply Split.cons; (repeat (first | with_reducible exact Take.here | apply Take.there)))))
   ·intro x hx
    rcases List.mem_append.1 hx with hx | hx
    ·exact (hok x (by simp [hx])).le h18
    ·rw [List.mem_singleton.1 hx]; exact hvok
   ·intro ys' y' he x hx
    obtain ⟨e1, _⟩ := List.append_inj' he rfl
    rw [← e1] at hx
    exact hrs (zs ++ [up]) top rfl x (by simp [hx])
   ·have hpop := vst_pop (VS W) (VT W) VM [] top.f.node top.f.tree up.f (zs.reverse.map (·.f)) (limit - steps)
    rw [← hte] at hpop
    rw [← hR, List.reverse_append, List.reverse_append, List.reverse_append, List.map_append, List.map_append, List.map_append]
    show vst (VS W) (VT W) VM [] (⟨rs, up.f.node ++ [(k : Int)], VM top.f.tree up.f.tree (treeOf W.T k)⟩ :: zs.reverse.map (·.f)) (limit - steps) = vst (VS W) (VT W) VM [] (top.f :: up.f :: zs.reverse.map (·.f)) (limit - steps)
    rw [hpop]
    unfold vup
    rw [hrest]; rfl
end SX
namespace SX
open Go Go.Proofs
theorem run_e (W : HW) (μ0 : PH) (hW : W.Ok μ0) (hn : W.n ≤ 10000) (μ : PH) (h0 : Le μ0 μ) (hT : RowAt μ 1 0 tabV) (w : Nat) (s : HSt) (m : Nat) (limit : Nat) (hlim : limit ≤ 4096) (hm : m + 4097 ≤ 4611686018427387904) (A : Option Addr) (cap : Nat) (nv0 : VV) (steps : Nat) (hs : AskB (m + steps) s) (h1 : 1 ≤ steps) (hsl : steps ≤ limit)
    (hok : nv0.Ok W.n W.U μ) (R : Option (List En × Bool) × Nat) (hR : vst (VS W) (VT W) VM [] [nv0.f] (limit - steps) = R) :
    Spec Tryd.prog 25 [.pointer (some ⟨w, 0, none⟩)] [wkV w W.sv (.slice A 1 cap) steps limit, stA A cap [nv0], treeA nv0, naA nv0, W.A s, ro μ] (fun r L => ∃ (A0 A1 A2 : Option Addr) (l0 l1 l2 c0 c1 c2 : Nat) (e : Int), r = .tuple #[.agg #[.slice A0 l0 c0, .slice A1 l1 c1, .slice A2 l2 c2], .int .i64 e] ∧ ∃ (s' : HSt) (μ' : PH), Le μ μ' ∧ AskB (m + limit) s' ∧
      ((R.1 = none ∧ e = 12 ∧ L = [W.A s', ro μ']) ∨
       (e = 0 ∧ ∃ (t : List En) (st : Value) (steps : Nat), R = (some (t, decide (0 < l1)), limit - steps) ∧ steps ≤ limit ∧ TOk W.U t ∧ l2 = t.length ∧ L = [wkV w W.sv st steps limit, own 52 2 (.slice A2 l2 c2) l2 (ens t), W.A s', ro μ']))) :=
  (run_spec W μ0 hW hn μ h0 hT w s m limit hlim hm A cap nv0 steps hs h1 hsl hok R hR).mono fun r L ⟨s', μ', k1, k2, k3⟩ => by
    rcases k3 with ⟨h1, h2, h3⟩ | ⟨nv, st, steps, h1, h2, h3, h4, h5⟩
    · exact ⟨none, none, none, 0, 0, 0, 0, 0, 0, 12, h2, s', μ', k1, k2, .inl ⟨h1, rfl, h3⟩⟩
    · obtain ⟨_, A0, c0, e0, _⟩ := h3.rest
      obtain ⟨⟨A1, c1, e1⟩, A2, c2, e2⟩ := h3.one
      refine ⟨A0, A1, A2, nv.f.rest.length, nv.f.node.length, nv.f.tree.length, c0, c1, c2, 0, ?_, s', μ', k1, k2, .inr ⟨rfl, nv.f.tree, st, steps, ?_, h2, h3.tree, rfl, ?_⟩⟩
      · rw [h4]
        show Value.tuple #[.agg #[nv.rest, nv.node, nv.tree], _] = _
        rw [e0, e1, e2]
      · rw [h1]
        cases nv.f.node <;> rfl
      · rw [h5, ← e2]
def askedV (n : Nat) (a b : Int) : Int := if min a b < 0 ∨ min (n : Int) 65536 ≤ max a b then 9 else 0
instance : TIface Tryd.prog 77 := ⟨⟨_, Tryd.underlying77⟩⟩
theorem vasked_spec (W : HW) (μ0 : PH) (hW : W.Ok μ0) (s : HSt) (μ : PH) (a b : Int) : Spec Tryd.prog 23 [W.sv, .int .i64 a, .int .i64 b] [W.A s, ro μ] (fun r L => r = .int .i64 (askedV W.n a b) ∧ L = [W.A s, ro μ]) := by
 have hn : W.n ≤ 65536 := hW.hn
 have hc : InvS Tryd.prog 0 31 (.pointer (some ⟨W.p, 0, none⟩)) "Commits" [] [W.A s] (fun r L => r = .int .i64 (W.n : Nat) ∧ L = [W.A s]) := by
  have h := (W.bsrc μ0 hW).commits s μ
  rw [show (W.bsrc μ0 hW).g.length = W.n from List.length_map _] at h
  exact h
 refine Spec.of 24 Tryd.func23 rfl rfl rfl ?_
 refine swp_seq ?_
 refine swp_region ?_
 refine s_pu (pu_assign rfl) ?_
 refine swl_sub _ (.cons (t := 0) rfl (.cons (t := 1) rfl (.cons (t := 2) rfl .nil))) ?_
 refine swl_nil ?_
 refine then_n ?_
 refine swp_seq ?_
 refine swp_seq ?_
 refine swp_region ?_
 refine s_pu (pu_move rfl) ?_
 refine s_pu (pu_if_eq_nil rfl rfl) ?_
 refine swl_sub _ (.cons (t := 0) rfl (.cons (t := 1) rfl (.cons (t := 2) rfl (.cons (t := 9) rfl .nil)))) ?_
 refine swl_nil ?_
 refine then_n ?_
 refine swp_cond (b := _) rfl (fun h9 => by cases h9) (fun h9 => ?_)
 refine swp_skip ?_
 refine then_n ?_
 refine swp_seq ?_
 refine swp_region ?_
 refine s_pu (pu_move rfl) ?_
 refine s_ef (ef_invS rfl (Nat.zero_le _) hc rfl (by repeat (first | exact Split.nil | (apply Split.cons; (repeat (first | with_reducible exact Take.here | apply Take.there)))))) ?_
 rintro v11 L1 ⟨rfl, rfl⟩
 refine swl_app ?_
 refine s_pu (pu_min2 rfl rfl) ?_
 refine s_pu (pu_assign rfl) ?_
 refine swl_sub _ (.cons (t := 1) rfl (.cons (t := 2) rfl (.cons (t := 7) rfl .nil))) ?_
 refine swl_nil ?_
 refine then_n ?_
 refine swp_seq ?_
 refine swp_seq ?_
 refine swp_region ?_
 refine s_pu (pu_move rfl) ?_
 refine s_pu (pu_move rfl) ?_
 refine s_pu (pu_min2 rfl rfl) ?_
 refine s_pu (pu_lss rfl rfl) ?_
 refine s_pu (pu_move rfl) ?_
 refine s_split 17 rfl (fun h17 => ?_) (fun h17 => ?_)
 ·skip
  refine s_off rfl rfl rfl ?_
  refine s_off rfl rfl rfl ?_
  refine s_off rfl rfl rfl ?_
  refine s_off rfl rfl rfl ?_
  refine s_off rfl rfl rfl ?_
  first | refine s_pu (pu_pick_t rfl rfl) ?_ | refine s_pu (pu_pick_f rfl rfl) ?_
  refine swl_sub _ (.cons (t := 23) rfl .nil) ?_
  refine swl_nil ?_
  refine then_n ?_
  refine swp_cond (b := _) rfl (fun h23 => ?_) (fun h23 => by cases h23)
  refine swp_seq ?_
  refine swp_region ?_
  refine s_pu (pu_assign rfl) ?_
  refine swl_sub _ (.cons (t := 6) rfl .nil) ?_
  refine swl_nil ?_
  refine then_n ?_
  refine swp_ret ?_
  refine then_r ?_
  have h17' := of_decide_eq_true h17
  exact done_ret [W.A s, ro μ] (.tmp rfl .nil) ⟨by show Value.int .i64 _ = _; unfold askedV; rw [if_pos (.inl h17')], rfl⟩ (by repeat (first | exact Split.nil | (apply Split.cons; (repeat (first | with_reducible exact Take.here | apply Take.there)))))
 ·skip
  refine s_on rfl rfl ?_
  refine s_pu (pu_move rfl) ?_
  refine s_on rfl rfl ?_
  refine s_pu (pu_move rfl) ?_
  refine s_on rfl rfl ?_
  refine s_pu (pu_max2 rfl rfl) ?_
  refine s_on rfl rfl ?_
  refine s_pu (pu_move rfl) ?_
  refine s_on rfl rfl ?_
  refine s_pu (pu_geq rfl rfl) ?_
  first | refine s_pu (pu_pick_t rfl rfl) ?_ | refine s_pu (pu_pick_f rfl rfl) ?_
  refine swl_sub _ (.cons (t := 23) rfl .nil) ?_
  refine swl_nil ?_
  refine then_n ?_
  refine swp_cond (b := _) rfl (fun h23 => ?_) (fun h23 => ?_)
  ·skip
   refine swp_seq ?_
   refine swp_region ?_
   refine s_pu (pu_assign rfl) ?_
   refine swl_sub _ (.cons (t := 6) rfl .nil) ?_
   refine swl_nil ?_
   refine then_n ?_
   refine swp_ret ?_
   refine then_r ?_
   have h23' := of_decide_eq_true h23
   exact done_ret [W.A s, ro μ] (.tmp rfl .nil) ⟨by show Value.int .i64 _ = _; unfold askedV; rw [if_pos (.inr h23')], rfl⟩ (by repeat (first | exact Split.nil | (apply Split.cons; (repeat (first | with_reducible exact Take.here | apply Take.there)))))
  ·skip
   refine swp_skip ?_
   refine then_n ?_
   refine swp_seq ?_
   refine swp_region ?_
   refine s_pu (pu_assign rfl) ?_
   refine swl_sub _ (.cons (t := 6) rfl .nil) ?_
   refine swl_nil ?_
   refine then_n ?_
   refine swp_ret ?_
   have h17' := of_decide_eq_false h17
   have h23' := of_decide_eq_false h23
   exact done_ret [W.A s, ro μ] (.tmp rfl .nil) ⟨by show Value.int .i64 _ = _; unfold askedV; rw [if_neg (fun h => h.elim h17' h23')], rfl⟩ (by repeat (first | exact Split.nil | (apply Split.cons; (repeat (first | with_reducible exact Take.here | apply Take.there)))))
end SX
namespace SX
open Go Go.Proofs
theorem pu_min2_as {P : Program} {env : Env} {k : IntKind} {ts : Array TypeId} {x y : Operand} {a b : Int} (z : Int) (hx : evalE env x = some (.int k a)) (hy : evalE env y = some (.int k b)) (h : min a b = z) : Pu P env (.call { callee := .builtin .min, args := #[x, y], argTypes := ts }) (.int k z) := by
  have := pu_min2 (P := P) (ts := ts) hx hy
  rwa [h] at this
/-- the virtual ancestor: tree, node, steps, error -/
def virtV (W : HW) (a b limit : Int) : List En × Bool × Int × Int :=
  if askedV W.n a b ≠ 0 then ([], false, 0, askedV W.n a b) else
  match vall (VS W) (VT W) VM [] (min (max limit 0) 4096).toNat [a] b with
  | (none, _) => ([], false, 0, 12)
  | (some (t, ok), left) => (t, ok, (((min (max limit 0) 4096).toNat - left : Nat) : Int), 0)
theorem push0 (W : HW) (μ0 : PH) (hW : W.Ok μ0) (hn : W.n ≤ 10000) (μ : PH) (h0 : Le μ0 μ) (hT : RowAt μ 1 0 tabV) (w : Nat) (s : HSt) (m : Nat) (hs : AskB m s) (hm : m + 1 ≤ 4611686018427387904) (limit : Nat) (hlim : limit ≤ 4096) (v : Value) (a b : Int) (hv : Row μ v 1 1 (ivs [a])) :
    Spec Tryd.prog 24 [.pointer (some ⟨w, 0, none⟩), v, .int .i64 b] [blk w 82 [W.sv, .slice none 0 0, .int .i64 0, .int .i64 (limit : Nat)], W.A s, ro μ] (fun r L => ∃ e, r = .int .i64 e ∧ ∃ (s2 : HSt) (μ2 : PH), Le μ μ2 ∧ AskB (m + 1) s2 ∧
      ((limit = 0 ∧ e = 12 ∧ L = [wkV w W.sv (.slice none 0 0) 0 limit, W.A s2, ro μ2]) ∨
       (0 < limit ∧ e = 0 ∧ ∃ (nv : VV) (A2 : Option Addr) (cap2 : Nat), nv.f = vfr (VT W) [] (VS W [a] b) ∧ nv.Ok W.n W.U μ2 ∧ L = [wkV w W.sv (.slice A2 1 cap2) 1 limit, stA A2 cap2 [nv], treeA nv, naA nv, W.A s2, ro μ2]))) := by
  intro E w' hw
  have hpre : Ent [blk w 82 [W.sv, .slice none 0 0, .int .i64 0, .int .i64 (limit : Nat)], W.A s, ro μ] [naA (⟨.slice none 0 0, v, .slice none 0 0, ⟨[], [a], []⟩, false⟩ : VV), wkV w W.sv (.slice none 0 0) 0 limit, stA none 0 [], W.A s, ro μ] :=
    (own_nil_ent (e := 85) (n := 3)).trans ((naA_no (x := (⟨.slice none 0 0, v, .slice none 0 0, ⟨[], [a], []⟩, false⟩ : VV)) rfl).trans (show Ent (naA (⟨.slice none 0 0, v, .slice none 0 0, ⟨[], [a], []⟩, false⟩ : VV) :: stA none 0 [] :: wkV w W.sv (.slice none 0 0) 0 limit :: W.A s :: ro μ :: []) _ from Split.ent' (by repeat (first | exact Split.nil | (apply Split.cons; (repeat (first | with_reducible exact Take.here | apply Take.there)))))))
  refine (push_e W μ0 hW hn μ h0 hT w s m hs hm none 0 [] 0 limit (Nat.le_refl _) hlim ⟨.slice none 0 0, v, .slice none 0 0, ⟨[], [a], []⟩, false⟩ b (fun _ => hv) E w' (hw.ent hpre)).mono fun e w'' ⟨r, L', he, ⟨e2, hr, hp⟩, hh⟩ => ?_
  rcases hp with ⟨k1, k2, k3⟩ | ⟨k1, k2, nv, A2, cap2, s2, μ2, k3, k4, k5, k6, k7, k8⟩
  · subst k3
    refine ⟨r, _, he, ⟨e2, hr, s, μ, Le.refl _, fun c => Nat.le_trans (hs c) (by omega), .inl ⟨by omega, k2, rfl⟩⟩, (hh.ent Ent.drop).ent ?_⟩
    exact show Ent (wkV w W.sv (.slice none 0 0) 0 limit :: stA none 0 [] :: W.A s :: ro μ :: []) [wkV w W.sv (.slice none 0 0) 0 limit, W.A s, ro μ] from Split.ent' (by repeat (first | exact Split.nil | (apply Split.cons; (repeat (first | with_reducible exact Take.here | apply Take.there)))))
  · subst k8
    refine ⟨r, _, he, ⟨e2, hr, s2, μ2, k7, k6, .inr ⟨k1, k2, nv, A2, cap2, k4, k5, rfl⟩⟩, (hh.ent Ent.drop).ent ?_⟩
    exact (naA_no k3).trans (show Ent (naA nv :: wkV w W.sv (.slice A2 1 cap2) 1 limit :: stA A2 cap2 [nv] :: treeA nv :: W.A s2 :: ro μ2 :: []) _ from Split.ent' (by repeat (first | exact Split.nil | (apply Split.cons; (repeat (first | with_reducible exact Take.here | apply Take.there))))))
set_option maxHeartbeats 4000000 in
theorem virtual_spec (W : HW) (μ0 : PH) (hW : W.Ok μ0) (hn : W.n ≤ 10000) (μ : PH) (h0 : Le μ0 μ) (hT : RowAt μ 1 0 tabV) (s : HSt) (m : Nat) (hs : AskB m s) (hm : m + 4098 ≤ 4611686018427387904) (a b limit : Int) :
  Spec Tryd.prog 10 [W.sv, .int .i64 a, .int .i64 b, .int .i64 limit] [W.A s, ro μ] (fun r L => ∃ (tv : Value) (s' : HSt) (μ' : PH), Le μ μ' ∧ AskB (m + 4097) s' ∧ TOk W.U (virtV W a b limit).1 ∧ r = .tuple #[tv, .bool (virtV W a b limit).2.1, .int .i64 (virtV W a b limit).2.2.1, .int .i64 (virtV W a b limit).2.2.2] ∧
   L = [own 52 2 tv (virtV W a b limit).1.length (ens (virtV W a b limit).1), W.A s', ro μ']) := by
 obtain ⟨lim, hlim⟩ : ∃ k : Nat, min (max limit 0) 4096 = (k : Int) := ⟨(min (max limit 0) 4096).toNat, by omega⟩
 have hl4 : lim ≤ 4096 := by omega
 have hlt : (min (max limit 0) 4096).toNat = lim := by omega
 refine Spec.of 55 Tryd.func10 rfl rfl rfl ?_
 refine swp_seq ?_
 refine swp_region ?_
 refine s_pu (pu_assign rfl) ?_
 refine s_pu (pu_assign rfl) ?_
 refine s_pu (pu_assign rfl) ?_
 refine s_pu (pu_assign rfl) ?_
 refine swl_sub _ (.cons (t := 0) rfl (.cons (t := 1) rfl (.cons (t := 2) rfl (.cons (t := 3) rfl .nil)))) ?_
 refine swl_nil ?_
 refine then_n ?_
 refine swp_seq ?_
 refine swp_seq ?_
 refine swp_region ?_
 refine s_pu (pu_move rfl) ?_
 refine s_pu (pu_move rfl) ?_
 refine s_pu (pu_move rfl) ?_
 refine s_ef (ef_fn (vasked_spec W μ0 hW s μ a b) rfl rfl (by repeat (first | exact Split.nil | (apply Split.cons; (repeat (first | with_reducible exact Take.here | apply Take.there)))))) ?_
 rintro v19 L1 ⟨rfl, rfl⟩
 refine swl_app ?_
 refine s_pu (pu_assign rfl) ?_
 refine swl_sub _ (.cons (t := 0) rfl (.cons (t := 1) rfl (.cons (t := 2) rfl (.cons (t := 3) rfl (.cons (t := 12) rfl .nil))))) ?_
 refine swl_nil ?_
 refine then_n ?_
 refine swp_seq ?_
 refine swp_region ?_
 refine s_pu (pu_move rfl) ?_
 refine s_pu (pu_neq rfl rfl) ?_
 refine swl_sub _ (.cons (t := 0) rfl (.cons (t := 1) rfl (.cons (t := 2) rfl (.cons (t := 3) rfl (.cons (t := 12) rfl (.cons (t := 21) rfl .nil)))))) ?_
 refine swl_nil ?_
 refine then_n ?_
 refine swp_cond (b := _) rfl (fun h21 => ?_) (fun h21 => ?_)
 ·skip
  refine swp_seq ?_
  refine swp_region ?_
  refine s_pu (pu_move rfl) ?_
  refine s_pu (pu_assign rfl) ?_
  refine s_pu (pu_assign rfl) ?_
  refine s_pu (pu_assign rfl) ?_
  refine s_pu (pu_assign rfl) ?_
  refine swl_sub _ (.cons (t := 8) rfl (.cons (t := 9) rfl (.cons (t := 10) rfl (.cons (t := 11) rfl .nil)))) ?_
  refine swl_nil ?_
  refine then_n ?_
  refine swp_ret ?_
  refine then_r ?_
  have h21' : askedV W.n a b ≠ 0 := fun e => by rw [e] at h21; exact absurd h21 (by decide)
  have e : virtV W a b limit = ([], false, 0, askedV W.n a b) := by unfold virtV; rw [if_pos h21']
  rw [e]
  exact done_retE [own 52 2 (.slice none 0 0) 0 [], W.A s, ro μ] (.tmp rfl (.tmp rfl (.tmp rfl (.tmp rfl .nil)))) ⟨_, s, μ, Le.refl _, fun c => Nat.le_trans (hs c) (by omega), TOk.nil _, rfl, rfl⟩ own_nil_ent
 ·skip
  have h21' : askedV W.n a b = 0 := by
   by_cases e : askedV W.n a b = 0
   ·exact e
   ·rw [decide_eq_false e] at h21; cases h21
  have hR := vst_start (VS W) (VT W) VM [] [a] b lim
  have hV : virtV W a b limit = match vall (VS W) (VT W) VM [] lim [a] b with | (none, _) => ([], false, 0, 12) | (some (t, ok), left) => (t, ok, ((lim - left : Nat) : Int), 0) := by unfold virtV; rw [if_neg (not_not_intro h21'), hlt]
  refine swp_skip ?_
  refine then_n ?_
  refine swp_seq ?_
  refine swp_region ?_
  refine s_pu (pu_move rfl) ?_
  refine s_pu (pu_move rfl) ?_
  refine s_pu (pu_max2 rfl rfl) ?_
  refine s_pu (pu_min2_as (lim : Int) rfl rfl hlim) ?_
  refine s_pu (pu_bld (qs := [(0, _), (3, _)]) rfl) ?_
  refine s_ef (ef_box rfl rfl) ?_
  intro b28
  refine s_pu (pu_assign rfl) ?_
  refine swl_sub _ (.cons (t := 1) rfl (.cons (t := 2) rfl (.cons (t := 13) rfl .nil))) ?_
  refine swl_nil ?_
  refine then_n ?_
  refine swp_seq ?_
  refine swp_region ?_
  refine s_pu (pu_move rfl) ?_
  refine s_pu (pu_move rfl) ?_
  refine s_ef (ef_bldS (qs := [(0, _)]) rfl rfl rfl) ?_
  intro b31
  refine s_pu (pu_move rfl) ?_
  refine swl_share (b := b31) (μ := μ) (by repeat (first | exact Split.nil | (apply Split.cons; (repeat (first | with_reducible exact Take.here | apply Take.there))))) fun μ1 h1 k1 => ?_
  have r2 : Row μ1 (.slice (some ⟨b31, 0, none⟩) 1 1) 1 1 (ivs [a]) := row_of_blk (n := 1) (l := 1) (cs := [a].flatMap (icsk .i64)) k1 (by rfl) (by decide)
  refine s_ef (ef_fn (push0 W μ0 hW hn μ1 (h0.trans h1) (hT.le h1) b28 s m hs (by omega) lim hl4 _ a b r2) rfl rfl (by repeat (first | exact Split.nil | (apply Split.cons; (repeat (first | with_reducible exact Take.here | apply Take.there)))))) ?_
  rintro v33 L1 ⟨e, rfl, s2, μ2, h2, hs2, hp⟩
  skip
  refine s_pu (pu_assign rfl) ?_
  refine swl_sub _ (.cons (t := 13) rfl (.cons (t := 14) rfl .nil)) ?_
  refine swl_nil ?_
  refine then_n ?_
  refine swp_seq ?_
  refine swp_seq ?_
  refine swp_region ?_
  refine s_pu (pu_move rfl) ?_
  refine s_pu (pu_neq rfl rfl) ?_
  refine swl_sub _ (.cons (t := 13) rfl (.cons (t := 14) rfl (.cons (t := 35) rfl .nil))) ?_
  refine swl_nil ?_
  refine then_n ?_
  refine swp_cond (b := _) rfl (fun h35 => ?_) (fun h35 => ?_)
  ·skip
   refine swp_seq ?_
   refine swp_region ?_
   refine s_pu (pu_move rfl) ?_
   refine s_pu (pu_assign rfl) ?_
   refine s_pu (pu_assign rfl) ?_
   refine s_pu (pu_assign rfl) ?_
   refine s_pu (pu_assign rfl) ?_
   refine swl_sub _ (.cons (t := 8) rfl (.cons (t := 9) rfl (.cons (t := 10) rfl (.cons (t := 11) rfl .nil)))) ?_
   refine swl_nil ?_
   refine then_n ?_
   refine swp_ret ?_
   refine then_r ?_
   have h35' : e ≠ 0 := fun e1 => by rw [e1] at h35; exact absurd h35 (by decide)
   rcases hp with ⟨k1, rfl, rfl⟩ | ⟨_, k2, _⟩
   ·have e1 : virtV W a b limit = ([], false, 0, 12) := by rw [hV, k1]; rfl
    rw [e1]
    simp only [List.cons_append, List.nil_append]
    exact done_retE [own 52 2 (.slice none 0 0) 0 [], W.A s2, ro μ2] (.tmp rfl (.tmp rfl (.tmp rfl (.tmp rfl .nil)))) ⟨_, s2, μ2, h1.trans h2, fun c => Nat.le_trans (hs2 c) (by omega), TOk.nil _, rfl, rfl⟩ (own_nil_ent.trans (Split.ent' (K := [own 52 2 (.slice none 0 0) 0 [], W.A s2, ro μ2]) (by repeat (first | exact Split.nil | (apply Split.cons; (repeat (first | with_reducible exact Take.here | apply Take.there)))))))
   ·exact absurd k2 h35'
  ·skip
   have h35' : e = 0 := by
    by_cases e1 : e = 0
    ·exact e1
    ·rw [decide_eq_false e1] at h35; cases h35
   obtain ⟨k1, nv, A2, cap2, k3, k4, rfl⟩ : 0 < lim ∧ ∃ (nv : VV) (A2 : Option Addr) (cap2 : Nat), nv.f = vfr (VT W) [] (VS W [a] b) ∧ nv.Ok W.n W.U μ2 ∧ L1 = [wkV b28 W.sv (.slice A2 1 cap2) 1 lim, stA A2 cap2 [nv], treeA nv, naA nv, W.A s2, ro μ2] := by
    rcases hp with ⟨_, k2, _⟩ | ⟨k1, _, k3⟩
    ·rw [k2] at h35'; cases h35'
    ·exact ⟨k1, k3⟩
   clear hp
   have hR2 := hR (by omega)
   rw [← k3] at hR2
   simp only [List.cons_append, List.nil_append]
   refine swp_skip ?_
   refine then_n ?_
   refine swp_seq ?_
   refine swp_region ?_
   refine s_pu (pu_move rfl) ?_
   refine s_ef (ef_fn (run_e W μ0 hW hn μ2 (h0.trans (h1.trans h2)) (hT.le (h1.trans h2)) b28 s2 m lim hl4 (by omega) A2 cap2 nv 1 hs2 (Nat.le_refl _) (by omega) k4 _ hR2.symm) rfl rfl (by repeat (first | exact Split.nil | (apply Split.cons; (repeat (first | with_reducible exact Take.here | apply Take.there)))))) ?_
   rintro v39 L2 ⟨A0, A1, A3, l0, l1, l2, c0, c1, c2, e3, rfl, s3, μ3, h3, hs3, hp⟩
   skip
   refine s_pu (pu_move rfl) ?_
   first | refine s_pu (pu_extractL rfl) ?_ | refine s_pu (pu_extract rfl rfl) ?_
   first | refine s_pu (pu_extractL rfl) ?_ | refine s_pu (pu_extract rfl rfl) ?_
   refine s_ef (ef_alloc) ?_
   intro b15
   refine s_ef0 (ef_storeA rfl rfl rfl rfl) ?_
   refine s_pu (pu_assign rfl) ?_
   refine swl_sub _ (.cons (t := 13) rfl (.cons (t := 14) rfl (.cons (t := 15) rfl .nil))) ?_
   refine swl_nil ?_
   refine then_n ?_
   refine swp_seq ?_
   refine swp_seq ?_
   refine swp_region ?_
   refine s_pu (pu_move rfl) ?_
   refine s_pu (pu_neq rfl rfl) ?_
   refine swl_sub _ (.cons (t := 13) rfl (.cons (t := 14) rfl (.cons (t := 15) rfl (.cons (t := 43) rfl .nil)))) ?_
   refine swl_nil ?_
   refine then_n ?_
   refine swp_cond (b := _) rfl (fun h43 => ?_) (fun h43 => ?_)
   ·skip
    refine swp_seq ?_
    refine swp_region ?_
    refine s_pu (pu_move rfl) ?_
    refine s_pu (pu_assign rfl) ?_
    refine s_pu (pu_assign rfl) ?_
    refine s_pu (pu_assign rfl) ?_
    refine s_pu (pu_assign rfl) ?_
    refine swl_sub _ (.cons (t := 8) rfl (.cons (t := 9) rfl (.cons (t := 10) rfl (.cons (t := 11) rfl .nil)))) ?_
    refine swl_nil ?_
    refine then_n ?_
    refine swp_ret ?_
    refine then_r ?_
    have h43' : e3 ≠ 0 := fun e1 => by rw [e1] at h43; exact absurd h43 (by decide)
    rcases hp with ⟨k1, rfl, rfl⟩ | ⟨k2, _⟩
    ·have e1 : virtV W a b limit = ([], false, 0, 12) := by
      rw [hV]
      generalize vall (VS W) (VT W) VM [] lim [a] b = q at k1
      obtain ⟨q1, q2⟩ := q
      dsimp only at k1
      subst k1; rfl
     rw [e1]
     simp only [List.cons_append, List.nil_append]
     exact done_retE [own 52 2 (.slice none 0 0) 0 [], W.A s3, ro μ3] (.tmp rfl (.tmp rfl (.tmp rfl (.tmp rfl .nil)))) ⟨_, s3, μ3, h1.trans (h2.trans h3), fun c => Nat.le_trans (hs3 c) (by omega), TOk.nil _, rfl, rfl⟩ (own_nil_ent.trans (Split.ent' (K := [own 52 2 (.slice none 0 0) 0 [], W.A s3, ro μ3]) (by repeat (first | exact Split.nil | (apply Split.cons; (repeat (first | with_reducible exact Take.here | apply Take.there)))))))
    ·exact absurd k2 h43'
   ·skip
    have h43' : e3 = 0 := by
     by_cases e1 : e3 = 0
     ·exact e1
     ·rw [decide_eq_false e1] at h43; cases h43
    obtain ⟨t, st, steps, q1, q2, q3, rfl, rfl⟩ : ∃ (t : List En) (st : Value) (steps : Nat), vall (VS W) (VT W) VM [] lim [a] b = (some (t, decide (0 < l1)), lim - steps) ∧ steps ≤ lim ∧ TOk W.U t ∧ l2 = t.length ∧ L2 = [wkV b28 W.sv st steps lim, own 52 2 (.slice A3 l2 c2) l2 (ens t), W.A s3, ro μ3] := by
     rcases hp with ⟨_, k2, _⟩ | ⟨_, k3⟩
     ·rw [k2] at h43'; cases h43'
     ·exact k3
    clear hp
    have e1 : virtV W a b limit = (t, decide (0 < l1), ((steps : Nat) : Int), 0) := by
     rw [hV, q1]
     show (t, decide (0 < l1), ((lim - (lim - steps) : Nat) : Int), 0) = _
     rw [show lim - (lim - steps) = steps by omega]
    rw [e1]
    simp only [List.cons_append, List.nil_append]
    refine swp_skip ?_
    refine then_n ?_
    refine swp_seq ?_
    refine swp_draw [1, 3, 9] _ [] (by simp only [List.append_nil]; exact Ent.refl _) (by kernel_rfl) ?_
    first | refine d_pu 0 rfl (pu_fieldAddr0 rfl) (by kernel_rfl) (by kernel_rfl) (by kernel_rfl) ?_ | refine d_pu 0 rfl (pu_fieldAddr rfl) (by kernel_rfl) (by kernel_rfl) (by kernel_rfl) ?_
    refine d_rd 1 rfl (rd_load rfl rfl) rfl (by kernel_rfl) (by kernel_rfl) (by kernel_rfl) ?_
    first | refine d_pu 2 rfl (pu_fieldAddr0 rfl) (by kernel_rfl) (by kernel_rfl) (by kernel_rfl) ?_ | refine d_pu 2 rfl (pu_fieldAddr rfl) (by kernel_rfl) (by kernel_rfl) (by kernel_rfl) ?_
    refine d_rd 3 rfl (rd_load rfl rfl) rfl (by kernel_rfl) (by kernel_rfl) (by kernel_rfl) ?_
    refine d_pu 4 rfl (pu_len rfl) (by kernel_rfl) (by kernel_rfl) (by kernel_rfl) ?_
    refine d_pu 5 rfl (pu_gtr rfl rfl) (by kernel_rfl) (by kernel_rfl) (by kernel_rfl) ?_
    refine d_pu 6 rfl (pu_move rfl) (by kernel_rfl) (by kernel_rfl) (by kernel_rfl) ?_
    first | refine d_pu 7 rfl (pu_nilCheck rfl) (by kernel_rfl) (by kernel_rfl) (by kernel_rfl) ?_ | refine d_pu 7 rfl (pu_nilCheck_fn rfl) (by kernel_rfl) (by kernel_rfl) (by kernel_rfl) ?_ | refine d_pu 7 rfl (pu_nilCheck_if rfl) (by kernel_rfl) (by kernel_rfl) (by kernel_rfl) ?_
    first | refine d_pu 8 rfl (pu_fieldAddr0 rfl) (by kernel_rfl) (by kernel_rfl) (by kernel_rfl) ?_ | refine d_pu 8 rfl (pu_fieldAddr rfl) (by kernel_rfl) (by kernel_rfl) (by kernel_rfl) ?_
    refine d_rd 9 rfl (rd_load rfl rfl) rfl (by kernel_rfl) (by kernel_rfl) (by kernel_rfl) ?_
    refine d_pu 10 rfl (pu_assign rfl) (by kernel_rfl) (by kernel_rfl) (by kernel_rfl) ?_
    refine d_pu 11 rfl (pu_assign rfl) (by kernel_rfl) (by kernel_rfl) (by kernel_rfl) ?_
    refine d_pu 12 rfl (pu_assign rfl) (by kernel_rfl) (by kernel_rfl) (by kernel_rfl) ?_
    refine d_pu 13 rfl (pu_assign rfl) (by kernel_rfl) (by kernel_rfl) (by kernel_rfl) ?_
    refine d_sub _ (.cons (t := 8) rfl (.cons (t := 9) rfl (.cons (t := 10) rfl (.cons (t := 11) rfl .nil)))) ?_
    first | refine d_nilt (by kernel_rfl) ?_ | refine d_nilf (by kernel_rfl) ?_
    refine then_n ?_
    refine swp_ret ?_
    refine done_retE [own 52 2 (.slice A3 t.length c2) t.length (ens t), W.A s3, ro μ3] (.tmp rfl (.tmp rfl (.tmp rfl (.tmp rfl .nil)))) ⟨_, s3, μ3, h1.trans (h2.trans h3), fun c => Nat.le_trans (hs3 c) (by omega), q3, ?_, rfl⟩ (Split.ent' (by repeat (first | exact Split.nil | (apply Split.cons; (repeat (first | with_reducible exact Take.here | apply Take.there))))))
    show Value.tuple #[_, .bool _, _, _] = _
    simp
end SX
namespace SX
open Go Go.Proofs
theorem virtV_in {W : HW} {a b limit : Int} (h : (virtV W a b limit).2.2.2 = 0) (hn : W.n ≤ 10000) : ∃ i j : Nat, a = (i : Int) ∧ b = (j : Int) ∧ i < W.n ∧ j < W.n := by
  have h1 : askedV W.n a b = 0 := by
    by_cases e : askedV W.n a b = 0
    · exact e
    · unfold virtV at h; rw [if_pos e] at h; exact absurd h e
  unfold askedV at h1
  have h2 : ¬ (min a b < 0 ∨ min (W.n : Int) 65536 ≤ max a b) := fun hc => by rw [if_pos hc] at h1; cases h1
  exact ⟨a.toNat, b.toNat, by omega, by omega, by omega, by omega⟩
/-- the merge over it: tree, conflicts, steps, error -/
def mergeV (W : HW) (a b limit : Int) : List En × List Cf × Int × Int :=
  if (virtV W a b limit).2.2.2 ≠ 0 then ([], [], 0, (virtV W a b limit).2.2.2) else
  (VM (virtV W a b limit).1 (VT W a) (VT W b), cfR (rowsB (virtV W a b limit).1 (VT W a) (VT W b)), (virtV W a b limit).2.2.1, 0)
set_option maxHeartbeats 4000000 in
theorem vmerge_spec (W : HW) (μ0 : PH) (hW : W.Ok μ0) (hn : W.n ≤ 10000) (μ : PH) (h0 : Le μ0 μ) (hT : RowAt μ 1 0 tabV) (s : HSt) (m : Nat) (hs : AskB m s) (hm : m + 4098 ≤ 4611686018427387904) (a b limit : Int) :
  Spec Tryd.prog 12 [W.sv, .int .i64 a, .int .i64 b, .int .i64 limit] [W.A s, ro μ] (fun r L => ∃ (tv cv : Value) (s' : HSt) (μ' : PH), Le μ μ' ∧ AskB (m + 4097) s' ∧ TOk W.U (mergeV W a b limit).1 ∧ r = .tuple #[tv, cv, .int .i64 (mergeV W a b limit).2.2.1, .int .i64 (mergeV W a b limit).2.2.2] ∧
   L = [own 52 2 tv (mergeV W a b limit).1.length (ens (mergeV W a b limit).1), own 96 4 cv (mergeV W a b limit).2.1.length (cfs (mergeV W a b limit).2.1), W.A s', ro μ']) := by
 have hUl := HW.U_len hW hn
 refine Spec.of 45 Tryd.func12 rfl rfl rfl ?_
 refine swp_seq ?_
 refine swp_region ?_
 refine s_pu (pu_assign rfl) ?_
 refine s_pu (pu_assign rfl) ?_
 refine s_pu (pu_assign rfl) ?_
 refine s_pu (pu_assign rfl) ?_
 refine swl_sub _ (.cons (t := 0) rfl (.cons (t := 1) rfl (.cons (t := 2) rfl (.cons (t := 3) rfl .nil)))) ?_
 refine swl_nil ?_
 refine then_n ?_
 refine swp_seq ?_
 refine swp_region ?_
 refine s_pu (pu_move rfl) ?_
 refine s_pu (pu_move rfl) ?_
 refine s_pu (pu_move rfl) ?_
 refine s_pu (pu_move rfl) ?_
 refine s_ef (ef_fn (virtual_spec W μ0 hW hn μ h0 hT s m hs hm a b limit) rfl rfl (by repeat (first | exact Split.nil | (apply Split.cons; (repeat (first | with_reducible exact Take.here | apply Take.there)))))) ?_
 rintro v23 L1 ⟨tv, s1, μ1, h1, hs1, ht, rfl, rfl⟩
 refine swl_app ?_
 refine s_pu (pu_move rfl) ?_
 first | refine s_pu (pu_extractL rfl) ?_ | refine s_pu (pu_extract rfl rfl) ?_
 first | refine s_pu (pu_extractL rfl) ?_ | refine s_pu (pu_extract rfl rfl) ?_
 first | refine s_pu (pu_extractL rfl) ?_ | refine s_pu (pu_extract rfl rfl) ?_
 first | refine s_pu (pu_extractL rfl) ?_ | refine s_pu (pu_extract rfl rfl) ?_
 refine s_pu (pu_assign rfl) ?_
 refine s_pu (pu_assign rfl) ?_
 refine s_pu (pu_assign rfl) ?_
 refine s_pu (pu_assign rfl) ?_
 refine swl_sub _ (.cons (t := 0) rfl (.cons (t := 1) rfl (.cons (t := 2) rfl (.cons (t := 12) rfl (.cons (t := 14) rfl (.cons (t := 15) rfl .nil)))))) ?_
 refine swl_nil ?_
 refine then_n ?_
 refine swp_seq ?_
 refine swp_seq ?_
 refine swp_region ?_
 refine s_pu (pu_move rfl) ?_
 refine s_pu (pu_neq rfl rfl) ?_
 refine swl_sub _ (.cons (t := 0) rfl (.cons (t := 1) rfl (.cons (t := 2) rfl (.cons (t := 12) rfl (.cons (t := 14) rfl (.cons (t := 15) rfl (.cons (t := 29) rfl .nil))))))) ?_
 refine swl_nil ?_
 refine then_n ?_
 refine swp_cond (b := _) rfl (fun h29 => ?_) (fun h29 => ?_)
 ·skip
  refine swp_seq ?_
  refine swp_region ?_
  refine s_pu (pu_move rfl) ?_
  refine s_pu (pu_assign rfl) ?_
  refine s_pu (pu_assign rfl) ?_
  refine s_pu (pu_assign rfl) ?_
  refine s_pu (pu_assign rfl) ?_
  refine swl_sub _ (.cons (t := 8) rfl (.cons (t := 9) rfl (.cons (t := 10) rfl (.cons (t := 11) rfl .nil)))) ?_
  refine swl_nil ?_
  refine then_n ?_
  refine swp_ret ?_
  refine then_r ?_
  have h29' : (virtV W a b limit).2.2.2 ≠ 0 := fun e => by rw [e] at h29; exact absurd h29 (by decide)
  have e : mergeV W a b limit = ([], [], 0, (virtV W a b limit).2.2.2) := by unfold mergeV; rw [if_pos h29']
  rw [e]
  exact done_retE [own 52 2 (.slice none 0 0) 0 [], own 96 4 (.slice none 0 0) 0 [], W.A s1, ro μ1] (.tmp rfl (.tmp rfl (.tmp rfl (.tmp rfl .nil)))) ⟨_, _, s1, μ1, h1, hs1, TOk.nil _, rfl, rfl⟩ (own_nil_ent.trans (own_nil_ent.trans (Split.ent' (K := [own 52 2 (.slice none 0 0) 0 [], own 96 4 (.slice none 0 0) 0 [], W.A s1, ro μ1]) (by repeat (first | exact Split.nil | (apply Split.cons; (repeat (first | with_reducible exact Take.here | apply Take.there))))))))
 ·skip
  have h29' : (virtV W a b limit).2.2.2 = 0 := by
   by_cases e : (virtV W a b limit).2.2.2 = 0
   ·exact e
   ·rw [decide_eq_false e] at h29; cases h29
  obtain ⟨i, j, ha, hb, hi, hj⟩ := virtV_in h29' hn
  have e : mergeV W a b limit = (VM (virtV W a b limit).1 (VT W a) (VT W b), cfR (rowsB (virtV W a b limit).1 (VT W a) (VT W b)), (virtV W a b limit).2.2.1, 0) := by unfold mergeV; rw [if_neg (not_not_intro h29')]
  rw [e]
  have eT : ∀ k : Nat, VT W (k : Int) = treeOf W.T k := fun k => rfl
  generalize virtV W a b limit = V at *
  subst ha hb
  rw [eT, eT]
  refine swp_share_own (e := 52) (n := 2) (v := tv) (μ := μ1) (by repeat (first | exact Split.nil | (apply Split.cons; (repeat (first | with_reducible exact Take.here | apply Take.there))))) fun μ2 h2 rT => ?_
  have hW2 := hW.le (h0.trans (h1.trans h2))
  refine swp_skip ?_
  refine then_n ?_
  refine swp_seq ?_
  refine swp_region ?_
  refine s_pu (pu_move rfl) ?_
  refine s_pu (pu_move rfl) ?_
  refine s_pu (pu_move rfl) ?_
  refine s_ef (ef_invS rfl (Nat.zero_le _) (hcontentR W μ2 hW2 s1 i hi) rfl (by repeat (first | exact Split.nil | (apply Split.cons; (repeat (first | with_reducible exact Take.here | apply Take.there)))))) ?_
  rintro v35 L1 ⟨μ3, h3, rA, rfl⟩
  refine swl_app ?_
  refine s_pu (pu_move rfl) ?_
  refine s_pu (pu_move rfl) ?_
  refine s_ef (ef_invS rfl (Nat.zero_le _) (hcontentR W μ3 (hW2.le h3) (lookS s1 i) j hj) rfl (by repeat (first | exact Split.nil | (apply Split.cons; (repeat (first | with_reducible exact Take.here | apply Take.there)))))) ?_
  rintro v38 L1 ⟨μ4, h4, rB, rfl⟩
  refine swl_app ?_
  refine s_ef (ef_fn (three_form μ4 tv v35 v38 V.1 (treeOf W.T i) (treeOf W.T j) (rT.le (h3.trans h4)) (rA.le h4) rB ⟨by have := ht.len; omega, by have := (vt_ok hW2 hi).len; omega, by have := (vt_ok hW2 hj).len; omega⟩ ⟨ht.u32, (vt_ok hW2 hi).u32, (vt_ok hW2 hj).u32⟩) rfl rfl (by repeat (first | exact Split.nil | (apply Split.cons; (repeat (first | with_reducible exact Take.here | apply Take.there)))))) ?_
  rintro v39 L1 ⟨A8, k8, v9, μ5, h5, rfl, rfl⟩
  refine swl_app ?_
  refine s_pu (pu_move rfl) ?_
  first | refine s_pu (pu_extractL rfl) ?_ | refine s_pu (pu_extract rfl rfl) ?_
  first | refine s_pu (pu_extractL rfl) ?_ | refine s_pu (pu_extract rfl rfl) ?_
  refine s_pu (pu_assign rfl) ?_
  refine s_pu (pu_assign rfl) ?_
  refine swl_sub _ (.cons (t := 14) rfl (.cons (t := 16) rfl (.cons (t := 17) rfl .nil))) ?_
  refine swl_nil ?_
  refine then_n ?_
  refine swp_seq ?_
  refine swp_region ?_
  refine s_pu (pu_move rfl) ?_
  refine s_pu (pu_move rfl) ?_
  refine s_pu (pu_move rfl) ?_
  refine s_pu (pu_assign rfl) ?_
  refine s_pu (pu_assign rfl) ?_
  refine s_pu (pu_assign rfl) ?_
  refine s_pu (pu_assign rfl) ?_
  refine swl_sub _ (.cons (t := 8) rfl (.cons (t := 9) rfl (.cons (t := 10) rfl (.cons (t := 11) rfl .nil)))) ?_
  refine swl_nil ?_
  refine then_n ?_
  refine swp_ret ?_
  exact done_retE [own 52 2 (.slice A8 (VM V.1 (treeOf W.T i) (treeOf W.T j)).length k8) (VM V.1 (treeOf W.T i) (treeOf W.T j)).length (ens (VM V.1 (treeOf W.T i) (treeOf W.T j))), own 96 4 v9 (cfR (rowsB V.1 (treeOf W.T i) (treeOf W.T j))).length (cfs (cfR (rowsB V.1 (treeOf W.T i) (treeOf W.T j)))), W.A (lookS (lookS s1 i) j), ro μ5] (.tmp rfl (.tmp rfl (.tmp rfl (.tmp rfl .nil)))) ⟨_, _, lookS (lookS s1 i) j, μ5, h1.trans (h2.trans (h3.trans (h4.trans h5))), fun c => hs1 c, ht.merge (vt_ok hW2 hi) (vt_ok hW2 hj), rfl, rfl⟩ (Split.ent' (by repeat (first | exact Split.nil | (apply Split.cons; (repeat (first | with_reducible exact Take.here | apply Take.there))))))
end SX
namespace SX
open Go Go.Proofs
theorem trow {μ : PH} {vT : Value} {T : List (Value × List En)} (hT : Row μ vT 1 T.length (T.flatMap gT)) {c : Nat} (hc : c < T.length) : ∃ b off cap, vT = .slice (some ⟨b, off, none⟩) T.length cap ∧ CellAt μ b (off + c * 1) (T[c]).1 := by
  obtain ⟨b, off, cap, hv, _, _, hr⟩ := hT.pos (by omega)
  exact ⟨b, off, cap, hv, (hr.elem (f := gT) (n := 1) (fun _ => rfl) (List.getElem?_eq_getElem hc)).cell⟩
theorem was_spec (μ : PH) (vG vT : Value) (G : List (Value × List Int)) (T : List (Value × List En)) (n : Nat) (hG : Graph μ vG G) (hT : Row μ vT 1 T.length (T.flatMap gT)) (hTr : ∀ t ∈ T, Row μ t.1 2 t.2.length (ens t.2) ∧ t.2.length ≤ 100 ∧ GoodT t.2 ∧ U32s t.2) (hTn : T.length = G.length) (hg : Good (nums G)) (hn : n < G.length) :
  Spec Tryd.prog 22 [vG, vT, .int .i64 (n : Nat)] [ro μ] (fun r L => ∃ t, Row μ r 2 t.length (ens t) ∧ t.length ≤ 100 ∧ GoodT t ∧ L = [ro μ]) := by
 obtain ⟨gb, off, cap, x, hv, hx, hxc, hxr, hnx⟩ := row_at hG hn
 refine Spec.of 22 Tryd.func22 rfl rfl rfl ?_
 refine swp_seq ?_
 refine swp_region ?_
 refine s_pu (pu_assign rfl) ?_
 refine swl_sub _ (.cons (t := 0) rfl (.cons (t := 1) rfl (.cons (t := 2) rfl .nil))) ?_
 refine swl_nil ?_
 refine then_n ?_
 refine swp_seq ?_
 refine swp_seq ?_
 refine swp_region ?_
 refine s_pu (pu_move rfl) ?_
 refine s_pu (pu_move rfl) ?_
 refine s_pu (pu_indexAddr (off + n * 1) (congrArg some hv) rfl (by omega) (by omega) (by rw [Int.toNat_natCast])) ?_
 refine s_rd (rd_ro rfl hxc) ?_
 refine s_pu (pu_len_row hxr rfl) ?_
 refine s_pu (pu_eql rfl rfl) ?_
 refine swl_sub _ (.cons (t := 0) rfl (.cons (t := 1) rfl (.cons (t := 2) rfl (.cons (t := 12) rfl .nil)))) ?_
 refine swl_nil ?_
 refine then_n ?_
 refine swp_cond (b := _) rfl (fun h12 => ?_) (fun h12 => ?_)
 ·skip
  refine swp_seq ?_
  refine swp_region ?_
  refine s_pu (pu_assign rfl) ?_
  refine swl_sub _ (.cons (t := 6) rfl .nil) ?_
  refine swl_nil ?_
  refine then_n ?_
  refine swp_ret ?_
  refine then_r ?_
  exact done_ret [ro μ] (.tmp rfl .nil) ⟨[], Row.nil _ _, Nat.zero_le _, good_nil, rfl⟩ (by repeat (first | exact Split.nil | (apply Split.cons; (repeat (first | with_reducible exact Take.here | apply Take.there)))))
 ·skip
  have h12' : ¬ x.2.length = 0 := by have := of_decide_eq_false h12; omega
  obtain ⟨c, rs, hrest⟩ : ∃ c rs, x.2 = c :: rs := by
   cases hq : x.2 with
   | nil => rw [hq] at h12'; exact absurd rfl h12'
   | cons c rs => exact ⟨c, rs, rfl⟩
  have hcin := hg n x.2 hnx c (by rw [hrest]; exact List.mem_cons_self ..)
  obtain ⟨k, rfl⟩ : ∃ k : Nat, c = (k : Int) := ⟨c.toNat, by omega⟩
  have hkn : k < T.length := by omega
  obtain ⟨pb, po, pc, hpv, hpc⟩ := hxr.at_ (show x.2[0]? = some (k : Int) by rw [hrest]; rfl)
  obtain ⟨tb, to, tc, htv, htc⟩ := trow hT hkn
  have ht := hTr _ (List.getElem_mem hkn)
  refine swp_skip ?_
  refine then_n ?_
  refine swp_seq ?_
  refine swp_region ?_
  refine s_pu (pu_move rfl) ?_
  refine s_pu (pu_move rfl) ?_
  refine s_pu (pu_move rfl) ?_
  refine s_pu (pu_indexAddr (off + n * 1) (congrArg some hv) rfl (by omega) (by omega) (by rw [Int.toNat_natCast])) ?_
  refine s_rd (rd_ro rfl hxc) ?_
  refine s_pu (pu_indexAddr (po + 0 * 1) (congrArg some hpv) rfl (by omega) (by omega) rfl) ?_
  refine s_rd (rd_ro rfl hpc) ?_
  refine s_pu (pu_indexAddr (to + k * 1) (congrArg some htv) rfl (by omega) (by omega) (by rw [Int.toNat_natCast])) ?_
  refine s_rd (rd_ro rfl htc) ?_
  refine s_pu (pu_assign rfl) ?_
  refine swl_sub _ (.cons (t := 6) rfl .nil) ?_
  refine swl_nil ?_
  refine then_n ?_
  refine swp_ret ?_
  exact done_ret [ro μ] (.tmp rfl .nil) ⟨_, ht.1, ht.2.1, ht.2.2.1, rfl⟩ (by repeat (first | exact Split.nil | (apply Split.cons; (repeat (first | with_reducible exact Take.here | apply Take.there)))))
end SX
