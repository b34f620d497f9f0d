/- The number of bits of a word, as math/bits counts them; plain arithmetic. -/
import Derived.Test.YtfbfmokgpdmcfaaDoorSxOps2
namespace SX

/-- digits of k bits each -/
def Dg (k : Nat) : List Nat → Nat
  | [] => 0
  | d :: ds => d + 2 ^ k * Dg k ds
/-- the mask that takes every other digit -/
def Mk (k : Nat) : Nat → Nat
  | 0 => 0
  | n + 1 => (2 ^ k - 1) + 2 ^ (2 * k) * Mk k n
/-- neighbours added -/
def ps : List Nat → List Nat
  | a :: b :: r => (a + b) :: ps r
  | _ => []

theorem and_split (K : Nat) {a c : Nat} (b d : Nat) (ha : a < 2 ^ K) (hc : c < 2 ^ K) : (a + 2 ^ K * b) &&& (c + 2 ^ K * d) = (a &&& c) + 2 ^ K * (b &&& d) := by
  have h1 : (a &&& c) < 2 ^ K := Nat.and_lt_two_pow a hc
  apply Nat.eq_of_testBit_eq
  intro i
  rw [Nat.testBit_and, Nat.add_comm a, Nat.add_comm c, Nat.add_comm (a &&& c), Nat.testBit_two_pow_mul_add _ ha, Nat.testBit_two_pow_mul_add _ hc, Nat.testBit_two_pow_mul_add _ h1]
  split
  · rw [Nat.testBit_and]
  · rw [Nat.testBit_and]
theorem low_and (k : Nat) {a b : Nat} (ha : a < 2 ^ k) : (a + 2 ^ k * b) &&& (2 ^ k - 1) = a := by
  rw [Nat.and_two_pow_sub_one_eq_mod, Nat.add_mul_mod_self_left, Nat.mod_eq_of_lt ha]
theorem two_mul_pow (k : Nat) : 2 ^ (2 * k) = 2 ^ k * 2 ^ k := by rw [Nat.two_mul, Nat.pow_add]
theorem lt_two {k a b : Nat} (ha : a < 2 ^ k) (hb : b < 2 ^ k) : a + 2 ^ k * b < 2 ^ (2 * k) := by
  rw [two_mul_pow]
  have : 2 ^ k * b + 2 ^ k ≤ 2 ^ k * 2 ^ k := by rw [← Nat.mul_succ]; exact Nat.mul_le_mul_left _ hb
  omega
theorem mk_lt (k : Nat) : 2 ^ k - 1 < 2 ^ (2 * k) := by
  have h1 : 0 < 2 ^ k := Nat.two_pow_pos k
  have h2 : 2 ^ k ≤ 2 ^ (2 * k) := Nat.pow_le_pow_right (by decide) (by omega)
  omega

/-- every other digit, from the first one -/
def evs : List Nat → List Nat
  | a :: _ :: r => a :: evs r
  | _ => []
def ods : List Nat → List Nat
  | _ :: b :: r => b :: ods r
  | _ => []
theorem and_evens (k : Nat) : ∀ (n : Nat) (ds : List Nat), ds.length = 2 * n → (∀ d ∈ ds, d < 2 ^ k) → Dg k ds &&& Mk k n = Dg (2 * k) (evs ds)
  | 0, [], _, _ => by simp [Dg, evs]
  | n + 1, a :: b :: r, hl, hd => by
    have ih := and_evens k n r (by simp at hl; omega) (fun d h => hd d (by simp [h]))
    have ha := hd a (by simp)
    have hb := hd b (by simp)
    have e : Dg k (a :: b :: r) = (a + 2 ^ k * b) + 2 ^ (2 * k) * Dg k r := by
      simp only [Dg]; rw [two_mul_pow, Nat.mul_add, Nat.mul_assoc]; omega
    rw [e, Mk, and_split (2 * k) _ _ (lt_two ha hb) (mk_lt k), low_and k ha, ih]
    rfl
theorem and_odds (k : Nat) : ∀ (n : Nat) (ds : List Nat), ds.length = 2 * n → (∀ d ∈ ds, d < 2 ^ k) → (Dg k ds >>> k) &&& Mk k n = Dg (2 * k) (ods ds)
  | 0, [], _, _ => by simp [Dg, ods]
  | n + 1, a :: b :: r, hl, hd => by
    have ih := and_odds k n r (by simp at hl; omega) (fun d h => hd d (by simp [h]))
    have ha := hd a (by simp)
    have hb := hd b (by simp)
    have e : Dg k (a :: b :: r) >>> k = (b + 2 ^ k * (Dg k r % 2 ^ k)) + 2 ^ (2 * k) * (Dg k r >>> k) := by
      simp only [Dg]
      rw [Nat.shiftRight_eq_div_pow, Nat.shiftRight_eq_div_pow, Nat.add_mul_div_left _ _ (Nat.two_pow_pos k), Nat.div_eq_of_lt ha, Nat.zero_add, two_mul_pow, Nat.mul_assoc, Nat.add_assoc, ← Nat.mul_add]
      congr 2
      exact (Nat.mod_add_div _ _).symm
    rw [e, Mk, and_split (2 * k) _ _ (lt_two hb (Nat.mod_lt _ (Nat.two_pow_pos k))) (mk_lt k), low_and k hb, ih]
    rfl
theorem dg_add (K : Nat) : ∀ ds : List Nat, Dg K (ods ds) + Dg K (evs ds) = Dg K (ps ds)
  | [] => rfl
  | [_] => rfl
  | a :: b :: r => by
    have ih := dg_add K r
    simp only [ods, evs, ps, Dg]
    rw [← ih, Nat.mul_add]; omega
/-- one step of the count -/
theorem pop_step (k n : Nat) (ds : List Nat) (hl : ds.length = 2 * n) (hd : ∀ d ∈ ds, d < 2 ^ k) : ((Dg k ds >>> k) &&& Mk k n) + (Dg k ds &&& Mk k n) = Dg (2 * k) (ps ds) := by
  rw [and_odds k n ds hl hd, and_evens k n ds hl hd, dg_add]
/-- neighbours added, all of them -/
def nb : List Nat → List Nat
  | [] => []
  | [a] => [a]
  | a :: b :: r => (a + b) :: nb (b :: r)
theorem nb_len : ∀ ds : List Nat, (nb ds).length = ds.length
  | [] => rfl
  | [_] => rfl
  | a :: b :: r => by simp only [nb, List.length_cons]; rw [nb_len (b :: r)]; rfl
theorem dg_nb (k : Nat) : ∀ ds : List Nat, (∀ d ∈ ds, d < 2 ^ k) → Dg k ds >>> k + Dg k ds = Dg k (nb ds)
  | [], _ => by simp [Dg, nb]
  | [a], h => by
    have ha := h a (by simp)
    simp [Dg, nb, Nat.shiftRight_eq_div_pow, Nat.div_eq_of_lt ha]
  | a :: b :: r, h => by
    have ha := h a (by simp)
    have ih := dg_nb k (b :: r) (fun d hd => h d (by simp at hd ⊢; right; exact hd))
    have hb := h b (by simp)
    have e1 : Dg k (a :: b :: r) >>> k = Dg k (b :: r) := by
      rw [Dg, Nat.shiftRight_eq_div_pow, Nat.add_mul_div_left _ _ (Nat.two_pow_pos k), Nat.div_eq_of_lt ha, Nat.zero_add]
    have e2 : Dg k (b :: r) >>> k = Dg k r := by
      rw [Dg, Nat.shiftRight_eq_div_pow, Nat.add_mul_div_left _ _ (Nat.two_pow_pos k), Nat.div_eq_of_lt hb, Nat.zero_add]
    rw [e1]
    rw [e2] at ih
    show Dg k (b :: r) + (a + 2 ^ k * Dg k (b :: r)) = (a + b) + 2 ^ k * Dg k (nb (b :: r))
    rw [← ih, Nat.mul_add]
    simp only [Dg]
    omega
theorem evs_nb : ∀ ds : List Nat, ds.length % 2 = 0 → evs (nb ds) = ps ds
  | [], _ => rfl
  | [_], h => by simp at h
  | [a, b], _ => rfl
  | a :: b :: c :: r, h => by
    simp only [nb, evs, ps]
    rw [← evs_nb (c :: r) (by simp at h ⊢; omega)]
theorem ps_len : ∀ ds : List Nat, (ps ds).length = ds.length / 2
  | [] => rfl
  | [_] => by simp [ps]
  | a :: b :: r => by simp only [ps, List.length_cons]; rw [ps_len r]; omega
theorem ps_sum : ∀ ds : List Nat, ds.length % 2 = 0 → (ps ds).sum = ds.sum
  | [], _ => rfl
  | [_], h => by simp at h
  | a :: b :: r, h => by simp only [ps, List.sum_cons]; rw [ps_sum r (by simp at h; omega)]; omega
theorem ps_le (m : Nat) : ∀ ds : List Nat, (∀ d ∈ ds, d ≤ m) → ∀ d ∈ ps ds, d ≤ 2 * m
  | [], _, d, h => by simp [ps] at h
  | [_], _, d, h => by simp [ps] at h
  | a :: b :: r, hd, d, h => by
    simp only [ps, List.mem_cons] at h
    rcases h with rfl | h
    · have := hd a (by simp); have := hd b (by simp); omega
    · exact ps_le m r (fun x hx => hd x (by simp [hx])) d h
theorem nb_le (m : Nat) : ∀ ds : List Nat, (∀ d ∈ ds, d ≤ m) → ∀ d ∈ nb ds, d ≤ 2 * m
  | [], _, d, h => by simp [nb] at h
  | [a], hd, d, h => by simp [nb] at h; subst h; have := hd d (by simp); omega
  | a :: b :: r, hd, d, h => by
    simp only [nb, List.mem_cons] at h
    rcases h with rfl | h
    · have := hd a (by simp); have := hd b (by simp); omega
    · exact nb_le m (b :: r) (fun x hx => hd x (by simp at hx ⊢; right; exact hx)) d h

theorem dg_bits : ∀ (n x : Nat), x < 2 ^ n → x = Dg 1 ((List.range n).map fun i => (x.testBit i).toNat)
  | 0, x, h => by simp at h; subst h; rfl
  | n + 1, x, h => by
    have ih := dg_bits n (x / 2) (by rw [Nat.pow_succ] at h; omega)
    rw [List.range_succ_eq_map, List.map_cons, List.map_map, Dg]
    have e : ((fun i => (x.testBit i).toNat) ∘ Nat.succ) = fun i => ((x / 2).testBit i).toNat := by
      funext i; simp [Nat.testBit_succ]
    rw [e, ← ih, Nat.testBit_zero]
    rcases Nat.mod_two_eq_zero_or_one x with h0 | h0 <;> simp [h0] <;> omega

theorem shr_of {k y : Nat} (lo hi : Nat) (h : y = lo + 2 ^ k * hi) (hlo : lo < 2 ^ k) : y >>> k = hi := by
  rw [h, Nat.shiftRight_eq_div_pow, Nat.add_mul_div_left _ _ (Nat.two_pow_pos k), Nat.div_eq_of_lt hlo, Nat.zero_add]
/-- what math/bits.OnesCount64 reckons -/
def onesN (x : Nat) : Nat :=
  let a := ((x >>> 1) &&& 6148914691236517205) + (x &&& 6148914691236517205)
  let b := ((a >>> 2) &&& 3689348814741910323) + (a &&& 3689348814741910323)
  let c := ((b >>> 4) + b) &&& 1085102592571150095
  let d := c + (c >>> 8)
  let e := d + (d >>> 16)
  let f := e + (e >>> 32)
  f &&& 127
theorem pop_tail (c0 c1 c2 c3 c4 c5 c6 c7 c : Nat) (g0 : c0 ≤ 8) (g1 : c1 ≤ 8) (g2 : c2 ≤ 8) (g3 : c3 ≤ 8) (g4 : c4 ≤ 8) (g5 : c5 ≤ 8) (g6 : c6 ≤ 8) (g7 : c7 ≤ 8)
    (hce : c = c0 + 256 * (c1 + 256 * (c2 + 256 * (c3 + 256 * (c4 + 256 * (c5 + 256 * (c6 + 256 * c7))))))) :
    ∃ d e f : Nat, d = c + (c >>> 8) ∧ e = d + (d >>> 16) ∧ f = e + (e >>> 32) ∧ d < 18446744073709551616 ∧ e < 18446744073709551616 ∧ f < 9223372036854775808 ∧ f &&& 127 = c0 + c1 + c2 + c3 + c4 + c5 + c6 + c7 := by
  obtain ⟨d, hd⟩ : ∃ d, d = c + (c >>> 8) := ⟨_, rfl⟩
  have h8 := shr_of (k := 8) c0 (c1 + 256 * (c2 + 256 * (c3 + 256 * (c4 + 256 * (c5 + 256 * (c6 + 256 * c7)))))) hce (by omega)
  have hd' : d = (c0 + c1) + 256 * ((c1 + c2) + 256 * ((c2 + c3) + 256 * ((c3 + c4) + 256 * ((c4 + c5) + 256 * ((c5 + c6) + 256 * ((c6 + c7) + 256 * c7)))))) := by
    rw [hd, h8, hce]; omega
  obtain ⟨e, he⟩ : ∃ e, e = d + (d >>> 16) := ⟨_, rfl⟩
  have h16 := shr_of (k := 16) (y := d) ((c0 + c1) + 256 * (c1 + c2)) ((c2 + c3) + 256 * ((c3 + c4) + 256 * ((c4 + c5) + 256 * ((c5 + c6) + 256 * ((c6 + c7) + 256 * c7))))) (by rw [hd']; omega) (by omega)
  have he' : e = (c0 + c1 + c2 + c3) + 256 * ((c1 + c2 + c3 + c4) + 256 * ((c2 + c3 + c4 + c5) + 256 * ((c3 + c4 + c5 + c6) + 256 * ((c4 + c5 + c6 + c7) + 256 * ((c5 + c6 + c7) + 256 * ((c6 + c7) + 256 * c7)))))) := by
    rw [he, h16, hd']; omega
  obtain ⟨f, hf⟩ : ∃ f, f = e + (e >>> 32) := ⟨_, rfl⟩
  have h32 := shr_of (k := 32) (y := e) ((c0 + c1 + c2 + c3) + 256 * ((c1 + c2 + c3 + c4) + 256 * ((c2 + c3 + c4 + c5) + 256 * (c3 + c4 + c5 + c6)))) ((c4 + c5 + c6 + c7) + 256 * ((c5 + c6 + c7) + 256 * ((c6 + c7) + 256 * c7))) (by rw [he']; clear hd' h16 h8 hce hd he he'; omega) (by clear hd' h16 h8 hce hd he he'; omega)
  have hf' : f = (c0 + c1 + c2 + c3 + c4 + c5 + c6 + c7) + 256 * ((c1 + c2 + c3 + c4 + c5 + c6 + c7) + 256 * ((c2 + c3 + c4 + c5 + c6 + c7) + 256 * ((c3 + c4 + c5 + c6 + c7) + 256 * ((c4 + c5 + c6 + c7) + 256 * ((c5 + c6 + c7) + 256 * ((c6 + c7) + 256 * c7)))))) := by
    rw [hf, h32, he']; clear hd' h16 h8 h32 hce hd he he' hf; omega
  refine ⟨d, e, f, hd, he, hf, ?_, ?_, ?_, ?_⟩
  · rw [hd']; clear hd' h16 h8 h32 hce hd he he' hf hf'; omega
  · rw [he']; clear hd' h16 h8 h32 hce hd he he' hf hf'; omega
  · rw [hf']; clear hd' h16 h8 h32 hce hd he he' hf hf'; omega
  · have : (127 : Nat) = 2 ^ 7 - 1 := rfl
    rw [this, Nat.and_two_pow_sub_one_eq_mod, hf']
    clear hd' h16 h8 h32 hce hd he he' hf hf' this; omega
theorem mk1 : Mk 1 32 = 6148914691236517205 := by decide
theorem mk2 : Mk 2 16 = 3689348814741910323 := by decide
theorem mk4 : Mk 4 8 = 1085102592571150095 := by decide
theorem onesN_eq (x : Nat) (hx : x < 2 ^ 64) : onesN x = ((List.range 64).map fun i => (x.testBit i).toNat).sum ∧
    (∃ a b c : Nat, a = ((x >>> 1) &&& 6148914691236517205) + (x &&& 6148914691236517205) ∧ b = ((a >>> 2) &&& 3689348814741910323) + (a &&& 3689348814741910323) ∧ c = ((b >>> 4) + b) &&& 1085102592571150095 ∧ a < 2 ^ 64 ∧ (b >>> 4) + b < 2 ^ 64 ∧ b < 2 ^ 64 ∧ c + (c >>> 8) < 2 ^ 64 ∧ (c + (c >>> 8)) + ((c + (c >>> 8)) >>> 16) < 2 ^ 64 ∧ ((c + (c >>> 8)) + ((c + (c >>> 8)) >>> 16)) + (((c + (c >>> 8)) + ((c + (c >>> 8)) >>> 16)) >>> 32) < 2 ^ 64 ∧ ((c + (c >>> 8)) + ((c + (c >>> 8)) >>> 16)) + (((c + (c >>> 8)) + ((c + (c >>> 8)) >>> 16)) >>> 32) < 9223372036854775808) := by
  obtain ⟨bs, hbs⟩ : ∃ bs, bs = (List.range 64).map fun i => (x.testBit i).toNat := ⟨_, rfl⟩
  have hlen : bs.length = 64 := by rw [hbs]; simp
  have hb1 : ∀ d ∈ bs, d ≤ 1 := by
    intro d hd
    rw [hbs] at hd
    obtain ⟨i, _, rfl⟩ := List.mem_map.1 hd
    exact Bool.toNat_le _
  have hxb : x = Dg 1 bs := by rw [hbs]; exact dg_bits 64 x hx
  rw [← hbs]
  have s1 := pop_step 1 32 bs (by omega) (fun d h => by have := hb1 d h; omega)
  have l2 : (ps bs).length = 32 := by rw [ps_len]; omega
  have b2 := ps_le 1 bs hb1
  have s2 := pop_step 2 16 (ps bs) (by omega) (fun d h => by have := b2 d h; omega)
  have l4 : (ps (ps bs)).length = 16 := by rw [ps_len]; omega
  have b4 := ps_le 2 (ps bs) b2
  have s3 := dg_nb 4 (ps (ps bs)) (fun d h => by have := b4 d h; omega)
  have b5 := nb_le 4 (ps (ps bs)) b4
  have s4 := and_evens 4 8 (nb (ps (ps bs))) (by rw [nb_len]; omega) (fun d h => by have := b5 d h; omega)
  rw [evs_nb _ (by omega)] at s4
  have b8 := ps_le 4 (ps (ps bs)) b4
  have l8 : (ps (ps (ps bs))).length = 8 := by rw [ps_len]; omega
  have sum8 : (ps (ps (ps bs))).sum = bs.sum := by rw [ps_sum _ (by omega), ps_sum _ (by omega), ps_sum _ (by omega)]
  rw [mk1] at s1
  rw [mk2] at s2
  rw [mk4] at s4
  have hlt : ∀ (k : Nat) (ds : List Nat), (∀ d ∈ ds, d < 2 ^ k) → Dg k ds < 2 ^ (k * ds.length) := by
    intro k ds
    induction ds with
    | nil => intro _; simp [Dg]
    | cons d ds ih =>
      intro h
      have h1 := ih (fun x hx => h x (by simp [hx]))
      have h2 := h d (by simp)
      rw [List.length_cons, Nat.mul_succ, Nat.pow_add, Nat.mul_comm (2 ^ (k * ds.length))]
      have h3 : 2 ^ k * Dg k ds + 2 ^ k ≤ 2 ^ k * 2 ^ (k * ds.length) := by rw [← Nat.mul_succ]; exact Nat.mul_le_mul_left _ h1
      show d + 2 ^ k * Dg k ds < _
      omega
  have ea : ((x >>> 1) &&& 6148914691236517205) + (x &&& 6148914691236517205) = Dg 2 (ps bs) := by rw [hxb]; exact s1
  have eb : ((Dg 2 (ps bs) >>> 2) &&& 3689348814741910323) + (Dg 2 (ps bs) &&& 3689348814741910323) = Dg 4 (ps (ps bs)) := s2
  have ec : ((Dg 4 (ps (ps bs)) >>> 4) + Dg 4 (ps (ps bs))) &&& 1085102592571150095 = Dg 8 (ps (ps (ps bs))) := by rw [s3]; exact s4
  have la : Dg 2 (ps bs) < 2 ^ 64 := by have := hlt 2 (ps bs) (fun d h => by have := b2 d h; omega); rwa [l2] at this
  have lb : Dg 4 (ps (ps bs)) < 2 ^ 64 := by have := hlt 4 (ps (ps bs)) (fun d h => by have := b4 d h; omega); rwa [l4] at this
  have lb' : (Dg 4 (ps (ps bs)) >>> 4) + Dg 4 (ps (ps bs)) < 2 ^ 64 := by
    rw [s3]
    have := hlt 4 (nb (ps (ps bs))) (fun d h => by have := b5 d h; omega)
    rwa [nb_len, l4] at this
  obtain ⟨cs, hcs⟩ : ∃ cs, cs = ps (ps (ps bs)) := ⟨_, rfl⟩
  rw [← hcs] at ec l8 sum8 b8
  have h8 : ∃ c0 c1 c2 c3 c4 c5 c6 c7, cs = [c0, c1, c2, c3, c4, c5, c6, c7] := by
    match cs, l8 with
    | [c0, c1, c2, c3, c4, c5, c6, c7], _ => exact ⟨c0, c1, c2, c3, c4, c5, c6, c7, rfl⟩
  obtain ⟨c0, c1, c2, c3, c4, c5, c6, c7, rfl⟩ := h8
  have g0 := b8 c0 (by simp)
  have g1 := b8 c1 (by simp)
  have g2 := b8 c2 (by simp)
  have g3 := b8 c3 (by simp)
  have g4 := b8 c4 (by simp)
  have g5 := b8 c5 (by simp)
  have g6 := b8 c6 (by simp)
  have g7 := b8 c7 (by simp)
  have hs : c0 + c1 + c2 + c3 + c4 + c5 + c6 + c7 = bs.sum := by rw [← sum8]; simp only [List.sum_cons, List.sum_nil]; omega
  obtain ⟨c, hc⟩ : ∃ c, c = Dg 8 [c0, c1, c2, c3, c4, c5, c6, c7] := ⟨_, rfl⟩
  have hce : c = c0 + 256 * (c1 + 256 * (c2 + 256 * (c3 + 256 * (c4 + 256 * (c5 + 256 * (c6 + 256 * c7)))))) := by rw [hc]; simp [Dg]
  rw [← hc] at ec
  clear hc s1 s2 s3 s4 b2 b4 b5 hlt hb1 b8
  obtain ⟨d, e, f, hd, he, hf, ld, le, lf, hpop⟩ := pop_tail c0 c1 c2 c3 c4 c5 c6 c7 c g0 g1 g2 g3 g4 g5 g6 g7 hce
  refine ⟨?_, Dg 2 (ps bs), Dg 4 (ps (ps bs)), c, ea.symm, eb.symm, ec.symm, la, lb', lb, by rw [← hd]; exact ld, by rw [← hd, ← he]; exact le, by rw [← hd, ← he, ← hf]; exact Nat.lt_trans lf (by decide), by rw [← hd, ← he, ← hf]; exact lf⟩
  unfold onesN
  simp only [ea, eb, ec]
  rw [← hd, ← he, ← hf, hpop, hs]
end SX
