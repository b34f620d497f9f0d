/- A part of the proof: walks of the seat's functions, by the rules of the texts that it imports. -/
import Derived.Test.YtfbfmokgpdmcfaaDoorMdM6
namespace SX
open Go Go.Proofs

theorem mset_elim {f : FuncId} {args : List Value} {pre : List Assn} {post : Value → List Assn → Prop} {p n : Nat} {S : Nat → Bool} (h : ∀ v ws, Wf n ws S → Spec Tryd.prog f args (blk p 52 [.int .i64 (n : Nat), v] :: own 67 1 v ws.length (wcells ws) :: pre) post) : Spec Tryd.prog f args (mset p n S :: pre) post :=
  Spec.exA' fun x => h x.1.1 x.1.2 x.2
theorem has_eq {n : Nat} {ws : List (BitVec 64)} {S : Nat → Bool} (hw : Wf n ws S) (k : Int) : (decide (0 ≤ k) && (decide (k < n) && mem ws k.toNat)) = (decide (0 ≤ k) && S k.toNat) := by
  rw [hw.2.2.1]
  by_cases h0 : 0 ≤ k
  · by_cases h : k < n
    · simp [h]
    · rw [hw.2.2.2 k.toNat (by omega)]; simp
  · simp [h0]
theorem has_m (p n : Nat) (S : Nat → Bool) (k : Int) : Spec Tryd.prog 18 [.pointer (some ⟨p, 0, none⟩), .int .i64 k] [mset p n S] (fun r L => r = .bool (decide (0 ≤ k) && S k.toNat) ∧ L = [mset p n S]) := by
  refine mset_elim fun v ws hw => ?_
  refine Spec.ent3 (has_o p n v ws k hw.1 hw.2.1) ?_
  rintro r L ⟨rfl, rfl⟩
  exact ⟨_, mset_close hw, by rw [has_eq hw], rfl⟩
theorem size_m (p n : Nat) (S : Nat → Bool) : Spec Tryd.prog 16 [.pointer (some ⟨p, 0, none⟩)] [mset p n S] (fun r L => r = .int .i64 (n : Nat) ∧ L = [mset p n S]) := by
  refine mset_elim fun v ws hw => ?_
  intro E w hh
  refine ((size_b p n v).frame (R := [own 67 1 v ws.length (wcells ws)]) hh).mono ?_
  rintro e w' ⟨r, L, he, ⟨hr, rfl⟩, h'⟩
  exact ⟨r, _, he, ⟨hr, rfl⟩, h'.ent (mset_close hw)⟩
theorem put_m (p n : Nat) (S : Nat → Bool) (k : Int) : Spec Tryd.prog 31 [.pointer (some ⟨p, 0, none⟩), .int .i64 k] [mset p n S] (fun r L => r = .bool (decide (0 ≤ k) && (decide (k < n) && !S k.toNat)) ∧ L = [mset p n (fun j => S j || (decide (0 ≤ k ∧ k < n) && decide (j = k.toNat)))]) := by
  refine mset_elim fun v ws hw => ?_
  refine Spec.ent3 (put_o p n v ws k hw.1 hw.2.1) ?_
  rintro r L ⟨rfl, ws', h1, h2, rfl⟩
  refine ⟨_, mset_close (ws := ws') ⟨by rw [h1]; exact hw.1, hw.2.1, fun j => by rw [h2, hw.2.2.1], fun j hj => ?_⟩, by rw [hw.2.2.1], rfl⟩
  rw [hw.2.2.2 j hj, Bool.false_or]
  by_cases h : 0 ≤ k ∧ k < n
  · rw [decide_eq_false (show ¬ j = k.toNat by omega), Bool.and_false]
  · simp [h]
theorem drop_m (p n : Nat) (S : Nat → Bool) (k : Int) : Spec Tryd.prog 32 [.pointer (some ⟨p, 0, none⟩), .int .i64 k] [mset p n S] (fun r L => r = .bool (decide (0 ≤ k) && S k.toNat) ∧ L = [mset p n (fun j => S j && !(decide (0 ≤ k) && decide (j = k.toNat)))]) := by
  refine mset_elim fun v ws hw => ?_
  refine Spec.ent3 (drop_o p n v ws k hw.1 hw.2.1) ?_
  rintro r L ⟨rfl, ws', h1, h2, rfl⟩
  have hkn : ∀ j, j = k.toNat → 0 ≤ k → S j = true → k < n := fun j e h0 hs => by
    rcases Int.lt_or_le k n with h | h
    · exact h
    · rw [hw.2.2.2 j (by omega)] at hs; cases hs
  refine ⟨_, mset_close (ws := ws') ⟨by rw [h1]; exact hw.1, hw.2.1, fun j => ?_, fun j hj => by rw [hw.2.2.2 j hj]; rfl⟩, ?_, rfl⟩
  · rw [h2, hw.2.2.1]
    cases hs : S j with
    | false => rfl
    | true =>
      by_cases e : j = k.toNat
      · by_cases h0 : 0 ≤ k
        · simp [e, h0, hkn j e h0 hs]
        · simp [h0]
      · simp [e]
  · rw [has_eq hw]
theorem next_m (μ : PH) (p n : Nat) (S : Nat → Bool) (k : Int) (hT : RowAt μ 0 0 tabV) : Spec Tryd.prog 19 [.pointer (some ⟨p, 0, none⟩), .int .i64 k] [mset p n S, ro μ] (fun r L => ∃ x, r = .int .i64 x ∧ IsNext S k x ∧ L = [mset p n S, ro μ]) := by
  refine mset_elim fun v ws hw => ?_
  have hS : mem ws = S := funext hw.2.2.1
  refine Spec.ent3 (next_o μ p n v ws k hT hw.1 hw.2.1 (fun j hj => by rw [hS]; exact hw.2.2.2 j hj)) ?_
  rintro r L ⟨x, rfl, hx, rfl⟩
  rw [hS] at hx
  exact ⟨_, mset_close hw, x, rfl, hx, rfl⟩
theorem last_m (p n : Nat) (S : Nat → Bool) (k : Int) : Spec Tryd.prog 20 [.pointer (some ⟨p, 0, none⟩), .int .i64 k] [mset p n S] (fun r L => ∃ x, r = .int .i64 x ∧ IsLast S k x ∧ L = [mset p n S]) := by
  refine mset_elim fun v ws hw => ?_
  have hS : mem ws = S := funext hw.2.2.1
  refine Spec.ent3 (last_o p n v ws k hw.1 hw.2.1 (fun j hj => by rw [hS]; exact hw.2.2.2 j hj)) ?_
  rintro r L ⟨x, rfl, hx, rfl⟩
  rw [hS] at hx
  exact ⟨_, mset_close hw, x, rfl, hx, rfl⟩
theorem list_m (μ : PH) (p n : Nat) (S : Nat → Bool) (hT : RowAt μ 0 0 tabV) : Spec Tryd.prog 15 [.pointer (some ⟨p, 0, none⟩)] [mset p n S, ro μ] (fun r L => L = [own 3 1 r (elsTo n S).length ((elsTo n S).flatMap (icsk .i64)), mset p n S, ro μ]) := by
  refine mset_elim fun v ws hw => ?_
  have hS : mem ws = S := funext hw.2.2.1
  refine Spec.ent3 (list_o μ p n v ws hT hw.1 hw.2.1 (fun j hj => by rw [hS]; exact hw.2.2.2 j hj)) ?_
  rintro r L rfl
  rw [hS]
  exact ⟨_, Ent.cons (mset_close hw), rfl⟩
theorem count_m (p n : Nat) (S : Nat → Bool) : Spec Tryd.prog 17 [.pointer (some ⟨p, 0, none⟩)] [mset p n S] (fun r L => r = .int .i64 ((elsTo n S).length : Nat) ∧ L = [mset p n S]) := by
  refine mset_elim fun v ws hw => ?_
  have hS : mem ws = S := funext hw.2.2.1
  refine Spec.ent3 (count_o p n v ws hw.1 hw.2.1 (fun j hj => by rw [hS]; exact hw.2.2.2 j hj)) ?_
  rintro r L ⟨rfl, rfl⟩
  rw [hS]
  exact ⟨_, mset_close hw, rfl, rfl⟩

/-- one of three: what each does with the other set's words -/
theorem each_m (p n : Nat) (S : Nat → Bool) (ov : Value) (fid : Nat) [Body Tryd.prog fid] (g : BitVec 64 → BitVec 64 → BitVec 64) (gb : Bool → Bool → Bool) (o : Nat → BitVec 64) (X : Assn) (hf : ∀ x y, Spec Tryd.prog fid [wv x, wv y] [] (fun r L => r = wv (g x y) ∧ L = []))
    (hg : ∀ x y i, i < 64 → (g x y).getLsbD i = gb (x.getLsbD i) (y.getLsbD i)) (ho : ∀ i, i ≤ 1048576 → Spec Tryd.prog 60 [ov, .int .i64 (i : Nat)] [X] (fun r L => r = wv (o i) ∧ L = [X])) :
    Spec Tryd.prog 55 [.pointer (some ⟨p, 0, none⟩), ov, .func (.func fid) #[] #[]] [mset p n S, X] (fun r L => r = .tuple #[] ∧ L = [mset p n (fun k => decide (k < n) && gb (S k) ((o (k / 64)).getLsbD (k % 64))), X]) := by
  refine mset_elim fun v ws hw => ?_
  have hS : mem ws = S := funext hw.2.2.1
  refine Spec.pre ?_ (Ent.swap (L := [X]))
  refine Spec.own_cases (fun hv l0 _ => ?_) (fun b cap ex hv h1 h2 h3 h4 => ?_)
  · subst hv
    have hn0 : n = 0 := by have := hw.1; omega
    subst hn0
    intro E w hh
    refine ((each_0 p ov fid).frame (R := [X]) hh).mono ?_
    rintro e w' ⟨r, L, he, ⟨hr, rfl⟩, h'⟩
    have hws : ws = [] := List.eq_nil_of_length_eq_zero l0
    refine ⟨r, _, he, ⟨hr, rfl⟩, h'.ent ?_⟩
    refine Ent.trans ?_ (mset_close (v := .slice none 0 0) (ws := []) ⟨rfl, by decide, fun k => by simp [mem], fun _ _ => by simp⟩)
    exact Ent.cons own_nil_ent
  · subst hv
    refine Spec.ent3 (each_b p n b cap ws ex ov fid g o X hw.1 hw.2.1 hf (fun cur i _ hi _ => ?_)) ?_
    · have h := ho i (by have := hw.1; have := hw.2.1; omega)
      intro E w hh
      have hh2 : H E w ([X] ++ [blk b 67 (wcells cur ++ ex), blk p 52 [.int .i64 (n : Nat), .slice (some ⟨b, 0, none⟩) ws.length cap]]) := hh.ent (Split.ent' (by repeat (first | exact Split.nil | (apply Split.cons; (repeat (first | with_reducible exact Take.here | apply Take.there))))))
      refine (h.frame hh2).mono ?_
      rintro e w' ⟨r, L, he, ⟨hr, rfl⟩, h'⟩
      exact ⟨r, _, he, ⟨hr, rfl⟩, h'.ent (Ent.perm (List.perm_append_comm (l₁ := [X])))⟩
    · rintro r L ⟨rfl, ws', h5, h6, rfl⟩
      have hc := wown_close (b := b) (cap := cap) (ws := ws') (ex := ex) (L := [blk p 52 [.int .i64 (n : Nat), .slice (some ⟨b, 0, none⟩) ws.length cap], X]) (by omega) h2 (by rw [h5]; exact h4)
      have hwf : Wf n ws' (fun k => decide (k < n) && gb (S k) ((o (k / 64)).getLsbD (k % 64))) := by
        refine ⟨by rw [h5]; exact hw.1, hw.2.1, fun k => ?_, fun k hk => by show (decide (k < n) && _) = false; rw [decide_eq_false (by omega)]; rfl⟩
        rw [h6, hg _ _ _ (Nat.mod_lt _ (by decide)), ← hS]
        rfl
      have hm := mset_close (p := p) (v := .slice (some ⟨b, 0, none⟩) ws.length cap) (L := [X]) hwf
      rw [h5] at hc hm
      exact ⟨_, hc.trans (Ent.swap.trans hm), rfl, rfl⟩
theorem Spec.starred {P : Program} {f : FuncId} {args : List Value} {K : List Assn} {φ : Value → Prop} (h : Spec P f args K (fun r L => φ r ∧ L = K)) (R : List Assn) : Spec P f args [star (K ++ R)] (fun r L => φ r ∧ L = [star (K ++ R)]) := by
  intro E w hh
  have h2 : H E w (K ++ R) := by
    have := hh.ent (star_ent (K := K ++ R) (L := []))
    rwa [List.append_nil] at this
  refine (h.frame h2).mono ?_
  rintro e w' ⟨r, L, he, ⟨hr, rfl⟩, h'⟩
  exact ⟨r, _, he, ⟨hr, rfl⟩, h'.ent star_close1⟩

theorem or_x (p n : Nat) (S : Nat → Bool) (ov : Value) (o : Nat → BitVec 64) (X : Assn) (ho : ∀ i, i ≤ 1048576 → Spec Tryd.prog 60 [ov, .int .i64 (i : Nat)] [X] (fun r L => r = wv (o i) ∧ L = [X])) :
    Spec Tryd.prog 26 [.pointer (some ⟨p, 0, none⟩), ov] [mset p n S, X] (fun r L => r = .tuple #[] ∧ L = [mset p n (fun k => decide (k < n) && (S k || (o (k / 64)).getLsbD (k % 64))), X]) := by
  refine Spec.of 7 Tryd.func26 rfl rfl rfl ?_
  refine swp_region ?_
  refine s_pu (pu_move rfl) ?_
  refine s_pu (pu_move rfl) ?_
  refine s_ef (ef_fn (each_m p n S ov 56 (fun x y => x ||| y) (fun a b => (a || b)) o X or1 (fun x y i hi => by simp [BitVec.getLsbD_or]) ho) rfl rfl (by repeat (first | exact Split.nil | (apply Split.cons; (repeat (first | with_reducible exact Take.here | apply Take.there)))))) ?_
  rintro v1 L1 ⟨rfl, rfl⟩
  refine swl_app ?_
  refine swl_sub _ .nil ?_
  refine swl_nil ?_
  exact done_end _ .nil ⟨rfl, rfl⟩ (by repeat (first | exact Split.nil | (apply Split.cons; (repeat (first | with_reducible exact Take.here | apply Take.there)))))
theorem or_m (p n q m : Nat) (S T : Nat → Bool) : Spec Tryd.prog 26 [.pointer (some ⟨p, 0, none⟩), .pointer (some ⟨q, 0, none⟩)] [mset p n S, mset q m T] (fun r L => r = .tuple #[] ∧ L = [mset p n (fun k => decide (k < n) && (S k || T k)), mset q m T]) := by
  refine Spec.pre ?_ Ent.swap
  refine mset_elim fun v ws hw => ?_
  refine Spec.pre ?_ (Ent.trans (L2 := star (opn q m v ws) :: [mset p n S]) (star_close (K := opn q m v ws)) Ent.swap)
  refine Spec.ent3 (or_x p n S _ (fun i => ws.getD i 0#64) (star (opn q m v ws)) (fun i hi => by have := Spec.starred (word_o q m v ws i hi) []; rwa [List.append_nil] at this)) ?_
  rintro r L ⟨rfl, rfl⟩
  refine ⟨_, ?_, rfl, rfl⟩
  have e : (fun k => decide (k < n) && (S k || (ws.getD (k / 64) 0#64).getLsbD (k % 64))) = fun k => decide (k < n) && (S k || T k) := by
    funext k
    have := hw.2.2.1 k
    unfold mem at this
    rw [this]
  rw [e]
  exact Ent.cons ((star_ent (L := [])).trans (mset_close hw))
theorem or_none (p n : Nat) (S : Nat → Bool) : Spec Tryd.prog 26 [.pointer (some ⟨p, 0, none⟩), .pointer none] [mset p n S] (fun r L => r = .tuple #[] ∧ L = [mset p n (fun k => decide (k < n) && (S k || false))]) := by
  refine Spec.pre (pre := [mset p n S, star []]) ?_ (fun m h => by
    obtain ⟨m1, m2, a, _, c, d, e⟩ := h
    exact ⟨m1, m2, a, ⟨fun _ => none, fun _ => none, trivial, trivial, by simp, by simp, by simp⟩, c, d, e⟩)
  refine Spec.ent3 (or_x p n S _ (fun _ => 0#64) (star []) (fun i _ => by
    have := Spec.starred (word_nil i) []
    exact this)) ?_
  rintro r L ⟨rfl, rfl⟩
  refine ⟨_, Ent.one, rfl, ?_⟩
  congr 2
  funext k
  simp
theorem or_nil (ov : Value) : Spec Tryd.prog 26 [.pointer none, ov] [] (fun r L => r = .tuple #[] ∧ L = []) := by
  refine Spec.of 7 Tryd.func26 rfl rfl rfl ?_
  refine swp_region ?_
  refine s_pu (pu_move rfl) ?_
  refine s_pu (pu_move rfl) ?_
  refine s_ef (ef_fn (each_nil ov _) rfl rfl (by repeat (first | exact Split.nil | (apply Split.cons; (repeat (first | with_reducible exact Take.here | apply Take.there)))))) ?_
  rintro v1 L1 ⟨rfl, rfl⟩
  refine swl_app ?_
  refine swl_sub _ .nil ?_
  refine swl_nil ?_
  exact done_end _ .nil ⟨rfl, rfl⟩ (by repeat (first | exact Split.nil | (apply Split.cons; (repeat (first | with_reducible exact Take.here | apply Take.there)))))

theorem and_x (p n : Nat) (S : Nat → Bool) (ov : Value) (o : Nat → BitVec 64) (X : Assn) (ho : ∀ i, i ≤ 1048576 → Spec Tryd.prog 60 [ov, .int .i64 (i : Nat)] [X] (fun r L => r = wv (o i) ∧ L = [X])) :
    Spec Tryd.prog 28 [.pointer (some ⟨p, 0, none⟩), ov] [mset p n S, X] (fun r L => r = .tuple #[] ∧ L = [mset p n (fun k => decide (k < n) && (S k && (o (k / 64)).getLsbD (k % 64))), X]) := by
  refine Spec.of 7 Tryd.func28 rfl rfl rfl ?_
  refine swp_region ?_
  refine s_pu (pu_move rfl) ?_
  refine s_pu (pu_move rfl) ?_
  refine s_ef (ef_fn (each_m p n S ov 58 (fun x y => x &&& y) (fun a b => (a && b)) o X and1 (fun x y i hi => by simp [BitVec.getLsbD_and]) ho) rfl rfl (by repeat (first | exact Split.nil | (apply Split.cons; (repeat (first | with_reducible exact Take.here | apply Take.there)))))) ?_
  rintro v1 L1 ⟨rfl, rfl⟩
  refine swl_app ?_
  refine swl_sub _ .nil ?_
  refine swl_nil ?_
  exact done_end _ .nil ⟨rfl, rfl⟩ (by repeat (first | exact Split.nil | (apply Split.cons; (repeat (first | with_reducible exact Take.here | apply Take.there)))))
theorem and_m (p n q m : Nat) (S T : Nat → Bool) : Spec Tryd.prog 28 [.pointer (some ⟨p, 0, none⟩), .pointer (some ⟨q, 0, none⟩)] [mset p n S, mset q m T] (fun r L => r = .tuple #[] ∧ L = [mset p n (fun k => decide (k < n) && (S k && T k)), mset q m T]) := by
  refine Spec.pre ?_ Ent.swap
  refine mset_elim fun v ws hw => ?_
  refine Spec.pre ?_ (Ent.trans (L2 := star (opn q m v ws) :: [mset p n S]) (star_close (K := opn q m v ws)) Ent.swap)
  refine Spec.ent3 (and_x p n S _ (fun i => ws.getD i 0#64) (star (opn q m v ws)) (fun i hi => by have := Spec.starred (word_o q m v ws i hi) []; rwa [List.append_nil] at this)) ?_
  rintro r L ⟨rfl, rfl⟩
  refine ⟨_, ?_, rfl, rfl⟩
  have e : (fun k => decide (k < n) && (S k && (ws.getD (k / 64) 0#64).getLsbD (k % 64))) = fun k => decide (k < n) && (S k && T k) := by
    funext k
    have := hw.2.2.1 k
    unfold mem at this
    rw [this]
  rw [e]
  exact Ent.cons ((star_ent (L := [])).trans (mset_close hw))
theorem and_none (p n : Nat) (S : Nat → Bool) : Spec Tryd.prog 28 [.pointer (some ⟨p, 0, none⟩), .pointer none] [mset p n S] (fun r L => r = .tuple #[] ∧ L = [mset p n (fun k => decide (k < n) && (S k && false))]) := by
  refine Spec.pre (pre := [mset p n S, star []]) ?_ (fun m h => by
    obtain ⟨m1, m2, a, _, c, d, e⟩ := h
    exact ⟨m1, m2, a, ⟨fun _ => none, fun _ => none, trivial, trivial, by simp, by simp, by simp⟩, c, d, e⟩)
  refine Spec.ent3 (and_x p n S _ (fun _ => 0#64) (star []) (fun i _ => by
    have := Spec.starred (word_nil i) []
    exact this)) ?_
  rintro r L ⟨rfl, rfl⟩
  refine ⟨_, Ent.one, rfl, ?_⟩
  congr 2
  funext k
  simp
theorem and_nil (ov : Value) : Spec Tryd.prog 28 [.pointer none, ov] [] (fun r L => r = .tuple #[] ∧ L = []) := by
  refine Spec.of 7 Tryd.func28 rfl rfl rfl ?_
  refine swp_region ?_
  refine s_pu (pu_move rfl) ?_
  refine s_pu (pu_move rfl) ?_
  refine s_ef (ef_fn (each_nil ov _) rfl rfl (by repeat (first | exact Split.nil | (apply Split.cons; (repeat (first | with_reducible exact Take.here | apply Take.there)))))) ?_
  rintro v1 L1 ⟨rfl, rfl⟩
  refine swl_app ?_
  refine swl_sub _ .nil ?_
  refine swl_nil ?_
  exact done_end _ .nil ⟨rfl, rfl⟩ (by repeat (first | exact Split.nil | (apply Split.cons; (repeat (first | with_reducible exact Take.here | apply Take.there)))))

theorem less_x (p n : Nat) (S : Nat → Bool) (ov : Value) (o : Nat → BitVec 64) (X : Assn) (ho : ∀ i, i ≤ 1048576 → Spec Tryd.prog 60 [ov, .int .i64 (i : Nat)] [X] (fun r L => r = wv (o i) ∧ L = [X])) :
    Spec Tryd.prog 29 [.pointer (some ⟨p, 0, none⟩), ov] [mset p n S, X] (fun r L => r = .tuple #[] ∧ L = [mset p n (fun k => decide (k < n) && (S k && !(o (k / 64)).getLsbD (k % 64))), X]) := by
  refine Spec.of 7 Tryd.func29 rfl rfl rfl ?_
  refine swp_region ?_
  refine s_pu (pu_move rfl) ?_
  refine s_pu (pu_move rfl) ?_
  refine s_ef (ef_fn (each_m p n S ov 59 (fun x y => x &&& ~~~y) (fun a b => (a && !b)) o X less1 (fun x y i hi => by simp [hi]) ho) rfl rfl (by repeat (first | exact Split.nil | (apply Split.cons; (repeat (first | with_reducible exact Take.here | apply Take.there)))))) ?_
  rintro v1 L1 ⟨rfl, rfl⟩
  refine swl_app ?_
  refine swl_sub _ .nil ?_
  refine swl_nil ?_
  exact done_end _ .nil ⟨rfl, rfl⟩ (by repeat (first | exact Split.nil | (apply Split.cons; (repeat (first | with_reducible exact Take.here | apply Take.there)))))
theorem less_m (p n q m : Nat) (S T : Nat → Bool) : Spec Tryd.prog 29 [.pointer (some ⟨p, 0, none⟩), .pointer (some ⟨q, 0, none⟩)] [mset p n S, mset q m T] (fun r L => r = .tuple #[] ∧ L = [mset p n (fun k => decide (k < n) && (S k && !T k)), mset q m T]) := by
  refine Spec.pre ?_ Ent.swap
  refine mset_elim fun v ws hw => ?_
  refine Spec.pre ?_ (Ent.trans (L2 := star (opn q m v ws) :: [mset p n S]) (star_close (K := opn q m v ws)) Ent.swap)
  refine Spec.ent3 (less_x p n S _ (fun i => ws.getD i 0#64) (star (opn q m v ws)) (fun i hi => by have := Spec.starred (word_o q m v ws i hi) []; rwa [List.append_nil] at this)) ?_
  rintro r L ⟨rfl, rfl⟩
  refine ⟨_, ?_, rfl, rfl⟩
  have e : (fun k => decide (k < n) && (S k && !(ws.getD (k / 64) 0#64).getLsbD (k % 64))) = fun k => decide (k < n) && (S k && !T k) := by
    funext k
    have := hw.2.2.1 k
    unfold mem at this
    rw [this]
  rw [e]
  exact Ent.cons ((star_ent (L := [])).trans (mset_close hw))
theorem less_none (p n : Nat) (S : Nat → Bool) : Spec Tryd.prog 29 [.pointer (some ⟨p, 0, none⟩), .pointer none] [mset p n S] (fun r L => r = .tuple #[] ∧ L = [mset p n (fun k => decide (k < n) && (S k && !false))]) := by
  refine Spec.pre (pre := [mset p n S, star []]) ?_ (fun m h => by
    obtain ⟨m1, m2, a, _, c, d, e⟩ := h
    exact ⟨m1, m2, a, ⟨fun _ => none, fun _ => none, trivial, trivial, by simp, by simp, by simp⟩, c, d, e⟩)
  refine Spec.ent3 (less_x p n S _ (fun _ => 0#64) (star []) (fun i _ => by
    have := Spec.starred (word_nil i) []
    exact this)) ?_
  rintro r L ⟨rfl, rfl⟩
  refine ⟨_, Ent.one, rfl, ?_⟩
  congr 2
  funext k
  simp
theorem less_nil (ov : Value) : Spec Tryd.prog 29 [.pointer none, ov] [] (fun r L => r = .tuple #[] ∧ L = []) := by
  refine Spec.of 7 Tryd.func29 rfl rfl rfl ?_
  refine swp_region ?_
  refine s_pu (pu_move rfl) ?_
  refine s_pu (pu_move rfl) ?_
  refine s_ef (ef_fn (each_nil ov _) rfl rfl (by repeat (first | exact Split.nil | (apply Split.cons; (repeat (first | with_reducible exact Take.here | apply Take.there)))))) ?_
  rintro v1 L1 ⟨rfl, rfl⟩
  refine swl_app ?_
  refine swl_sub _ .nil ?_
  refine swl_nil ?_
  exact done_end _ .nil ⟨rfl, rfl⟩ (by repeat (first | exact Split.nil | (apply Split.cons; (repeat (first | with_reducible exact Take.here | apply Take.there)))))
end SX
