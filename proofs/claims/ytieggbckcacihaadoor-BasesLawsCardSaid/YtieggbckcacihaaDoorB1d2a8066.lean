/- A part of the proof: walks of the program's functions, and the rules by which they go. -/
import Derived.Test.YtieggbckcacihaaDoorB7718f3cd
import Derived.Test.YtieggbckcacihaaDoorB7a82cff9
import Derived.Test.YtieggbckcacihaaDoorB3df7d3c5
namespace SX
open Go Go.Proofs

/-- a source of commits -/
structure Src where
  t : TypeId
  v : Value
  d : Nat
  hd : d ≤ 7
  g : List (List Int)
  hg : Good g
  hn : g.length ≤ 65536
  σ : Type
  A : σ → PH → Assn
  mono : ∀ {s μ μ'}, Le μ μ' → Ent [A s μ] [A s μ']
  ok : σ → Nat → Prop
  step : σ → Nat → σ
  μ0 : PH
  commits : ∀ s μ, InvS Tryd.prog d t v "Commits" [] [A s μ] (fun r L => r = .int .i64 (g.length : Nat) ∧ L = [A s μ])
  parents : ∀ s μ (c : Nat), Le μ0 μ → c < g.length → ok s c → InvS Tryd.prog d t v "Parents" [.int .i64 (c : Nat)] [A s μ, ro μ] (fun r L => ∃ μ', Le μ μ' ∧ Row μ' r 1 (rowOf g c).length ((rowOf g c).flatMap (icsk .i64)) ∧ L = [A (step s c) μ', ro μ'])
abbrev Src.n (X : Src) : Nat := X.g.length
abbrev Src.sv (X : Src) : Value := .iface X.t X.v
theorem Src.up {X : Src} {s : X.σ} {μ μ' : PH} {L R : List Assn} (h : Le μ μ') (hL : Split L [X.A s μ] R) : Ent L (X.A s μ' :: R) := hL.ent.trans (Ent.app (X.mono h))
theorem commits_spec (X : Src) (s : X.σ) (μ : PH) : Spec Tryd.prog 56 [X.sv] [X.A s μ] (fun r L => r = .int .i64 (X.n : Nat) ∧ L = [X.A s μ]) := by
  have hn := X.hn
  refine Spec.of 7 Tryd.func56 rfl rfl rfl ?_
  refine swp_seq ?_
  refine swp_region ?_
  refine s_pu (pu_assign rfl) ?_
  refine swl_sub _ (.cons (t := 0) rfl .nil) ?_
  refine swl_nil ?_
  refine then_n ?_
  refine swp_seq ?_
  refine swp_region ?_
  refine s_pu (pu_move rfl) ?_
  refine s_ef (ef_invS rfl X.hd (X.commits s μ) rfl (by repeat (first | exact Split.nil | (apply Split.cons; (repeat (first | with_reducible exact Take.here | apply Take.there)))))) ?_
  rintro v4 L1 ⟨rfl, rfl⟩
  refine swl_app ?_
  refine s_pu (pu_max2 rfl rfl) ?_
  refine s_pu (pu_min2 rfl rfl) ?_
  refine s_pu (pu_assign rfl) ?_
  refine swl_sub _ (.cons (t := 2) rfl .nil) ?_
  refine swl_nil ?_
  refine then_n ?_
  refine swp_ret ?_
  exact done_ret [X.A s μ] (.tmp rfl .nil) ⟨by show Value.int .i64 _ = _; rw [show min (max (X.g.length : Int) 0) 65536 = (X.g.length : Int) by omega], rfl⟩ (by repeat (first | exact Split.nil | (apply Split.cons; (repeat (first | with_reducible exact Take.here | apply Take.there)))))
theorem put_w (p n : Nat) (S : Nat → Bool) (k : Int) : Spec Tryd.prog 57 [.pointer (some ⟨p, 0, none⟩), .int .i64 k] [mset p n S] (fun r L => r = .bool (newW n S k) ∧ L = [mset p n (putS n S k)]) := put_m p n S k
/-- a walker, opened -/
abbrev wkB (w sp q : Nat) (sv : Value) : Assn := blk w 72 [sv, .pointer (some ⟨sp, 0, none⟩), .pointer (some ⟨q, 0, none⟩)]
set_option maxHeartbeats 1000000 in
theorem add_spec (w sp q n : Nat) (sv v : Value) (s : Wk) (xs : List Int) (A : Assn) (hn : n ≤ 65536) (hx : Ints Tryd.prog 3 [A] v xs) (hs : WkOk n s) :
    Spec Tryd.prog 47 [.pointer (some ⟨w, 0, none⟩), v] [wkB w sp q sv, mset sp n s.1, Wq.cq q s.2 (seenN n s.1), A] (fun r L => r = .tuple #[] ∧ WkOk n (addAll n s xs) ∧ L = [wkB w sp q sv, mset sp n (addAll n s xs).1, Wq.cq q (addAll n s xs).2 (seenN n (addAll n s xs).1), A]) := by
  have key : ∀ s' : Wk, Ints Tryd.prog 3 [wkB w sp q sv, mset sp n s'.1, Wq.cq q s'.2 (seenN n s'.1), A] v xs := fun s' => hx.weak.weak.weak
  obtain ⟨V, cv, rfl, hlv, _⟩ := hx
  refine Spec.of 25 Tryd.func47 rfl rfl rfl ?_
  refine swp_seq ?_
  refine swp_region ?_
  refine s_pu (pu_move rfl) ?_
  refine s_pu (pu_len rfl) ?_
  refine s_pu (pu_move rfl) ?_
  refine swl_sub _ (.cons (t := 0) rfl (.cons (t := 6) rfl (.cons (t := 7) rfl (.cons (t := 8) rfl .nil)))) ?_
  refine swl_nil ?_
  refine then_n ?_
  refine swp_block ?_
  refine swp_loop (ι := Nat) (fun i env L => env = [(0, .pointer (some ⟨w, 0, none⟩)), (6, .slice V xs.length cv), (7, .int .i64 (xs.length : Nat)), (8, .int .i64 (i : Nat))] ∧ L = [wkB w sp q sv, mset sp n (addAll n s (xs.take i)).1, Wq.cq q (addAll n s (xs.take i)).2 (seenN n (addAll n s (xs.take i)).1), A] ∧ i ≤ xs.length ∧ WkOk n (addAll n s (xs.take i))) (fun i => xs.length - i) 0 ⟨rfl, rfl, Nat.zero_le _, hs⟩ ?_
  rintro i env L ⟨rfl, rfl, hi, hok⟩
  refine swp_seq ?_
  refine swp_region ?_
  refine s_pu (pu_lss rfl rfl) ?_
  refine swl_sub _ (.cons (t := 0) rfl (.cons (t := 6) rfl (.cons (t := 7) rfl (.cons (t := 8) rfl (.cons (t := 9) rfl .nil))))) ?_
  refine swl_nil ?_
  refine then_n ?_
  refine swp_seq ?_
  refine swp_cond (b := _) rfl (fun h9 => ?_) (fun h9 => ?_)
  · skip   -- 9 T
    have h9' : i < xs.length := by have := of_decide_eq_true h9; omega
    obtain ⟨c, hc⟩ : ∃ c, xs[i]? = some c := ⟨_, List.getElem?_eq_getElem h9'⟩
    have hsu := addAll_succ (n := n) (s := s) hc
    have key' := key (addAll n s (xs.take i))
    generalize addAll n s (xs.take i) = si at *
    obtain ⟨V', cv', hve, _, hld⟩ := key'
    obtain ⟨vb, vo, hV, hxl⟩ := hld (by omega)
    injection hve with e1 e2 e3
    subst e1 e3 hV
    refine swp_skip ?_
    refine then_n ?_
    refine swp_seq ?_
    refine swp_block ?_
    refine swp_seq ?_
    refine swp_region ?_
    refine s_pu (pu_indexAddr (vo + i * 1) rfl rfl (by omega) (by omega) (by rw [Int.toNat_natCast])) ?_
    refine s_rd (rd_of_ld rfl (by rw [Nat.mul_one]; exact hxl i c hc)) ?_
    refine s_pu (pu_assign rfl) ?_
    refine swl_sub _ (.cons (t := 0) rfl (.cons (t := 5) rfl (.cons (t := 6) rfl (.cons (t := 7) rfl (.cons (t := 8) rfl .nil))))) ?_
    refine swl_nil ?_
    refine then_n ?_
    refine swp_seq ?_
    refine swp_region ?_
    refine s_pu (pu_move rfl) ?_
    first | refine s_pu (pu_nilCheck rfl) ?_ | refine s_pu (pu_nilCheck_fn rfl) ?_ | refine s_pu (pu_nilCheck_if rfl) ?_
    first | refine s_pu (pu_fieldAddr0 rfl) ?_ | refine s_pu (pu_fieldAddr rfl) ?_
    refine s_rd (rd_load rfl rfl) ?_
    refine s_pu (pu_move rfl) ?_
    refine s_ef (ef_fn (put_w sp n si.1 c) rfl rfl (by repeat (first | exact Split.nil | (apply Split.cons; (repeat (first | with_reducible exact Take.here | apply Take.there)))))) ?_
    rintro v17 L1 ⟨rfl, rfl⟩
    refine swl_app ?_
    refine swl_sub _ (.cons (t := 0) rfl (.cons (t := 5) rfl (.cons (t := 6) rfl (.cons (t := 7) rfl (.cons (t := 8) rfl (.cons (t := 17) rfl .nil)))))) ?_
    refine swl_nil ?_
    refine then_n ?_
    refine swp_cond (b := _) rfl (fun h17 => ?_) (fun h17 => ?_)
    · skip   -- 17 T
      obtain ⟨k, rfl, hk, hkq, a1, a2, a3, a4⟩ := addW_new h17 hok
      have hql := falls_len hok.falls hok.lt
      have hsl := seenN_le n si.1
      refine swp_region ?_
      refine s_pu (pu_move rfl) ?_
      first | refine s_pu (pu_nilCheck rfl) ?_ | refine s_pu (pu_nilCheck_fn rfl) ?_ | refine s_pu (pu_nilCheck_if rfl) ?_
      first | refine s_pu (pu_fieldAddr0 rfl) ?_ | refine s_pu (pu_fieldAddr rfl) ?_
      refine s_rd (rd_load rfl rfl) ?_
      refine s_pu (pu_move rfl) ?_
      refine s_ef (ef_fn (Wq.push_q q si.2 (seenN n si.1) k hkq (by omega) (by omega)) rfl rfl (by repeat (first | exact Split.nil | (apply Split.cons; (repeat (first | with_reducible exact Take.here | apply Take.there)))))) ?_
      rintro v23 L1 ⟨rfl, rfl⟩
      refine swl_app ?_
      refine swl_sub _ (.cons (t := 0) rfl (.cons (t := 6) rfl (.cons (t := 7) rfl (.cons (t := 8) rfl .nil)))) ?_
      refine swl_nil ?_
      refine block_n ?_
      refine then_n ?_
      refine swp_region ?_
      refine swl_ent (Split.ent' (K := [wkB w sp q sv, mset sp n (putS n si.1 (k : Int)), Wq.cq q (insD k si.2) (seenN n si.1 + 1), A]) (by repeat (first | exact Split.nil | (apply Split.cons; (repeat (first | with_reducible exact Take.here | apply Take.there)))))) ?_
      refine s_pu (pu_add_as ((i + 1 : Nat) : Int) rfl rfl (by omega) (by omega) (by omega)) ?_
      refine s_pu (pu_move rfl) ?_
      refine swl_sub _ (.cons (t := 0) rfl (.cons (t := 6) rfl (.cons (t := 7) rfl (.cons (t := 8) rfl .nil)))) ?_
      refine swl_nil ?_
      refine then_n ⟨i + 1, ⟨rfl, ?_, h9', by rw [hsu]; exact a4⟩, by omega⟩
      rw [hsu, a1, a2, a3]
    · skip   -- 17 F
      obtain ⟨a1, a2⟩ := addW_old h17
      refine swp_skip ?_
      refine block_n ?_
      refine then_n ?_
      refine swp_region ?_
      refine swl_ent (Split.ent' (K := [wkB w sp q sv, mset sp n (putS n si.1 c), Wq.cq q si.2 (seenN n si.1), A]) (by repeat (first | exact Split.nil | (apply Split.cons; (repeat (first | with_reducible exact Take.here | apply Take.there)))))) ?_
      refine s_pu (pu_add_as ((i + 1 : Nat) : Int) rfl rfl (by omega) (by omega) (by omega)) ?_
      refine s_pu (pu_move rfl) ?_
      refine swl_sub _ (.cons (t := 0) rfl (.cons (t := 6) rfl (.cons (t := 7) rfl (.cons (t := 8) rfl .nil)))) ?_
      refine swl_nil ?_
      refine then_n ⟨i + 1, ⟨rfl, ?_, h9', by rw [hsu, a1]; exact hok⟩, by omega⟩
      rw [hsu, a1, a2]
  · skip   -- 9 F
    have h9' := of_decide_eq_false h9
    obtain rfl : i = xs.length := by omega
    rw [List.take_length] at *
    refine swp_exit ?_
    refine then_x ?_
    refine then_x ?_
    refine block_hit rfl ?_
    exact done_end _ .nil ⟨rfl, hok, rfl⟩ Split.all
theorem clampM_id {n : Nat} (h : n ≤ 65536) : clampM (n : Int) = n := by unfold clampM; omega
theorem WkOk.start (n : Nat) : WkOk n (fun _ => false, []) := ⟨.nil, fun _ h => (by cases h), fun _ h => (by cases h)⟩
theorem seenN_none (n : Nat) : seenN n (fun _ => false) = 0 := by unfold seenN; rw [List.filter_eq_nil_iff.2 (fun _ _ h => by cases h)]; rfl
abbrev wk0 : Wk := (fun _ => false, [])
theorem newWalker_spec (X : Src) (s : X.σ) (μ : PH) (v : Value) (xs : List Int) (B : Assn) (hx : Ints Tryd.prog 3 [B] v xs) :
    Spec Tryd.prog 44 [X.sv, v] [X.A s μ, B] (fun r L => ∃ w sp q, r = .pointer (some ⟨w, 0, none⟩) ∧ WkOk X.n (addAll X.n wk0 xs) ∧ L = [wkB w sp q X.sv, mset sp X.n (addAll X.n wk0 xs).1, Wq.cq q (addAll X.n wk0 xs).2 (seenN X.n (addAll X.n wk0 xs).1), X.A s μ, B]) := by
  have hn := X.hn
  refine Spec.of 17 Tryd.func44 rfl rfl rfl ?_
  refine swp_seq ?_
  refine swp_region ?_
  refine s_pu (pu_assign rfl) ?_
  refine swl_sub _ (.cons (t := 0) rfl (.cons (t := 1) rfl .nil)) ?_
  refine swl_nil ?_
  refine then_n ?_
  refine swp_seq ?_
  refine swp_region ?_
  refine s_pu (pu_move rfl) ?_
  refine s_pu (pu_move rfl) ?_
  refine s_ef (ef_fn (commits_spec X s μ) rfl rfl (by repeat (first | exact Split.nil | (apply Split.cons; (repeat (first | with_reducible exact Take.here | apply Take.there)))))) ?_
  rintro v8 L1 ⟨rfl, rfl⟩
  refine swl_app ?_
  refine s_ef (ef_fn (new_m (X.n : Nat)) rfl rfl (by repeat (first | exact Split.nil | (apply Split.cons; (repeat (first | with_reducible exact Take.here | apply Take.there)))))) ?_
  rintro v9 L1 ⟨sp, rfl, rfl⟩
  refine swl_app ?_
  refine s_ef (ef_fn Wq.new_q rfl rfl (by repeat (first | exact Split.nil | (apply Split.cons; (repeat (first | with_reducible exact Take.here | apply Take.there)))))) ?_
  rintro v10 L1 ⟨q, rfl, rfl⟩
  refine swl_app ?_
  refine s_pu (pu_bld (qs := [(0, _), (1, _), (2, _)]) rfl) ?_
  refine s_ef (ef_box rfl rfl) ?_
  intro b12
  refine s_pu (pu_assign rfl) ?_
  refine swl_sub _ (.cons (t := 1) rfl (.cons (t := 5) rfl .nil)) ?_
  refine swl_nil ?_
  refine then_n ?_
  refine swp_seq ?_
  rw [clampM_id hn, show Wq.cq q [] 0 = Wq.cq q [] (seenN X.n (fun _ => false)) by rw [seenN_none]]
  refine swp_region ?_
  refine s_pu (pu_move rfl) ?_
  refine s_pu (pu_move rfl) ?_
  refine s_ef (ef_fn (add_spec b12 sp q X.n X.sv v wk0 xs B hn hx (WkOk.start _)) rfl rfl (by repeat (first | exact Split.nil | (apply Split.cons; (repeat (first | with_reducible exact Take.here | apply Take.there)))))) ?_
  rintro v15 L1 ⟨rfl, hok, rfl⟩
  refine swl_app ?_
  refine swl_sub _ (.cons (t := 5) rfl .nil) ?_
  refine swl_nil ?_
  refine then_n ?_
  refine swp_seq ?_
  refine swp_region ?_
  refine s_pu (pu_move rfl) ?_
  refine s_pu (pu_assign rfl) ?_
  refine swl_sub _ (.cons (t := 4) rfl .nil) ?_
  refine swl_nil ?_
  refine then_n ?_
  refine swp_ret ?_
  exact done_ret [wkB b12 sp q X.sv, mset sp X.n (addAll X.n wk0 xs).1, Wq.cq q (addAll X.n wk0 xs).2 (seenN X.n (addAll X.n wk0 xs).1), X.A s μ, B] (.tmp rfl .nil) ⟨b12, sp, q, rfl, hok, rfl⟩ (by repeat (first | exact Split.nil | (apply Split.cons; (repeat (first | with_reducible exact Take.here | apply Take.there)))))
end SX
namespace SX
open Go Go.Proofs
instance : TIface Tryd.prog 63 := ⟨⟨_, Tryd.underlying63⟩⟩

theorem pop_any (q nx : Nat) (Q : List Nat) (hb : Q.length ≤ 1099511627776) : Spec Tryd.prog 45 [.pointer (some ⟨q, 0, none⟩)] [Wq.cq q Q nx] (fun v L => v = .tuple #[.int .i64 (Q.headD 0 : Nat), .bool (!Q.isEmpty)] ∧ L = [Wq.cq q Q.tail nx]) := by
  cases Q with
  | nil => exact Wq.pop_q0 q nx
  | cons c Q => exact Wq.pop_q q nx c Q hb
def Src.at_ (X : Src) (s0 : X.σ) (μ : PH) (ys : List Nat) : Assn := exA fun m : {m : PH // Le μ m} => [X.A (ys.foldl X.step s0) m.1, ro m.1]
theorem Src.at_close {X : Src} {s0 : X.σ} {μ m : PH} {ys : List Nat} {L : List Assn} (h : Le μ m) : Ent (X.A (ys.foldl X.step s0) m :: ro m :: L) (X.at_ s0 μ ys :: L) :=
  ent_ex (F := fun m : {m : PH // Le μ m} => [X.A (ys.foldl X.step s0) m.1, ro m.1]) ⟨m, h⟩ (by repeat (first | exact Split.nil | (apply Split.cons; (repeat (first | with_reducible exact Take.here | apply Take.there)))))
set_option maxHeartbeats 2000000 in
theorem down_iter (X : Src) (s0 : X.σ) (μ : PH) (b1 b2 : Nat) (v : Value) (xs : List Int) (h1 : CellAt μ b1 0 X.sv) (h2 : CellAt μ b2 0 v) (hv : Row μ v 1 xs.length (xs.flatMap (icsk .i64))) (h0 : Le X.μ0 μ)
    (hok : ∀ pre x post, downL X.g xs = pre ++ x :: post → X.ok (pre.foldl X.step s0) x) :
    IterG Tryd.prog 52 [.pointer (some ⟨b1, 0, none⟩), .pointer (some ⟨b2, 0, none⟩)] (fun x : Nat => [.int .i64 (x : Nat)]) (fun pre x => ∃ post, downL X.g xs = pre ++ x :: post) (fun ys => ys = downL X.g xs)
      [X.A s0 μ, ro μ] (fun pre _ => X.at_ s0 μ pre) (fun pre _ => X.at_ s0 μ pre) (fun ys => X.at_ s0 μ ys) := by
  intro l I Z R h0' hy
  obtain ⟨kI, kN⟩ := wk_start (n := X.g.length) xs
  have hn := X.hn
  refine Spec.of 38 Tryd.func52 rfl rfl rfl ?_
  refine swp_ent (L' := [X.A s0 μ, ro μ, R]) (Ent.refl _) ?_
  refine swp_seq ?_
  refine swp_seq ?_
  refine swp_region ?_
  refine s_rd (rd_ro rfl h1) ?_
  refine s_pu (pu_if_eq_nil rfl rfl) ?_
  refine swl_sub _ (.cons (t := 0) rfl (.cons (t := 1) rfl (.cons (t := 2) rfl (.cons (t := 8) rfl .nil)))) ?_
  refine swl_nil ?_
  refine then_n ?_
  refine swp_cond (b := _) rfl (fun h8 => by cases h8) (fun h8 => ?_)
  refine swp_skip ?_
  refine then_n ?_
  refine swp_seq ?_
  refine swp_region ?_
  refine s_rd (rd_ro rfl h1) ?_
  refine s_rd (rd_ro rfl h2) ?_
  refine s_ef (ef_fn (newWalker_spec X s0 μ v xs (ro μ) (Ints.row hv)) rfl rfl (by repeat (first | exact Split.nil | (apply Split.cons; (repeat (first | with_reducible exact Take.here | apply Take.there)))))) ?_
  rintro v11 L1 ⟨w, sp, q, rfl, ok0, rfl⟩
  refine swl_app ?_
  refine s_pu (pu_assign rfl) ?_
  refine swl_sub _ (.cons (t := 0) rfl (.cons (t := 1) rfl (.cons (t := 4) rfl .nil))) ?_
  refine swl_nil ?_
  refine then_n ?_
  refine swp_seq ?_
  have hq0 := falls_len ok0.falls ok0.lt
  have kD : downL X.g xs = [] ++ wkRun (rowOf X.g) X.g.length X.g.length (addAll X.n wk0 xs) := rfl
  have kI' : WkI X.g.length X.g.length (addAll X.n wk0 xs) := kI
  generalize addAll X.n wk0 xs = st0 at *
  refine swp_region ?_
  refine s_pu (pu_move rfl) ?_
  first | refine s_pu (pu_nilCheck rfl) ?_ | refine s_pu (pu_nilCheck_fn rfl) ?_ | refine s_pu (pu_nilCheck_if rfl) ?_
  first | refine s_pu (pu_fieldAddr0 rfl) ?_ | refine s_pu (pu_fieldAddr rfl) ?_
  refine s_rd (rd_load rfl rfl) ?_
  refine s_ef (ef_fn (pop_any q (seenN X.n st0.1) st0.2 (by show _ ≤ _; have : X.n = X.g.length := rfl; omega)) rfl rfl (by repeat (first | exact Split.nil | (apply Split.cons; (repeat (first | with_reducible exact Take.here | apply Take.there)))))) ?_
  rintro v17 L1 ⟨rfl, rfl⟩
  refine swl_app ?_
  refine s_pu (pu_move rfl) ?_
  first | refine s_pu (pu_extractL rfl) ?_ | refine s_pu (pu_extract rfl rfl) ?_
  first | refine s_pu (pu_extractL rfl) ?_ | refine s_pu (pu_extract rfl rfl) ?_
  refine s_pu (pu_assign rfl) ?_
  refine s_pu (pu_assign rfl) ?_
  refine swl_sub _ (.cons (t := 0) rfl (.cons (t := 1) rfl (.cons (t := 4) rfl (.cons (t := 5) rfl (.cons (t := 6) rfl .nil))))) ?_
  refine swl_nil ?_
  refine then_n ?_
  refine swp_block ?_
  refine swp_ent (Split.ent' (K := [wkB w sp q X.sv, mset sp X.n st0.1, Wq.cq q st0.2.tail (seenN X.n st0.1), X.A s0 μ, ro μ, R]) (by repeat (first | exact Split.nil | (apply Split.cons; (repeat (first | with_reducible exact Take.here | apply Take.there)))))) ?_
  refine swp_ent ((Ent.cons (Ent.cons (Ent.cons (Ent.cons (Ent.cons h0')))))) ?_
  refine swp_loop (ι := Nat × PH × List Nat × Wk) (fun k env L => env = [(0, yv l), (1, .pointer (some ⟨b1, 0, none⟩)), (4, .pointer (some ⟨w, 0, none⟩)), (5, .int .i64 (k.2.2.2.2.headD 0 : Nat)), (6, .bool (!k.2.2.2.2.isEmpty))]
    ∧ L = [wkB w sp q X.sv, mset sp X.n k.2.2.2.1, Wq.cq q k.2.2.2.2.tail (seenN X.n k.2.2.2.1), X.A (k.2.2.1.foldl X.step s0) k.2.1, ro k.2.1, I k.2.2.1]
    ∧ downL X.g xs = k.2.2.1 ++ wkRun (rowOf X.g) X.g.length k.1 k.2.2.2 ∧ (∃ m, WkI X.g.length m k.2.2.2 ∧ m ≤ k.1 ∧ m ≤ X.g.length) ∧ WkOk X.n k.2.2.2 ∧ Le μ k.2.1) (fun k => k.1) (X.g.length, μ, [], st0) ⟨rfl, rfl, kD, ⟨_, kI', Nat.le_refl _, Nat.le_refl _⟩, ok0, Le.refl _⟩ ?_
  rintro ⟨f, μ1, pre, S, Q⟩ env L ⟨rfl, rfl, hD, ⟨m, hI, hmf, hmn⟩, hokk, hle⟩
  dsimp only at hD hI hmf hmn hokk hle ⊢
  refine swp_seq ?_
  refine swp_seq ?_
  refine swp_region ?_
  refine s_pu (pu_move rfl) ?_
  refine swl_sub _ (.cons (t := 0) rfl (.cons (t := 1) rfl (.cons (t := 4) rfl (.cons (t := 5) rfl (.cons (t := 20) rfl .nil))))) ?_
  refine swl_nil ?_
  refine then_n ?_
  refine swp_cond (b := _) rfl (fun h20 => ?_) (fun h20 => ?_)
  · skip   -- 20 T
    obtain ⟨c, Q, rfl⟩ : ∃ c Q', Q = c :: Q' := by
      cases Q with
      | nil => cases h20
      | cons c Q => exact ⟨c, Q, rfl⟩
    have hcm : c < m := hI.lt c (List.mem_cons_self ..)
    obtain ⟨f, rfl⟩ : ∃ f', f = f' + 1 := ⟨f - 1, by omega⟩
    rw [wkRun_pop] at hD
    have hrow : ∀ p ∈ rowOf X.g c, 0 ≤ p ∧ p < c := fun p hp => ⟨(row_good X.hg hp).1, (row_good X.hg hp).2.1⟩
    obtain ⟨hI2, _, _⟩ := hI.pop.addAll hrow (by omega)
    simp only [List.tail_cons, List.headD_cons]
    refine swp_ent (Split.ent' (K := [X.A (pre.foldl X.step s0) μ1, ro μ1, I pre, wkB w sp q X.sv, mset sp X.n S, Wq.cq q Q (seenN X.n S)]) (by repeat (first | exact Split.nil | (apply Split.cons; (repeat (first | with_reducible exact Take.here | apply Take.there)))))) ?_
    refine swp_ent (Src.at_close hle) ?_
    refine swp_skip ?_
    refine then_n ?_
    refine swp_seq ?_
    refine swp_block ?_
    refine swp_seq ?_
    refine swp_seq ?_
    refine swp_region ?_
    refine s_pu (pu_move rfl) ?_
    refine s_pu (pu_move rfl) ?_
    refine s_ef (ef_yield (hy pre c ⟨_, hD⟩) rfl rfl (by repeat (first | exact Split.nil | (apply Split.cons; (repeat (first | with_reducible exact Take.here | apply Take.there)))))) ?_
    rintro v1 L1 (⟨rfl, rfl⟩ | ⟨rfl, rfl⟩)
    · skip
      refine swl_app ?_
      refine s_pu (pu_not rfl) ?_
      refine swl_sub _ (.cons (t := 0) rfl (.cons (t := 1) rfl (.cons (t := 4) rfl (.cons (t := 5) rfl (.cons (t := 32) rfl .nil))))) ?_
      refine swl_nil ?_
      refine then_n ?_
      refine swp_cond (b := _) rfl (fun h32 => by cases h32) (fun h32 => ?_)
      refine swp_skip ?_
      refine then_n ?_
      refine swp_ent (Split.ent' (K := [X.at_ s0 μ pre, I (pre ++ [c]), wkB w sp q X.sv, mset sp X.n S, Wq.cq q Q (seenN X.n S)]) (by repeat (first | exact Split.nil | (apply Split.cons; (repeat (first | with_reducible exact Take.here | apply Take.there)))))) ?_
      refine swp_ex fun ⟨μ2, hμ2⟩ => ?_
      simp only [List.cons_append, List.nil_append]
      have hok2 : WkOk X.n (S, Q) := ⟨(List.pairwise_cons.1 hokk.falls).2, fun k hk => hokk.lt k (List.mem_cons_of_mem _ hk), fun k hk => hokk.sub k (List.mem_cons_of_mem _ hk)⟩
      refine swp_region ?_
      refine s_pu (pu_move rfl) ?_
      refine s_rd (rd_ro rfl (h1.le hμ2)) ?_
      refine s_pu (pu_move rfl) ?_
      refine s_ef (ef_invS rfl X.hd (X.parents (pre.foldl X.step s0) μ2 c (h0.trans hμ2) (by omega) (hok pre c _ hD)) rfl (by repeat (first | exact Split.nil | (apply Split.cons; (repeat (first | with_reducible exact Take.here | apply Take.there)))))) ?_
      rintro v36 L1 ⟨μ3, hμ3, hr, rfl⟩
      refine swl_app ?_
      refine s_ef (ef_fn (add_spec w sp q X.n X.sv v36 (S, Q) (rowOf X.g c) (ro μ3) hn (Ints.row hr) hok2) rfl rfl (by repeat (first | exact Split.nil | (apply Split.cons; (repeat (first | with_reducible exact Take.here | apply Take.there)))))) ?_
      rintro v37 L1 ⟨rfl, hok3, rfl⟩
      refine swl_app ?_
      refine swl_sub _ (.cons (t := 0) rfl (.cons (t := 1) rfl (.cons (t := 4) rfl .nil))) ?_
      refine swl_nil ?_
      refine block_n ?_
      refine then_n ?_
      have hq3 := falls_len hok3.falls hok3.lt
      have hI3 : WkI X.g.length c (addAll X.n (S, Q) (rowOf X.g c)) := hI2
      have hD3 : downL X.g xs = (pre ++ [c]) ++ wkRun (rowOf X.g) X.g.length f (addAll X.n (S, Q) (rowOf X.g c)) := by rw [hD, List.append_assoc]; rfl
      generalize addAll X.n (S, Q) (rowOf X.g c) = st at *
      refine swp_region ?_
      refine s_pu (pu_move rfl) ?_
      first | refine s_pu (pu_nilCheck rfl) ?_ | refine s_pu (pu_nilCheck_fn rfl) ?_ | refine s_pu (pu_nilCheck_if rfl) ?_
      first | refine s_pu (pu_fieldAddr0 rfl) ?_ | refine s_pu (pu_fieldAddr rfl) ?_
      refine s_rd (rd_load rfl rfl) ?_
      refine s_ef (ef_fn (pop_any q (seenN X.n st.1) st.2 (by have : X.n = X.g.length := rfl; omega)) rfl rfl (by repeat (first | exact Split.nil | (apply Split.cons; (repeat (first | with_reducible exact Take.here | apply Take.there)))))) ?_
      rintro v26 L1 ⟨rfl, rfl⟩
      refine swl_app ?_
      refine s_pu (pu_move rfl) ?_
      first | refine s_pu (pu_extractL rfl) ?_ | refine s_pu (pu_extract rfl rfl) ?_
      first | refine s_pu (pu_extractL rfl) ?_ | refine s_pu (pu_extract rfl rfl) ?_
      refine s_pu (pu_assign rfl) ?_
      refine s_pu (pu_assign rfl) ?_
      refine swl_sub _ (.cons (t := 0) rfl (.cons (t := 1) rfl (.cons (t := 4) rfl (.cons (t := 5) rfl (.cons (t := 6) rfl .nil))))) ?_
      refine swl_ent (Split.ent' (K := [wkB w sp q X.sv, mset sp X.n st.1, Wq.cq q st.2.tail (seenN X.n st.1), X.A (X.step (pre.foldl X.step s0) c) μ3, ro μ3, I (pre ++ [c])]) (by repeat (first | exact Split.nil | (apply Split.cons; (repeat (first | with_reducible exact Take.here | apply Take.there)))))) ?_
      refine swl_nil ?_
      refine then_n ⟨(f, μ3, pre ++ [c], st), ⟨rfl, ?_, hD3, ⟨c, hI3, by show c ≤ f; omega, by omega⟩, hok3, hμ2.trans hμ3⟩, Nat.lt_succ_self f⟩
      rw [List.foldl_append]; rfl
    · skip
      refine swl_app ?_
      refine s_pu (pu_not rfl) ?_
      refine swl_sub _ (.cons (t := 0) rfl (.cons (t := 1) rfl (.cons (t := 4) rfl (.cons (t := 5) rfl (.cons (t := 32) rfl .nil))))) ?_
      refine swl_nil ?_
      refine then_n ?_
      refine swp_cond (b := _) rfl (fun h32 => ?_) (fun h32 => by cases h32)
      refine swp_ret ?_
      refine then_r ?_
      refine block_r ?_
      refine then_r ?_
      refine then_r ?_
      refine block_r ?_
      exact done_ret [Z] .nil (.inr rfl) (by repeat (first | exact Split.nil | (apply Split.cons; (repeat (first | with_reducible exact Take.here | apply Take.there)))))
  · skip   -- 20 F
    obtain rfl : Q = [] := by
      cases Q with
      | nil => rfl
      | cons c Q => cases h20
    rw [wkRun_nil, List.append_nil] at hD
    refine swp_ent (Split.ent' (K := [X.A (pre.foldl X.step s0) μ1, ro μ1, I pre]) (by repeat (first | exact Split.nil | (apply Split.cons; (repeat (first | with_reducible exact Take.here | apply Take.there)))))) ?_
    refine swp_ent (Src.at_close hle) ?_
    refine swp_exit ?_
    refine then_x ?_
    refine then_x ?_
    refine block_hit rfl ?_
    exact done_end [I pre, X.at_ s0 μ pre] .nil (.inl ⟨pre, hD.symm, rfl⟩) (by repeat (first | exact Split.nil | (apply Split.cons; (repeat (first | with_reducible exact Take.here | apply Take.there)))))
end SX
namespace SX
open Go Go.Proofs

def askedE (n : Nat) (ls : List (List Int)) : Int := if (ls.all fun l => l.all (inR n)) = true then 0 else 9
theorem down_spec (sv : Value) (μ : PH) (v : Value) (xs : List Int) (hv : Row μ v 1 xs.length (xs.flatMap (icsk .i64))) (hl : xs.length ≤ 1048576) (t : Nat) (u : Value) (hsv : sv = .iface t u) :
    Spec Tryd.prog 21 [sv, v] [ro μ] (fun r L => ∃ μ' b1 b2 v', r = .func (.func 52) #[] #[.pointer (some ⟨b1, 0, none⟩), .pointer (some ⟨b2, 0, none⟩)] ∧ Le μ μ' ∧ CellAt μ' b1 0 sv ∧ CellAt μ' b2 0 v' ∧ Row μ' v' 1 xs.length (xs.flatMap (icsk .i64)) ∧ L = [ro μ']) := by
  subst hsv
  obtain ⟨A, cap, rfl⟩ := hv.sl
  refine Spec.of 9 Tryd.func21 rfl rfl rfl ?_
  refine swp_seq ?_
  refine swp_region ?_
  refine s_ef (ef_box rfl rfl) ?_
  intro b2
  refine s_ef (ef_box rfl rfl) ?_
  intro b3
  refine s_pu (pu_assign rfl) ?_
  refine swl_sub _ (.cons (t := 2) rfl (.cons (t := 3) rfl .nil)) ?_
  refine swl_nil ?_
  refine then_n ?_
  refine swp_seq ?_
  refine swp_region ?_
  refine s_ef (ef_bldS (qs := []) rfl rfl rfl) ?_
  intro b5
  refine swl_ent (own_empty (e := 3) (n := 1)) ?_
  refine s_rd (rd_load rfl rfl) ?_
  refine s_ef (ef_append_ro hv rfl rfl (by repeat (first | exact Split.nil | (apply Split.cons; (repeat (first | with_reducible exact Take.here | apply Take.there))))) (icsk_one _) (by simp only [maxLen]; omega) (by omega)) ?_
  rintro v7 -
  rw [Nat.zero_add, List.nil_append]
  refine swl_fact (fun m h => own_form h) fun ⟨A7, cap7, hA7⟩ => ?_
  subst hA7
  refine s_ef0 (ef_store rfl rfl rfl) ?_
  refine swl_sub _ (.cons (t := 2) rfl (.cons (t := 3) rfl .nil)) ?_
  refine swl_nil ?_
  refine then_n ?_
  refine swp_seq ?_
  refine swp_share_own (μ := μ) (by repeat (first | exact Split.nil | (apply Split.cons; (repeat (first | with_reducible exact Take.here | apply Take.there))))) fun μ1 h1 r1 => ?_
  refine swp_share (b := b2) (μ := μ1) (by repeat (first | exact Split.nil | (apply Split.cons; (repeat (first | with_reducible exact Take.here | apply Take.there))))) fun μ2 h2 k2 => ?_
  refine swp_share (b := b3) (μ := μ2) (by repeat (first | exact Split.nil | (apply Split.cons; (repeat (first | with_reducible exact Take.here | apply Take.there))))) fun μ3 h3 k3 => ?_
  refine swp_region ?_
  refine s_pu (pu_func (vs := []) (us := [_, _]) rfl rfl) ?_
  refine s_pu (pu_assign rfl) ?_
  refine swl_sub _ (.cons (t := 4) rfl .nil) ?_
  refine swl_nil ?_
  refine then_n ?_
  refine swp_ret ?_
  exact done_ret [ro μ3] (.tmp rfl .nil) ⟨μ3, b2, b3, _, rfl, h1.trans (h2.trans h3), ⟨_, _, _, h3 _ _ k2, rfl⟩, ⟨_, _, _, k3, rfl⟩, r1.le (h2.trans h3), rfl⟩ (by repeat (first | exact Split.nil | (apply Split.cons; (repeat (first | with_reducible exact Take.here | apply Take.there)))))
end SX
namespace SX
open Go Go.Proofs

theorem putS_in {n x : Nat} {pre : List Nat} (hx : x < n) : putS n (fun j => decide (j ∈ pre)) (x : Int) = fun j => decide (j ∈ pre ++ [x]) := by
  funext j
  unfold putS
  rw [Int.toNat_natCast, decide_eq_true (show 0 ≤ (x : Int) ∧ (x : Int) < n by omega), Bool.true_and, Bool.eq_iff_iff]
  simp [List.mem_append]
theorem swl_ex {P : Program} {env : Env} {L : List Assn} {ro : Option Nat} {α : Type} {F : α → List Assn} {ops : Array Oper} {l : List Oper} {Q : Post} {N : Nat} (h : ∀ x, swl P ro ops Q N l env (F x ++ L)) : swl P ro ops Q N l env (exA F :: L) := fun E D a w hd hf hh => by
  obtain ⟨k1, k2, k3, k4, k5⟩ := hh
  have k6 : Sat (exA F :: ((E.add D).X ++ L)) (fun b => w.heap[b]?) := Sat.perm (perm_out (.refl _)) _ k5
  obtain ⟨x, hx⟩ := exA_open k6
  refine h x E D a w hd hf ⟨k1, k2, k3, k4, Sat.perm ?_ _ hx⟩
  rw [← List.append_assoc, ← List.append_assoc]
  exact List.Perm.append_right _ List.perm_append_comm
end SX
namespace SX
open Go Go.Proofs

end SX
namespace SX
open Go Go.Proofs

theorem samelist_i (u v : Value) (xs ys : List Int) (L0 : List Assn) (hu : Ints Tryd.prog 3 L0 u xs) (hv : Ints Tryd.prog 3 L0 v ys) : Spec Tryd.prog 25 [u, v] L0 (fun r L => r = .bool (decide (xs = ys)) ∧ L = L0) := by
  obtain ⟨A, ca, rfl, hla, ha⟩ := hu
  obtain ⟨B, cb, rfl, hlb, hb⟩ := hv
  refine Spec.of 26 Tryd.func25 rfl rfl rfl ?_
  refine swp_seq ?_
  refine swp_region ?_
  refine s_pu (pu_assign rfl) ?_
  refine swl_sub _ (.cons (t := 0) rfl (.cons (t := 1) rfl .nil)) ?_
  refine swl_nil ?_
  refine then_n ?_
  refine swp_seq ?_
  refine swp_seq ?_
  refine swp_region ?_
  refine s_pu (pu_move rfl) ?_
  refine s_pu (pu_len rfl) ?_
  refine s_pu (pu_move rfl) ?_
  refine s_pu (pu_len rfl) ?_
  refine s_pu (pu_neq rfl rfl) ?_
  refine swl_sub _ (.cons (t := 0) rfl (.cons (t := 1) rfl (.cons (t := 10) rfl .nil))) ?_
  refine swl_nil ?_
  refine then_n ?_
  refine swp_cond (b := _) rfl (fun h10 => ?_) (fun h10 => ?_)
  · skip   -- 10 T
    refine swp_seq ?_
    refine swp_region ?_
    refine s_pu (pu_assign rfl) ?_
    refine swl_sub _ (.cons (t := 4) rfl .nil) ?_
    refine swl_nil ?_
    refine then_n ?_
    refine swp_ret ?_
    refine then_r ?_
    simp only [Bool.not_eq_true', decide_eq_false_iff_not] at h10
    exact done_ret _ (.tmp rfl .nil) ⟨by rw [decide_eq_false (fun e => h10 (by rw [e]))]; rfl, rfl⟩ Split.all
  · skip   -- 10 F
    refine swp_skip ?_
    refine then_n ?_
    refine swp_seq ?_
    refine swp_seq ?_
    refine swp_region ?_
    refine s_pu (pu_assign rfl) ?_
    refine swl_sub _ (.cons (t := 0) rfl (.cons (t := 1) rfl (.cons (t := 5) rfl .nil))) ?_
    refine swl_nil ?_
    refine then_n ?_
    refine swp_block ?_
    have hlen : xs.length = ys.length := by
      simp only [Bool.not_eq_false', decide_eq_true_eq] at h10; omega
    refine swp_sub _ (.cons (t := 0) rfl (.cons (t := 1) rfl (.cons (t := 5) rfl .nil))) ?_
    refine swp_loop (ι := Nat) (fun i env L => env = [(0, .slice A xs.length ca), (1, .slice B ys.length cb), (5, .int .i64 (i : Nat))] ∧ L = L0 ∧ i ≤ xs.length ∧ ∀ j, j < i → xs[j]? = ys[j]?) (fun i => xs.length - i) 0 ⟨rfl, rfl, Nat.zero_le _, fun j h => by omega⟩ ?_
    rintro i env L ⟨rfl, rfl, hi, hlo⟩
    refine swp_seq ?_
    refine swp_seq ?_
    refine swp_region ?_
    refine s_pu (pu_move rfl) ?_
    refine s_pu (pu_move rfl) ?_
    refine s_pu (pu_len rfl) ?_
    refine s_pu (pu_lss rfl rfl) ?_
    refine swl_sub _ (.cons (t := 0) rfl (.cons (t := 1) rfl (.cons (t := 5) rfl (.cons (t := 14) rfl .nil)))) ?_
    refine swl_nil ?_
    refine then_n ?_
    refine swp_cond (b := _) rfl (fun h14 => ?_) (fun h14 => ?_)
    · skip   -- 14 T
      have h14' : i < xs.length := by have := of_decide_eq_true h14; omega
      obtain ⟨x, hx⟩ : ∃ x, xs[i]? = some x := ⟨_, List.getElem?_eq_getElem h14'⟩
      obtain ⟨y, hy⟩ : ∃ y, ys[i]? = some y := ⟨_, List.getElem?_eq_getElem (by omega)⟩
      obtain ⟨ab, ao, rfl, hxl⟩ := ha (by omega)
      obtain ⟨bb, bo, rfl, hyl⟩ := hb (by omega)
      refine swp_skip ?_
      refine then_n ?_
      refine swp_seq ?_
      refine swp_block ?_
      refine swp_seq ?_
      refine swp_draw [3, 7] _ [] (by simp only [List.append_nil]; exact Ent.refl _) (by kernel_rfl) ?_
      refine d_pu 0 rfl (pu_move rfl) (by kernel_rfl) (by kernel_rfl) (by kernel_rfl) ?_
      refine d_pu 1 rfl (pu_move rfl) (by kernel_rfl) (by kernel_rfl) (by kernel_rfl) ?_
      refine d_pu 2 rfl (pu_indexAddr (ao + i * 1) rfl rfl (by omega) (by omega) (by rw [Int.toNat_natCast])) (by kernel_rfl) (by kernel_rfl) (by kernel_rfl) ?_
      refine d_rd 3 rfl (rd_of_ld rfl (by rw [Nat.mul_one]; exact hxl i x hx)) rfl (by kernel_rfl) (by kernel_rfl) (by kernel_rfl) ?_
      refine d_pu 4 rfl (pu_move rfl) (by kernel_rfl) (by kernel_rfl) (by kernel_rfl) ?_
      refine d_pu 5 rfl (pu_move rfl) (by kernel_rfl) (by kernel_rfl) (by kernel_rfl) ?_
      refine d_pu 6 rfl (pu_indexAddr (bo + i * 1) rfl rfl (by omega) (by omega) (by rw [Int.toNat_natCast])) (by kernel_rfl) (by kernel_rfl) (by kernel_rfl) ?_
      refine d_rd 7 rfl (rd_of_ld rfl (by rw [Nat.mul_one]; exact hyl i y hy)) rfl (by kernel_rfl) (by kernel_rfl) (by kernel_rfl) ?_
      refine d_pu 8 rfl (pu_neq rfl rfl) (by kernel_rfl) (by kernel_rfl) (by kernel_rfl) ?_
      refine d_sub _ (.cons (t := 0) rfl (.cons (t := 1) rfl (.cons (t := 5) rfl (.cons (t := 25) rfl .nil)))) ?_
      first | refine d_nilt (by kernel_rfl) ?_ | refine d_nilf (by kernel_rfl) ?_
      refine then_n ?_
      refine swp_cond (b := _) rfl (fun h25 => ?_) (fun h25 => ?_)
      · skip   -- 25 T
        refine swp_seq ?_
        refine swp_region ?_
        refine s_pu (pu_assign rfl) ?_
        refine swl_sub _ (.cons (t := 4) rfl .nil) ?_
        refine swl_nil ?_
        refine then_n ?_
        refine swp_ret ?_
        refine block_r ?_
        refine then_r ?_
        refine then_r ?_
        refine block_r ?_
        refine then_r ?_
        simp only [Bool.not_eq_true', decide_eq_false_iff_not] at h25
        exact done_ret _ (.tmp rfl .nil) ⟨by rw [decide_eq_false (fun e => h25 (by subst e; rw [hx] at hy; exact Option.some.inj hy))]; rfl, rfl⟩ Split.all
      · skip   -- 25 F
        refine swp_skip ?_
        refine block_n ?_
        refine then_n ?_
        refine swp_region ?_
        refine s_pu (pu_move rfl) ?_
        refine s_pu (pu_add_as ((i + 1 : Nat) : Int) rfl rfl (by omega) (by omega) (by omega)) ?_
        refine s_pu (pu_assign rfl) ?_
        refine swl_sub _ (.cons (t := 0) rfl (.cons (t := 1) rfl (.cons (t := 5) rfl .nil))) ?_
        refine swl_nil ?_
        simp only [Bool.not_eq_false', decide_eq_true_eq] at h25
        exact then_n ⟨i + 1, ⟨rfl, rfl, h14', fun j hj => by
          by_cases e : j = i
          · subst e; rw [hx, hy, h25]
          · exact hlo j (by omega)⟩, by omega⟩
    · skip   -- 14 F
      have h14' := of_decide_eq_false h14
      obtain rfl : i = xs.length := by omega
      refine swp_exit ?_
      refine then_x ?_
      refine then_x ?_
      refine block_hit rfl ?_
      refine then_n ?_
      refine swp_seq ?_
      refine swp_region ?_
      refine s_pu (pu_assign rfl) ?_
      refine swl_sub _ (.cons (t := 4) rfl .nil) ?_
      refine swl_nil ?_
      refine then_n ?_
      refine swp_ret ?_
      exact done_ret _ (.tmp rfl .nil) ⟨by rw [decide_eq_true (List.ext_getElem? fun j => by
        by_cases hj : j < xs.length
        · exact hlo j hj
        · rw [List.getElem?_eq_none (by omega), List.getElem?_eq_none (by omega)])]; rfl, rfl⟩ Split.all
end SX
namespace SX
open Go Go.Proofs

/-- it may be asked for any commits, each once -/
def Src.fine (X : Src) (s0 : X.σ) : Prop := ∀ (ys : List Nat) (c : Nat), ys.Nodup → c ∉ ys → (∀ y ∈ ys, y < X.g.length) → c < X.g.length → X.ok (ys.foldl X.step s0) c
theorem falls_nodup {l : List Nat} (h : Falls l) : l.Nodup := h.imp fun h e => by omega
theorem Src.fine.down {X : Src} {s0 : X.σ} (h : X.fine s0) (xs : List Int) : ∀ pre x post, downL X.g xs = pre ++ x :: post → X.ok (pre.foldl X.step s0) x := fun pre x post e => by
  obtain ⟨h1, h2, _⟩ := downL_spec X.hg xs
  rw [e] at h1 h2
  have hn := falls_nodup h1
  rw [List.nodup_append] at hn
  exact h pre x hn.1 (fun hx => hn.2.2 x hx x (List.mem_cons_self ..) rfl) (fun y hy => h2 y (List.mem_append_left _ hy)) (h2 x (List.mem_append_right _ (List.mem_cons_self ..)))
def isAnc (g : List (List Int)) (a b : Int) : Bool := decide (askedE g.length [[a, b]] = 0) && up g b.toNat a.toNat
end SX
namespace SX
open Go Go.Proofs

theorem has_w (p n : Nat) (S : Nat → Bool) (k : Nat) : Spec Tryd.prog 58 [.pointer (some ⟨p, 0, none⟩), .int .i64 (k : Nat)] [mset p n S] (fun r L => r = .bool (S k) ∧ L = [mset p n S]) := by
  have h := has_m p n S (k : Int)
  rw [decide_eq_true (show (0 : Int) ≤ (k : Int) by omega), Int.toNat_natCast, Bool.true_and] at h
  exact h
/-- what only some reach -/
def onlyE (g : List (List Int)) (xs ys : List Int) : Int := askedE g.length [xs, ys]
def onlyS (g : List (List Int)) (xs ys : List Int) : Nat → Bool := fun k => decide (k < g.length) && (anyUp g g.length xs k && !anyUp g g.length ys k)
def onlyA (g : List (List Int)) (xs ys : List Int) : List Int := if onlyE g xs ys = 0 then elsTo g.length (onlyS g xs ys) else []
def askedIn (n : Nat) (zs : List Nat) : Prop := zs.Nodup ∧ ∀ y ∈ zs, y < n
theorem askedE_in {n : Nat} {ls : List (List Int)} (h : askedE n ls = 0) {l : List Int} (hl : l ∈ ls) : ∀ p ∈ l, 0 ≤ p ∧ p < n := by
  unfold askedE at h
  split at h
  · rename_i ha
    intro p hp
    have := List.all_eq_true.1 (List.all_eq_true.1 ha l hl) p hp
    simpa [inR] using this
  · cases h
end SX
namespace SX
open Go Go.Proofs

def unkB (n : Nat) (xs : List Int) : Bool := !(xs.all (inR n))
theorem unknown_spec (gv lv : Value) (n : Nat) (xs : List Int) (L0 : List Assn) (hg : ∃ A c, gv = .slice A n c) (hv : Ints Tryd.prog 3 L0 lv xs) : Spec Tryd.prog 29 [gv, lv] L0 (fun r L => r = .bool (unkB n xs) ∧ L = L0) := by
  obtain ⟨A, c, rfl⟩ := hg
  obtain ⟨B, cb, rfl, hlb, hb⟩ := hv
  refine Spec.of 26 Tryd.func29 rfl rfl rfl ?_
  refine swp_seq ?_
  refine swp_region ?_
  refine s_pu (pu_assign rfl) ?_
  refine swl_sub _ (.cons (t := 0) rfl (.cons (t := 1) rfl .nil)) ?_
  refine swl_nil ?_
  refine then_n ?_
  refine swp_seq ?_
  refine swp_seq ?_
  refine swp_region ?_
  refine s_pu (pu_assign rfl) ?_
  refine swl_sub _ (.cons (t := 0) rfl (.cons (t := 1) rfl (.cons (t := 5) rfl .nil))) ?_
  refine swl_nil ?_
  refine then_n ?_
  refine swp_block ?_
  refine swp_loop (ι := Nat) (fun i env L => env = [(0, .slice A n c), (1, .slice B xs.length cb), (5, .int .i64 (i : Nat))] ∧ L = L0 ∧ i ≤ xs.length ∧ (xs.take i).all (inR n) = true) (fun i => xs.length - i) 0 ⟨rfl, rfl, Nat.zero_le _, rfl⟩ ?_
  rintro i env L ⟨rfl, rfl, hi, hall⟩
  refine swp_seq ?_
  refine swp_seq ?_
  refine swp_region ?_
  refine s_pu (pu_move rfl) ?_
  refine s_pu (pu_move rfl) ?_
  refine s_pu (pu_len rfl) ?_
  refine s_pu (pu_lss rfl rfl) ?_
  refine swl_sub _ (.cons (t := 0) rfl (.cons (t := 1) rfl (.cons (t := 5) rfl (.cons (t := 9) rfl .nil)))) ?_
  refine swl_nil ?_
  refine then_n ?_
  refine swp_cond (b := _) rfl (fun h9 => ?_) (fun h9 => ?_)
  · skip   -- 9 T
    have h9' : i < xs.length := by have := of_decide_eq_true h9; omega
    obtain ⟨x, hx⟩ : ∃ x, xs[i]? = some x := ⟨_, List.getElem?_eq_getElem h9'⟩
    obtain ⟨bb, bo, rfl, hxl⟩ := hb (by omega)
    have hbad : inR n x = false → xs.all (inR n) = false := fun h => by
      rw [List.all_eq_false]
      exact ⟨x, List.mem_of_getElem? hx, by rw [h]; exact Bool.false_ne_true⟩
    refine swp_skip ?_
    refine then_n ?_
    refine swp_seq ?_
    refine swp_block ?_
    refine swp_seq ?_
    refine swp_region ?_
    refine s_pu (pu_move rfl) ?_
    refine s_pu (pu_move rfl) ?_
    refine s_pu (pu_indexAddr (bo + i * 1) rfl rfl (by omega) (by omega) (by rw [Int.toNat_natCast])) ?_
    refine s_rd (rd_of_ld rfl (by rw [Nat.mul_one]; exact hxl i x hx)) ?_
    refine s_pu (pu_lss rfl rfl) ?_
    refine s_pu (pu_move rfl) ?_
    refine s_split 17 rfl (fun h17 => ?_) (fun h17 => ?_)
    · skip   -- 17 T
      refine s_off rfl rfl rfl ?_
      refine s_off rfl rfl rfl ?_
      refine s_off rfl rfl rfl ?_
      refine s_off rfl rfl rfl ?_
      refine s_off rfl rfl rfl ?_
      refine s_off rfl rfl rfl ?_
      refine s_off rfl rfl rfl ?_
      first | refine s_pu (pu_pick_t rfl rfl) ?_ | refine s_pu (pu_pick_f rfl rfl) ?_
      refine swl_sub _ (.cons (t := 0) rfl (.cons (t := 1) rfl (.cons (t := 5) rfl (.cons (t := 25) rfl .nil)))) ?_
      refine swl_nil ?_
      refine then_n ?_
      refine swp_cond (b := _) rfl (fun h25 => ?_) (fun h25 => by cases h25)
      refine swp_seq ?_
      refine swp_region ?_
      refine s_pu (pu_assign rfl) ?_
      refine swl_sub _ (.cons (t := 4) rfl .nil) ?_
      refine swl_nil ?_
      refine then_n ?_
      refine swp_ret ?_
      refine block_r ?_
      refine then_r ?_
      refine then_r ?_
      refine block_r ?_
      refine then_r ?_
      have h17' := of_decide_eq_true h17
      exact done_ret _ (.tmp rfl .nil) ⟨by unfold unkB; rw [hbad (by unfold inR; rw [decide_eq_false (by omega)]; rfl)]; rfl, rfl⟩ Split.all
    · skip   -- 17 F
      refine s_on rfl rfl ?_
      refine s_pu (pu_move rfl) ?_
      refine s_on rfl rfl ?_
      refine s_pu (pu_move rfl) ?_
      refine s_on rfl rfl ?_
      refine s_pu (pu_indexAddr (bo + i * 1) rfl rfl (by omega) (by omega) (by rw [Int.toNat_natCast])) ?_
      refine s_on rfl rfl ?_
      refine s_rd (rd_of_ld rfl (by rw [Nat.mul_one]; exact hxl i x hx)) ?_
      refine s_on rfl rfl ?_
      refine s_pu (pu_move rfl) ?_
      refine s_on rfl rfl ?_
      refine s_pu (pu_len rfl) ?_
      refine s_on rfl rfl ?_
      refine s_pu (pu_geq rfl rfl) ?_
      first | refine s_pu (pu_pick_t rfl rfl) ?_ | refine s_pu (pu_pick_f rfl rfl) ?_
      refine swl_sub _ (.cons (t := 0) rfl (.cons (t := 1) rfl (.cons (t := 5) rfl (.cons (t := 25) rfl .nil)))) ?_
      refine swl_nil ?_
      refine then_n ?_
      refine swp_cond (b := _) rfl (fun h25 => ?_) (fun h25 => ?_)
      · skip   -- 25 T
        refine swp_seq ?_
        refine swp_region ?_
        refine s_pu (pu_assign rfl) ?_
        refine swl_sub _ (.cons (t := 4) rfl .nil) ?_
        refine swl_nil ?_
        refine then_n ?_
        refine swp_ret ?_
        refine block_r ?_
        refine then_r ?_
        refine then_r ?_
        refine block_r ?_
        refine then_r ?_
        have h25' := of_decide_eq_true h25
        exact done_ret _ (.tmp rfl .nil) ⟨by unfold unkB; rw [hbad (by unfold inR; rw [decide_eq_false (p := x < (n : Int)) (by omega), Bool.and_false])]; rfl, rfl⟩ Split.all
      · skip   -- 25 F
        refine swp_skip ?_
        refine block_n ?_
        refine then_n ?_
        refine swp_region ?_
        refine s_pu (pu_move rfl) ?_
        refine s_pu (pu_add_as ((i + 1 : Nat) : Int) rfl rfl (by omega) (by omega) (by omega)) ?_
        refine s_pu (pu_assign rfl) ?_
        refine swl_sub _ (.cons (t := 0) rfl (.cons (t := 1) rfl (.cons (t := 5) rfl .nil))) ?_
        refine swl_nil ?_
        have h17' := of_decide_eq_false h17
        have h25' := of_decide_eq_false h25
        refine then_n ⟨i + 1, ⟨rfl, rfl, h9', ?_⟩, by omega⟩
        rw [List.take_add_one, hx, List.all_append, hall]
        show (true && ([x].all _)) = true
        simp only [List.all_cons, List.all_nil, Bool.and_true, Bool.true_and]
        unfold inR
        rw [decide_eq_true (show 0 ≤ x by omega), decide_eq_true (show x < (n : Int) by omega)]; rfl
  · skip   -- 9 F
    have h9' := of_decide_eq_false h9
    obtain rfl : i = xs.length := by omega
    rw [List.take_length] at hall
    refine swp_exit ?_
    refine then_x ?_
    refine then_x ?_
    refine block_hit rfl ?_
    refine then_n ?_
    refine swp_seq ?_
    refine swp_region ?_
    refine s_pu (pu_assign rfl) ?_
    refine swl_sub _ (.cons (t := 4) rfl .nil) ?_
    refine swl_nil ?_
    refine then_n ?_
    refine swp_ret ?_
    exact done_ret _ (.tmp rfl .nil) ⟨by unfold unkB; rw [hall]; rfl, rfl⟩ Split.all
theorem elsTo_ext {n : Nat} {S T : Nat → Bool} (h : ∀ k, k < n → S k = T k) : elsTo n S = elsTo n T := by
  unfold elsTo
  rw [List.filter_congr fun k hk => h k (List.mem_range.1 hk)]
theorem down_any {g : List (List Int)} (hg : Good g) {xs : List Int} (hx : ∀ p ∈ xs, 0 ≤ p ∧ p < g.length) (j : Nat) : decide (j ∈ downL g xs) = anyUp g g.length xs j := by
  rw [Bool.eq_iff_iff, decide_eq_true_eq, (downL_spec hg xs).2.2, anyUp_iff hg (fun p hp => (hx p hp).2)]
  constructor
  · rintro ⟨q, hq, hr⟩; exact ⟨q, (inRng_mem.1 hq).1, hr⟩
  · rintro ⟨q, hq, hr⟩; exact ⟨q, inRng_mem.2 ⟨hq, hx _ hq⟩, hr⟩
theorem askedE_one (n : Nat) (l : List Int) : askedE n [l] = if unkB n l = true then 9 else 0 := by
  unfold askedE unkB
  cases h : l.all (inR n) <;> simp [h]
theorem askedE_two (n : Nat) (l m : List Int) : askedE n [l, m] = if (unkB n l || unkB n m) = true then 9 else 0 := by
  unfold askedE unkB
  cases h : l.all (inR n) <;> cases h2 : m.all (inR n) <;> simp [h, h2]
end SX
namespace SX
open Go Go.Proofs

theorem own_full {e n b : Nat} {xs : List Value} {L : List Assn} (h : xs.length = n) (hm : n ≤ maxLen) : Ent (blk b e xs :: L) (own e 1 (.slice (some ⟨b, 0, none⟩) n n) n xs :: L) := by
  have := own_close (e := e) (n := 1) (b := b) (l := n) (cap := n) (xs := xs) (ex := []) (L := L) (by omega) (by simp) (Nat.le_refl _) hm
  rwa [List.append_nil] at this
def noAsk : Nat → Nat := fun _ => 0
end SX
namespace SX
open Go Go.Proofs

theorem ncs_of (a : List Int) : a.flatMap (icsk .i64) = ncs a.length (fun j => a.getD j 0) := by
  apply List.ext_getElem?
  intro j
  by_cases h : j < a.length
  · rw [icells_get' (List.getElem?_eq_getElem h), ncs_get _ h, List.getD_eq_getElem?_getD, List.getElem?_eq_getElem h]; rfl
  · rw [List.getElem?_eq_none (by rw [icells_len']; omega), List.getElem?_eq_none (by rw [ncs_len]; omega)]
theorem ncs_cut (k : Nat) (a : List Int) : (cutG k a).flatMap (icsk .i64) = ncs a.length (fun j => if j < k then a.getD j 0 else 1024) := by
  unfold cutG ncs
  rw [List.flatMap_map]
  generalize List.range a.length = l
  induction l with
  | nil => rfl
  | cons x l ih => rw [List.flatMap_cons, List.map_cons, ih]; rfl
theorem ncs_ext {n : Nat} {c d : Nat → Int} (h : ∀ j, j < n → c j = d j) : ncs n c = ncs n d := by
  unfold ncs
  apply List.map_congr_left
  intro j hj
  rw [h j (List.mem_range.1 hj)]
/-- the source of a graph -/
def gSrc (p : Nat) (vg vn : Value) (G : List (Value × List Int)) (μ : PH) (hG : Graph μ vg G) (hg : Good (nums G)) (hn : G.length ≤ 65536) (hr : ∀ x ∈ G, x.2.length ≤ 17592186043904) : Src where
  t := 25
  v := .pointer (some ⟨p, 0, none⟩)
  d := 0
  hd := Nat.zero_le _
  g := nums G
  hg := hg
  hn := by rw [List.length_map]; exact hn
  σ := Nat → Nat
  A := fun a _ => gA p vg vn G.length a
  mono := fun _ => Ent.refl _
  ok := fun a c => a c ≤ 4611686018427387904
  step := ask1
  μ0 := μ
  commits := fun a _ => by
    have h := gcommits_spec p G.length vg vn a hG.1.sl
    refine InvS.of ?_
    rwa [show (nums G).length = G.length from List.length_map _]
  parents := fun a μ' c h hc ha => InvS.of (gparents_spec μ' p vg vn a G c (hG.le h) (by rwa [show (nums G).length = G.length from List.length_map _] at hc) ha hr)
theorem ask_no {c : Nat} : ∀ {ys : List Nat} {a : Nat → Nat}, c ∉ ys → (ys.foldl ask1 a) c = a c
  | [], _, _ => rfl
  | y :: ys, a, h => by
    rw [List.foldl_cons, ask_no (fun hc => h (List.mem_cons_of_mem _ hc))]
    unfold ask1
    rw [if_neg (fun e => h (by rw [e]; exact List.mem_cons_self ..))]
theorem ask_le {m c : Nat} : ∀ {ys : List Nat} {a : Nat → Nat}, ys.Nodup → a c ≤ m → (ys.foldl ask1 a) c ≤ m + 1
  | [], _, _, h => by show _ ≤ _; exact Nat.le_succ_of_le h
  | y :: ys, a, hn, h => by
    rw [List.foldl_cons]
    obtain ⟨h1, h2⟩ := List.nodup_cons.1 hn
    by_cases e : c = y
    · subst e
      rw [ask_no h1]
      unfold ask1
      rw [if_pos rfl]; omega
    · exact ask_le h2 (by unfold ask1; rw [if_neg e]; exact h)
section
variable {p : Nat} {vg vn : Value} {G : List (Value × List Int)} {μ : PH} {hG : Graph μ vg G} {hg : Good (nums G)} {hn : G.length ≤ 65536} {hr : ∀ x ∈ G, x.2.length ≤ 17592186043904}
theorem gSrc_fine {a : Nat → Nat} (ha : ∀ c, a c ≤ 4611686018427387904) : (gSrc p vg vn G μ hG hg hn hr).fine a := fun ys c _ hc _ _ => by
  show (ys.foldl ask1 a) c ≤ _
  rw [ask_no hc]; exact ha c
end
set_option maxHeartbeats 2000000 in
theorem good_spec (μ : PH) (v : Value) (G : List (Value × List Int)) (mo : Nat) (kn : Int) (hG : Graph μ v G) (hn : G.length ≤ 17592186043904) (hmo : mo ≤ 1048576) (hrows : ∀ x ∈ G, x.2.length ≤ 17592186043904) :
    Spec Tryd.prog 14 [v, .int .i64 (mo : Nat), .int .i64 kn] [ro μ] (fun r L => ∃ μ', Le μ μ' ∧
      ((¬ chkFrom 0 (nums (G.take (min G.length mo))) = 0 ∧ r = .pointer none ∧ L = [ro μ'])
       ∨ ∃ p v' vn gs, r = .pointer (some ⟨p, 0, none⟩) ∧ Graph μ' v' (G.take (min G.length mo)) ∧ moreG [] (nums (G.take (min G.length mo))) = some gs ∧ Row μ' vn 1 (cutG kn.toNat gs).length ((cutG kn.toNat gs).flatMap (icsk .i64)) ∧ L = [gA p v' vn (min G.length mo) noAsk, ro μ'])) := by
  refine Spec.of 42 Tryd.func14 rfl rfl rfl ?_
  refine swp_seq ?_
  refine swp_region ?_
  refine s_pu (pu_assign rfl) ?_
  refine swl_sub _ (.cons (t := 0) rfl (.cons (t := 1) rfl (.cons (t := 2) rfl .nil))) ?_
  refine swl_nil ?_
  refine then_n ?_
  refine swp_seq ?_
  obtain ⟨v', hG1, hsl⟩ := graph_take (P := Tryd.prog) (tG := 22) hG (min G.length mo) (Nat.min_le_left _ _)
  have hmn : (min (G.length : Int) (mo : Int)) = ((min G.length mo : Nat) : Int) := by omega
  have hrows1 : ∀ x ∈ G.take (min G.length mo), x.2.length ≤ 17592186043904 := fun x hx => hrows x (List.mem_of_mem_take hx)
  have hlen1 : (G.take (min G.length mo)).length = min G.length mo := by rw [List.length_take]; omega
  have hml : min G.length mo ≤ 1048576 := by omega
  generalize hm : min G.length mo = m at *
  generalize G.take m = Gm at *
  refine swp_region ?_
  refine s_pu (pu_move rfl) ?_
  refine s_pu (pu_move rfl) ?_
  refine s_pu (pu_len_row hG.1 rfl) ?_
  refine s_pu (pu_move rfl) ?_
  refine s_pu (pu_min2 rfl rfl) ?_
  rw [hmn]
  refine s_pu (hsl _ _ _ .i64 _ rfl rfl rfl) ?_
  refine s_pu (pu_assign rfl) ?_
  refine swl_sub _ (.cons (t := 0) rfl (.cons (t := 2) rfl .nil)) ?_
  refine swl_nil ?_
  refine then_n ?_
  refine swp_seq ?_
  refine swp_seq ?_
  refine swp_region ?_
  refine s_pu (pu_move rfl) ?_
  refine s_ef (ef_fn (rcheck_spec μ v' Gm hG1 (by omega)) rfl rfl (by repeat (first | exact Split.nil | (apply Split.cons; (repeat (first | with_reducible exact Take.here | apply Take.there)))))) ?_
  rintro v17 L1 ⟨rfl, rfl⟩
  refine swl_app ?_
  refine s_pu (pu_neq rfl rfl) ?_
  refine swl_sub _ (.cons (t := 0) rfl (.cons (t := 2) rfl (.cons (t := 18) rfl .nil))) ?_
  refine swl_nil ?_
  refine then_n ?_
  refine swp_cond (b := _) rfl (fun h18 => ?_) (fun h18 => ?_)
  · skip   -- 18 T
    have hc : ¬ chkFrom 0 (nums Gm) = 0 := by simpa using h18
    refine swp_seq ?_
    refine swp_region ?_
    refine s_pu (pu_assign rfl) ?_
    refine swl_sub _ (.cons (t := 6) rfl .nil) ?_
    refine swl_nil ?_
    refine then_n ?_
    refine swp_ret ?_
    refine then_r ?_
    exact done_ret [ro μ] (.tmp rfl .nil) ⟨μ, Le.refl _, .inl ⟨hc, rfl, rfl⟩⟩ (by repeat (first | exact Split.nil | (apply Split.cons; (repeat (first | with_reducible exact Take.here | apply Take.there)))))
  · skip   -- 18 F
    have hc : chkFrom 0 (nums Gm) = 0 := by simpa using h18
    obtain ⟨a, ha⟩ : ∃ a, moreG [] (nums Gm) = some a := by
      have hs : (moreG [] (nums Gm)).isSome = true ↔ chkFrom 0 (nums Gm) = 0 := moreG_chk (all := [])
      exact Option.isSome_iff_exists.1 (hs.2 hc)
    have hal : a.length = m := by rw [gens_len ha, List.length_map, hlen1]
    have hyes := moreL_some ha
    refine swp_skip ?_
    refine then_n ?_
    refine swp_seq ?_
    refine swp_region ?_
    refine s_pu (pu_move rfl) ?_
    refine s_ef (ef_fn (rall_spec μ v' Gm hG1 (by omega) hrows1) rfl rfl (by repeat (first | exact Split.nil | (apply Split.cons; (repeat (first | with_reducible exact Take.here | apply Take.there)))))) ?_
    rintro v21 L1 ⟨lv, rfl, rfl⟩
    refine swl_app ?_
    rw [hyes.1, hyes.2, show a.drop ([] : List Int).length = a from rfl]
    refine swl_fact (fun m h => own_shape .here h) fun hs1 => ?_
    have hform := shape_len hs1
    refine s_pu (pu_move rfl) ?_
    first | refine s_pu (pu_extractL rfl) ?_ | refine s_pu (pu_extract rfl rfl) ?_
    first | refine s_pu (pu_extractL rfl) ?_ | refine s_pu (pu_extract rfl rfl) ?_
    refine s_pu (pu_assign rfl) ?_
    refine s_pu (pu_assign rfl) ?_
    refine swl_sub _ (.cons (t := 0) rfl (.cons (t := 2) rfl (.cons (t := 7) rfl .nil))) ?_
    refine swl_nil ?_
    refine then_n ?_
    refine swp_seq ?_
    refine swp_seq ?_
    refine swp_region ?_
    refine s_pu (pu_move rfl) ?_
    refine s_pu (pu_max2 rfl rfl) ?_
    rw [show max kn 0 = ((kn.toNat : Nat) : Int) by omega]
    generalize kn.toNat = kk at *
    refine s_pu (pu_assign rfl) ?_
    refine swl_sub _ (.cons (t := 0) rfl (.cons (t := 7) rfl (.cons (t := 9) rfl .nil))) ?_
    refine swl_nil ?_
    refine then_n ?_
    refine swp_block ?_
    rw [ncs_of, ncs_ext (d := fun j => if kk ≤ j ∧ j < kk then 1024 else a.getD j 0) (fun j _ => (if_neg (by omega)).symm)]
    refine swp_sub _ (.cons (t := 0) rfl (.cons (t := 7) rfl (.cons (t := 9) rfl .nil))) ?_
    refine swp_loop (ι := Nat) (fun i env L => env = [(0, v'), (7, lv), (9, .int .i64 (i : Nat))] ∧ L = [own 3 1 lv a.length (ncs a.length (fun j => if kk ≤ j ∧ j < i then 1024 else a.getD j 0)), ro μ] ∧ kk ≤ i) (fun i => a.length - i) kk ⟨rfl, rfl, Nat.le_refl _⟩ ?_
    rintro i env L ⟨rfl, rfl, hi⟩
    refine swp_seq ?_
    refine swp_seq ?_
    refine swp_region ?_
    refine s_pu (pu_move rfl) ?_
    refine s_pu (pu_move rfl) ?_
    refine s_pu (pu_len_own hform rfl) ?_
    refine s_pu (pu_lss rfl rfl) ?_
    refine swl_sub _ (.cons (t := 0) rfl (.cons (t := 7) rfl (.cons (t := 9) rfl (.cons (t := 29) rfl .nil)))) ?_
    refine swl_nil ?_
    refine then_n ?_
    refine swp_cond (b := _) rfl (fun h29 => ?_) (fun h29 => ?_)
    · skip   -- 29 T
      have h29' : i < a.length := by have := of_decide_eq_true h29; omega
      refine swp_own (fun h0 l0 _ => by omega) (fun b1 c1 ex1 hv1 w1 w2 w3 w4 => ?_)
      subst hv1
      refine swp_skip ?_
      refine then_n ?_
      refine swp_seq ?_
      refine swp_block ?_
      refine swp_region ?_
      refine s_pu (pu_move rfl) ?_
      refine s_pu (pu_move rfl) ?_
      refine s_pu (pu_indexAddr i rfl rfl (by omega) (by omega) (by omega)) ?_
      refine s_ef0 (ef_storeP rfl rfl rfl (by rw [List.length_append, ncs_len]; omega)) ?_
      refine swl_sub _ (.cons (t := 0) rfl (.cons (t := 7) rfl (.cons (t := 9) rfl .nil))) ?_
      rw [List.set_append_left (h := by rw [ncs_len]; exact h29'), ncs_set (d := fun j => if kk ≤ j ∧ j < i + 1 then 1024 else a.getD j 0) (fun j => by
        by_cases e : j = i
        · subst e; rw [if_pos rfl, if_pos ⟨hi, Nat.lt_succ_self _⟩]
        · rw [if_neg e]
          by_cases h : kk ≤ j ∧ j < i
          · rw [if_pos h, if_pos (by omega)]
          · rw [if_neg h, if_neg (by omega)])]
      refine swl_ent (own_close (n := 1) (by rw [ncs_len]; omega) w4 w1 w2) ?_
      refine swl_nil ?_
      refine block_n ?_
      refine then_n ?_
      refine swp_region ?_
      refine s_pu (pu_move rfl) ?_
      refine s_pu (pu_add_as ((i + 1 : Nat) : Int) rfl rfl (by omega) (by omega) (by omega)) ?_
      refine s_pu (pu_assign rfl) ?_
      refine swl_sub _ (.cons (t := 0) rfl (.cons (t := 7) rfl (.cons (t := 9) rfl .nil))) ?_
      refine swl_nil ?_
      exact then_n ⟨i + 1, ⟨rfl, rfl, by omega⟩, by omega⟩
    · skip   -- 29 F
      have h29' := of_decide_eq_false h29
      rw [ncs_ext (d := fun j => if j < kk then a.getD j 0 else 1024) (fun j hj => by
        by_cases h : j < kk
        · rw [if_pos h, if_neg (by omega)]
        · rw [if_neg h, if_pos (by omega)]), ← ncs_cut]
      have hcl := cutG_len kk a
      rw [← hcl]
      refine swp_share_own (μ := μ) (by repeat (first | exact Split.nil | (apply Split.cons; (repeat (first | with_reducible exact Take.here | apply Take.there))))) fun μ4 h4 r4 => ?_
      obtain ⟨A9, c9, rfl⟩ := r4.sl
      obtain ⟨A8, c8, rfl⟩ := hG1.1.sl
      refine swp_exit ?_
      refine then_x ?_
      refine then_x ?_
      refine block_hit rfl ?_
      refine then_n ?_
      refine swp_seq ?_
      refine swp_region ?_
      refine s_pu (pu_move rfl) ?_
      refine s_pu (pu_move rfl) ?_
      refine s_pu (pu_move rfl) ?_
      refine s_pu (pu_len_row hG1.1 rfl) ?_
      refine s_ef (ef_make1 m rfl rfl (by rw [hlen1]) (by omega) (by simp only [maxLen]; omega)) ?_
      rintro b39
      skip
      refine s_pu (pu_bld (qs := [(0, _), (1, _), (2, _)]) rfl) ?_
      refine s_ef (ef_box rfl rfl) ?_
      intro b41
      refine s_pu (pu_assign rfl) ?_
      refine swl_sub _ (.cons (t := 6) rfl .nil) ?_
      rw [show List.replicate m (Value.int .i64 0) = askV m noAsk from ncs_zero m]
      refine swl_ent (Split.ent' (K := [blk b39 3 (askV m noAsk), blk b41 33 [.slice A8 Gm.length c8, .slice A9 (cutG kk a).length c9, .slice (some ⟨b39, 0, none⟩) m m], ro μ4]) (by repeat (first | exact Split.nil | (apply Split.cons; (repeat (first | with_reducible exact Take.here | apply Take.there)))))) ?_
      refine swl_ent (own_full (by unfold askV; rw [ncs_len]) (by simp only [maxLen]; omega)) ?_
      refine swl_nil ?_
      refine then_n ?_
      refine swp_ret ?_
      refine done_retE [gA b41 (.slice A8 Gm.length c8) (.slice A9 (cutG kk a).length c9) m noAsk, ro μ4] (.tmp rfl .nil) ⟨μ4, h4, .inr ⟨b41, _, _, a, rfl, hG1.le h4, ha, r4, rfl⟩⟩ ?_
      exact (Ent.perm (.swap _ _ _)).trans gA_close
end SX
namespace SX
open Go Go.Proofs

/-- a good source -/
structure GS (μ : PH) (vg vn : Value) (G : List (Value × List Int)) (gs : List Int) (k : Nat) : Prop where
  hG : Graph μ vg G
  ha : moreG [] (nums G) = some gs
  hv : Row μ vn 1 (cutG k gs).length ((cutG k gs).flatMap (icsk .i64))
  hn : G.length ≤ 65536
  hr : ∀ x ∈ G, x.2.length ≤ 17592186043904
theorem GS.le {μ μ' : PH} {vg vn : Value} {G : List (Value × List Int)} {gs : List Int} {k : Nat} (h : GS μ vg vn G gs k) (l : Le μ μ') : GS μ' vg vn G gs k := ⟨h.hG.le l, h.ha, h.hv.le l, h.hn, h.hr⟩
abbrev gV (p : Nat) : Value := .iface 25 (.pointer (some ⟨p, 0, none⟩))
section
variable {μ : PH} {vg vn : Value} {G : List (Value × List Int)} {gs : List Int} {k : Nat}
theorem GS.good (h : GS μ vg vn G gs k) : Good (nums G) := gens_good h.ha
end
theorem walks_all : chkFrom 0 [[], [0], [0], [1, 2], [2, 1]] = 0 ∧ isAnc [[], [0], [0], [1, 2], [2, 1]] 1 4 = true ∧ isAnc [[], [0], [0], [1, 2], [2, 1]] 3 4 = false
    ∧ askedE 5 [[1, 4]] = 0 ∧ askedE 5 [[3, 4]] = 0 ∧ onlyE [[], [0], [0], [1, 2], [2, 1]] [3] [1] = 0 ∧ onlyA [[], [0], [0], [1, 2], [2, 1]] [3] [1] = [2, 3] := by decide +kernel
abbrev LawOk (μ : PH) (r : Value) (L : List Assn) : Prop := r = .bool true ∧ ∃ μ' R, Le μ μ' ∧ L = ro μ' :: R
end SX
namespace SX
open Go Go.Proofs

def GoodIs (G : List (Value × List Int)) (mo : Nat) (kn : Int) (μ' : PH) (o : Option Addr) (A : Assn) : Prop :=
  (o = none ∧ ¬ chkFrom 0 (nums (G.take (min G.length mo))) = 0) ∨ ∃ p v' vn gs, o = some ⟨p, 0, none⟩ ∧ GS μ' v' vn (G.take (min G.length mo)) gs kn.toNat ∧ A = gA p v' vn (G.take (min G.length mo)).length noAsk
theorem good2_spec (μ : PH) (v : Value) (G : List (Value × List Int)) (mo : Nat) (kn : Int) (hG : Graph μ v G) (hn : G.length ≤ 17592186043904) (hmo : mo ≤ 65536) (hrows : ∀ x ∈ G, x.2.length ≤ 17592186043904) :
    Spec Tryd.prog 14 [v, .int .i64 (mo : Nat), .int .i64 kn] [ro μ] (fun r L => ∃ μ' o A, Le μ μ' ∧ r = .pointer o ∧ L = [A, ro μ'] ∧ GoodIs G mo kn μ' o A) := by
  refine Spec.ent3 (good_spec μ v G mo kn hG hn (by omega) hrows) fun r L ⟨μ', h1, h2⟩ => ?_
  have hl : (G.take (min G.length mo)).length = min G.length mo := by rw [List.length_take]; omega
  rcases h2 with ⟨k1, rfl, rfl⟩ | ⟨p, v', vn, gs, rfl, k1, k2, k3, rfl⟩
  · exact ⟨_, star_close (K := []) (L := [ro μ']), μ', none, star [], h1, rfl, rfl, .inl ⟨rfl, k1⟩⟩
  · exact ⟨_, Ent.refl _, μ', _, _, h1, rfl, rfl, .inr ⟨p, v', vn, gs, rfl, ⟨k1, k2, k3, by omega, fun x hx => hrows x (List.mem_of_mem_take hx)⟩, by rw [hl]⟩⟩
end SX
namespace SX
open Go Go.Proofs

end SX
namespace SX
open Go Go.Proofs

theorem row_take {μ : PH} {v : Value} {xs : List Int} (hv : Row μ v 1 xs.length (xs.flatMap (icsk .i64))) (k : Nat) (hk : k ≤ xs.length) :
    ∃ v', Row μ v' 1 (xs.take k).length ((xs.take k).flatMap (icsk .i64)) ∧ ∀ (env : Env) (x y : Operand) (ki : IntKind) (hi : Int), evalE env x = some v → evalE env y = some (.int ki hi) → hi = (k : Int) → Pu Tryd.prog env (.slice 31 x none (some y) none) v' := by
  obtain ⟨v', hr, hp⟩ := Row.hi (P := Tryd.prog) (t := 31) hv k hk
  refine ⟨v', ?_, hp⟩
  rw [Nat.mul_one, flat_take (icsk_len .i64)] at hr
  rwa [List.length_take, Nat.min_eq_left hk]
end SX
namespace SX
open Go Go.Proofs

theorem cutK {v : Value} {μ : PH} {xs : List Int} (m : Nat) (hv : Row μ v 1 xs.length (xs.flatMap (icsk .i64))) : ∃ (v' : Value) (ys : List Int), ys = xs.take (min xs.length m) ∧ ys.length ≤ m ∧ Row μ v' 1 ys.length (ys.flatMap (icsk .i64)) ∧ ∀ (env : Env) (x y : Operand) (ki : IntKind) (hi : Int), evalE env x = some v → evalE env y = some (.int ki hi) → hi = min (xs.length : Int) m → Pu Tryd.prog env (.slice 31 x none (some y) none) v' := by
  obtain ⟨v', h1, h2⟩ := row_take hv (min xs.length m) (Nat.min_le_left _ _)
  exact ⟨v', _, rfl, by rw [List.length_take]; omega, h1, fun env x y ki hi a b c => h2 env x y ki hi a b (by omega)⟩
theorem asked_le {n m : Nat} {zs : List Nat} {a : Nat → Nat} (h : askedIn n zs) (ha : ∀ c, a c ≤ m) : ∀ c, (zs.foldl ask1 a) c ≤ m + 1 := fun c => ask_le h.1 (ha c)
theorem onlyE_unk (g : List (List Int)) (xs ys : List Int) : onlyE g xs ys = if (unkB g.length xs || unkB g.length ys) = true then 9 else 0 := askedE_two _ _ _
theorem elsTo_mem {n : Nat} {S : Nat → Bool} {c : Int} : c ∈ elsTo n S ↔ ∃ k : Nat, c = k ∧ k < n ∧ S k = true := by
  unfold elsTo numsI
  rw [List.mem_map]
  constructor
  · rintro ⟨k, hk, rfl⟩
    rw [List.mem_filter, List.mem_range] at hk
    exact ⟨k, rfl, hk⟩
  · rintro ⟨k, rfl, h⟩
    exact ⟨k, by rw [List.mem_filter, List.mem_range]; exact h, rfl⟩
end SX
namespace SX
open Go Go.Proofs

theorem anyUp_one {g : List (List Int)} (hg : Good g) {b : Nat} (hb : b < g.length) (j : Nat) : anyUp g g.length [(b : Int)] j = up g b j := by
  rw [Bool.eq_iff_iff, anyUp_iff hg (fun p hp => by obtain rfl := List.mem_singleton.1 hp; omega), up_iff hg]
  constructor
  · rintro ⟨q, hq, hr⟩
    obtain rfl : q = b := by have := List.mem_singleton.1 hq; omega
    exact hr
  · exact fun h => ⟨b, List.mem_singleton.2 rfl, h⟩
theorem askedE_pair {n a b : Nat} (ha : a < n) (hb : b < n) : askedE n [[(a : Int), (b : Int)]] = 0 := by
  unfold askedE inR
  simp [ha, hb]
/-- a bound for how often it was asked -/
@[irreducible] def cA : Nat := 18000000000000
@[irreducible] def cB : Nat := 260000000000000
theorem cA_eq : cA = 18000000000000 := by unfold cA; rfl
def wpK (b a i : Nat) : Nat := b * cB + a * cA + i
theorem wpK_a {x b a l : Nat} (h : x ≤ wpK b a (l + 2)) (hl : l ≤ 17592186043904) : x ≤ wpK b (a + 1) 1 := by
  unfold wpK at *
  rw [Nat.succ_mul]
  have := cA_eq
  generalize b * cB = z at *
  generalize a * cA = y at *
  omega
end SX
namespace SX
open Go Go.Proofs

theorem falls_els {n : Nat} {D : List Nat} (h : Falls D) (hn : ∀ j ∈ D, j < n) : elsTo n (fun j => decide (j ∈ D)) = numsI D.reverse := by
  unfold elsTo
  congr 1
  have key : ((List.range n).filter fun j => decide (j ∈ D)).reverse = D := by
    refine falls_ext ?_ h fun j => ?_
    · unfold Falls
      rw [List.pairwise_reverse]
      exact List.pairwise_lt_range.filter _
    · rw [List.mem_reverse, List.mem_filter, List.mem_range, decide_eq_true_eq]
      exact ⟨fun h => h.2, fun h => ⟨hn j h, h⟩⟩
  rw [← key, List.reverse_reverse, key]
theorem ent_open {α : Type} {F : α → List Assn} {L L' : List Assn} (h : ∀ x, Ent (F x ++ L) L') : Ent (exA F :: L) L' := fun m hm => by
  obtain ⟨x, hx⟩ := exA_open hm
  exact h x m hx
def GS.src {μ : PH} {vg vn : Value} {G : List (Value × List Int)} {gs : List Int} {k : Nat} (h : GS μ vg vn G gs k) (p : Nat) : Src := gSrc p vg vn G μ h.hG h.good h.hn h.hr
end SX
namespace SX.Bq
open Go Go.Proofs SX
abbrev WI : Type := Int
abbrev wiV (x : WI) : Value := .int .i64 x
def wiZ : WI := 0
/-- the greatest first -/
def ltW (a b : WI) : Bool := decide (b < a)
theorem ltW_ord : Hp.Ord ltW := ⟨fun a b h => by
  have h' : @LT.lt Int _ b a := of_decide_eq_true h
  exact decide_eq_false (show ¬ @LT.lt Int _ a b by omega), fun a b c h1 h2 => by
  have h1' : ¬ @LT.lt Int _ a b := of_decide_eq_false h1
  have h2' : ¬ @LT.lt Int _ b c := of_decide_eq_false h2
  exact decide_eq_false (show ¬ @LT.lt Int _ a c by omega)⟩
theorem before_w (a b : WI) : Spec Tryd.prog 119 [wiV a, wiV b] [] (fun v L => v = .bool (ltW a b) ∧ L = []) := by
  refine Spec.of 8 Tryd.func119 rfl rfl rfl ?_
  refine swp_seq ?_
  refine swp_region ?_
  refine s_pu (pu_assign rfl) ?_
  refine swl_sub _ (.cons (t := 0) rfl (.cons (t := 1) rfl .nil)) ?_
  refine swl_nil ?_
  refine then_n ?_
  refine swp_seq ?_
  refine swp_region ?_
  refine s_pu (pu_move rfl) ?_
  refine s_pu (pu_move rfl) ?_
  refine s_pu (pu_gtr rfl rfl) ?_
  refine s_pu (pu_assign rfl) ?_
  refine swl_sub _ (.cons (t := 4) rfl .nil) ?_
  refine swl_nil ?_
  refine then_n ?_
  refine swp_ret ?_
  exact done_ret [] (.tmp rfl .nil) ⟨rfl, rfl⟩ (by repeat (first | exact Split.nil | (apply Split.cons; (repeat (first | with_reducible exact Take.here | apply Take.there)))))
end SX.Bq
namespace SX.Bq
open Go Go.Proofs SX

abbrev aW := Hp.ahd ltW
def wcs (e : WI × Nat) : List Value := [wiV e.1, .int .u64 (e.2 : Nat)]
theorem wcs_len (e : WI × Nat) : (wcs e).length = 2 := rfl
def wents (es : List (WI × Nat)) : List Value := es.flatMap wcs
theorem wents_len (es : List (WI × Nat)) : (wents es).length = es.length * 2 := by unfold wents; rw [flat_length wcs_len]
theorem wents_snoc (es : List (WI × Nat)) (x : WI) (n : Nat) : wents es ++ [wiV x, .int .u64 (n : Nat)] = wents (es ++ [(x, n)]) := by simp [wents, wcs]

theorem ahead_w (a b : WI) (n1 n2 : Nat) : Spec Tryd.prog 95 [.agg #[wiV a, .int .u64 (n1 : Nat)], .agg #[wiV b, .int .u64 (n2 : Nat)]] []
    (fun v L => v = .bool (aW (a, n1) (b, n2)) ∧ L = []) := by
  refine Spec.of 25 Tryd.func95 rfl rfl rfl ?_
  refine swp_seq ?_
  refine swp_region ?_
  refine s_ef (ef_box rfl rfl) ?_
  intro b2
  refine s_ef (ef_box rfl rfl) ?_
  intro b3
  refine s_pu (pu_assign rfl) ?_
  refine swl_sub _ (.cons (t := 2) rfl (.cons (t := 3) rfl .nil)) ?_
  refine swl_nil ?_
  refine then_n ?_
  refine swp_seq ?_
  refine swp_seq ?_
  refine swp_region ?_
  first | refine s_pu (pu_fieldAddr0 rfl) ?_ | refine s_pu (pu_fieldAddr rfl) ?_
  refine s_rd (rd_load rfl rfl) ?_
  refine s_pu (pu_iface rfl) ?_
  first | refine s_pu (pu_fieldAddr0 rfl) ?_ | refine s_pu (pu_fieldAddr rfl) ?_
  refine s_rd (rd_load rfl rfl) ?_
  refine s_ef (ef_inv rfl (before_w _ _) rfl (by repeat (first | exact Split.nil | (apply Split.cons; (repeat (first | with_reducible exact Take.here | apply Take.there)))))) ?_
  rintro v L1 ⟨rfl, rfl⟩
  refine swl_app ?_
  refine swl_sub _ (.cons (t := 2) rfl (.cons (t := 3) rfl (.cons (t := 10) rfl .nil))) ?_
  refine swl_nil ?_
  refine then_n ?_
  refine swp_cond (b := _) rfl (fun h10 => ?_) (fun h10 => ?_)
  · skip   -- 10 T
    refine swp_seq ?_
    refine swp_region ?_
    refine s_pu (pu_assign rfl) ?_
    refine swl_sub _ (.cons (t := 4) rfl .nil) ?_
    refine swl_nil ?_
    refine then_n ?_
    refine swp_ret ?_
    refine then_r ?_
    exact done_ret [] (.tmp rfl .nil) ⟨by simp [resV, h10, Hp.ahd], rfl⟩ (by repeat (first | exact Split.nil | (apply Split.cons; (repeat (first | with_reducible exact Take.here | apply Take.there)))))
  · skip   -- 10 F
    refine swp_skip ?_
    refine then_n ?_
    refine swp_seq ?_
    refine swp_region ?_
    first | refine s_pu (pu_fieldAddr0 rfl) ?_ | refine s_pu (pu_fieldAddr rfl) ?_
    refine s_rd (rd_load rfl rfl) ?_
    refine s_pu (pu_iface rfl) ?_
    first | refine s_pu (pu_fieldAddr0 rfl) ?_ | refine s_pu (pu_fieldAddr rfl) ?_
    refine s_rd (rd_load rfl rfl) ?_
    refine s_ef (ef_inv rfl (before_w _ _) rfl (by repeat (first | exact Split.nil | (apply Split.cons; (repeat (first | with_reducible exact Take.here | apply Take.there)))))) ?_
    rintro v L1 ⟨rfl, rfl⟩
    refine swl_app ?_
    refine s_pu (pu_not rfl) ?_
    refine s_pu (pu_move rfl) ?_
    refine s_split 18 rfl (fun h18 => ?_) (fun h18 => ?_)
    · skip   -- 18 T
      refine s_on rfl rfl ?_
      first | refine s_pu (pu_fieldAddr0 rfl) ?_ | refine s_pu (pu_fieldAddr rfl) ?_
      refine s_on rfl rfl ?_
      refine s_rd (rd_load rfl rfl) ?_
      refine s_on rfl rfl ?_
      first | refine s_pu (pu_fieldAddr0 rfl) ?_ | refine s_pu (pu_fieldAddr rfl) ?_
      refine s_on rfl rfl ?_
      refine s_rd (rd_load rfl rfl) ?_
      refine s_on rfl rfl ?_
      refine s_pu (pu_lss rfl rfl) ?_
      first | refine s_pu (pu_pick_t rfl rfl) ?_ | refine s_pu (pu_pick_f rfl rfl) ?_
      refine s_pu (pu_assign rfl) ?_
      refine swl_sub _ (.cons (t := 4) rfl .nil) ?_
      refine swl_nil ?_
      refine then_n ?_
      refine swp_ret ?_
      exact done_ret [] (.tmp rfl .nil) ⟨by simp [resV, h10, h18, Hp.ahd], rfl⟩ (by repeat (first | exact Split.nil | (apply Split.cons; (repeat (first | with_reducible exact Take.here | apply Take.there)))))
    · skip   -- 18 F
      refine s_off rfl rfl rfl ?_
      refine s_off rfl rfl rfl ?_
      refine s_off rfl rfl rfl ?_
      refine s_off rfl rfl rfl ?_
      refine s_off rfl rfl rfl ?_
      first | refine s_pu (pu_pick_t rfl rfl) ?_ | refine s_pu (pu_pick_f rfl rfl) ?_
      refine s_pu (pu_assign rfl) ?_
      refine swl_sub _ (.cons (t := 4) rfl .nil) ?_
      refine swl_nil ?_
      refine then_n ?_
      refine swp_ret ?_
      exact done_ret [] (.tmp rfl .nil) ⟨by simp [resV, h10, h18, Hp.ahd], rfl⟩ (by repeat (first | exact Split.nil | (apply Split.cons; (repeat (first | with_reducible exact Take.here | apply Take.there)))))

/-- a queue's struct and its array -/
def wraw (q : Nat) (es : List (WI × Nat)) (nxt : Nat) : Assn := exA (fun v : Value => [blk q 121 [v, .int .u64 (nxt : Nat)], own 133 2 v es.length (wents es)])
theorem wraw_close {q g cap nxt : Nat} {es : List (WI × Nat)} {ex : List Value} {L : List Assn} (h1 : es.length ≤ cap) (h2 : cap ≤ maxLen) (h4 : ex.length = (cap - es.length) * 2) :
    Ent (blk g 133 (wents es ++ ex) :: blk q 121 [.slice (some ⟨g, 0, none⟩) es.length cap, .int .u64 (nxt : Nat)] :: L) (wraw q es nxt :: L) :=
  (own_close (wents_len es) h4 h1 h2).trans (ent_ex (F := fun v => [blk q 121 [v, .int .u64 (nxt : Nat)], own 133 2 v es.length (wents es)]) (.slice (some ⟨g, 0, none⟩) es.length cap) (by repeat (first | exact Split.nil | (apply Split.cons; (repeat (first | with_reducible exact Take.here | apply Take.there))))))
theorem wraw_nil {q nxt : Nat} {L : List Assn} : Ent (blk q 121 [.slice none 0 0, .int .u64 (nxt : Nat)] :: L) (wraw q [] nxt :: L) :=
  Ent.imp fun m hm => ⟨.slice none 0 0, m, fun _ => none, hm, ⟨fun _ => none, fun _ => none, own_nil _ _ _, trivial, by simp, by simp, by simp⟩, by simp, fun _ _ h => h, by simp⟩

set_option maxHeartbeats 1000000 in
theorem push_w (q : Nat) (es : List (WI × Nat)) (nxt : Nat) (x : WI) (hb1 : es.length ≤ 1099511627776) (hb2 : nxt ≤ 18446744073709551614) :
    Spec Tryd.prog 86 [.pointer (some ⟨q, 0, none⟩), wiV x] [wraw q es nxt] (fun v L => v = .tuple #[] ∧ L = [wraw q (Hp.up aW es.length (es ++ [(x, nxt)]) es.length) (nxt + 1)]) := by
  refine Spec.of 84 Tryd.func86 rfl rfl rfl ?_
  refine swp_ex fun v => ?_
  refine swp_app ?_
  refine swp_seq ?_
  refine swp_seq ?_
  refine swp_region ?_
  refine s_pu (pu_move rfl) ?_
  refine s_pu (pu_ptr_eq_nil rfl rfl) ?_
  refine swl_sub _ (.cons (t := 0) rfl (.cons (t := 1) rfl (.cons (t := 7) rfl .nil))) ?_
  refine swl_nil ?_
  refine then_n ?_
  refine swp_cond (b := _) rfl (fun h7 => by cases h7) (fun h7 => ?_)
  refine swp_skip ?_
  refine then_n ?_
  refine swp_seq ?_
  refine swp_draw [4, 9] _ [] (by simp only [List.append_nil]; exact Ent.refl _) (by kernel_rfl) ?_
  refine d_pu 0 rfl (pu_move rfl) (by kernel_rfl) (by kernel_rfl) (by kernel_rfl) ?_
  refine d_pu 1 rfl (pu_move rfl) (by kernel_rfl) (by kernel_rfl) (by kernel_rfl) ?_
  first | refine d_pu 2 rfl (pu_nilCheck rfl) (by kernel_rfl) (by kernel_rfl) (by kernel_rfl) ?_ | refine d_pu 2 rfl (pu_nilCheck_fn rfl) (by kernel_rfl) (by kernel_rfl) (by kernel_rfl) ?_ | refine d_pu 2 rfl (pu_nilCheck_if rfl) (by kernel_rfl) (by kernel_rfl) (by kernel_rfl) ?_
  first | refine d_pu 3 rfl (pu_fieldAddr0 rfl) (by kernel_rfl) (by kernel_rfl) (by kernel_rfl) ?_ | refine d_pu 3 rfl (pu_fieldAddr rfl) (by kernel_rfl) (by kernel_rfl) (by kernel_rfl) ?_
  refine d_rd 4 rfl (rd_load rfl rfl) rfl (by kernel_rfl) (by kernel_rfl) (by kernel_rfl) ?_
  refine d_pu 5 rfl (pu_move rfl) (by kernel_rfl) (by kernel_rfl) (by kernel_rfl) ?_
  refine d_pu 6 rfl (pu_move rfl) (by kernel_rfl) (by kernel_rfl) (by kernel_rfl) ?_
  first | refine d_pu 7 rfl (pu_nilCheck rfl) (by kernel_rfl) (by kernel_rfl) (by kernel_rfl) ?_ | refine d_pu 7 rfl (pu_nilCheck_fn rfl) (by kernel_rfl) (by kernel_rfl) (by kernel_rfl) ?_ | refine d_pu 7 rfl (pu_nilCheck_if rfl) (by kernel_rfl) (by kernel_rfl) (by kernel_rfl) ?_
  first | refine d_pu 8 rfl (pu_fieldAddr0 rfl) (by kernel_rfl) (by kernel_rfl) (by kernel_rfl) ?_ | refine d_pu 8 rfl (pu_fieldAddr rfl) (by kernel_rfl) (by kernel_rfl) (by kernel_rfl) ?_
  refine d_rd 9 rfl (rd_load rfl rfl) rfl (by kernel_rfl) (by kernel_rfl) (by kernel_rfl) ?_
  refine d_pu 10 rfl (pu_bld (qs := [(0, _), (1, _)]) rfl) (by kernel_rfl) (by kernel_rfl) (by kernel_rfl) ?_
  refine d_eft 11 rfl (by kernel_rfl) (ef_bldS (qs := [(0, _)]) rfl rfl rfl) ?_
  intro b19
  refine ⟨_, Split.ent (by repeat (first | exact Split.nil | (apply Split.cons; (repeat (first | with_reducible exact Take.here | apply Take.there))))), ?_⟩
  first | refine d_fint 12 rfl (by kernel_rfl) (by kernel_rfl) (ef_append_lit (l := es.length) (m := 1) rfl rfl (by repeat (first | exact Split.nil | (apply Split.cons; (repeat (first | with_reducible exact Take.here | apply Take.there))))) (by simp only [maxLen]; omega) (by omega)) ?_ | refine d_finf 12 rfl (by kernel_rfl) (by kernel_rfl) (ef_append_lit (l := es.length) (m := 1) rfl rfl (by repeat (first | exact Split.nil | (apply Split.cons; (repeat (first | with_reducible exact Take.here | apply Take.there))))) (by simp only [maxLen]; omega) (by omega)) ?_
  rintro v' hv'
  obtain ⟨g, cap, rfl⟩ := hv' (by decide)
  rw [wents_snoc]
  first | refine d_pu 13 rfl (pu_nilCheck rfl) (by kernel_rfl) (by kernel_rfl) (by kernel_rfl) ?_ | refine d_pu 13 rfl (pu_nilCheck_fn rfl) (by kernel_rfl) (by kernel_rfl) (by kernel_rfl) ?_ | refine d_pu 13 rfl (pu_nilCheck_if rfl) (by kernel_rfl) (by kernel_rfl) (by kernel_rfl) ?_
  first | refine d_pu 14 rfl (pu_fieldAddr0 rfl) (by kernel_rfl) (by kernel_rfl) (by kernel_rfl) ?_ | refine d_pu 14 rfl (pu_fieldAddr rfl) (by kernel_rfl) (by kernel_rfl) (by kernel_rfl) ?_
  first | refine d_fin0t 15 rfl (by kernel_rfl) (by kernel_rfl) (ef_store rfl rfl rfl) ?_ | refine d_fin0f 15 rfl (by kernel_rfl) (by kernel_rfl) (ef_store rfl rfl rfl) ?_
  refine d_sub _ (.cons (t := 0) rfl .nil) ?_
  first | refine d_nilt (by kernel_rfl) ?_ | refine d_nilf (by kernel_rfl) ?_
  refine then_n ?_
  refine swp_seq ?_
  refine swp_region ?_
  refine s_pu (pu_move rfl) ?_
  first | refine s_pu (pu_nilCheck rfl) ?_ | refine s_pu (pu_nilCheck_fn rfl) ?_ | refine s_pu (pu_nilCheck_if rfl) ?_
  first | refine s_pu (pu_fieldAddr0 rfl) ?_ | refine s_pu (pu_fieldAddr rfl) ?_
  refine s_rd (rd_load rfl rfl) ?_
  refine s_pu (pu_add_u64 ((nxt + 1 : Nat) : Int) rfl rfl (by omega) (by omega) (by omega)) ?_
  first | refine s_pu (pu_nilCheck rfl) ?_ | refine s_pu (pu_nilCheck_fn rfl) ?_ | refine s_pu (pu_nilCheck_if rfl) ?_
  first | refine s_pu (pu_fieldAddr0 rfl) ?_ | refine s_pu (pu_fieldAddr rfl) ?_
  refine s_ef0 (ef_store rfl rfl rfl) ?_
  refine swl_sub _ (.cons (t := 0) rfl .nil) ?_
  refine swl_nil ?_
  refine then_n ?_
  refine swp_seq ?_
  refine swp_region ?_
  refine s_pu (pu_move rfl) ?_
  first | refine s_pu (pu_nilCheck rfl) ?_ | refine s_pu (pu_nilCheck_fn rfl) ?_ | refine s_pu (pu_nilCheck_if rfl) ?_
  first | refine s_pu (pu_fieldAddr0 rfl) ?_ | refine s_pu (pu_fieldAddr rfl) ?_
  refine s_rd (rd_load rfl rfl) ?_
  refine s_pu (pu_len rfl) ?_
  refine s_pu (pu_sub_as (es.length : Int) rfl rfl (by omega) (by omega) (by omega)) ?_
  refine s_pu (pu_assign rfl) ?_
  refine swl_sub _ (.cons (t := 0) rfl (.cons (t := 4) rfl .nil)) ?_
  refine swl_own (by repeat (first | with_reducible exact Take.here | apply Take.there)) (fun h _ _ => by cases h) (fun hb cap' ex hv h1 h2 h3 h4 => ?_)
  cases hv
  have hlen : (es ++ [(x, nxt)]).length = es.length + 1 := by simp
  refine swl_nil ?_
  refine then_n ?_
  refine swp_block ?_
  refine swp_loop (ι := Nat × List (WI × Nat)) (fun k env L => env = [(0, .pointer (some ⟨q, 0, none⟩)), (4, .int .i64 (k.1 : Nat))] ∧
    L = [blk g 133 (wents k.2 ++ ex), blk q 121 [.slice (some ⟨g, 0, none⟩) (es.length + 1) cap, .int .u64 ((nxt + 1 : Nat) : Int)]] ∧
    k.2.length = es.length + 1 ∧ k.1 ≤ es.length ∧ Hp.up aW k.1 k.2 k.1 = Hp.up aW es.length (es ++ [(x, nxt)]) es.length) (fun k => k.1) (es.length, es ++ [(x, nxt)]) ⟨rfl, rfl, hlen, Nat.le_refl _, rfl⟩ ?_
  rintro ⟨i, fs⟩ env L ⟨rfl, rfl, hl, hi, hup⟩
  simp only [] at hl hi hup
  dsimp only
  refine swp_seq ?_
  refine swp_seq ?_
  refine swp_region ?_
  refine s_pu (pu_move rfl) ?_
  refine s_pu (pu_gtr rfl rfl) ?_
  refine swl_sub _ (.cons (t := 0) rfl (.cons (t := 4) rfl (.cons (t := 37) rfl .nil))) ?_
  refine swl_nil ?_
  refine then_n ?_
  refine swp_cond (b := _) rfl (fun h37 => ?_) (fun h37 => ?_)
  · skip   -- 37 T
    have h37' : 0 < i := by simpa using h37
    obtain ⟨ei, hei⟩ : ∃ e, fs[i]? = some e := ⟨_, List.getElem?_eq_getElem (by omega)⟩
    obtain ⟨ep, hep⟩ : ∃ e, fs[(i - 1) / 2]? = some e := ⟨_, List.getElem?_eq_getElem (by omega)⟩
    refine swp_skip ?_
    refine then_n ?_
    refine swp_block ?_
    refine swp_seq ?_
    refine swp_region ?_
    refine s_pu (pu_move rfl) ?_
    first | refine s_pu (pu_sub_in rfl rfl (by omega) (by omega)) ?_ | refine s_pu (pu_sub rfl rfl) ?_
    refine s_pu (pu_quo_as (((i - 1) / 2 : Nat) : Int) rfl rfl (by omega) (by omega) (by omega) (by omega)) ?_
    refine s_pu (pu_assign rfl) ?_
    refine swl_sub _ (.cons (t := 0) rfl (.cons (t := 4) rfl (.cons (t := 5) rfl .nil))) ?_
    refine swl_nil ?_
    refine then_n ?_
    refine swp_seq ?_
    refine swp_seq ?_
    refine swp_draw [3, 6, 10, 13] _ [] (by simp only [List.append_nil]; exact Ent.refl _) (by kernel_rfl) ?_
    refine d_pu 0 rfl (pu_move rfl) (by kernel_rfl) (by kernel_rfl) (by kernel_rfl) ?_
    first | refine d_pu 1 rfl (pu_nilCheck rfl) (by kernel_rfl) (by kernel_rfl) (by kernel_rfl) ?_ | refine d_pu 1 rfl (pu_nilCheck_fn rfl) (by kernel_rfl) (by kernel_rfl) (by kernel_rfl) ?_ | refine d_pu 1 rfl (pu_nilCheck_if rfl) (by kernel_rfl) (by kernel_rfl) (by kernel_rfl) ?_
    first | refine d_pu 2 rfl (pu_fieldAddr0 rfl) (by kernel_rfl) (by kernel_rfl) (by kernel_rfl) ?_ | refine d_pu 2 rfl (pu_fieldAddr rfl) (by kernel_rfl) (by kernel_rfl) (by kernel_rfl) ?_
    refine d_rd 3 rfl (rd_load rfl rfl) rfl (by kernel_rfl) (by kernel_rfl) (by kernel_rfl) ?_
    refine d_pu 4 rfl (pu_move rfl) (by kernel_rfl) (by kernel_rfl) (by kernel_rfl) ?_
    refine d_pu 5 rfl (pu_indexAddr (i * 2) rfl rfl (by omega) (by omega) (by simp)) (by kernel_rfl) (by kernel_rfl) (by kernel_rfl) ?_
    refine d_rd 6 rfl (rd_loadA (vs := wcs ei) rfl (by rfl) (flat_get wcs_len fs ex i ei hei)) rfl (by kernel_rfl) (by kernel_rfl) (by kernel_rfl) ?_
    refine d_pu 7 rfl (pu_move rfl) (by kernel_rfl) (by kernel_rfl) (by kernel_rfl) ?_
    first | refine d_pu 8 rfl (pu_nilCheck rfl) (by kernel_rfl) (by kernel_rfl) (by kernel_rfl) ?_ | refine d_pu 8 rfl (pu_nilCheck_fn rfl) (by kernel_rfl) (by kernel_rfl) (by kernel_rfl) ?_ | refine d_pu 8 rfl (pu_nilCheck_if rfl) (by kernel_rfl) (by kernel_rfl) (by kernel_rfl) ?_
    first | refine d_pu 9 rfl (pu_fieldAddr0 rfl) (by kernel_rfl) (by kernel_rfl) (by kernel_rfl) ?_ | refine d_pu 9 rfl (pu_fieldAddr rfl) (by kernel_rfl) (by kernel_rfl) (by kernel_rfl) ?_
    refine d_rd 10 rfl (rd_load rfl rfl) rfl (by kernel_rfl) (by kernel_rfl) (by kernel_rfl) ?_
    refine d_pu 11 rfl (pu_move rfl) (by kernel_rfl) (by kernel_rfl) (by kernel_rfl) ?_
    refine d_pu 12 rfl (pu_indexAddr ((i - 1) / 2 * 2) rfl rfl (by omega) (by omega) (by omega)) (by kernel_rfl) (by kernel_rfl) (by kernel_rfl) ?_
    refine d_rd 13 rfl (rd_loadA (vs := wcs ep) rfl (by rfl) (flat_get wcs_len fs ex ((i - 1) / 2) ep hep)) rfl (by kernel_rfl) (by kernel_rfl) (by kernel_rfl) ?_
    first | refine d_fint 14 rfl (by kernel_rfl) (by kernel_rfl) (ef_fn (ahead_w _ _ _ _) rfl rfl (by repeat (first | exact Split.nil | (apply Split.cons; (repeat (first | with_reducible exact Take.here | apply Take.there)))))) ?_ | refine d_finf 14 rfl (by kernel_rfl) (by kernel_rfl) (ef_fn (ahead_w _ _ _ _) rfl rfl (by repeat (first | exact Split.nil | (apply Split.cons; (repeat (first | with_reducible exact Take.here | apply Take.there)))))) ?_
    rintro v L1 ⟨rfl, rfl⟩
    refine swd_app ?_
    refine d_pu 15 rfl (pu_not rfl) (by kernel_rfl) (by kernel_rfl) (by kernel_rfl) ?_
    refine d_sub _ (.cons (t := 0) rfl (.cons (t := 4) rfl (.cons (t := 5) rfl (.cons (t := 56) rfl .nil)))) ?_
    first | refine d_nilt (by kernel_rfl) ?_ | refine d_nilf (by kernel_rfl) ?_
    refine then_n ?_
    refine swp_cond (b := _) rfl (fun h56 => ?_) (fun h56 => ?_)
    · skip   -- 56 T
      have hT : Hp.up aW es.length (es ++ [(x, nxt)]) es.length = fs := by
        rw [← hup]; exact Hp.up_stop hei hep (not_t h56)
      refine swp_ret ?_
      refine then_r ?_
      refine block_r ?_
      refine then_r ?_
      refine block_r ?_
      rw [hT]
      have hl' : fs.length = es.length + 1 := hl
      rw [← hl'] at h1 h4 ⊢
      first | exact done_retE [wraw q fs (nxt + 1)] .nil ⟨rfl, rfl⟩ ((Split.ent' (K := [blk g 133 (wents fs ++ ex), blk q 121 [.slice (some ⟨g, 0, none⟩) fs.length cap, .int .u64 ((nxt + 1 : Nat) : Int)]]) (by repeat (first | exact Split.nil | (apply Split.cons; (repeat (first | with_reducible exact Take.here | apply Take.there)))))).trans (wraw_close h1 h2 h4)) | exact done_endE [wraw q fs (nxt + 1)] .nil ⟨rfl, rfl⟩ ((Split.ent' (K := [blk g 133 (wents fs ++ ex), blk q 121 [.slice (some ⟨g, 0, none⟩) fs.length cap, .int .u64 ((nxt + 1 : Nat) : Int)]]) (by repeat (first | exact Split.nil | (apply Split.cons; (repeat (first | with_reducible exact Take.here | apply Take.there)))))).trans (wraw_close h1 h2 h4))
    · skip   -- 56 F
      have hel : (wents fs).length = (es.length + 1) * 2 := by rw [wents_len, hl]
      refine swp_skip ?_
      refine then_n ?_
      refine swp_seq ?_
      refine swp_draw [3, 8, 13, 16, 20, 23] _ [] (by simp only [List.append_nil]; exact Ent.refl _) (by kernel_rfl) ?_
      refine d_pu 0 rfl (pu_move rfl) (by kernel_rfl) (by kernel_rfl) (by kernel_rfl) ?_
      first | refine d_pu 1 rfl (pu_nilCheck rfl) (by kernel_rfl) (by kernel_rfl) (by kernel_rfl) ?_ | refine d_pu 1 rfl (pu_nilCheck_fn rfl) (by kernel_rfl) (by kernel_rfl) (by kernel_rfl) ?_ | refine d_pu 1 rfl (pu_nilCheck_if rfl) (by kernel_rfl) (by kernel_rfl) (by kernel_rfl) ?_
      first | refine d_pu 2 rfl (pu_fieldAddr0 rfl) (by kernel_rfl) (by kernel_rfl) (by kernel_rfl) ?_ | refine d_pu 2 rfl (pu_fieldAddr rfl) (by kernel_rfl) (by kernel_rfl) (by kernel_rfl) ?_
      refine d_rd 3 rfl (rd_load rfl rfl) rfl (by kernel_rfl) (by kernel_rfl) (by kernel_rfl) ?_
      refine d_pu 4 rfl (pu_move rfl) (by kernel_rfl) (by kernel_rfl) (by kernel_rfl) ?_
      refine d_pu 5 rfl (pu_move rfl) (by kernel_rfl) (by kernel_rfl) (by kernel_rfl) ?_
      first | refine d_pu 6 rfl (pu_nilCheck rfl) (by kernel_rfl) (by kernel_rfl) (by kernel_rfl) ?_ | refine d_pu 6 rfl (pu_nilCheck_fn rfl) (by kernel_rfl) (by kernel_rfl) (by kernel_rfl) ?_ | refine d_pu 6 rfl (pu_nilCheck_if rfl) (by kernel_rfl) (by kernel_rfl) (by kernel_rfl) ?_
      first | refine d_pu 7 rfl (pu_fieldAddr0 rfl) (by kernel_rfl) (by kernel_rfl) (by kernel_rfl) ?_ | refine d_pu 7 rfl (pu_fieldAddr rfl) (by kernel_rfl) (by kernel_rfl) (by kernel_rfl) ?_
      refine d_rd 8 rfl (rd_load rfl rfl) rfl (by kernel_rfl) (by kernel_rfl) (by kernel_rfl) ?_
      refine d_pu 9 rfl (pu_move rfl) (by kernel_rfl) (by kernel_rfl) (by kernel_rfl) ?_
      refine d_pu 10 rfl (pu_move rfl) (by kernel_rfl) (by kernel_rfl) (by kernel_rfl) ?_
      first | refine d_pu 11 rfl (pu_nilCheck rfl) (by kernel_rfl) (by kernel_rfl) (by kernel_rfl) ?_ | refine d_pu 11 rfl (pu_nilCheck_fn rfl) (by kernel_rfl) (by kernel_rfl) (by kernel_rfl) ?_ | refine d_pu 11 rfl (pu_nilCheck_if rfl) (by kernel_rfl) (by kernel_rfl) (by kernel_rfl) ?_
      first | refine d_pu 12 rfl (pu_fieldAddr0 rfl) (by kernel_rfl) (by kernel_rfl) (by kernel_rfl) ?_ | refine d_pu 12 rfl (pu_fieldAddr rfl) (by kernel_rfl) (by kernel_rfl) (by kernel_rfl) ?_
      refine d_rd 13 rfl (rd_load rfl rfl) rfl (by kernel_rfl) (by kernel_rfl) (by kernel_rfl) ?_
      refine d_pu 14 rfl (pu_move rfl) (by kernel_rfl) (by kernel_rfl) (by kernel_rfl) ?_
      refine d_pu 15 rfl (pu_indexAddr ((i - 1) / 2 * 2) rfl rfl (by omega) (by omega) (by omega)) (by kernel_rfl) (by kernel_rfl) (by kernel_rfl) ?_
      refine d_rd 16 rfl (rd_loadA (vs := wcs ep) rfl (by rfl) (flat_get wcs_len fs ex ((i - 1) / 2) ep hep)) rfl (by kernel_rfl) (by kernel_rfl) (by kernel_rfl) ?_
      refine d_pu 17 rfl (pu_move rfl) (by kernel_rfl) (by kernel_rfl) (by kernel_rfl) ?_
      first | refine d_pu 18 rfl (pu_nilCheck rfl) (by kernel_rfl) (by kernel_rfl) (by kernel_rfl) ?_ | refine d_pu 18 rfl (pu_nilCheck_fn rfl) (by kernel_rfl) (by kernel_rfl) (by kernel_rfl) ?_ | refine d_pu 18 rfl (pu_nilCheck_if rfl) (by kernel_rfl) (by kernel_rfl) (by kernel_rfl) ?_
      first | refine d_pu 19 rfl (pu_fieldAddr0 rfl) (by kernel_rfl) (by kernel_rfl) (by kernel_rfl) ?_ | refine d_pu 19 rfl (pu_fieldAddr rfl) (by kernel_rfl) (by kernel_rfl) (by kernel_rfl) ?_
      refine d_rd 20 rfl (rd_load rfl rfl) rfl (by kernel_rfl) (by kernel_rfl) (by kernel_rfl) ?_
      refine d_pu 21 rfl (pu_move rfl) (by kernel_rfl) (by kernel_rfl) (by kernel_rfl) ?_
      refine d_pu 22 rfl (pu_indexAddr (i * 2) rfl rfl (by omega) (by omega) (by omega)) (by kernel_rfl) (by kernel_rfl) (by kernel_rfl) ?_
      refine d_rd 23 rfl (rd_loadA (vs := wcs ei) rfl (by rfl) (flat_get wcs_len fs ex i ei hei)) rfl (by kernel_rfl) (by kernel_rfl) (by kernel_rfl) ?_
      refine d_pu 24 rfl (pu_indexAddr (i * 2) rfl rfl (by omega) (by omega) (by omega)) (by kernel_rfl) (by kernel_rfl) (by kernel_rfl) ?_
      first | refine d_fin0t 25 rfl (by kernel_rfl) (by kernel_rfl) (ef_storeAs (vs := wcs ep) rfl rfl (flat_over wcs_len fs ex i ep (by omega)) (by rw [List.length_append, ← wents, hel, wcs_len]; omega) rfl rfl) ?_ | refine d_fin0f 25 rfl (by kernel_rfl) (by kernel_rfl) (ef_storeAs (vs := wcs ep) rfl rfl (flat_over wcs_len fs ex i ep (by omega)) (by rw [List.length_append, ← wents, hel, wcs_len]; omega) rfl rfl) ?_
      refine d_pu 26 rfl (pu_indexAddr ((i - 1) / 2 * 2) rfl rfl (by omega) (by omega) (by omega)) (by kernel_rfl) (by kernel_rfl) (by kernel_rfl) ?_
      first | refine d_fin0t 27 rfl (by kernel_rfl) (by kernel_rfl) (ef_storeAs (vs := wcs ei) rfl rfl (flat_over wcs_len (fs.set i ep) ex ((i - 1) / 2) ei (by simp; omega)) (by rw [List.length_append, flat_length wcs_len, wcs_len, List.length_set]; omega) rfl rfl) ?_ | refine d_fin0f 27 rfl (by kernel_rfl) (by kernel_rfl) (ef_storeAs (vs := wcs ei) rfl rfl (flat_over wcs_len (fs.set i ep) ex ((i - 1) / 2) ei (by simp; omega)) (by rw [List.length_append, flat_length wcs_len, wcs_len, List.length_set]; omega) rfl rfl) ?_
      refine d_sub _ (.cons (t := 0) rfl (.cons (t := 5) rfl .nil)) ?_
      first | refine d_nilt (by kernel_rfl) ?_ | refine d_nilf (by kernel_rfl) ?_
      refine then_n ?_
      refine swp_region ?_
      refine s_pu (pu_move rfl) ?_
      refine s_pu (pu_assign rfl) ?_
      refine swl_sub _ (.cons (t := 0) rfl (.cons (t := 4) rfl .nil)) ?_
      refine swl_nil ?_
      refine block_n ?_
      refine then_n ⟨((i - 1) / 2, (fs.set i ep).set ((i - 1) / 2) ei), ⟨rfl, rfl, by simp [hl], by show (i - 1) / 2 ≤ es.length; omega, ?_⟩, by show (i - 1) / 2 < i; omega⟩
      rw [← hup, Hp.up_step h37' hei hep (not_f h56)]
  · skip   -- 37 F
    obtain rfl : i = 0 := by simp at h37; omega
    have hT : Hp.up aW es.length (es ++ [(x, nxt)]) es.length = fs := by rw [← hup]; rfl
    refine swp_exit ?_
    refine then_x ?_
    refine then_x ?_
    refine block_hit rfl ?_
    rw [hT]
    have hl' : fs.length = es.length + 1 := hl
    rw [← hl'] at h1 h4 ⊢
    first | exact done_retE [wraw q fs (nxt + 1)] .nil ⟨rfl, rfl⟩ ((Split.ent' (K := [blk g 133 (wents fs ++ ex), blk q 121 [.slice (some ⟨g, 0, none⟩) fs.length cap, .int .u64 ((nxt + 1 : Nat) : Int)]]) (by repeat (first | exact Split.nil | (apply Split.cons; (repeat (first | with_reducible exact Take.here | apply Take.there)))))).trans (wraw_close h1 h2 h4)) | exact done_endE [wraw q fs (nxt + 1)] .nil ⟨rfl, rfl⟩ ((Split.ent' (K := [blk g 133 (wents fs ++ ex), blk q 121 [.slice (some ⟨g, 0, none⟩) fs.length cap, .int .u64 ((nxt + 1 : Nat) : Int)]]) (by repeat (first | exact Split.nil | (apply Split.cons; (repeat (first | with_reducible exact Take.here | apply Take.there)))))).trans (wraw_close h1 h2 h4))
end SX.Bq
namespace SX.Bq
open Go Go.Proofs SX

/-- the best so far, behind j children -/
def bestTo (es : List (WI × Nat)) (i : Nat) : Nat → Nat
  | 0 => i
  | 1 => Hp.better aW es (2 * i + 1) i
  | _ => Hp.best aW es i
theorem bestTo_lt {es : List (WI × Nat)} {i : Nat} (hi : i < es.length) : ∀ j, bestTo es i j < es.length := by
  have hb : ∀ k m, m < es.length → Hp.better aW es k m < es.length := fun k m hm => by
    rcases Hp.better_cases (ah := aW) es k m with ⟨e, _⟩ | ⟨e, a, b, ha, _⟩
    · rw [e]; exact hm
    · rw [e]; exact (List.getElem?_eq_some_iff.1 ha).1
  intro j
  match j with
  | 0 => exact hi
  | 1 => exact hb _ _ hi
  | j + 2 => exact hb _ _ (hb _ _ hi)
theorem bestTo_succ {es : List (WI × Nat)} {i j : Nat} (hj : j < 2) : bestTo es i (j + 1) = Hp.better aW es (2 * i + 1 + j) (bestTo es i j) := by
  match j, hj with
  | 0, _ => rfl
  | 1, _ => rfl
theorem bestTo_end {es : List (WI × Nat)} {i j : Nat} (h : 2 ≤ j ∨ es.length ≤ 2 * i + 1 + j) : bestTo es i j = Hp.best aW es i := by
  have hn : ∀ k m, es.length ≤ k → Hp.better aW es k m = m := fun k m hk => by
    have : es[k]? = none := List.getElem?_eq_none_iff.2 hk
    simp [Hp.better, this]
  match j with
  | 0 =>
    have h' : es.length ≤ 2 * i + 1 := by omega
    show i = Hp.better aW es (2 * i + 2) (Hp.better aW es (2 * i + 1) i)
    rw [hn _ _ h', hn _ _ (by omega)]
  | 1 =>
    have h' : es.length ≤ 2 * i + 2 := by omega
    show Hp.better aW es (2 * i + 1) i = Hp.better aW es (2 * i + 2) (Hp.better aW es (2 * i + 1) i)
    rw [hn _ _ h']
  | j + 2 => rfl
theorem better_of {es : List (WI × Nat)} {k m : Nat} {a b : WI × Nat} (ha : es[k]? = some a) (hb : es[m]? = some b) : Hp.better aW es k m = if aW a b then k else m := by simp [Hp.better, ha, hb]

set_option maxHeartbeats 2000000 in
theorem sink_w (q g cap : Nat) (nx : Value) (es : List (WI × Nat)) (ex : List Value) (hb1 : es.length ≤ 1099511627776) :
    Spec Tryd.prog 97 [.pointer (some ⟨q, 0, none⟩)] [blk q 121 [.slice (some ⟨g, 0, none⟩) es.length cap, nx], blk g 133 (wents es ++ ex)]
      (fun v L => v = .tuple #[] ∧ L = [blk q 121 [.slice (some ⟨g, 0, none⟩) es.length cap, nx], blk g 133 (wents (Hp.down aW es.length es 0) ++ ex)]) := by
  refine Spec.of 71 Tryd.func97 rfl rfl rfl ?_
  refine swp_seq ?_
  refine swp_region ?_
  refine s_pu (pu_assign rfl) ?_
  refine swl_sub _ (.cons (t := 0) rfl (.cons (t := 2) rfl .nil)) ?_
  refine swl_nil ?_
  refine then_n ?_
  refine swp_block ?_
  refine swp_loop (ι := Nat × List (WI × Nat)) (fun k env L => env = [(0, .pointer (some ⟨q, 0, none⟩)), (2, .int .i64 (k.1 : Nat))] ∧
      L = [blk q 121 [.slice (some ⟨g, 0, none⟩) es.length cap, nx], blk g 133 (wents k.2 ++ ex)] ∧
      k.2.length = es.length ∧ (k.1 < es.length ∨ k.1 = 0) ∧ Hp.down aW es.length k.2 k.1 = Hp.down aW es.length es 0) (fun k => es.length - k.1) (0, es) ⟨rfl, rfl, rfl, .inr rfl, rfl⟩ ?_
  rintro ⟨i, fs⟩ env L ⟨rfl, rfl, hl, hi, hdn⟩
  simp only [] at hl hi hdn
  dsimp only
  refine swp_block ?_
  refine swp_seq ?_
  refine swp_region ?_
  refine s_pu (pu_move rfl) ?_
  refine s_pu (pu_assign rfl) ?_
  refine swl_sub _ (.cons (t := 0) rfl (.cons (t := 2) rfl (.cons (t := 3) rfl .nil))) ?_
  refine swl_nil ?_
  refine then_n ?_
  refine swp_cut (fun env L => env = [(0, .pointer (some ⟨q, 0, none⟩)), (2, .int .i64 (i : Nat)), (3, .int .i64 (Hp.best aW fs i : Nat))] ∧ L = [blk q 121 [.slice (some ⟨g, 0, none⟩) es.length cap, nx], blk g 133 (wents fs ++ ex)]) ?_ ?_
  · skip
    refine swp_seq ?_
    refine swp_region ?_
    refine s_pu (pu_move rfl) ?_
    first | refine s_pu (pu_mul_in rfl rfl (by omega) (by omega)) ?_ | refine s_pu (pu_mul rfl rfl) ?_
    refine s_pu (pu_add_as ((2 * i + 1 + 0 : Nat) : Int) rfl rfl (by omega) (by omega) (by omega)) ?_
    refine s_pu (pu_assign rfl) ?_
    refine swl_sub _ (.cons (t := 0) rfl (.cons (t := 2) rfl (.cons (t := 3) rfl (.cons (t := 4) rfl .nil)))) ?_
    refine swl_nil ?_
    refine then_n ?_
    refine swp_block ?_
    refine swp_loop (ι := Nat) (fun j env L => env = [(0, .pointer (some ⟨q, 0, none⟩)), (2, .int .i64 (i : Nat)), (3, .int .i64 (bestTo fs i j : Nat)), (4, .int .i64 ((2 * i + 1 + j : Nat) : Int))] ∧ j ≤ 2 ∧
       L = [blk q 121 [.slice (some ⟨g, 0, none⟩) es.length cap, nx], blk g 133 (wents fs ++ ex)]) (fun j => 2 - j) 0 ⟨rfl, by omega, rfl⟩ ?_
    rintro j env L ⟨rfl, hj, rfl⟩
    refine swp_seq ?_
    refine swp_seq ?_
    refine swp_region ?_
    refine s_pu (pu_move rfl) ?_
    refine s_pu (pu_move rfl) ?_
    first | refine s_pu (pu_mul_in rfl rfl (by omega) (by omega)) ?_ | refine s_pu (pu_mul rfl rfl) ?_
    first | refine s_pu (pu_add_in rfl rfl (by omega) (by omega)) ?_ | refine s_pu (pu_add rfl rfl) ?_
    refine s_pu (pu_leq rfl rfl) ?_
    refine s_pu (pu_move rfl) ?_
    refine s_split 14 rfl (fun h14 => ?_) (fun h14 => ?_)
    · skip   -- 14 T
      have h14' : j < 2 := by simp at h14; omega
      refine s_on rfl rfl ?_
      refine s_pu (pu_move rfl) ?_
      refine s_on rfl rfl ?_
      refine s_pu (pu_move rfl) ?_
      refine s_on rfl rfl ?_
      first | refine s_pu (pu_nilCheck rfl) ?_ | refine s_pu (pu_nilCheck_fn rfl) ?_ | refine s_pu (pu_nilCheck_if rfl) ?_
      refine s_on rfl rfl ?_
      first | refine s_pu (pu_fieldAddr0 rfl) ?_ | refine s_pu (pu_fieldAddr rfl) ?_
      refine s_on rfl rfl ?_
      refine s_rd (rd_load rfl rfl) ?_
      refine s_on rfl rfl ?_
      refine s_pu (pu_len rfl) ?_
      refine s_on rfl rfl ?_
      refine s_pu (pu_lss rfl rfl) ?_
      first | refine s_pu (pu_pick_t rfl rfl) ?_ | refine s_pu (pu_pick_f rfl rfl) ?_
      refine swl_sub _ (.cons (t := 0) rfl (.cons (t := 2) rfl (.cons (t := 3) rfl (.cons (t := 4) rfl (.cons (t := 22) rfl .nil))))) ?_
      refine swl_nil ?_
      refine then_n ?_
      refine swp_cond (b := _) rfl (fun h22 => ?_) (fun h22 => ?_)
      · skip   -- 22 T
        have h22' : 2 * i + 1 + j < es.length := by simp at h22; omega
        have hil : i < fs.length := by omega
        obtain ⟨ek, hek⟩ : ∃ e, fs[2 * i + 1 + j]? = some e := ⟨_, List.getElem?_eq_getElem (by omega)⟩
        have hfl := bestTo_lt hil j
        obtain ⟨ef, hef⟩ : ∃ e, fs[bestTo fs i j]? = some e := ⟨_, List.getElem?_eq_getElem hfl⟩
        have hsucc := bestTo_succ (es := fs) (i := i) h14'
        rw [better_of hek hef] at hsucc
        refine swp_skip ?_
        refine then_n ?_
        refine swp_seq ?_
        refine swp_block ?_
        refine swp_seq ?_
        refine swp_draw [3, 6, 10, 13] _ [] (by simp only [List.append_nil]; exact Ent.refl _) (by kernel_rfl) ?_
        refine d_pu 0 rfl (pu_move rfl) (by kernel_rfl) (by kernel_rfl) (by kernel_rfl) ?_
        first | refine d_pu 1 rfl (pu_nilCheck rfl) (by kernel_rfl) (by kernel_rfl) (by kernel_rfl) ?_ | refine d_pu 1 rfl (pu_nilCheck_fn rfl) (by kernel_rfl) (by kernel_rfl) (by kernel_rfl) ?_ | refine d_pu 1 rfl (pu_nilCheck_if rfl) (by kernel_rfl) (by kernel_rfl) (by kernel_rfl) ?_
        first | refine d_pu 2 rfl (pu_fieldAddr0 rfl) (by kernel_rfl) (by kernel_rfl) (by kernel_rfl) ?_ | refine d_pu 2 rfl (pu_fieldAddr rfl) (by kernel_rfl) (by kernel_rfl) (by kernel_rfl) ?_
        refine d_rd 3 rfl (rd_load rfl rfl) rfl (by kernel_rfl) (by kernel_rfl) (by kernel_rfl) ?_
        refine d_pu 4 rfl (pu_move rfl) (by kernel_rfl) (by kernel_rfl) (by kernel_rfl) ?_
        refine d_pu 5 rfl (pu_indexAddr ((2 * i + 1 + j) * 2) rfl rfl (by omega) (by omega) (by omega)) (by kernel_rfl) (by kernel_rfl) (by kernel_rfl) ?_
        refine d_rd 6 rfl (rd_loadA (vs := wcs ek) rfl (by rfl) (flat_get wcs_len fs ex _ ek hek)) rfl (by kernel_rfl) (by kernel_rfl) (by kernel_rfl) ?_
        refine d_pu 7 rfl (pu_move rfl) (by kernel_rfl) (by kernel_rfl) (by kernel_rfl) ?_
        first | refine d_pu 8 rfl (pu_nilCheck rfl) (by kernel_rfl) (by kernel_rfl) (by kernel_rfl) ?_ | refine d_pu 8 rfl (pu_nilCheck_fn rfl) (by kernel_rfl) (by kernel_rfl) (by kernel_rfl) ?_ | refine d_pu 8 rfl (pu_nilCheck_if rfl) (by kernel_rfl) (by kernel_rfl) (by kernel_rfl) ?_
        first | refine d_pu 9 rfl (pu_fieldAddr0 rfl) (by kernel_rfl) (by kernel_rfl) (by kernel_rfl) ?_ | refine d_pu 9 rfl (pu_fieldAddr rfl) (by kernel_rfl) (by kernel_rfl) (by kernel_rfl) ?_
        refine d_rd 10 rfl (rd_load rfl rfl) rfl (by kernel_rfl) (by kernel_rfl) (by kernel_rfl) ?_
        refine d_pu 11 rfl (pu_move rfl) (by kernel_rfl) (by kernel_rfl) (by kernel_rfl) ?_
        refine d_pu 12 rfl (pu_indexAddr (bestTo fs i j * 2) rfl rfl (by omega) (by omega) (by omega)) (by kernel_rfl) (by kernel_rfl) (by kernel_rfl) ?_
        refine d_rd 13 rfl (rd_loadA (vs := wcs ef) rfl (by rfl) (flat_get wcs_len fs ex _ ef hef)) rfl (by kernel_rfl) (by kernel_rfl) (by kernel_rfl) ?_
        first | refine d_fint 14 rfl (by kernel_rfl) (by kernel_rfl) (ef_fn (ahead_w _ _ _ _) rfl rfl (by repeat (first | exact Split.nil | (apply Split.cons; (repeat (first | with_reducible exact Take.here | apply Take.there)))))) ?_ | refine d_finf 14 rfl (by kernel_rfl) (by kernel_rfl) (ef_fn (ahead_w _ _ _ _) rfl rfl (by repeat (first | exact Split.nil | (apply Split.cons; (repeat (first | with_reducible exact Take.here | apply Take.there)))))) ?_
        rintro v L1 ⟨rfl, rfl⟩
        refine swd_app ?_
        refine d_sub _ (.cons (t := 0) rfl (.cons (t := 2) rfl (.cons (t := 3) rfl (.cons (t := 4) rfl (.cons (t := 39) rfl .nil))))) ?_
        first | refine d_nilt (by kernel_rfl) ?_ | refine d_nilf (by kernel_rfl) ?_
        refine then_n ?_
        refine swp_cond (b := _) rfl (fun h39 => ?_) (fun h39 => ?_)
        · skip   -- 39 T
          rw [if_pos h39] at hsucc
          refine swp_region ?_
          refine s_pu (pu_move rfl) ?_
          refine s_pu (pu_assign rfl) ?_
          refine swl_sub _ (.cons (t := 0) rfl (.cons (t := 2) rfl (.cons (t := 3) rfl (.cons (t := 4) rfl .nil)))) ?_
          refine swl_nil ?_
          refine block_n ?_
          refine then_n ?_
          refine swp_region ?_
          refine s_pu (pu_move rfl) ?_
          refine s_pu (pu_add_as ((2 * i + 1 + (j + 1) : Nat) : Int) rfl rfl (by omega) (by omega) (by omega)) ?_
          refine s_pu (pu_assign rfl) ?_
          refine swl_sub _ (.cons (t := 0) rfl (.cons (t := 2) rfl (.cons (t := 3) rfl (.cons (t := 4) rfl .nil)))) ?_
          refine swl_nil ?_
          refine then_n ⟨j + 1, ⟨?_, by omega, rfl⟩, by omega⟩
          rw [hsucc]
        · skip   -- 39 F
          rw [if_neg (by simp [h39])] at hsucc
          refine swp_skip ?_
          refine block_n ?_
          refine then_n ?_
          refine swp_region ?_
          refine s_pu (pu_move rfl) ?_
          refine s_pu (pu_add_as ((2 * i + 1 + (j + 1) : Nat) : Int) rfl rfl (by omega) (by omega) (by omega)) ?_
          refine s_pu (pu_assign rfl) ?_
          refine swl_sub _ (.cons (t := 0) rfl (.cons (t := 2) rfl (.cons (t := 3) rfl (.cons (t := 4) rfl .nil)))) ?_
          refine swl_nil ?_
          refine then_n ⟨j + 1, ⟨?_, by omega, rfl⟩, by omega⟩
          rw [hsucc]
      · skip   -- 22 F
        have hbe := bestTo_end (es := fs) (i := i) (j := j) (.inr (by simp at h22; omega))
        refine swp_sub _ (.cons (t := 0) rfl (.cons (t := 2) rfl (.cons (t := 3) rfl .nil))) ?_
        refine swp_exit ?_
        refine then_x ?_
        refine then_x ?_
        refine block_hit rfl ?_
        refine then_n ⟨?_, rfl⟩
        rw [hbe]
    · skip   -- 14 F
      refine s_off rfl rfl rfl ?_
      refine s_off rfl rfl rfl ?_
      refine s_off rfl rfl rfl ?_
      refine s_off rfl rfl rfl ?_
      refine s_off rfl rfl rfl ?_
      refine s_off rfl rfl rfl ?_
      refine s_off rfl rfl rfl ?_
      first | refine s_pu (pu_pick_t rfl rfl) ?_ | refine s_pu (pu_pick_f rfl rfl) ?_
      refine swl_sub _ (.cons (t := 0) rfl (.cons (t := 2) rfl (.cons (t := 3) rfl (.cons (t := 4) rfl (.cons (t := 22) rfl .nil))))) ?_
      refine swl_nil ?_
      refine then_n ?_
      refine swp_cond (b := _) rfl (fun h22 => by cases h22) (fun h22 => ?_)
      have hbe := bestTo_end (es := fs) (i := i) (j := j) (.inl (by simp at h14; omega))
      refine swp_sub _ (.cons (t := 0) rfl (.cons (t := 2) rfl (.cons (t := 3) rfl .nil))) ?_
      refine swp_exit ?_
      refine then_x ?_
      refine then_x ?_
      refine block_hit rfl ?_
      refine then_n ⟨?_, rfl⟩
      rw [hbe]
  rintro env L ⟨rfl, rfl⟩
  refine swp_seq ?_
  refine swp_seq ?_
  refine swp_region ?_
  refine s_pu (pu_move rfl) ?_
  refine s_pu (pu_move rfl) ?_
  refine s_pu (pu_eql rfl rfl) ?_
  refine swl_sub _ (.cons (t := 0) rfl (.cons (t := 2) rfl (.cons (t := 3) rfl (.cons (t := 43) rfl .nil)))) ?_
  refine swl_nil ?_
  refine then_n ?_
  refine swp_cond (b := _) rfl (fun h43 => ?_) (fun h43 => ?_)
  · skip   -- 43 T
    have hbi : Hp.best aW fs i = i := by simp at h43; omega
    refine swp_ret ?_
    refine then_r ?_
    refine block_r ?_
    refine then_r ?_
    refine block_r ?_
    rw [← hdn, Hp.down_stop hbi]
    exact done_ret _ .nil ⟨rfl, rfl⟩ (by repeat (first | exact Split.nil | (apply Split.cons; (repeat (first | with_reducible exact Take.here | apply Take.there)))))
  · skip   -- 43 F
    have hbi : Hp.best aW fs i ≠ i := by simp at h43; omega
    have hgt := Hp.best_gt hbi
    obtain ⟨ei, hei⟩ : ∃ e, fs[i]? = some e := ⟨_, List.getElem?_eq_getElem (by omega)⟩
    obtain ⟨ep, hep⟩ : ∃ e, fs[Hp.best aW fs i]? = some e := ⟨_, List.getElem?_eq_getElem hgt.2⟩
    rw [Hp.down_step (by omega) hbi hei hep] at hdn
    generalize Hp.best aW fs i = p at *
    have hel : (wents fs).length = es.length * 2 := by rw [wents_len, hl]
    refine swp_skip ?_
    refine then_n ?_
    refine swp_seq ?_
    refine swp_draw [3, 8, 13, 16, 20, 23] _ [] (by simp only [List.append_nil]; exact Ent.refl _) (by kernel_rfl) ?_
    refine d_pu 0 rfl (pu_move rfl) (by kernel_rfl) (by kernel_rfl) (by kernel_rfl) ?_
    first | refine d_pu 1 rfl (pu_nilCheck rfl) (by kernel_rfl) (by kernel_rfl) (by kernel_rfl) ?_ | refine d_pu 1 rfl (pu_nilCheck_fn rfl) (by kernel_rfl) (by kernel_rfl) (by kernel_rfl) ?_ | refine d_pu 1 rfl (pu_nilCheck_if rfl) (by kernel_rfl) (by kernel_rfl) (by kernel_rfl) ?_
    first | refine d_pu 2 rfl (pu_fieldAddr0 rfl) (by kernel_rfl) (by kernel_rfl) (by kernel_rfl) ?_ | refine d_pu 2 rfl (pu_fieldAddr rfl) (by kernel_rfl) (by kernel_rfl) (by kernel_rfl) ?_
    refine d_rd 3 rfl (rd_load rfl rfl) rfl (by kernel_rfl) (by kernel_rfl) (by kernel_rfl) ?_
    refine d_pu 4 rfl (pu_move rfl) (by kernel_rfl) (by kernel_rfl) (by kernel_rfl) ?_
    refine d_pu 5 rfl (pu_move rfl) (by kernel_rfl) (by kernel_rfl) (by kernel_rfl) ?_
    first | refine d_pu 6 rfl (pu_nilCheck rfl) (by kernel_rfl) (by kernel_rfl) (by kernel_rfl) ?_ | refine d_pu 6 rfl (pu_nilCheck_fn rfl) (by kernel_rfl) (by kernel_rfl) (by kernel_rfl) ?_ | refine d_pu 6 rfl (pu_nilCheck_if rfl) (by kernel_rfl) (by kernel_rfl) (by kernel_rfl) ?_
    first | refine d_pu 7 rfl (pu_fieldAddr0 rfl) (by kernel_rfl) (by kernel_rfl) (by kernel_rfl) ?_ | refine d_pu 7 rfl (pu_fieldAddr rfl) (by kernel_rfl) (by kernel_rfl) (by kernel_rfl) ?_
    refine d_rd 8 rfl (rd_load rfl rfl) rfl (by kernel_rfl) (by kernel_rfl) (by kernel_rfl) ?_
    refine d_pu 9 rfl (pu_move rfl) (by kernel_rfl) (by kernel_rfl) (by kernel_rfl) ?_
    refine d_pu 10 rfl (pu_move rfl) (by kernel_rfl) (by kernel_rfl) (by kernel_rfl) ?_
    first | refine d_pu 11 rfl (pu_nilCheck rfl) (by kernel_rfl) (by kernel_rfl) (by kernel_rfl) ?_ | refine d_pu 11 rfl (pu_nilCheck_fn rfl) (by kernel_rfl) (by kernel_rfl) (by kernel_rfl) ?_ | refine d_pu 11 rfl (pu_nilCheck_if rfl) (by kernel_rfl) (by kernel_rfl) (by kernel_rfl) ?_
    first | refine d_pu 12 rfl (pu_fieldAddr0 rfl) (by kernel_rfl) (by kernel_rfl) (by kernel_rfl) ?_ | refine d_pu 12 rfl (pu_fieldAddr rfl) (by kernel_rfl) (by kernel_rfl) (by kernel_rfl) ?_
    refine d_rd 13 rfl (rd_load rfl rfl) rfl (by kernel_rfl) (by kernel_rfl) (by kernel_rfl) ?_
    refine d_pu 14 rfl (pu_move rfl) (by kernel_rfl) (by kernel_rfl) (by kernel_rfl) ?_
    refine d_pu 15 rfl (pu_indexAddr (p * 2) rfl rfl (by omega) (by omega) (by omega)) (by kernel_rfl) (by kernel_rfl) (by kernel_rfl) ?_
    refine d_rd 16 rfl (rd_loadA (vs := wcs ep) rfl (by rfl) (flat_get wcs_len fs ex p ep hep)) rfl (by kernel_rfl) (by kernel_rfl) (by kernel_rfl) ?_
    refine d_pu 17 rfl (pu_move rfl) (by kernel_rfl) (by kernel_rfl) (by kernel_rfl) ?_
    first | refine d_pu 18 rfl (pu_nilCheck rfl) (by kernel_rfl) (by kernel_rfl) (by kernel_rfl) ?_ | refine d_pu 18 rfl (pu_nilCheck_fn rfl) (by kernel_rfl) (by kernel_rfl) (by kernel_rfl) ?_ | refine d_pu 18 rfl (pu_nilCheck_if rfl) (by kernel_rfl) (by kernel_rfl) (by kernel_rfl) ?_
    first | refine d_pu 19 rfl (pu_fieldAddr0 rfl) (by kernel_rfl) (by kernel_rfl) (by kernel_rfl) ?_ | refine d_pu 19 rfl (pu_fieldAddr rfl) (by kernel_rfl) (by kernel_rfl) (by kernel_rfl) ?_
    refine d_rd 20 rfl (rd_load rfl rfl) rfl (by kernel_rfl) (by kernel_rfl) (by kernel_rfl) ?_
    refine d_pu 21 rfl (pu_move rfl) (by kernel_rfl) (by kernel_rfl) (by kernel_rfl) ?_
    refine d_pu 22 rfl (pu_indexAddr (i * 2) rfl rfl (by omega) (by omega) (by omega)) (by kernel_rfl) (by kernel_rfl) (by kernel_rfl) ?_
    refine d_rd 23 rfl (rd_loadA (vs := wcs ei) rfl (by rfl) (flat_get wcs_len fs ex i ei hei)) rfl (by kernel_rfl) (by kernel_rfl) (by kernel_rfl) ?_
    refine d_pu 24 rfl (pu_indexAddr (i * 2) rfl rfl (by omega) (by omega) (by omega)) (by kernel_rfl) (by kernel_rfl) (by kernel_rfl) ?_
    first | refine d_fin0t 25 rfl (by kernel_rfl) (by kernel_rfl) (ef_storeAs (vs := wcs ep) rfl rfl (flat_over wcs_len fs ex i ep (by omega)) (by rw [List.length_append, ← wents, hel, wcs_len]; omega) rfl rfl) ?_ | refine d_fin0f 25 rfl (by kernel_rfl) (by kernel_rfl) (ef_storeAs (vs := wcs ep) rfl rfl (flat_over wcs_len fs ex i ep (by omega)) (by rw [List.length_append, ← wents, hel, wcs_len]; omega) rfl rfl) ?_
    refine d_pu 26 rfl (pu_indexAddr (p * 2) rfl rfl (by omega) (by omega) (by omega)) (by kernel_rfl) (by kernel_rfl) (by kernel_rfl) ?_
    first | refine d_fin0t 27 rfl (by kernel_rfl) (by kernel_rfl) (ef_storeAs (vs := wcs ei) rfl rfl (flat_over wcs_len (fs.set i ep) ex p ei (by simp; omega)) (by rw [List.length_append, flat_length wcs_len, wcs_len, List.length_set]; omega) rfl rfl) ?_ | refine d_fin0f 27 rfl (by kernel_rfl) (by kernel_rfl) (ef_storeAs (vs := wcs ei) rfl rfl (flat_over wcs_len (fs.set i ep) ex p ei (by simp; omega)) (by rw [List.length_append, flat_length wcs_len, wcs_len, List.length_set]; omega) rfl rfl) ?_
    refine d_sub _ (.cons (t := 0) rfl (.cons (t := 3) rfl .nil)) ?_
    first | refine d_nilt (by kernel_rfl) ?_ | refine d_nilf (by kernel_rfl) ?_
    refine then_n ?_
    refine swp_region ?_
    refine s_pu (pu_move rfl) ?_
    refine s_pu (pu_assign rfl) ?_
    refine swl_sub _ (.cons (t := 0) rfl (.cons (t := 2) rfl .nil)) ?_
    refine swl_nil ?_
    refine block_n ?_
    exact then_n ⟨(p, (fs.set i ep).set p ei), ⟨rfl, rfl, by simp [hl], .inl (by show p < es.length; omega), hdn⟩, by show es.length - p < es.length - i; omega⟩
end SX.Bq
namespace SX.Bq
open Go Go.Proofs SX

theorem wraw_fold {q nxt : Nat} {v : Value} {es : List (WI × Nat)} {L : List Assn} : Ent (blk q 121 [v, .int .u64 (nxt : Nat)] :: own 133 2 v es.length (wents es) :: L) (wraw q es nxt :: L) :=
  ent_ex (F := fun v => [blk q 121 [v, .int .u64 (nxt : Nat)], own 133 2 v es.length (wents es)]) v (by repeat (first | exact Split.nil | (apply Split.cons; (repeat (first | with_reducible exact Take.here | apply Take.there)))))
theorem len_w (q : Nat) (es : List (WI × Nat)) (nxt : Nat) : Spec Tryd.prog 98 [.pointer (some ⟨q, 0, none⟩)] [wraw q es nxt] (fun v L => v = .int .i64 es.length ∧ L = [wraw q es nxt]) := by
  refine Spec.of 10 Tryd.func98 rfl rfl rfl ?_
  refine swp_ex fun v => ?_
  refine swp_app ?_
  refine swp_front (A := own 133 2 v es.length (wents es)) (by repeat (first | with_reducible exact Take.here | apply Take.there)) ?_
  refine swp_fact (fun m h => own_form h) fun ⟨A, cap, hv⟩ => ?_
  subst hv
  refine swp_seq ?_
  refine swp_region ?_
  refine s_pu (pu_assign rfl) ?_
  refine swl_sub _ (.cons (t := 0) rfl .nil) ?_
  refine swl_nil ?_
  refine then_n ?_
  refine swp_seq ?_
  refine swp_seq ?_
  refine swp_region ?_
  refine s_pu (pu_move rfl) ?_
  refine s_pu (pu_ptr_eq_nil rfl rfl) ?_
  refine swl_sub _ (.cons (t := 0) rfl (.cons (t := 4) rfl .nil)) ?_
  refine swl_nil ?_
  refine then_n ?_
  refine swp_cond (b := _) rfl (fun h4 => by cases h4) (fun h4 => ?_)
  refine swp_skip ?_
  refine then_n ?_
  refine swp_seq ?_
  refine swp_region ?_
  refine s_pu (pu_move rfl) ?_
  first | refine s_pu (pu_nilCheck rfl) ?_ | refine s_pu (pu_nilCheck_fn rfl) ?_ | refine s_pu (pu_nilCheck_if rfl) ?_
  first | refine s_pu (pu_fieldAddr0 rfl) ?_ | refine s_pu (pu_fieldAddr rfl) ?_
  refine s_rd (rd_load rfl rfl) ?_
  refine s_pu (pu_len rfl) ?_
  refine s_pu (pu_assign rfl) ?_
  refine swl_sub _ (.cons (t := 2) rfl .nil) ?_
  refine swl_nil ?_
  refine then_n ?_
  refine swp_ret ?_
  exact done_retE [wraw q es nxt] (.tmp rfl .nil) ⟨rfl, rfl⟩ ((Split.ent' (K := [blk q 121 [.slice A es.length cap, .int .u64 (nxt : Nat)], own 133 2 (.slice A es.length cap) es.length (wents es)]) (by repeat (first | exact Split.nil | (apply Split.cons; (repeat (first | with_reducible exact Take.here | apply Take.there)))))).trans wraw_fold)
theorem peek_w0 (q nxt : Nat) : Spec Tryd.prog 96 [.pointer (some ⟨q, 0, none⟩)] [wraw q [] nxt] (fun v L => v = .tuple #[wiV wiZ, .bool false] ∧ L = [wraw q [] nxt]) := by
  refine Spec.of 16 Tryd.func96 rfl rfl rfl ?_
  refine swp_seq ?_
  refine swp_region ?_
  refine s_pu (pu_assign rfl) ?_
  refine s_pu (pu_assign rfl) ?_
  refine swl_sub _ (.cons (t := 0) rfl .nil) ?_
  refine swl_nil ?_
  refine then_n ?_
  refine swp_seq ?_
  refine swp_seq ?_
  refine swp_region ?_
  refine s_pu (pu_move rfl) ?_
  refine s_ef (ef_fn (len_w q [] nxt) rfl rfl (by repeat (first | exact Split.nil | (apply Split.cons; (repeat (first | with_reducible exact Take.here | apply Take.there)))))) ?_
  rintro v L1 ⟨rfl, rfl⟩
  refine swl_app ?_
  refine s_pu (pu_eql rfl rfl) ?_
  refine swl_sub _ (.cons (t := 0) rfl (.cons (t := 7) rfl .nil)) ?_
  refine swl_nil ?_
  refine then_n ?_
  refine swp_cond (b := _) rfl (fun h7 => ?_) (fun h7 => by simp at h7)
  refine swp_seq ?_
  refine swp_region ?_
  refine s_pu (pu_assign rfl) ?_
  refine swl_sub _ (.cons (t := 4) rfl .nil) ?_
  refine swl_nil ?_
  refine then_n ?_
  refine swp_seq ?_
  refine swp_region ?_
  refine s_pu (pu_move rfl) ?_
  refine s_pu (pu_assign rfl) ?_
  refine s_pu (pu_assign rfl) ?_
  refine swl_sub _ (.cons (t := 2) rfl (.cons (t := 3) rfl .nil)) ?_
  refine swl_nil ?_
  refine then_n ?_
  refine swp_ret ?_
  refine then_r ?_
  exact done_ret [wraw q [] nxt] (.tmp rfl (.tmp rfl .nil)) ⟨rfl, rfl⟩ (by repeat (first | exact Split.nil | (apply Split.cons; (repeat (first | with_reducible exact Take.here | apply Take.there)))))
theorem peek_w (q nxt : Nat) (e : WI × Nat) (es : List (WI × Nat)) : Spec Tryd.prog 96 [.pointer (some ⟨q, 0, none⟩)] [wraw q (e :: es) nxt] (fun v L => v = .tuple #[wiV e.1, .bool true] ∧ L = [wraw q (e :: es) nxt]) := by
  refine Spec.of 16 Tryd.func96 rfl rfl rfl ?_
  refine swp_seq ?_
  refine swp_region ?_
  refine s_pu (pu_assign rfl) ?_
  refine s_pu (pu_assign rfl) ?_
  refine swl_sub _ (.cons (t := 0) rfl .nil) ?_
  refine swl_nil ?_
  refine then_n ?_
  refine swp_seq ?_
  refine swp_seq ?_
  refine swp_region ?_
  refine s_pu (pu_move rfl) ?_
  refine s_ef (ef_fn (len_w q (e :: es) nxt) rfl rfl (by repeat (first | exact Split.nil | (apply Split.cons; (repeat (first | with_reducible exact Take.here | apply Take.there)))))) ?_
  rintro v L1 ⟨rfl, rfl⟩
  refine swl_app ?_
  refine s_pu (pu_eql rfl rfl) ?_
  refine swl_sub _ (.cons (t := 0) rfl (.cons (t := 7) rfl .nil)) ?_
  refine swl_nil ?_
  refine then_n ?_
  refine swp_cond (b := _) rfl (fun h7 => by simp at h7; omega) (fun h7 => ?_)
  refine swp_skip ?_
  refine then_n ?_
  refine swp_seq ?_
  refine swp_ex fun v => ?_
  refine swp_app ?_
  refine swp_front (A := own 133 2 v (e :: es).length (wents (e :: es))) (by repeat (first | with_reducible exact Take.here | apply Take.there)) ?_
  refine swp_own (fun h h0 h1 => by simp at h0) (fun g cap ex hv o1 o2 o3 o4 => ?_)
  subst v
  refine swp_region ?_
  refine s_pu (pu_move rfl) ?_
  first | refine s_pu (pu_nilCheck rfl) ?_ | refine s_pu (pu_nilCheck_fn rfl) ?_ | refine s_pu (pu_nilCheck_if rfl) ?_
  first | refine s_pu (pu_fieldAddr0 rfl) ?_ | refine s_pu (pu_fieldAddr rfl) ?_
  refine s_rd (rd_load rfl rfl) ?_
  refine s_pu (pu_indexAddr 0 rfl rfl (by omega) (by simp) rfl) ?_
  first | refine s_pu (pu_fieldAddr0 rfl) ?_ | refine s_pu (pu_fieldAddr rfl) ?_
  refine s_rd (rd_load (v := wiV e.1) rfl rfl) ?_
  refine s_pu (pu_assign rfl) ?_
  refine s_pu (pu_assign rfl) ?_
  refine swl_sub _ (.cons (t := 2) rfl (.cons (t := 3) rfl .nil)) ?_
  refine swl_nil ?_
  refine then_n ?_
  refine swp_ret ?_
  exact done_retE [wraw q (e :: es) nxt] (.tmp rfl (.tmp rfl .nil)) ⟨rfl, rfl⟩ ((Split.ent' (K := [blk g 133 (wents (e :: es) ++ ex), blk q 121 [.slice (some ⟨g, 0, none⟩) (e :: es).length cap, .int .u64 (nxt : Nat)]]) (by repeat (first | exact Split.nil | (apply Split.cons; (repeat (first | with_reducible exact Take.here | apply Take.there)))))).trans (wraw_close o1 o2 o4))

theorem pop_w0 (q nxt : Nat) : Spec Tryd.prog 87 [.pointer (some ⟨q, 0, none⟩)] [wraw q [] nxt] (fun v L => v = .tuple #[wiV wiZ, .bool false] ∧ L = [wraw q [] nxt]) := by
  refine Spec.of 52 Tryd.func87 rfl rfl rfl ?_
  refine swp_seq ?_
  refine swp_region ?_
  refine s_pu (pu_assign rfl) ?_
  refine s_pu (pu_assign rfl) ?_
  refine swl_sub _ (.cons (t := 0) rfl .nil) ?_
  refine swl_nil ?_
  refine then_n ?_
  refine swp_seq ?_
  refine swp_region ?_
  refine s_pu (pu_move rfl) ?_
  refine s_ef (ef_fn (peek_w0 q nxt) rfl rfl (by repeat (first | exact Split.nil | (apply Split.cons; (repeat (first | with_reducible exact Take.here | apply Take.there)))))) ?_
  rintro v L1 ⟨rfl, rfl⟩
  refine swl_app ?_
  refine s_pu (pu_move rfl) ?_
  first | refine s_pu (pu_extractL rfl) ?_ | refine s_pu (pu_extract rfl rfl) ?_
  first | refine s_pu (pu_extractL rfl) ?_ | refine s_pu (pu_extract rfl rfl) ?_
  refine s_pu (pu_assign rfl) ?_
  refine s_pu (pu_assign rfl) ?_
  refine swl_sub _ (.cons (t := 0) rfl (.cons (t := 4) rfl (.cons (t := 5) rfl .nil))) ?_
  refine swl_nil ?_
  refine then_n ?_
  refine swp_seq ?_
  refine swp_seq ?_
  refine swp_region ?_
  refine s_pu (pu_move rfl) ?_
  refine s_pu (pu_not rfl) ?_
  refine swl_sub _ (.cons (t := 0) rfl (.cons (t := 4) rfl (.cons (t := 13) rfl .nil))) ?_
  refine swl_nil ?_
  refine then_n ?_
  refine swp_cond (b := _) rfl (fun h13 => ?_) (fun h13 => by cases h13)
  refine swp_seq ?_
  refine swp_region ?_
  refine s_pu (pu_move rfl) ?_
  refine s_pu (pu_assign rfl) ?_
  refine s_pu (pu_assign rfl) ?_
  refine swl_sub _ (.cons (t := 2) rfl (.cons (t := 3) rfl .nil)) ?_
  refine swl_nil ?_
  refine then_n ?_
  refine swp_ret ?_
  refine then_r ?_
  exact done_ret [wraw q [] nxt] (.tmp rfl (.tmp rfl .nil)) ⟨rfl, rfl⟩ (by repeat (first | exact Split.nil | (apply Split.cons; (repeat (first | with_reducible exact Take.here | apply Take.there)))))

def wzcs : List Value := [wiV wiZ, .int .u64 0]
theorem wents_app (a b : List (WI × Nat)) : wents (a ++ b) = wents a ++ wents b := by unfold wents; exact List.flatMap_append
theorem wents_over (es : List (WI × Nat)) (ex : List Value) (i : Nat) (e : WI × Nat) (h : i < es.length) : over (wents es ++ ex) (wcs e) (i * 2) = wents (es.set i e) ++ ex := flat_over wcs_len es ex i e h
theorem wover_cut (es : List (WI × Nat)) (ex zs : List Value) (hz : zs.length = 2) (hne : es ≠ []) : over (wents es ++ ex) zs ((es.length - 1) * 2) = wents es.dropLast ++ (zs ++ ex) := by
  have e := List.dropLast_concat_getLast hne
  have hl : (es.length - 1) * 2 = (wents es.dropLast).length := by rw [wents_len, List.length_dropLast]
  have h1 : wents es = wents es.dropLast ++ wents [es.getLast hne] := by rw [← wents_app, e]
  have h2 : (wents [es.getLast hne]).length = 2 := by rw [wents_len]; rfl
  generalize wents [es.getLast hne] = u at h1 h2
  rw [hl, h1]
  unfold over
  rw [hz, List.append_assoc (wents es.dropLast) u ex, List.take_left, List.drop_append]
  rw [show (wents es.dropLast).length + 2 - (wents es.dropLast).length = 2 by omega, List.drop_append, h2]
  rw [List.drop_eq_nil_of_le (by omega : (wents es.dropLast).length ≤ _), List.drop_eq_nil_of_le (by omega : u.length ≤ _)]
  simp

set_option maxHeartbeats 1000000 in
theorem pop_w (q nxt : Nat) (e : WI × Nat) (es : List (WI × Nat)) (hb1 : (e :: es).length ≤ 1099511627776) : Spec Tryd.prog 87 [.pointer (some ⟨q, 0, none⟩)] [wraw q (e :: es) nxt]
    (fun v L => v = .tuple #[wiV e.1, .bool true] ∧ L = [wraw q (Hp.pop aW (e :: es)) nxt]) := by
  refine Spec.of 52 Tryd.func87 rfl rfl rfl ?_
  refine swp_seq ?_
  refine swp_region ?_
  refine s_pu (pu_assign rfl) ?_
  refine s_pu (pu_assign rfl) ?_
  refine swl_sub _ (.cons (t := 0) rfl .nil) ?_
  refine swl_nil ?_
  refine then_n ?_
  refine swp_seq ?_
  refine swp_region ?_
  refine s_pu (pu_move rfl) ?_
  refine s_ef (ef_fn (peek_w q nxt e es) rfl rfl (by repeat (first | exact Split.nil | (apply Split.cons; (repeat (first | with_reducible exact Take.here | apply Take.there)))))) ?_
  rintro v L1 ⟨rfl, rfl⟩
  refine swl_app ?_
  refine s_pu (pu_move rfl) ?_
  first | refine s_pu (pu_extractL rfl) ?_ | refine s_pu (pu_extract rfl rfl) ?_
  first | refine s_pu (pu_extractL rfl) ?_ | refine s_pu (pu_extract rfl rfl) ?_
  refine s_pu (pu_assign rfl) ?_
  refine s_pu (pu_assign rfl) ?_
  refine swl_sub _ (.cons (t := 0) rfl (.cons (t := 4) rfl (.cons (t := 5) rfl .nil))) ?_
  refine swl_nil ?_
  refine then_n ?_
  refine swp_seq ?_
  refine swp_seq ?_
  refine swp_region ?_
  refine s_pu (pu_move rfl) ?_
  refine s_pu (pu_not rfl) ?_
  refine swl_sub _ (.cons (t := 0) rfl (.cons (t := 4) rfl (.cons (t := 13) rfl .nil))) ?_
  refine swl_nil ?_
  refine then_n ?_
  refine swp_cond (b := _) rfl (fun h13 => by cases h13) (fun h13 => ?_)
  refine swp_skip ?_
  refine then_n ?_
  refine swp_seq ?_
  obtain ⟨fs, hfs⟩ : ∃ fs, fs = e :: es := ⟨_, rfl⟩
  have hne : fs ≠ [] := by rw [hfs]; simp
  rw [← hfs] at hb1 ⊢
  have hpos : 0 < fs.length := List.length_pos_iff.2 hne
  refine swp_front (A := wraw q fs nxt) (by repeat (first | with_reducible exact Take.here | apply Take.there)) ?_
  refine swp_ex fun v => ?_
  refine swp_app ?_
  refine swp_front (A := own 133 2 v fs.length (wents fs)) (by repeat (first | with_reducible exact Take.here | apply Take.there)) ?_
  refine swp_own (fun h h0 h1 => by omega) (fun g cap ex hv o1 o2 o3 o4 => ?_)
  subst v
  refine swp_region ?_
  refine s_pu (pu_move rfl) ?_
  first | refine s_pu (pu_nilCheck rfl) ?_ | refine s_pu (pu_nilCheck_fn rfl) ?_ | refine s_pu (pu_nilCheck_if rfl) ?_
  first | refine s_pu (pu_fieldAddr0 rfl) ?_ | refine s_pu (pu_fieldAddr rfl) ?_
  refine s_rd (rd_load rfl rfl) ?_
  refine s_pu (pu_len rfl) ?_
  refine s_pu (pu_sub_as ((fs.length - 1 : Nat) : Int) rfl rfl (by omega) (by omega) (by omega)) ?_
  refine s_pu (pu_assign rfl) ?_
  refine swl_sub _ (.cons (t := 0) rfl (.cons (t := 4) rfl (.cons (t := 6) rfl .nil))) ?_
  refine swl_nil ?_
  refine then_n ?_
  refine swp_seq ?_
  have hel : (wents fs).length = fs.length * 2 := wents_len fs
  obtain ⟨l, hlast⟩ : ∃ l, fs[fs.length - 1]? = some l := ⟨_, List.getElem?_eq_getElem (by omega)⟩
  refine swp_draw [3, 7, 10] _ [] (by simp only [List.append_nil]; exact Ent.refl _) (by kernel_rfl) ?_
  refine d_pu 0 rfl (pu_move rfl) (by kernel_rfl) (by kernel_rfl) (by kernel_rfl) ?_
  first | refine d_pu 1 rfl (pu_nilCheck rfl) (by kernel_rfl) (by kernel_rfl) (by kernel_rfl) ?_ | refine d_pu 1 rfl (pu_nilCheck_fn rfl) (by kernel_rfl) (by kernel_rfl) (by kernel_rfl) ?_ | refine d_pu 1 rfl (pu_nilCheck_if rfl) (by kernel_rfl) (by kernel_rfl) (by kernel_rfl) ?_
  first | refine d_pu 2 rfl (pu_fieldAddr0 rfl) (by kernel_rfl) (by kernel_rfl) (by kernel_rfl) ?_ | refine d_pu 2 rfl (pu_fieldAddr rfl) (by kernel_rfl) (by kernel_rfl) (by kernel_rfl) ?_
  refine d_rd 3 rfl (rd_load rfl rfl) rfl (by kernel_rfl) (by kernel_rfl) (by kernel_rfl) ?_
  refine d_pu 4 rfl (pu_move rfl) (by kernel_rfl) (by kernel_rfl) (by kernel_rfl) ?_
  first | refine d_pu 5 rfl (pu_nilCheck rfl) (by kernel_rfl) (by kernel_rfl) (by kernel_rfl) ?_ | refine d_pu 5 rfl (pu_nilCheck_fn rfl) (by kernel_rfl) (by kernel_rfl) (by kernel_rfl) ?_ | refine d_pu 5 rfl (pu_nilCheck_if rfl) (by kernel_rfl) (by kernel_rfl) (by kernel_rfl) ?_
  first | refine d_pu 6 rfl (pu_fieldAddr0 rfl) (by kernel_rfl) (by kernel_rfl) (by kernel_rfl) ?_ | refine d_pu 6 rfl (pu_fieldAddr rfl) (by kernel_rfl) (by kernel_rfl) (by kernel_rfl) ?_
  refine d_rd 7 rfl (rd_load rfl rfl) rfl (by kernel_rfl) (by kernel_rfl) (by kernel_rfl) ?_
  refine d_pu 8 rfl (pu_move rfl) (by kernel_rfl) (by kernel_rfl) (by kernel_rfl) ?_
  refine d_pu 9 rfl (pu_indexAddr ((fs.length - 1) * 2) rfl rfl (by omega) (by omega) (by omega)) (by kernel_rfl) (by kernel_rfl) (by kernel_rfl) ?_
  refine d_rd 10 rfl (rd_loadA (vs := wcs l) rfl (by rfl) (flat_get wcs_len fs ex _ l hlast)) rfl (by kernel_rfl) (by kernel_rfl) (by kernel_rfl) ?_
  refine d_pu 11 rfl (pu_indexAddr (0 * 2) rfl rfl (by omega) (by omega) (by omega)) (by kernel_rfl) (by kernel_rfl) (by kernel_rfl) ?_
  first | refine d_fin0t 12 rfl (by kernel_rfl) (by kernel_rfl) (ef_storeAs (vs := wcs l) rfl rfl (wents_over fs ex 0 l hpos) (by rw [List.length_append, wents_len, wcs_len]; omega) rfl rfl) ?_ | refine d_fin0f 12 rfl (by kernel_rfl) (by kernel_rfl) (ef_storeAs (vs := wcs l) rfl rfl (wents_over fs ex 0 l hpos) (by rw [List.length_append, wents_len, wcs_len]; omega) rfl rfl) ?_
  refine d_sub _ (.cons (t := 0) rfl (.cons (t := 4) rfl (.cons (t := 6) rfl .nil))) ?_
  first | refine d_nilt (by kernel_rfl) ?_ | refine d_nilf (by kernel_rfl) ?_
  refine then_n ?_
  refine swp_seq ?_
  have hl2 : (fs.set 0 l).length = fs.length := List.length_set
  have hne2 : fs.set 0 l ≠ [] := by intro h; rw [h] at hl2; simp at hl2; omega
  refine swp_region ?_
  refine s_pu (pu_move rfl) ?_
  first | refine s_pu (pu_nilCheck rfl) ?_ | refine s_pu (pu_nilCheck_fn rfl) ?_ | refine s_pu (pu_nilCheck_if rfl) ?_
  first | refine s_pu (pu_fieldAddr0 rfl) ?_ | refine s_pu (pu_fieldAddr rfl) ?_
  refine s_rd (rd_load rfl rfl) ?_
  refine s_pu (pu_move rfl) ?_
  refine s_pu (pu_bld (qs := []) rfl) ?_
  refine s_pu (pu_indexAddr (((fs.set 0 l).length - 1) * 2) rfl rfl (by omega) (by omega) (by rw [hl2]; omega)) ?_
  refine s_ef0 (ef_storeAs (vs := wzcs) rfl rfl (wover_cut (fs.set 0 l) ex wzcs rfl hne2) (by rw [List.length_append, wents_len, hl2]; show _ + 2 ≤ _; omega) rfl rfl) ?_
  refine swl_sub _ (.cons (t := 0) rfl (.cons (t := 4) rfl (.cons (t := 6) rfl .nil))) ?_
  refine swl_nil ?_
  refine then_n ?_
  refine swp_seq ?_
  refine swp_region ?_
  refine s_pu (pu_move rfl) ?_
  refine s_pu (pu_move rfl) ?_
  first | refine s_pu (pu_nilCheck rfl) ?_ | refine s_pu (pu_nilCheck_fn rfl) ?_ | refine s_pu (pu_nilCheck_if rfl) ?_
  first | refine s_pu (pu_fieldAddr0 rfl) ?_ | refine s_pu (pu_fieldAddr rfl) ?_
  refine s_rd (rd_load rfl rfl) ?_
  refine s_pu (pu_move rfl) ?_
  refine s_pu (pu_slice_hi (fs.length - 1) rfl rfl rfl (by omega)) ?_
  first | refine s_pu (pu_nilCheck rfl) ?_ | refine s_pu (pu_nilCheck_fn rfl) ?_ | refine s_pu (pu_nilCheck_if rfl) ?_
  first | refine s_pu (pu_fieldAddr0 rfl) ?_ | refine s_pu (pu_fieldAddr rfl) ?_
  refine s_ef0 (ef_store rfl rfl rfl) ?_
  refine swl_sub _ (.cons (t := 0) rfl (.cons (t := 4) rfl .nil)) ?_
  refine swl_nil ?_
  refine then_n ?_
  refine swp_seq ?_
  refine swp_region ?_
  refine s_pu (pu_move rfl) ?_
  have hl3 : (fs.set 0 l).dropLast.length = fs.length - 1 := by rw [List.length_dropLast, hl2]
  rw [← hl3]
  refine s_ef (ef_fn (sink_w q g cap _ (fs.set 0 l).dropLast (wzcs ++ ex) (by omega)) rfl rfl (by repeat (first | exact Split.nil | (apply Split.cons; (repeat (first | with_reducible exact Take.here | apply Take.there)))))) ?_
  rintro v L1 ⟨rfl, rfl⟩
  refine swl_app ?_
  refine swl_sub _ (.cons (t := 4) rfl .nil) ?_
  refine swl_nil ?_
  refine then_n ?_
  refine swp_seq ?_
  refine swp_region ?_
  refine s_pu (pu_move rfl) ?_
  refine s_pu (pu_assign rfl) ?_
  refine s_pu (pu_assign rfl) ?_
  refine swl_sub _ (.cons (t := 2) rfl (.cons (t := 3) rfl .nil)) ?_
  refine swl_nil ?_
  refine then_n ?_
  refine swp_ret ?_
  have hp : Hp.pop aW fs = Hp.down aW (fs.set 0 l).dropLast.length (fs.set 0 l).dropLast 0 := by
    have hgl : fs.getLast? = some l := by rw [List.getLast?_eq_getElem?]; exact hlast
    unfold Hp.pop
    rw [hgl]
    exact Hp.down_enough _ _ _ _ (by omega) (by omega)
  have hpl : (Hp.pop aW fs).length = (fs.set 0 l).dropLast.length := by rw [hp, Hp.down_length]
  rw [← hp, ← hpl]
  exact done_retE [wraw q (Hp.pop aW fs) nxt] (.tmp rfl (.tmp rfl .nil)) ⟨rfl, rfl⟩
    ((Split.ent' (K := [blk g 133 (wents (Hp.pop aW fs) ++ (wzcs ++ ex)), blk q 121 [.slice (some ⟨g, 0, none⟩) (Hp.pop aW fs).length cap, .int .u64 (nxt : Nat)]]) (by repeat (first | exact Split.nil | (apply Split.cons; (repeat (first | with_reducible exact Take.here | apply Take.there)))))).trans
      (wraw_close (by omega) o2 (by rw [List.length_append, o4, hpl, hl3]; show 2 + _ = _; omega)))
end SX.Bq
namespace SX.Bq
open Go Go.Proofs SX

theorem aW_trans (a b c : WI × Nat) (h1 : aW a b = true) (h2 : aW b c = true) : aW a c = true := Hp.ahd_trans ltW_ord a b c h1 h2

/-- a queue, by what comes out -/
def wa (q : Nat) (S : List (WI × Nat)) (nxt : Nat) : Assn := exA (fun es : {es : List (WI × Nat) // Hp.Rep aW es S ∧ ∀ y ∈ S, y.2 < nxt} => [wraw q es.1 nxt])
theorem wa_close {q nxt : Nat} {es S : List (WI × Nat)} {L : List Assn} (h : Hp.Rep aW es S) (h2 : ∀ y ∈ S, y.2 < nxt) : Ent (wraw q es nxt :: L) (wa q S nxt :: L) :=
  ent_ex (F := fun es : {es : List (WI × Nat) // Hp.Rep aW es S ∧ ∀ y ∈ S, y.2 < nxt} => [wraw q es.1 nxt]) ⟨es, h, h2⟩ (by repeat (first | exact Split.nil | (apply Split.cons; (repeat (first | with_reducible exact Take.here | apply Take.there)))))
theorem push_a (q : Nat) (S : List (WI × Nat)) (nxt : Nat) (x : WI) (hb1 : S.length ≤ 1099511627776) (hb2 : nxt ≤ 18446744073709551614) :
    Spec Tryd.prog 86 [.pointer (some ⟨q, 0, none⟩), wiV x] [wa q S nxt] (fun v L => v = .tuple #[] ∧ L = [wa q (Hp.ins aW (x, nxt) S) (nxt + 1)]) := by
  refine Spec.exA' fun ⟨es, hr, hn⟩ => ?_
  refine Spec.ent2 (push_w q es nxt x (by rw [hr.length]; exact hb1) hb2) (wa_close ?_ ?_)
  · refine hr.push (Hp.ahd_ord ltW_ord) aW_trans fun y hy h => Hp.ahd_total (by have := hn y hy; simp only; omega) h
  · intro y hy
    rcases Hp.mem_ins.1 hy with rfl | hy
    · simp
    · have := hn y hy; omega
theorem pop_a0 (q nxt : Nat) : Spec Tryd.prog 87 [.pointer (some ⟨q, 0, none⟩)] [wa q [] nxt] (fun v L => v = .tuple #[wiV wiZ, .bool false] ∧ L = [wa q [] nxt]) := by
  refine Spec.exA' fun ⟨es, hr, hn⟩ => ?_
  have he : es = [] := List.eq_nil_of_length_eq_zero (by rw [hr.length]; rfl)
  subst he
  exact Spec.ent2 (pop_w0 q nxt) (wa_close hr hn)
theorem pop_a (q nxt : Nat) (s : WI × Nat) (S : List (WI × Nat)) (hb : (s :: S).length ≤ 1099511627776) : Spec Tryd.prog 87 [.pointer (some ⟨q, 0, none⟩)] [wa q (s :: S) nxt] (fun v L => v = .tuple #[wiV s.1, .bool true] ∧ L = [wa q S nxt]) := by
  refine Spec.exA' fun ⟨es, hr, hn⟩ => ?_
  cases es with
  | nil => have := hr.length; simp at this
  | cons e es =>
    have hz : e = s := hr.head (Hp.ahd_ord ltW_ord) rfl
    subst hz
    exact Spec.ent2 (pop_w q nxt e es (by rw [hr.length]; exact hb)) (wa_close (hr.pop (Hp.ahd_ord ltW_ord)) fun y hy => hn y (List.mem_cons_of_mem _ hy))
theorem new_w : Spec Tryd.prog 69 [.slice none 0 0] [] (fun v L => ∃ q, v = .pointer (some ⟨q, 0, none⟩) ∧ L = [wa q [] 0]) := by
  refine Spec.of 19 Tryd.func69 rfl rfl rfl ?_
  refine swp_seq ?_
  refine swp_region ?_
  refine s_pu (pu_assign rfl) ?_
  refine swl_sub _ (.cons (t := 0) rfl .nil) ?_
  refine swl_nil ?_
  refine then_n ?_
  refine swp_seq ?_
  refine swp_region ?_
  refine s_pu (pu_bld (qs := []) rfl) ?_
  refine s_ef (ef_box rfl rfl) ?_
  intro b7
  refine s_pu (pu_assign rfl) ?_
  refine swl_sub _ (.cons (t := 0) rfl (.cons (t := 3) rfl .nil)) ?_
  refine swl_nil ?_
  refine then_n ?_
  refine swp_seq ?_
  refine swp_seq ?_
  refine swp_ent (wraw_nil (nxt := 0)) ?_
  refine swp_ent (wa_close Hp.Rep.nil (by simp)) ?_
  refine swp_region ?_
  refine s_pu (pu_move rfl) ?_
  refine s_pu (pu_len rfl) ?_
  refine s_pu (pu_move rfl) ?_
  refine swl_sub _ (.cons (t := 3) rfl (.cons (t := 8) rfl (.cons (t := 9) rfl (.cons (t := 10) rfl .nil)))) ?_
  refine swl_nil ?_
  refine then_n ?_
  refine swp_block ?_
  refine swp_loop (ι := Unit) (fun _ env L => env = [(3, _), (8, _), (9, .int .i64 0), (10, .int .i64 0)] ∧ L = [wa _ [] 0]) (fun _ => 0) () ⟨rfl, rfl⟩ ?_
  rintro _ env L ⟨rfl, rfl⟩
  refine swp_seq ?_
  refine swp_region ?_
  refine s_pu (pu_lss rfl rfl) ?_
  refine swl_sub _ (.cons (t := 3) rfl (.cons (t := 8) rfl (.cons (t := 9) rfl (.cons (t := 10) rfl (.cons (t := 11) rfl .nil))))) ?_
  refine swl_nil ?_
  refine then_n ?_
  refine swp_seq ?_
  refine swp_cond (b := _) rfl (fun h11 => by cases h11) (fun h11 => ?_)
  refine swp_exit ?_
  refine then_x ?_
  refine then_x ?_
  refine block_hit rfl ?_
  refine then_n ?_
  refine swp_seq ?_
  refine swp_region ?_
  refine s_pu (pu_move rfl) ?_
  refine s_pu (pu_assign rfl) ?_
  refine swl_sub _ (.cons (t := 2) rfl .nil) ?_
  refine swl_nil ?_
  refine then_n ?_
  refine swp_ret ?_
  exact done_ret _ (.tmp rfl .nil) ⟨_, rfl, rfl⟩ (by repeat (first | exact Split.nil | (apply Split.cons; (repeat (first | with_reducible exact Take.here | apply Take.there)))))
end SX.Bq
namespace SX.Bq
open Go Go.Proofs SX

theorem ins_fst {x nx : Nat} : ∀ {S : List (WI × Nat)} {Q : List Nat}, S.map (·.1) = Q.map (fun k : Nat => (k : Int)) → x ∉ Q → (Hp.ins aW ((x : Int), nx) S).map (·.1) = (insD x Q).map (fun k : Nat => (k : Int))
  | [], [], _, _ => rfl
  | [], _ :: _, h, _ => by simp at h
  | _ :: _, [], h, _ => by simp at h
  | s :: S, q :: Q, h, hx => by
    rw [List.map_cons, List.map_cons, List.cons.injEq] at h
    obtain ⟨h1, h2⟩ := h
    have hne : x ≠ q := fun e => hx (by rw [e]; exact List.mem_cons_self ..)
    have hA : aW ((x : Int), nx) s = decide (q < x) := by
      unfold aW Hp.ahd ltW
      rw [h1, Bool.eq_iff_iff]
      simp only [Bool.or_eq_true, Bool.and_eq_true, Bool.not_eq_true', decide_eq_true_eq, decide_eq_false_iff_not]
      show (@LT.lt Int _ q x ∨ _) ↔ _
      have e1 : (@LT.lt Int _ q x) ↔ q < x := by omega
      have e2 : (@LT.lt Int _ x q) ↔ x < q := by omega
      constructor
      · rintro (h | ⟨h, _⟩)
        · exact e1.1 h
        · have h' : ¬ @LT.lt Int _ (x : Int) (q : Int) := h
          omega
      · exact fun h => .inl (e1.2 h)
    unfold Hp.ins insD
    rw [hA]
    by_cases hq : q < x
    · rw [if_pos (decide_eq_true hq), if_pos hq, List.map_cons, List.map_cons, h1, h2]; rfl
    · rw [if_neg (by rw [decide_eq_false hq]; simp), if_neg hq, List.map_cons, List.map_cons, h1, ins_fst h2 (fun hm => hx (List.mem_cons_of_mem _ hm))]
/-- a queue of commits, by what comes out -/
def cq (q : Nat) (Q : List Nat) (nx : Nat) : Assn := exA (fun S : {S : List (WI × Nat) // S.map (·.1) = Q.map (fun k : Nat => (k : Int))} => [wa q S.1 nx])
theorem cq_close {q nx : Nat} {S : List (WI × Nat)} {Q : List Nat} {L : List Assn} (h : S.map (·.1) = Q.map (fun k : Nat => (k : Int))) : Ent (wa q S nx :: L) (cq q Q nx :: L) :=
  ent_ex (F := fun S : {S : List (WI × Nat) // S.map (·.1) = Q.map (fun k : Nat => (k : Int))} => [wa q S.1 nx]) ⟨S, h⟩ (by repeat (first | exact Split.nil | (apply Split.cons; (repeat (first | with_reducible exact Take.here | apply Take.there)))))
theorem len_fst {S : List (WI × Nat)} {Q : List Nat} (h : S.map (·.1) = Q.map (fun k : Nat => (k : Int))) : S.length = Q.length := by have := congrArg List.length h; rwa [List.length_map, List.length_map] at this
theorem push_q (q : Nat) (Q : List Nat) (nx x : Nat) (hx : x ∉ Q) (hb1 : Q.length ≤ 1099511627776) (hb2 : nx ≤ 18446744073709551614) :
    Spec Tryd.prog 86 [.pointer (some ⟨q, 0, none⟩), .int .i64 (x : Nat)] [cq q Q nx] (fun v L => v = .tuple #[] ∧ L = [cq q (insD x Q) (nx + 1)]) := by
  refine Spec.exA' fun ⟨S, hS⟩ => ?_
  exact Spec.ent2 (push_a q S nx (x : Int) (by rw [len_fst hS]; exact hb1) hb2) (cq_close (ins_fst hS hx))
theorem pop_q0 (q nx : Nat) : Spec Tryd.prog 87 [.pointer (some ⟨q, 0, none⟩)] [cq q [] nx] (fun v L => v = .tuple #[.int .i64 0, .bool false] ∧ L = [cq q [] nx]) := by
  refine Spec.exA' fun ⟨S, hS⟩ => ?_
  have he : S = [] := List.eq_nil_of_length_eq_zero (by rw [len_fst hS]; rfl)
  subst he
  exact Spec.ent2 (pop_a0 q nx) (cq_close rfl)
theorem pop_q (q nx c : Nat) (Q : List Nat) (hb : (c :: Q).length ≤ 1099511627776) : Spec Tryd.prog 87 [.pointer (some ⟨q, 0, none⟩)] [cq q (c :: Q) nx] (fun v L => v = .tuple #[.int .i64 (c : Nat), .bool true] ∧ L = [cq q Q nx]) := by
  refine Spec.exA' fun ⟨S, hS⟩ => ?_
  cases S with
  | nil => simp at hS
  | cons s S =>
    rw [List.map_cons, List.map_cons, List.cons.injEq] at hS
    have h := pop_a q nx s S (by have := len_fst hS.2; simp only [List.length_cons] at hb ⊢; omega)
    rw [hS.1] at h
    exact Spec.ent2 h (cq_close hS.2)
theorem new_q : Spec Tryd.prog 69 [.slice none 0 0] [] (fun v L => ∃ q, v = .pointer (some ⟨q, 0, none⟩) ∧ L = [cq q [] 0]) :=
  Spec.ent3 new_w fun v L ⟨q, hv, hL⟩ => ⟨_, by rw [hL]; exact cq_close rfl, q, hv, rfl⟩
end SX.Bq
namespace SX
open Go Go.Proofs

/-! bits of paints -/
theorem pu_or_nat {P : Program} {env : Env} {t u : TypeId} {x y : Operand} (a b : Nat) (hx : evalE env x = some (.int .i64 (a : Nat))) (hy : evalE env y = some (.int .i64 (b : Nat))) (ha : a < 4611686018427387904) (hb : b < 4611686018427387904) : Pu P env (.binOp .or t x y u) (.int .i64 ((a ||| b : Nat) : Int)) := fun ρ hρ _ _ _ _ _ w => by
  have hg : ∀ X Y, eqGuard .or t X Y (.int .i64 (a : Nat)) (.int .i64 (b : Nat)) = pure () := fun _ _ => by simp [eqGuard]
  have hle : a ||| b < 4611686018427387904 := Nat.or_lt_two_pow (n := 62) ha hb
  have hb' : (binOp .or t (.int .i64 (a : Nat)) (.int .i64 (b : Nat)) : Sem Value) = pure (.int .i64 ((a ||| b : Nat) : Int)) := by
    have e : (binOp .or t (.int .i64 (a : Nat)) (.int .i64 (b : Nat)) : Sem Value) = Op.intBits .or .i64 a b := by simp [binOp]
    rw [e]
    show (let a' : BitVec 64 := BitVec.ofInt 64 a; let b' : BitVec 64 := BitVec.ofInt 64 b; pure (.int .i64 (IntKind.i64.wrap (a' ||| b').toNat)) : Sem Value) = _
    have e1 : (BitVec.ofInt 64 (a : Int)).toNat = a := by rw [BitVec.ofInt_natCast, BitVec.toNat_ofNat]; exact Nat.mod_eq_of_lt (by omega)
    have e2 : (BitVec.ofInt 64 (b : Int)).toNat = b := by rw [BitVec.ofInt_natCast, BitVec.toNat_ofNat]; exact Nat.mod_eq_of_lt (by omega)
    simp only [BitVec.toNat_or, e1, e2]
    rw [wrap_i64 (by omega) (by omega)]
  simp only [execOp, hρ x _ hx, hρ y _ hy, Sem.run_bind, hg, hb', Sem.run_pure, Result.andThen_ok]
theorem pu_or_v {P : Program} {env : Env} {t u : TypeId} {x y : Operand} {a b : Nat} (ha : isV a) (hb : b < 8) (hx : evalE env x = some (.int .i64 (a : Nat))) (hy : evalE env y = some (.int .i64 (b : Nat))) : Pu P env (.binOp .or t x y u) (.int .i64 ((a ||| b : Nat) : Int)) :=
  pu_or_nat a b hx hy (by have := ha.lt; omega) (by omega)
theorem pu_and_v {P : Program} {env : Env} {t u : TypeId} {x y : Operand} {a : Nat} (b : Nat) (ha : isV a) (hb : b < 8) (hx : evalE env x = some (.int .i64 (a : Nat))) (hy : evalE env y = some (.int .i64 (b : Nat))) : Pu P env (.binOp .and t x y u) (.int .i64 ((a &&& b : Nat) : Int)) :=
  pu_and_nat a b hx hy (by have := ha.lt; omega) (by omega)
theorem four_v {a : Nat} (ha : isV a) : decide (((a &&& 4 : Nat) : Int) = 0) = decide (a < 4) := by rcases ha with rfl | rfl | rfl | rfl | rfl <;> decide
theorem three_v {a : Nat} (ha : isV a) (h : a < 4) : decide (((a &&& 3 : Nat) : Int) = 3) = decide (a = 3) := by rcases ha with rfl | rfl | rfl | rfl | rfl <;> first | decide | omega
theorem pu_four {P : Program} {env : Env} {t u : TypeId} {x y : Operand} {a : Nat} (ha : isV a) (hx : evalE env x = some (.int .i64 ((a &&& 4 : Nat) : Int))) (hy : evalE env y = some (.int .i64 0)) : Pu P env (.binOp .eql t x y u) (.bool (decide (a < 4))) := by
  rw [← four_v ha]; exact pu_eql hx hy
theorem pu_three {P : Program} {env : Env} {t u : TypeId} {x y : Operand} {a : Nat} (ha : isV a) (h : a < 4) (hx : evalE env x = some (.int .i64 ((a &&& 3 : Nat) : Int))) (hy : evalE env y = some (.int .i64 3)) : Pu P env (.binOp .eql t x y u) (.bool (decide (a = 3))) := by
  rw [← three_v ha h]; exact pu_eql hx hy

/-! the map of paints -/
def pmapOk (P : Nat → Nat) (l : Ents Int) : Prop := ∀ c : Nat, mlook l (c : Int) = if P c = 0 then none else some (.int .i64 (P c : Nat))
def mpP (b : Nat) (P : Nat → Nat) : Assn := exA fun k : {k : Ents Int × Nat // pmapOk P k.1} => [mpe b ikv k.1.1 k.1.2]
theorem mpP_close {b : Nat} {P : Nat → Nat} {l : Ents Int} {c : Nat} {L : List Assn} (h : pmapOk P l) : Ent (mpe b ikv l c :: L) (mpP b P :: L) :=
  ent_ex (F := fun k : {k : Ents Int × Nat // pmapOk P k.1} => [mpe b ikv k.1.1 k.1.2]) ⟨(l, c), h⟩ (by repeat (first | exact Split.nil | (apply Split.cons; (repeat (first | with_reducible exact Take.here | apply Take.there)))))
theorem pmap_get {P : Nat → Nat} {l : Ents Int} (h : pmapOk P l) (c : Nat) : (mlook l (c : Int)).getD (Value.int .i64 0) = Value.int .i64 (P c : Nat) ∧ (mlook l (c : Int)).isSome = decide (P c ≠ 0) := by
  rw [h]
  by_cases e : P c = 0
  · rw [if_pos e, e]; exact ⟨rfl, rfl⟩
  · rw [if_neg e]; exact ⟨rfl, (decide_eq_true e).symm⟩
theorem pmap_upd {s : PS} {l : Ents Int} (h : pmapOk s.1 l) (c k : Nat) {v : Nat} (hne : s.1 c ||| v ≠ 0) : pmapOk (addP s c v).1 (upd l k (c : Int) (.int .i64 ((s.1 c ||| v : Nat) : Int))) := fun j => by
  rw [mlook_upd, h]
  show _ = if (if j = c then s.1 j ||| v else s.1 j) = 0 then none else some (Value.int .i64 ((if j = c then s.1 j ||| v else s.1 j : Nat) : Int))
  by_cases e : j = c
  · subst e
    rw [if_pos rfl, if_pos rfl, if_neg hne]
  · rw [if_neg (fun h => e (by omega)), if_neg e]
theorem pmap_nil : pmapOk (fun _ => 0) [] := fun _ => rfl
theorem rd_pmap2 {env : Env} {L : List Assn} {b k : Nat} {P : Nat → Nat} {l : Ents Int} {m x : Operand} [InM b L ikv l k] (h : pmapOk P l) (c : Nat) (hx : evalE env m = some (.map (some b))) (hy : evalE env x = some (.int .i64 (c : Nat))) : Rd Tryd.prog env L (.lookup 94 m x true) (.tuple #[.int .i64 (P c : Nat), .bool (decide (P c ≠ 0))]) := by
  have := rd_mlook2 (P := Tryd.prog) (t := 94) (kv := ikv) (L := L) (l := l) (c := k) (b := b) (c : Int) hx hy
  rwa [(pmap_get h c).1, (pmap_get h c).2] at this
theorem rd_pmap {env : Env} {L : List Assn} {b k : Nat} {P : Nat → Nat} {l : Ents Int} {m x : Operand} [InM b L ikv l k] (h : pmapOk P l) (c : Nat) (hx : evalE env m = some (.map (some b))) (hy : evalE env x = some (.int .i64 (c : Nat))) : Rd Tryd.prog env L (.lookup 94 m x false) (.int .i64 (P c : Nat)) := by
  have := rd_mlook (P := Tryd.prog) (t := 94) (kv := ikv) (L := L) (l := l) (c := k) (b := b) (c : Int) hx hy
  rwa [(pmap_get h c).1] at this
abbrev ptB (p : Nat) (sv : Value) (n mb q F : Nat) : Assn := blk p 99 [sv, .int .i64 (n : Nat), .map (some mb), .pointer (some ⟨q, 0, none⟩), .int .i64 (F : Nat)]
/-- how many were painted -/
def seenP (n : Nat) (P : Nat → Nat) : Nat := seenN n fun k => decide (P k ≠ 0)
theorem seenP_add {n : Nat} {s : PS} {c v : Nat} (hc : c < n) (hne : s.1 c ||| v ≠ 0) : seenP n (addP s c v).1 = if s.1 c = 0 then seenP n s.1 + 1 else seenP n s.1 := by
  have e : (fun k => decide ((addP s c v).1 k ≠ 0)) = fun j => decide (s.1 j ≠ 0) || decide (j = c) := funext fun j => by
    show decide ((if j = c then s.1 j ||| v else s.1 j) ≠ 0) = _
    by_cases e : j = c
    · subst e; rw [if_pos rfl, decide_eq_true hne]; simp
    · rw [if_neg e, decide_eq_false e, Bool.or_false]
  unfold seenP
  rw [e]
  by_cases h0 : s.1 c = 0
  · rw [if_pos h0, seenN_put (by simpa using h0) hc]
  · rw [if_neg h0]
    congr 1
    funext j
    by_cases e : j = c
    · subst e; rw [decide_eq_true h0]; simp
    · rw [decide_eq_false e, Bool.or_false]
theorem addP_new {s : PS} {c v : Nat} (h : s.1 c = 0) : (addP s c v).2 = insD c s.2 := if_pos h
theorem addP_old {s : PS} {c v : Nat} (h : s.1 c ≠ 0) : (addP s c v).2 = s.2 := if_neg h
theorem or_ne {a v : Nat} (h : v ≠ 0) : a ||| v ≠ 0 := by
  have : v ≤ a ||| v := Nat.right_le_or
  omega
set_option maxHeartbeats 2000000 in
theorem padd_spec (p n m mb q : Nat) (sv : Value) (s : PS) (c v : Nat) (hn : n ≤ 65536) (hI : PI n m s) (hm : m ≤ n) (hc : c < m) (hv : isV v) (h0 : v ≠ 0) :
    Spec Tryd.prog 70 [.pointer (some ⟨p, 0, none⟩), .int .i64 (c : Nat), .int .i64 (v : Nat)] [ptB p sv n mb q (frP s), mpP mb s.1, Bq.cq q s.2 (seenP n s.1)]
      (fun r L => r = .tuple #[] ∧ L = [ptB p sv n mb q (frP (addP s c v)), mpP mb (addP s c v).1, Bq.cq q (addP s c v).2 (seenP n (addP s c v).1)]) := by
  have hne := or_ne (a := s.1 c) h0
  have hql := falls_len hI.falls hI.lt
  have hsl := seenN_le n fun k => decide (s.1 k ≠ 0)
  have hse := seenP_add (v := v) (show c < n by omega) hne
  obtain ⟨f1, f2, f3⟩ := frP_add hI hc hv
  have hfl := frP_le hI
  have hva := hI.val c
  have hvo := hva.or hv
  have hww : pWas s c = (decide (s.1 c ≠ 0) && decide (s.1 c < 4)) := rfl
  have hii : pIs s c v = decide (s.1 c ||| v < 4) := rfl
  refine Spec.pre ?_ Ent.swap
  refine Spec.exA' fun ⟨⟨l, k⟩, hl⟩ => ?_
  simp only [List.cons_append, List.nil_append]
  dsimp only at hl ⊢
  refine Spec.ent3 (post := fun r L => ∃ k', r = .tuple #[] ∧ L = [mpe mb ikv (upd l k (c : Int) (.int .i64 ((s.1 c ||| v : Nat) : Int))) k', ptB p sv n mb q (frP (addP s c v)), Bq.cq q (addP s c v).2 (seenP n (addP s c v).1)]) ?_
    (fun r L ⟨k', h1, h2⟩ => ⟨_, by rw [h2]; exact (mpP_close (pmap_upd hl c k hne)).trans Ent.swap, h1, rfl⟩)
  refine Spec.of 80 Tryd.func70 rfl rfl rfl ?_
  refine swp_seq ?_
  refine swp_seq ?_
  refine swp_region ?_
  refine s_pu (pu_move rfl) ?_
  refine s_pu (pu_lss rfl rfl) ?_
  refine s_pu (pu_move rfl) ?_
  refine s_split 12 rfl (fun h12 => by exfalso; have := of_decide_eq_true h12; omega) (fun h12 => ?_)
  refine s_on rfl rfl ?_
  refine s_pu (pu_move rfl) ?_
  refine s_on rfl rfl ?_
  refine s_pu (pu_move rfl) ?_
  refine s_on rfl rfl ?_
  first | refine s_pu (pu_nilCheck rfl) ?_ | refine s_pu (pu_nilCheck_fn rfl) ?_ | refine s_pu (pu_nilCheck_if rfl) ?_
  refine s_on rfl rfl ?_
  first | refine s_pu (pu_fieldAddr0 rfl) ?_ | refine s_pu (pu_fieldAddr rfl) ?_
  refine s_on rfl rfl ?_
  refine s_rd (rd_load rfl rfl) ?_
  refine s_on rfl rfl ?_
  refine s_pu (pu_geq rfl rfl) ?_
  first | refine s_pu (pu_pick_t rfl rfl) ?_ | refine s_pu (pu_pick_f rfl rfl) ?_
  refine swl_sub _ (.cons (t := 0) rfl (.cons (t := 1) rfl (.cons (t := 2) rfl (.cons (t := 19) rfl .nil)))) ?_
  refine swl_nil ?_
  refine then_n ?_
  refine swp_cond (b := _) rfl (fun h19 => by exfalso; have := of_decide_eq_true h19; omega) (fun h19 => ?_)
  refine swp_skip ?_
  refine then_n ?_
  refine swp_seq ?_
  refine swp_region ?_
  refine s_pu (pu_move rfl) ?_
  first | refine s_pu (pu_nilCheck rfl) ?_ | refine s_pu (pu_nilCheck_fn rfl) ?_ | refine s_pu (pu_nilCheck_if rfl) ?_
  first | refine s_pu (pu_fieldAddr0 rfl) ?_ | refine s_pu (pu_fieldAddr rfl) ?_
  refine s_rd (rd_load rfl rfl) ?_
  refine s_pu (pu_move rfl) ?_
  refine s_rd (rd_pmap2 hl c rfl rfl) ?_
  refine s_pu (pu_move rfl) ?_
  first | refine s_pu (pu_extractL rfl) ?_ | refine s_pu (pu_extract rfl rfl) ?_
  first | refine s_pu (pu_extractL rfl) ?_ | refine s_pu (pu_extract rfl rfl) ?_
  refine s_pu (pu_assign rfl) ?_
  refine s_pu (pu_assign rfl) ?_
  refine swl_sub _ (.cons (t := 0) rfl (.cons (t := 1) rfl (.cons (t := 2) rfl (.cons (t := 6) rfl (.cons (t := 7) rfl .nil))))) ?_
  refine swl_nil ?_
  refine then_n ?_
  refine swp_seq ?_
  refine swp_region ?_
  refine s_pu (pu_move rfl) ?_
  first | refine s_pu (pu_nilCheck rfl) ?_ | refine s_pu (pu_nilCheck_fn rfl) ?_ | refine s_pu (pu_nilCheck_if rfl) ?_
  first | refine s_pu (pu_fieldAddr0 rfl) ?_ | refine s_pu (pu_fieldAddr rfl) ?_
  refine s_rd (rd_load rfl rfl) ?_
  refine s_pu (pu_move rfl) ?_
  refine s_pu (pu_move rfl) ?_
  refine s_pu (pu_move rfl) ?_
  refine s_pu (pu_or_v hva hv.lt rfl rfl) ?_
  refine s_ef0 (ef_upd (kv := ikv) _ rfl rfl rfl (by repeat (first | exact Split.nil | (apply Split.cons; (repeat (first | with_reducible exact Take.here | apply Take.there)))))) ?_
  refine swl_sub _ (.cons (t := 0) rfl (.cons (t := 1) rfl (.cons (t := 2) rfl (.cons (t := 6) rfl (.cons (t := 7) rfl .nil))))) ?_
  refine swl_nil ?_
  refine then_n ?_
  refine swp_seq ?_
  refine swp_seq ?_
  refine swp_region ?_
  refine s_pu (pu_move rfl) ?_
  refine s_pu (pu_not rfl) ?_
  refine swl_sub _ (.cons (t := 0) rfl (.cons (t := 1) rfl (.cons (t := 2) rfl (.cons (t := 6) rfl (.cons (t := 7) rfl (.cons (t := 38) rfl .nil)))))) ?_
  refine swl_nil ?_
  refine then_n ?_
  refine swp_cond (b := _) rfl (fun h38 => ?_) (fun h38 => ?_)
  · skip   -- 38 T
    have hz : s.1 c = 0 := by simpa using h38
    have hqn : c ∉ s.2 := fun hq => (hI.seen c hc).2 hq hz
    have hw : pWas s c = false := by rw [hww, hz]; rfl
    rw [if_pos hz] at hse
    refine swp_region ?_
    refine s_pu (pu_move rfl) ?_
    first | refine s_pu (pu_nilCheck rfl) ?_ | refine s_pu (pu_nilCheck_fn rfl) ?_ | refine s_pu (pu_nilCheck_if rfl) ?_
    first | refine s_pu (pu_fieldAddr0 rfl) ?_ | refine s_pu (pu_fieldAddr rfl) ?_
    refine s_rd (rd_load rfl rfl) ?_
    refine s_pu (pu_move rfl) ?_
    refine s_ef (ef_fn (Bq.push_q q s.2 (seenP n s.1) c hqn (by omega) (by unfold seenP; omega)) rfl rfl (by repeat (first | exact Split.nil | (apply Split.cons; (repeat (first | with_reducible exact Take.here | apply Take.there)))))) ?_
    rintro v44 L1 ⟨rfl, rfl⟩
    refine swl_app ?_
    rw [← addP_new (v := v) hz, ← hse]
    refine swl_sub _ (.cons (t := 0) rfl (.cons (t := 2) rfl (.cons (t := 6) rfl (.cons (t := 7) rfl .nil)))) ?_
    refine swl_nil ?_
    refine then_n ?_
    refine swp_seq ?_
    refine swp_region ?_
    refine s_pu (pu_move rfl) ?_
    refine s_pu (pu_move rfl) ?_
    refine s_split 46 rfl (fun h46 => by exfalso; have := of_decide_eq_true h46; exact this hz) (fun h46 => ?_)
    refine s_off rfl rfl rfl ?_
    refine s_off rfl rfl rfl ?_
    refine s_off rfl rfl rfl ?_
    first | refine s_pu (pu_pick_t rfl rfl) ?_ | refine s_pu (pu_pick_f rfl rfl) ?_
    refine s_pu (pu_move rfl) ?_
    refine s_pu (pu_move rfl) ?_
    refine s_pu (pu_or_v hva hv.lt rfl rfl) ?_
    refine s_pu (pu_and_v 4 hvo (by decide) rfl rfl) ?_
    refine s_pu (pu_four hvo rfl rfl) ?_
    refine s_pu (pu_assign rfl) ?_
    refine s_pu (pu_assign rfl) ?_
    refine swl_sub _ (.cons (t := 0) rfl (.cons (t := 8) rfl (.cons (t := 9) rfl .nil))) ?_
    refine swl_nil ?_
    refine then_n ?_
    refine swp_seq ?_
    refine swp_region ?_
    refine s_pu (pu_move rfl) ?_
    refine s_pu (pu_move rfl) ?_
    refine s_split 57 rfl (fun h57 => ?_) (fun h57 => ?_)
    · skip   -- 57 T
      refine s_on rfl rfl ?_
      refine s_pu (pu_move rfl) ?_
      refine s_on rfl rfl ?_
      refine s_pu (pu_not rfl) ?_
      first | refine s_pu (pu_pick_t rfl rfl) ?_ | refine s_pu (pu_pick_f rfl rfl) ?_
      refine swl_sub _ (.cons (t := 0) rfl (.cons (t := 8) rfl (.cons (t := 9) rfl (.cons (t := 60) rfl .nil)))) ?_
      refine swl_nil ?_
      refine then_n ?_
      refine swp_cond (b := _) rfl (fun h60 => ?_) (fun h60 => by cases h60)
      have e7 := f1 h57 hw
      refine swp_region ?_
      refine s_pu (pu_move rfl) ?_
      first | refine s_pu (pu_nilCheck rfl) ?_ | refine s_pu (pu_nilCheck_fn rfl) ?_ | refine s_pu (pu_nilCheck_if rfl) ?_
      first | refine s_pu (pu_fieldAddr0 rfl) ?_ | refine s_pu (pu_fieldAddr rfl) ?_
      refine s_rd (rd_load rfl rfl) ?_
      refine s_pu (pu_add_as ((frP (addP s c v) : Nat) : Int) rfl rfl (by omega) (by omega) (by omega)) ?_
      first | refine s_pu (pu_nilCheck rfl) ?_ | refine s_pu (pu_nilCheck_fn rfl) ?_ | refine s_pu (pu_nilCheck_if rfl) ?_
      first | refine s_pu (pu_fieldAddr0 rfl) ?_ | refine s_pu (pu_fieldAddr rfl) ?_
      refine s_ef0 (ef_store rfl rfl rfl) ?_
      refine swl_sub _ .nil ?_
      refine swl_nil ?_
      exact done_end [mpe mb ikv (upd l k (c : Int) (.int .i64 ((s.1 c ||| v : Nat) : Int))) _, ptB p sv n mb q (frP (addP s c v)), Bq.cq q (addP s c v).2 (seenP n (addP s c v).1)] .nil ⟨_, rfl, rfl⟩ (by repeat (first | exact Split.nil | (apply Split.cons; (repeat (first | with_reducible exact Take.here | apply Take.there)))))
    · skip   -- 57 F
      refine s_off rfl rfl rfl ?_
      refine s_off rfl rfl rfl ?_
      first | refine s_pu (pu_pick_t rfl rfl) ?_ | refine s_pu (pu_pick_f rfl rfl) ?_
      refine swl_sub _ (.cons (t := 0) rfl (.cons (t := 8) rfl (.cons (t := 9) rfl (.cons (t := 60) rfl .nil)))) ?_
      refine swl_nil ?_
      refine then_n ?_
      refine swp_cond (b := _) rfl (fun h60 => by cases h60) (fun h60 => ?_)
      refine swp_seq ?_
      refine swp_region ?_
      refine s_pu (pu_move rfl) ?_
      refine s_pu (pu_move rfl) ?_
      refine s_split 69 rfl (fun h69 => by cases h69) (fun h69 => ?_)
      refine s_off rfl rfl rfl ?_
      refine s_off rfl rfl rfl ?_
      first | refine s_pu (pu_pick_t rfl rfl) ?_ | refine s_pu (pu_pick_f rfl rfl) ?_
      refine swl_sub _ (.cons (t := 0) rfl (.cons (t := 72) rfl .nil)) ?_
      refine swl_nil ?_
      refine then_n ?_
      refine swp_cond (b := _) rfl (fun h72 => by cases h72) (fun h72 => ?_)
      refine swp_skip ?_
      rw [← f3 (h57.trans hw.symm)]
      exact done_end [mpe mb ikv (upd l k (c : Int) (.int .i64 ((s.1 c ||| v : Nat) : Int))) _, ptB p sv n mb q (frP (addP s c v)), Bq.cq q (addP s c v).2 (seenP n (addP s c v).1)] .nil ⟨_, rfl, rfl⟩ (by repeat (first | exact Split.nil | (apply Split.cons; (repeat (first | with_reducible exact Take.here | apply Take.there)))))
  · skip   -- 38 F
    have hz : s.1 c ≠ 0 := by simpa using h38
    have hw : pWas s c = decide (s.1 c < 4) := by rw [hww, decide_eq_true hz, Bool.true_and]
    rw [if_neg hz] at hse
    rw [← addP_old (v := v) hz, ← hse]
    refine swp_skip ?_
    refine then_n ?_
    refine swp_seq ?_
    refine swp_region ?_
    refine s_pu (pu_move rfl) ?_
    refine s_pu (pu_move rfl) ?_
    refine s_split 46 rfl (fun h46 => ?_) (fun h46 => by exfalso; have := of_decide_eq_false h46; exact this hz)
    refine s_on rfl rfl ?_
    refine s_pu (pu_move rfl) ?_
    refine s_on rfl rfl ?_
    refine s_pu (pu_and_v 4 hva (by decide) rfl rfl) ?_
    refine s_on rfl rfl ?_
    refine s_pu (pu_four hva rfl rfl) ?_
    first | refine s_pu (pu_pick_t rfl rfl) ?_ | refine s_pu (pu_pick_f rfl rfl) ?_
    refine s_pu (pu_move rfl) ?_
    refine s_pu (pu_move rfl) ?_
    refine s_pu (pu_or_v hva hv.lt rfl rfl) ?_
    refine s_pu (pu_and_v 4 hvo (by decide) rfl rfl) ?_
    refine s_pu (pu_four hvo rfl rfl) ?_
    refine s_pu (pu_assign rfl) ?_
    refine s_pu (pu_assign rfl) ?_
    refine swl_sub _ (.cons (t := 0) rfl (.cons (t := 8) rfl (.cons (t := 9) rfl .nil))) ?_
    refine swl_nil ?_
    refine then_n ?_
    refine swp_seq ?_
    refine swp_region ?_
    refine s_pu (pu_move rfl) ?_
    refine s_pu (pu_move rfl) ?_
    refine s_split 57 rfl (fun h57 => ?_) (fun h57 => ?_)
    · skip   -- 57 T
      refine s_on rfl rfl ?_
      refine s_pu (pu_move rfl) ?_
      refine s_on rfl rfl ?_
      refine s_pu (pu_not rfl) ?_
      first | refine s_pu (pu_pick_t rfl rfl) ?_ | refine s_pu (pu_pick_f rfl rfl) ?_
      refine swl_sub _ (.cons (t := 0) rfl (.cons (t := 8) rfl (.cons (t := 9) rfl (.cons (t := 60) rfl .nil)))) ?_
      refine swl_nil ?_
      refine then_n ?_
      refine swp_cond (b := _) rfl (fun h60 => ?_) (fun h60 => ?_)
      · skip   -- 60 T
        have e7 := f1 h57 (by rw [hw]; simpa using h60)
        refine swp_region ?_
        refine s_pu (pu_move rfl) ?_
        first | refine s_pu (pu_nilCheck rfl) ?_ | refine s_pu (pu_nilCheck_fn rfl) ?_ | refine s_pu (pu_nilCheck_if rfl) ?_
        first | refine s_pu (pu_fieldAddr0 rfl) ?_ | refine s_pu (pu_fieldAddr rfl) ?_
        refine s_rd (rd_load rfl rfl) ?_
        refine s_pu (pu_add_as ((frP (addP s c v) : Nat) : Int) rfl rfl (by omega) (by omega) (by omega)) ?_
        first | refine s_pu (pu_nilCheck rfl) ?_ | refine s_pu (pu_nilCheck_fn rfl) ?_ | refine s_pu (pu_nilCheck_if rfl) ?_
        first | refine s_pu (pu_fieldAddr0 rfl) ?_ | refine s_pu (pu_fieldAddr rfl) ?_
        refine s_ef0 (ef_store rfl rfl rfl) ?_
        refine swl_sub _ .nil ?_
        refine swl_nil ?_
        exact done_end [mpe mb ikv (upd l k (c : Int) (.int .i64 ((s.1 c ||| v : Nat) : Int))) _, ptB p sv n mb q (frP (addP s c v)), Bq.cq q (addP s c v).2 (seenP n (addP s c v).1)] .nil ⟨_, rfl, rfl⟩ (by repeat (first | exact Split.nil | (apply Split.cons; (repeat (first | with_reducible exact Take.here | apply Take.there)))))
      · skip   -- 60 F
        refine swp_seq ?_
        refine swp_region ?_
        refine s_pu (pu_move rfl) ?_
        refine s_pu (pu_move rfl) ?_
        refine s_split 69 rfl (fun h69 => ?_) (fun h69 => by rw [h69] at h60; cases h60)
        refine s_on rfl rfl ?_
        refine s_pu (pu_move rfl) ?_
        refine s_on rfl rfl ?_
        refine s_pu (pu_not rfl) ?_
        first | refine s_pu (pu_pick_t rfl rfl) ?_ | refine s_pu (pu_pick_f rfl rfl) ?_
        refine swl_sub _ (.cons (t := 0) rfl (.cons (t := 72) rfl .nil)) ?_
        refine swl_nil ?_
        refine then_n ?_
        refine swp_cond (b := _) rfl (fun h72 => by rw [h57] at h72; cases h72) (fun h72 => ?_)
        refine swp_skip ?_
        rw [← f3 (h57.trans (hw.trans h69).symm)]
        exact done_end [mpe mb ikv (upd l k (c : Int) (.int .i64 ((s.1 c ||| v : Nat) : Int))) _, ptB p sv n mb q (frP (addP s c v)), Bq.cq q (addP s c v).2 (seenP n (addP s c v).1)] .nil ⟨_, rfl, rfl⟩ (by repeat (first | exact Split.nil | (apply Split.cons; (repeat (first | with_reducible exact Take.here | apply Take.there)))))
    · skip   -- 57 F
      refine s_off rfl rfl rfl ?_
      refine s_off rfl rfl rfl ?_
      first | refine s_pu (pu_pick_t rfl rfl) ?_ | refine s_pu (pu_pick_f rfl rfl) ?_
      refine swl_sub _ (.cons (t := 0) rfl (.cons (t := 8) rfl (.cons (t := 9) rfl (.cons (t := 60) rfl .nil)))) ?_
      refine swl_nil ?_
      refine then_n ?_
      refine swp_cond (b := _) rfl (fun h60 => by cases h60) (fun h60 => ?_)
      refine swp_seq ?_
      refine swp_region ?_
      refine s_pu (pu_move rfl) ?_
      refine s_pu (pu_move rfl) ?_
      refine s_split 69 rfl (fun h69 => ?_) (fun h69 => ?_)
      · skip   -- 69 T
        refine s_on rfl rfl ?_
        refine s_pu (pu_move rfl) ?_
        refine s_on rfl rfl ?_
        refine s_pu (pu_not rfl) ?_
        first | refine s_pu (pu_pick_t rfl rfl) ?_ | refine s_pu (pu_pick_f rfl rfl) ?_
        refine swl_sub _ (.cons (t := 0) rfl (.cons (t := 72) rfl .nil)) ?_
        refine swl_nil ?_
        refine then_n ?_
        refine swp_cond (b := _) rfl (fun h72 => ?_) (fun h72 => by rw [h57] at h72; cases h72)
        have e9 := f2 h57 (hw.trans h69)
        refine swp_region ?_
        refine s_pu (pu_move rfl) ?_
        first | refine s_pu (pu_nilCheck rfl) ?_ | refine s_pu (pu_nilCheck_fn rfl) ?_ | refine s_pu (pu_nilCheck_if rfl) ?_
        first | refine s_pu (pu_fieldAddr0 rfl) ?_ | refine s_pu (pu_fieldAddr rfl) ?_
        refine s_rd (rd_load rfl rfl) ?_
        refine s_pu (pu_sub_as ((frP (addP s c v) : Nat) : Int) rfl rfl (by omega) (by omega) (by omega)) ?_
        first | refine s_pu (pu_nilCheck rfl) ?_ | refine s_pu (pu_nilCheck_fn rfl) ?_ | refine s_pu (pu_nilCheck_if rfl) ?_
        first | refine s_pu (pu_fieldAddr0 rfl) ?_ | refine s_pu (pu_fieldAddr rfl) ?_
        refine s_ef0 (ef_store rfl rfl rfl) ?_
        refine swl_sub _ .nil ?_
        refine swl_nil ?_
        exact done_end [mpe mb ikv (upd l k (c : Int) (.int .i64 ((s.1 c ||| v : Nat) : Int))) _, ptB p sv n mb q (frP (addP s c v)), Bq.cq q (addP s c v).2 (seenP n (addP s c v).1)] .nil ⟨_, rfl, rfl⟩ (by repeat (first | exact Split.nil | (apply Split.cons; (repeat (first | with_reducible exact Take.here | apply Take.there)))))
      · skip   -- 69 F
        refine s_off rfl rfl rfl ?_
        refine s_off rfl rfl rfl ?_
        first | refine s_pu (pu_pick_t rfl rfl) ?_ | refine s_pu (pu_pick_f rfl rfl) ?_
        refine swl_sub _ (.cons (t := 0) rfl (.cons (t := 72) rfl .nil)) ?_
        refine swl_nil ?_
        refine then_n ?_
        refine swp_cond (b := _) rfl (fun h72 => by cases h72) (fun h72 => ?_)
        refine swp_skip ?_
        rw [← f3 (h57.trans (hw.trans h69).symm)]
        exact done_end [mpe mb ikv (upd l k (c : Int) (.int .i64 ((s.1 c ||| v : Nat) : Int))) _, ptB p sv n mb q (frP (addP s c v)), Bq.cq q (addP s c v).2 (seenP n (addP s c v).1)] .nil ⟨_, rfl, rfl⟩ (by repeat (first | exact Split.nil | (apply Split.cons; (repeat (first | with_reducible exact Take.here | apply Take.there)))))
end SX
namespace SX
open Go Go.Proofs

/-- the bases of two sides -/
def sidesB (g : List (List Int)) (l r : List Int) : List Int := elsTo g.length (bestT g (bothS g l r) g.length)
abbrev stS (l r : List Int) : PS := addRow 2 (addRow 1 (fun _ => 0, []) l) r
theorem putS_f {n c : Nat} (hc : c < n) (D : Nat → Bool) : putS n D (c : Int) = fun j => D j || decide (j = c) := by
  funext j
  unfold putS
  rw [Int.toNat_natCast, decide_eq_true (show (0 : Int) ≤ (c : Int) ∧ (c : Int) < n by omega), Bool.true_and]
set_option maxHeartbeats 4000000 in
theorem pbest_spec (X : Src) (s0 : X.σ) (μ : PH) (p mb q : Nat) (l r : List Int) (hT : RowAt μ 0 0 tabV) (h0 : Le X.μ0 μ) (hf : X.fine s0) (hl : ∀ p ∈ l, 0 ≤ p ∧ p < X.g.length) (hr : ∀ p ∈ r, 0 ≤ p ∧ p < X.g.length) :
    Spec Tryd.prog 71 [.pointer (some ⟨p, 0, none⟩)] [ptB p X.sv X.n mb q (frP (stS l r)), mpP mb (stS l r).1, Bq.cq q (stS l r).2 (seenP X.n (stS l r).1), X.A s0 μ, ro μ]
      (fun v L => ∃ zs μ', askedIn X.n zs ∧ Le μ μ' ∧ L = [own 3 1 v (sidesB X.g l r).length ((sidesB X.g l r).flatMap (icsk .i64)), X.A (zs.foldl X.step s0) μ', ro μ']) := by
  have hn := X.hn
  have hXn : X.n = X.g.length := rfl
  have hw0 : PW X.g l r X.g.length (stS l r) (fun _ => false) := PW.start hl hr
  generalize stS l r = st0 at *
  refine Spec.of 85 Tryd.func71 rfl rfl rfl ?_
  refine swp_seq ?_
  refine swp_region ?_
  refine s_pu (pu_assign rfl) ?_
  refine swl_sub _ (.cons (t := 0) rfl .nil) ?_
  refine swl_nil ?_
  refine then_n ?_
  refine swp_seq ?_
  refine swp_region ?_
  refine s_pu (pu_move rfl) ?_
  first | refine s_pu (pu_nilCheck rfl) ?_ | refine s_pu (pu_nilCheck_fn rfl) ?_ | refine s_pu (pu_nilCheck_if rfl) ?_
  first | refine s_pu (pu_fieldAddr0 rfl) ?_ | refine s_pu (pu_fieldAddr rfl) ?_
  refine s_rd (rd_load rfl rfl) ?_
  refine s_ef (ef_fn (new_m (X.n : Nat)) rfl rfl (by repeat (first | exact Split.nil | (apply Split.cons; (repeat (first | with_reducible exact Take.here | apply Take.there)))))) ?_
  rintro v15 L1 ⟨p3, rfl, rfl⟩
  refine swl_app ?_
  refine s_pu (pu_assign rfl) ?_
  refine swl_sub _ (.cons (t := 0) rfl (.cons (t := 3) rfl .nil)) ?_
  refine swl_nil ?_
  refine then_n ?_
  refine swp_seq ?_
  refine swp_region ?_
  refine s_pu (pu_move rfl) ?_
  first | refine s_pu (pu_nilCheck rfl) ?_ | refine s_pu (pu_nilCheck_fn rfl) ?_ | refine s_pu (pu_nilCheck_if rfl) ?_
  first | refine s_pu (pu_fieldAddr0 rfl) ?_ | refine s_pu (pu_fieldAddr rfl) ?_
  refine s_rd (rd_load rfl rfl) ?_
  refine s_ef (ef_fn (new_m (X.n : Nat)) rfl rfl (by repeat (first | exact Split.nil | (apply Split.cons; (repeat (first | with_reducible exact Take.here | apply Take.there)))))) ?_
  rintro v20 L1 ⟨p4, rfl, rfl⟩
  refine swl_app ?_
  refine s_pu (pu_assign rfl) ?_
  refine swl_sub _ (.cons (t := 0) rfl (.cons (t := 3) rfl (.cons (t := 4) rfl .nil))) ?_
  rw [clampM_id hn]
  refine swl_nil ?_
  refine then_n ?_
  refine swp_seq ?_
  refine swp_block ?_
  refine swp_sub _ (.cons (t := 0) rfl (.cons (t := 3) rfl (.cons (t := 4) rfl .nil))) ?_
  refine swp_ent (Split.ent' (K := [ptB p X.sv X.n mb q (frP st0), mpP mb st0.1, Bq.cq q st0.2 (seenP X.n st0.1), mset p3 X.n (fun _ => false), mset p4 X.n (fun _ => false), X.A s0 μ, ro μ]) (by repeat (first | exact Split.nil | (apply Split.cons; (repeat (first | with_reducible exact Take.here | apply Take.there)))))) ?_
  refine swp_loop (ι := Nat × PS × (Nat → Bool) × (Nat → Bool) × List Nat × PH) (fun k env L => Sub env [(0, .pointer (some ⟨p, 0, none⟩)), (3, .pointer (some ⟨p3, 0, none⟩)), (4, .pointer (some ⟨p4, 0, none⟩))]
    ∧ L = [ptB p X.sv X.n mb q (frP k.2.1), mpP mb k.2.1.1, Bq.cq q k.2.1.2 (seenP X.n k.2.1.1), mset p3 X.n k.2.2.1, mset p4 X.n k.2.2.2.1, X.A (k.2.2.2.2.1.foldl X.step s0) k.2.2.2.2.2, ro k.2.2.2.2.2]
    ∧ PW X.g l r k.1 k.2.1 k.2.2.1 ∧ (∀ j, j < k.1 → k.2.2.2.1 j = false) ∧ askedIn X.n k.2.2.2.2.1 ∧ (∀ y ∈ k.2.2.2.2.1, k.1 ≤ y) ∧ Le μ k.2.2.2.2.2) (fun k => k.1) (X.g.length, st0, fun _ => false, fun _ => false, [], μ) ⟨⟨rfl, rfl, rfl, trivial⟩, rfl, hw0, fun _ _ => rfl, ⟨List.nodup_nil, fun y hy => by cases hy⟩, fun y hy => (by cases hy), Le.refl _⟩ ?_
  rintro ⟨m, ⟨P, Q0⟩, F, D, ys, μ1⟩ env L ⟨hsub0, rfl, hW, hD, hask, hys, hle⟩
  dsimp only at hW hD hask hys hle ⊢
  refine swp_sub _ hsub0 ?_
  refine swp_seq ?_
  refine swp_seq ?_
  refine swp_region ?_
  refine s_pu (pu_move rfl) ?_
  first | refine s_pu (pu_nilCheck rfl) ?_ | refine s_pu (pu_nilCheck_fn rfl) ?_ | refine s_pu (pu_nilCheck_if rfl) ?_
  first | refine s_pu (pu_fieldAddr0 rfl) ?_ | refine s_pu (pu_fieldAddr rfl) ?_
  refine s_rd (rd_load rfl rfl) ?_
  refine s_pu (pu_gtr rfl rfl) ?_
  refine swl_sub _ (.cons (t := 0) rfl (.cons (t := 3) rfl (.cons (t := 4) rfl (.cons (t := 25) rfl .nil)))) ?_
  refine swl_nil ?_
  refine then_n ?_
  refine swp_cond (b := _) rfl (fun h25 => ?_) (fun h25 => ?_)
  · skip   -- 25 T
    have hpos : 0 < frP (P, Q0) := by have := of_decide_eq_true h25; omega
    obtain ⟨c, Q, hQ⟩ := frP_pos hpos
    dsimp only at hQ
    subst hQ
    obtain ⟨hI1, hPc, hcm, hW1⟩ := hW.step X.hg
    have hml := hW.le
    have hcn : c < X.g.length := by omega
    have hV : isV (P c) := hW.pi.val c
    have hql : (c :: Q).length ≤ m := falls_len hW.pi.falls hW.pi.lt
    have hpop := frP_pop (P := P) (c := c) (Q := Q)
    have hfb := frP_le hI1
    have hnw : newW X.n D (c : Int) = true := by
      unfold newW
      rw [Int.toNat_natCast, hD c hcm, decide_eq_true (show (0 : Int) ≤ c by omega), decide_eq_true (show (c : Int) < X.n by omega)]; rfl
    refine swp_skip ?_
    refine then_n ?_
    refine swp_block ?_
    refine swp_seq ?_
    refine swp_region ?_
    refine s_pu (pu_move rfl) ?_
    first | refine s_pu (pu_nilCheck rfl) ?_ | refine s_pu (pu_nilCheck_fn rfl) ?_ | refine s_pu (pu_nilCheck_if rfl) ?_
    first | refine s_pu (pu_fieldAddr0 rfl) ?_ | refine s_pu (pu_fieldAddr rfl) ?_
    refine s_rd (rd_load rfl rfl) ?_
    refine s_ef (ef_fn (Bq.pop_q q (seenP X.n P) c Q (by omega)) rfl rfl (by repeat (first | exact Split.nil | (apply Split.cons; (repeat (first | with_reducible exact Take.here | apply Take.there)))))) ?_
    rintro v31 L1 ⟨rfl, rfl⟩
    refine swl_app ?_
    refine s_pu (pu_move rfl) ?_
    first | refine s_pu (pu_extractL rfl) ?_ | refine s_pu (pu_extract rfl rfl) ?_
    first | refine s_pu (pu_extractL rfl) ?_ | refine s_pu (pu_extract rfl rfl) ?_
    refine s_pu (pu_assign rfl) ?_
    refine s_pu (pu_assign rfl) ?_
    refine swl_sub _ (.cons (t := 0) rfl (.cons (t := 3) rfl (.cons (t := 4) rfl (.cons (t := 5) rfl .nil)))) ?_
    refine swl_nil ?_
    refine then_n ?_
    refine swp_seq ?_
    refine swp_region ?_
    refine s_pu (pu_move rfl) ?_
    refine s_pu (pu_assign rfl) ?_
    refine swl_sub _ (.cons (t := 0) rfl (.cons (t := 3) rfl (.cons (t := 4) rfl (.cons (t := 7) rfl .nil)))) ?_
    refine swl_nil ?_
    refine then_n ?_
    refine swp_seq ?_
    refine swp_ent (Split.ent' (K := [mpP mb P, ptB p X.sv X.n mb q (frP (P, c :: Q)), Bq.cq q Q (seenP X.n P), mset p3 X.n F, mset p4 X.n D, X.A (ys.foldl X.step s0) μ1, ro μ1]) (by repeat (first | exact Split.nil | (apply Split.cons; (repeat (first | with_reducible exact Take.here | apply Take.there)))))) ?_
    refine swp_ex fun ⟨⟨ents, clk⟩, hents⟩ => ?_
    simp only [List.cons_append, List.nil_append]
    dsimp only at hents ⊢
    refine swp_region ?_
    refine s_pu (pu_move rfl) ?_
    first | refine s_pu (pu_nilCheck rfl) ?_ | refine s_pu (pu_nilCheck_fn rfl) ?_ | refine s_pu (pu_nilCheck_if rfl) ?_
    first | refine s_pu (pu_fieldAddr0 rfl) ?_ | refine s_pu (pu_fieldAddr rfl) ?_
    refine s_rd (rd_load rfl rfl) ?_
    refine s_pu (pu_move rfl) ?_
    refine s_rd (rd_pmap hents c rfl rfl) ?_
    refine s_pu (pu_assign rfl) ?_
    refine swl_sub _ (.cons (t := 0) rfl (.cons (t := 3) rfl (.cons (t := 4) rfl (.cons (t := 7) rfl (.cons (t := 8) rfl .nil))))) ?_
    refine swl_ent (mpP_close hents) ?_
    refine swl_nil ?_
    refine then_n ?_
    refine swp_seq ?_
    refine swp_seq ?_
    refine swp_region ?_
    refine s_pu (pu_move rfl) ?_
    refine s_pu (pu_move rfl) ?_
    refine s_ef (ef_fn (put_w p4 X.n D (c : Nat)) rfl rfl (by repeat (first | exact Split.nil | (apply Split.cons; (repeat (first | with_reducible exact Take.here | apply Take.there)))))) ?_
    rintro v43 L1 ⟨rfl, rfl⟩
    refine swl_app ?_
    rw [hnw, putS_f (show c < X.n from hcn)]
    refine s_pu (pu_not rfl) ?_
    refine swl_sub _ (.cons (t := 0) rfl (.cons (t := 3) rfl (.cons (t := 4) rfl (.cons (t := 7) rfl (.cons (t := 8) rfl (.cons (t := 44) rfl .nil)))))) ?_
    refine swl_nil ?_
    refine then_n ?_
    refine swp_cond (b := _) rfl (fun h44 => by cases h44) (fun h44 => ?_)
    refine swp_skip ?_
    refine then_n ?_
    refine swp_cut (fun env L => Sub env [(0, .pointer (some ⟨p, 0, none⟩)), (3, .pointer (some ⟨p3, 0, none⟩)), (4, .pointer (some ⟨p4, 0, none⟩)), (7, .int .i64 (c : Nat)), (8, .int .i64 (pOut (P c) : Nat))] ∧ Ent L [ptB p X.sv X.n mb q (frP (P, Q)), mpP mb P, Bq.cq q Q (seenP X.n P), mset p3 X.n (fun k => F k || (decide (P c = 3) && decide (k = c))), mset p4 X.n (fun j => D j || decide (j = c)), X.A (ys.foldl X.step s0) μ1, ro μ1]) ?_ ?_
    · skip
      refine swp_seq ?_
      refine swp_region ?_
      refine s_pu (pu_move rfl) ?_
      refine s_pu (pu_and_v 4 hV (by decide) rfl rfl) ?_
      refine s_pu (pu_four hV rfl rfl) ?_
      refine swl_sub _ (.cons (t := 0) rfl (.cons (t := 3) rfl (.cons (t := 4) rfl (.cons (t := 7) rfl (.cons (t := 8) rfl (.cons (t := 47) rfl .nil)))))) ?_
      refine swl_nil ?_
      refine then_n ?_
      refine swp_cond (b := _) rfl (fun h47 => ?_) (fun h47 => ?_)
      · skip   -- 47 T
        have h47' : P c < 4 := of_decide_eq_true h47
        rw [if_pos h47'] at hpop
        refine swp_seq ?_
        refine swp_region ?_
        refine s_pu (pu_move rfl) ?_
        first | refine s_pu (pu_nilCheck rfl) ?_ | refine s_pu (pu_nilCheck_fn rfl) ?_ | refine s_pu (pu_nilCheck_if rfl) ?_
        first | refine s_pu (pu_fieldAddr0 rfl) ?_ | refine s_pu (pu_fieldAddr rfl) ?_
        refine s_rd (rd_load rfl rfl) ?_
        refine s_pu (pu_sub_as ((frP (P, Q) : Nat) : Int) rfl rfl (by omega) (by omega) (by omega)) ?_
        first | refine s_pu (pu_nilCheck rfl) ?_ | refine s_pu (pu_nilCheck_fn rfl) ?_ | refine s_pu (pu_nilCheck_if rfl) ?_
        first | refine s_pu (pu_fieldAddr0 rfl) ?_ | refine s_pu (pu_fieldAddr rfl) ?_
        refine s_ef0 (ef_store rfl rfl rfl) ?_
        refine swl_sub _ (.cons (t := 0) rfl (.cons (t := 3) rfl (.cons (t := 4) rfl (.cons (t := 7) rfl (.cons (t := 8) rfl .nil))))) ?_
        refine swl_nil ?_
        refine then_n ?_
        refine swp_seq ?_
        refine swp_region ?_
        refine s_pu (pu_move rfl) ?_
        refine s_pu (pu_and_v 3 hV (by decide) rfl rfl) ?_
        refine s_pu (pu_three hV h47' rfl rfl) ?_
        refine swl_sub _ (.cons (t := 0) rfl (.cons (t := 3) rfl (.cons (t := 4) rfl (.cons (t := 7) rfl (.cons (t := 8) rfl (.cons (t := 57) rfl .nil)))))) ?_
        refine swl_nil ?_
        refine then_n ?_
        refine swp_cond (b := _) rfl (fun h57 => ?_) (fun h57 => ?_)
        · skip   -- 57 T
          have h57' : P c = 3 := of_decide_eq_true h57
          refine swp_seq ?_
          refine swp_region ?_
          refine s_pu (pu_move rfl) ?_
          refine s_pu (pu_move rfl) ?_
          refine s_ef (ef_fn (put_w p3 X.n F (c : Nat)) rfl rfl (by repeat (first | exact Split.nil | (apply Split.cons; (repeat (first | with_reducible exact Take.here | apply Take.there)))))) ?_
          rintro v60 L1 ⟨rfl, rfl⟩
          refine swl_app ?_
          refine swl_sub _ (.cons (t := 0) rfl (.cons (t := 3) rfl (.cons (t := 4) rfl (.cons (t := 7) rfl (.cons (t := 8) rfl .nil))))) ?_
          refine swl_nil ?_
          refine then_n ?_
          refine swp_region ?_
          refine s_pu (pu_move rfl) ?_
          refine s_pu (pu_or_v hV (by decide) rfl rfl) ?_
          refine s_pu (pu_assign rfl) ?_
          refine swl_sub _ (.cons (t := 0) rfl (.cons (t := 3) rfl (.cons (t := 4) rfl (.cons (t := 7) rfl (.cons (t := 8) rfl .nil))))) ?_
          refine swl_nil ?_
          refine then_n ⟨⟨rfl, rfl, rfl, rfl, by rw [h57']; rfl, trivial⟩, ?_⟩
          rw [putS_f (show c < X.n from hcn), show (fun k => F k || (decide (P c = 3) && decide (k = c))) = fun k => F k || decide (k = c) by rw [h57']; rfl]
          exact Split.ent' (by repeat (first | exact Split.nil | (apply Split.cons; (repeat (first | with_reducible exact Take.here | apply Take.there)))))
        · skip   -- 57 F
          have h57' : ¬ P c = 3 := of_decide_eq_false h57
          refine swp_skip ?_
          refine then_n ⟨⟨rfl, rfl, rfl, rfl, by unfold pOut; rw [if_neg h57']; rfl, trivial⟩, ?_⟩
          rw [show (fun k => F k || (decide (P c = 3) && decide (k = c))) = F by funext k; rw [decide_eq_false h57']; simp]
          exact Split.ent' (by repeat (first | exact Split.nil | (apply Split.cons; (repeat (first | with_reducible exact Take.here | apply Take.there)))))
      · skip   -- 47 F
        have h47' : ¬ P c < 4 := of_decide_eq_false h47
        rw [if_neg h47', Nat.add_zero] at hpop
        have h57' : ¬ P c = 3 := by omega
        refine swp_skip ?_
        refine then_n ⟨⟨rfl, rfl, rfl, rfl, by unfold pOut; rw [if_neg h57']; rfl, trivial⟩, ?_⟩
        rw [hpop, show (fun k => F k || (decide (P c = 3) && decide (k = c))) = F by funext k; rw [decide_eq_false h57']; simp]
        exact Split.ent' (by repeat (first | exact Split.nil | (apply Split.cons; (repeat (first | with_reducible exact Take.here | apply Take.there)))))
    rintro env L ⟨hsub, hL8⟩
    refine swp_sub _ hsub ?_
    refine swp_ent hL8 ?_
    have hcy : c ∉ ys := fun h => by have := hys c h; omega
    have hvo : isV (pOut (P c)) := hV.out
    have hvn := pOut_ne hPc
    generalize hv : pOut (P c) = v at *
    generalize hF' : (fun k => F k || (decide (P c = 3) && decide (k = c))) = F' at *
    have hD' : ∀ j, j < c → (fun j => D j || decide (j = c)) j = false := fun j hj => by
      show (D j || decide (j = c)) = false
      rw [hD j (by omega), decide_eq_false (by omega)]; rfl
    generalize (fun j => D j || decide (j = c)) = D' at *
    refine swp_seq ?_
    refine swp_region ?_
    refine s_pu (pu_move rfl) ?_
    first | refine s_pu (pu_nilCheck rfl) ?_ | refine s_pu (pu_nilCheck_fn rfl) ?_ | refine s_pu (pu_nilCheck_if rfl) ?_
    first | refine s_pu (pu_fieldAddr0 rfl) ?_ | refine s_pu (pu_fieldAddr rfl) ?_
    refine s_rd (rd_load rfl rfl) ?_
    refine s_pu (pu_move rfl) ?_
    refine s_ef (ef_invS rfl X.hd (X.parents (ys.foldl X.step s0) μ1 c (h0.trans hle) hcn (hf ys c hask.1 hcy (fun y hy => hask.2 y hy) hcn)) rfl (by repeat (first | exact Split.nil | (apply Split.cons; (repeat (first | with_reducible exact Take.here | apply Take.there)))))) ?_
    rintro v68 L1 ⟨μ3, hμ3, hrw, rfl⟩
    refine swl_app ?_
    refine s_pu (pu_len_row hrw rfl) ?_
    refine s_pu (pu_move rfl) ?_
    refine swl_sub _ (.cons (t := 0) rfl (.cons (t := 3) rfl (.cons (t := 4) rfl (.cons (t := 8) rfl (.cons (t := 68) rfl (.cons (t := 69) rfl (.cons (t := 70) rfl .nil))))))) ?_
    refine swl_nil ?_
    refine then_n ?_
    refine swp_block ?_
    refine swp_sub _ (.cons (t := 0) rfl (.cons (t := 3) rfl (.cons (t := 4) rfl (.cons (t := 8) rfl (.cons (t := 68) rfl (.cons (t := 69) rfl (.cons (t := 70) rfl .nil))))))) ?_
    refine swp_ent (Split.ent' (K := [ptB p X.sv X.n mb q (frP (P, Q)), mpP mb P, Bq.cq q Q (seenP X.n P), mset p3 X.n F', mset p4 X.n D', X.A (X.step (ys.foldl X.step s0) c) μ3, ro μ3]) (by repeat (first | exact Split.nil | (apply Split.cons; (repeat (first | with_reducible exact Take.here | apply Take.there)))))) ?_
    refine swp_loop (ι := Nat) (fun i env L => env = [(0, .pointer (some ⟨p, 0, none⟩)), (3, .pointer (some ⟨p3, 0, none⟩)), (4, .pointer (some ⟨p4, 0, none⟩)), (8, .int .i64 (v : Nat)), (68, v68), (69, .int .i64 ((rowOf X.g c).length : Nat)), (70, .int .i64 (i : Nat))]
      ∧ L = [ptB p X.sv X.n mb q (frP (addRow v (P, Q) ((rowOf X.g c).take i))), mpP mb (addRow v (P, Q) ((rowOf X.g c).take i)).1, Bq.cq q (addRow v (P, Q) ((rowOf X.g c).take i)).2 (seenP X.n (addRow v (P, Q) ((rowOf X.g c).take i)).1), mset p3 X.n F', mset p4 X.n D', X.A (X.step (ys.foldl X.step s0) c) μ3, ro μ3] ∧ i ≤ (rowOf X.g c).length) (fun i => (rowOf X.g c).length - i) 0 ⟨rfl, rfl, Nat.zero_le _⟩ ?_
    rintro i env L ⟨rfl, rfl, hi⟩
    refine swp_seq ?_
    have hrs := hrw.small
    have hrg : ∀ u ∈ rowOf X.g c, 0 ≤ u ∧ u < c := fun u hu => ⟨(row_good X.hg hu).1, (row_good X.hg hu).2.1⟩
    refine swp_region ?_
    refine s_pu (pu_lss rfl rfl) ?_
    refine swl_sub _ (.cons (t := 0) rfl (.cons (t := 3) rfl (.cons (t := 4) rfl (.cons (t := 8) rfl (.cons (t := 68) rfl (.cons (t := 69) rfl (.cons (t := 70) rfl (.cons (t := 71) rfl .nil)))))))) ?_
    refine swl_nil ?_
    refine then_n ?_
    refine swp_seq ?_
    refine swp_cond (b := _) rfl (fun h71 => ?_) (fun h71 => ?_)
    · skip   -- 71 T
      have h71' : i < (rowOf X.g c).length := by have := of_decide_eq_true h71; omega
      obtain ⟨u, hu⟩ : ∃ u, (rowOf X.g c)[i]? = some u := ⟨_, List.getElem?_eq_getElem h71'⟩
      obtain ⟨pb, po, pc, hpv, hpc⟩ := hrw.at_ hu
      have hur := hrg u (List.mem_of_getElem? hu)
      obtain ⟨u, rfl⟩ : ∃ k : Nat, u = k := ⟨u.toNat, by omega⟩
      have hsu := addRow_succ (v := v) (s := (P, Q)) hu
      rw [Int.toNat_natCast] at hsu
      obtain ⟨hIi, _⟩ := PI.addRow (v := v) (show c ≤ X.g.length by omega) hvo hvn hI1 (l := (rowOf X.g c).take i) (fun w hw => hrg w (List.mem_of_mem_take hw))
      have hDu := hD' u (by omega)
      generalize addRow v (P, Q) ((rowOf X.g c).take i) = si at *
      refine swp_skip ?_
      refine then_n ?_
      refine swp_seq ?_
      refine swp_block ?_
      refine swp_seq ?_
      refine swp_region ?_
      refine s_pu (pu_indexAddr (po + i * 1) (congrArg some hpv) rfl (by omega) (by omega) (by rw [Int.toNat_natCast])) ?_
      refine s_rd (rd_ro rfl hpc) ?_
      refine s_pu (pu_assign rfl) ?_
      refine swl_sub _ (.cons (t := 0) rfl (.cons (t := 3) rfl (.cons (t := 4) rfl (.cons (t := 8) rfl (.cons (t := 10) rfl (.cons (t := 68) rfl (.cons (t := 69) rfl (.cons (t := 70) rfl .nil)))))))) ?_
      refine swl_nil ?_
      refine then_n ?_
      refine swp_seq ?_
      refine swp_region ?_
      refine s_pu (pu_move rfl) ?_
      refine s_pu (pu_move rfl) ?_
      refine s_ef (ef_fn (has_w p4 X.n D' u) rfl rfl (by repeat (first | exact Split.nil | (apply Split.cons; (repeat (first | with_reducible exact Take.here | apply Take.there)))))) ?_
      rintro v76 L1 ⟨rfl, rfl⟩
      refine swl_app ?_
      rw [hDu]
      refine s_pu (pu_not rfl) ?_
      refine swl_sub _ (.cons (t := 0) rfl (.cons (t := 3) rfl (.cons (t := 4) rfl (.cons (t := 8) rfl (.cons (t := 10) rfl (.cons (t := 68) rfl (.cons (t := 69) rfl (.cons (t := 70) rfl (.cons (t := 77) rfl .nil))))))))) ?_
      refine swl_nil ?_
      refine then_n ?_
      refine swp_cond (b := _) rfl (fun h77 => ?_) (fun h77 => by cases h77)
      refine swp_region ?_
      refine s_pu (pu_move rfl) ?_
      refine s_pu (pu_move rfl) ?_
      refine s_pu (pu_move rfl) ?_
      refine s_ef (ef_fn (padd_spec p X.n c mb q X.sv si u v hn hIi (by omega) (by omega) hvo hvn) rfl rfl (by repeat (first | exact Split.nil | (apply Split.cons; (repeat (first | with_reducible exact Take.here | apply Take.there)))))) ?_
      rintro v81 L1 ⟨rfl, rfl⟩
      refine swl_app ?_
      refine swl_sub _ (.cons (t := 0) rfl (.cons (t := 3) rfl (.cons (t := 4) rfl (.cons (t := 8) rfl (.cons (t := 68) rfl (.cons (t := 69) rfl (.cons (t := 70) rfl .nil))))))) ?_
      refine swl_nil ?_
      refine block_n ?_
      refine then_n ?_
      refine swp_region ?_
      refine s_pu (pu_add_as ((i + 1 : Nat) : Int) rfl rfl (by omega) (by omega) (by omega)) ?_
      refine s_pu (pu_move rfl) ?_
      refine swl_sub _ (.cons (t := 0) rfl (.cons (t := 3) rfl (.cons (t := 4) rfl (.cons (t := 8) rfl (.cons (t := 68) rfl (.cons (t := 69) rfl (.cons (t := 70) rfl .nil))))))) ?_
      refine swl_ent (Split.ent' (K := [ptB p X.sv X.n mb q (frP (addP si u v)), mpP mb (addP si u v).1, Bq.cq q (addP si u v).2 (seenP X.n (addP si u v).1), mset p3 X.n F', mset p4 X.n D', X.A (X.step (ys.foldl X.step s0) c) μ3, ro μ3]) (by repeat (first | exact Split.nil | (apply Split.cons; (repeat (first | with_reducible exact Take.here | apply Take.there)))))) ?_
      refine swl_nil ?_
      exact then_n ⟨i + 1, ⟨rfl, by rw [hsu], h71'⟩, by omega⟩
    · skip   -- 71 F
      have h71' := of_decide_eq_false h71
      obtain rfl : i = (rowOf X.g c).length := by omega
      rw [List.take_length]
      refine swp_exit ?_
      refine then_x ?_
      refine then_x ?_
      refine block_hit rfl ?_
      refine block_n ?_
      refine then_n ⟨(c, addRow v (P, Q) (rowOf X.g c), F', D', ys ++ [c], μ3), ⟨⟨rfl, rfl, rfl, trivial⟩, ?_, hW1, hD', ⟨?_, ?_⟩, ?_, hle.trans hμ3⟩, hcm⟩
      · rw [List.foldl_append]; rfl
      · rw [List.nodup_append]
        exact ⟨hask.1, by simp, fun a ha b hb e => by obtain rfl := List.mem_singleton.1 hb; subst e; exact hcy ha⟩
      · intro y hy
        rcases List.mem_append.1 hy with hy | hy
        · exact hask.2 y hy
        · obtain rfl := List.mem_singleton.1 hy; exact hcn
      · intro y hy
        rcases List.mem_append.1 hy with hy | hy
        · have := hys y hy; show c ≤ y; omega
        · obtain rfl := List.mem_singleton.1 hy; exact Nat.le_refl _
  · skip   -- 25 F
    have hz : frP (P, Q0) = 0 := by have := of_decide_eq_false h25; omega
    have hFe : F = bestT X.g (bothS X.g l r) X.g.length := funext (hW.done X.hg hz)
    subst hFe
    refine swp_exit ?_
    refine then_x ?_
    refine then_x ?_
    refine block_hit rfl ?_
    refine then_n ?_
    refine swp_seq ?_
    refine swp_region ?_
    refine s_pu (pu_move rfl) ?_
    refine s_ef (ef_fn (list_m μ1 p3 X.n (bestT X.g (bothS X.g l r) X.g.length) (hT.le hle)) rfl rfl (by repeat (first | exact Split.nil | (apply Split.cons; (repeat (first | with_reducible exact Take.here | apply Take.there)))))) ?_
    rintro v84 L1 rfl
    refine swl_app ?_
    rw [show elsTo X.n (bestT X.g (bothS X.g l r) X.g.length) = sidesB X.g l r from rfl]
    refine s_pu (pu_assign rfl) ?_
    refine swl_sub _ (.cons (t := 2) rfl .nil) ?_
    refine swl_nil ?_
    refine then_n ?_
    refine swp_ret ?_
    exact done_ret [own 3 1 v84 (sidesB X.g l r).length ((sidesB X.g l r).flatMap (icsk .i64)), X.A (ys.foldl X.step s0) μ1, ro μ1] (.tmp rfl .nil) ⟨ys, μ1, hask, hle, rfl⟩ (by repeat (first | exact Split.nil | (apply Split.cons; (repeat (first | with_reducible exact Take.here | apply Take.there)))))
end SX
