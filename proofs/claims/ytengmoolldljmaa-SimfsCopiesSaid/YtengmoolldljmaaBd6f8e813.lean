/- A part of the proof: walks of the program's functions, and the rules by which they go. -/
import Derived.Test.YtengmoolldljmaaB0e7ae946
import Derived.Laws.IdiomStrings
import Derived.ArgAppend
import Derived.Carry
import Derived.OpenShut
import Derived.ProofKit
import Derived.Deep.SlicePairs
import Derived.Deep.Grids
import Derived.Lib.AppendStr
import Derived.Laws.Externs
import Derived.Lib.BufferRead
import Derived.Shelf.Sort.Plain
import Derived.Shelf.Slices.CompactS
import Derived.Sort.EncStr
import Derived.Lib.RowBridge
import Derived.KernelRfl
import Derived.Laws.Runes
import Derived.ChangeSame
import Derived.LaidEqlPtr
import Derived.JoinedCond
import Derived.LaidMore
import Derived.Test.YtengmoolldljmaaProg
namespace SX
open Go
structure Fl where
  bytes : List UInt8
  safe : Nat
abbrev Nm : Type := ByteArray × Nat
structure Cg where
  gone : ByteArray
  come : ByteArray
  file : Nat
structure Dk where
  quota : Int
  files : List Fl
  seen : List Nm
  safe : List Nm
  pend : List Cg
  falls : Int
  off : Bool
abbrev nos : ByteArray := ⟨#[]⟩
def goodN (s : ByteArray) : Bool := decide (1 ≤ s.size) && (decide (s.size ≤ 32) && s.data.toList.all fun b => decide (33 ≤ b.toNat) && decide (b.toNat ≤ 126))
def findN : List Nm → ByteArray → Option Nat
  | [], _ => none
  | x :: l, s => if strEq x.1 s = true then some x.2 else findN l s
def keepN (c : Cg) (x : Nm) : Bool := !strEq x.1 c.gone && !strEq x.1 c.come
def chgN (l : List Nm) (c : Cg) : List Nm := l.filter (keepN c) ++ (if strEq c.come nos = true then [] else [(c.come, c.file)])
def Dk.fl (d : Dk) (k : Nat) : Fl := (d.files[k]?).getD ⟨[], 0⟩
def Dk.used (d : Dk) : Nat := (d.seen.map fun x => (d.fl x.2).bytes.length).sum
def Dk.setF (d : Dk) (k : Nat) (f : Fl) : Dk := { d with files := d.files.set k f }
def Dk.chg (d : Dk) (c : Cg) : Dk := { d with seen := chgN d.seen c, pend := d.pend ++ [c] }
def stepD (d : Dk) : Dk × Int := if 0 < d.falls then (if d.falls = 1 then ({ d with falls := 0, off := true }, 8) else ({ d with falls := d.falls - 1 }, 0)) else (d, 0)
/-- a step, and what is done if the power does not go -/
def atStep (d : Dk) (f : Dk → Dk) : Dk × Int := if (stepD d).2 = 0 then (f (stepD d).1, 0) else ((stepD d).1, (stepD d).2)
def newD (q : Int) : Dk := ⟨q, [], [], [], [], 0, false⟩
def createD (d : Dk) (s : ByteArray) : Dk × Int :=
  if d.off = true then (d, 8) else if goodN s = false then (d, 1) else if (findN d.seen s).isNone = true ∧ 64 ≤ d.seen.length then (d, 7) else
    atStep d fun d => ({ d with files := d.files ++ [⟨[], 0⟩] } : Dk).chg ⟨nos, s, d.files.length⟩
/-- a question of a file -/
def onFile (d : Dk) (s : ByteArray) (f : Nat → Dk × Int) : Dk × Int := if d.off = true then (d, 8) else match findN d.seen s with | none => (d, 6) | some k => f k
def appendD (d : Dk) (s : ByteArray) (t : List UInt8) : Dk × Int := onFile d s fun k =>
  if 0 < t.length ∧ d.quota < (d.used : Int) + t.length then (d, 7) else atStep d fun d => d.setF k ⟨(d.fl k).bytes ++ t, (d.fl k).safe⟩
def cutD (d : Dk) (s : ByteArray) (n : Int) : Dk × Int := onFile d s fun k =>
  if n < 0 ∨ ((d.fl k).bytes.length : Int) < n then (d, 1) else atStep d fun d => d.setF k ⟨(d.fl k).bytes.take n.toNat, min (d.fl k).safe n.toNat⟩
def syncD (d : Dk) (s : ByteArray) : Dk × Int := onFile d s fun k => atStep d fun d => d.setF k ⟨(d.fl k).bytes, (d.fl k).bytes.length⟩
def syncNamesD (d : Dk) : Dk × Int := if d.off = true then (d, 8) else atStep d fun d => { d with safe := d.seen, pend := [] }
def renameD (d : Dk) (s t : ByteArray) : Dk × Int := onFile d s fun k => if goodN t = false then (d, 1) else atStep d fun d => if strEq s t = true then d else d.chg ⟨s, t, k⟩
def removeD (d : Dk) (s : ByteArray) : Dk × Int := onFile d s fun _ => atStep d fun d => d.chg ⟨s, nos, 0⟩
def damageD (d : Dk) (s : ByteArray) (n : Int) (t : List UInt8) : Dk × Int := onFile d s fun k =>
  if n < 0 ∨ ((d.fl k).bytes.length : Int) < n then (d, 1) else
    if 0 < (t.length : Int) - ((d.fl k).bytes.length - n) ∧ d.quota < (d.used : Int) + ((t.length : Int) - ((d.fl k).bytes.length - n)) then (d, 7) else
      (d.setF k ⟨(d.fl k).bytes.take n.toNat ++ t ++ (d.fl k).bytes.drop (n.toNat + t.length), ((d.fl k).bytes.take n.toNat ++ t ++ (d.fl k).bytes.drop (n.toNat + t.length)).length⟩, 0)
def readD (d : Dk) (s : ByteArray) : List UInt8 × Int := if d.off = true then ([], 8) else match findN d.seen s with | none => ([], 6) | some k => ((d.fl k).bytes, 0)
def fallD (d : Dk) (n : Int) : Dk := { d with falls := max n 0 }
/-- how many bytes more stay of a file -/
def moreF (keep : List Int) (k : Nat) (f : Fl) : Nat := if keep.length = 0 then 0 else (min (max ((keep[k % keep.length]?).getD 0) 0) ((f.bytes.length : Int) - f.safe)).toNat
def cutF (keep : List Int) (k : Nat) (f : Fl) : Fl := ⟨f.bytes.take (f.safe + moreF keep k f), f.safe + moreF keep k f⟩
def namesAt (d : Dk) (n : Int) : List Nm := (d.pend.take (min (max n 0).toNat d.pend.length)).foldl chgN d.safe
def crashD (d : Dk) (n : Int) (keep : List Int) : Dk :=
  { d with files := (List.range d.files.length).map fun k => if (namesAt d n).any (fun x => decide (x.2 = k)) = true then cutF keep k (d.fl k) else ⟨[], 0⟩,
           seen := namesAt d n, safe := namesAt d n, pend := [], falls := 0, off := false }
/-- how long a file can be, how many names -/
abbrev mostF : Nat := 16777216
/-- names: each is good, none stands twice, each has a file -/
structure NmOk (n : Nat) (l : List Nm) : Prop where
  nodup : (l.map (·.1)).Nodup
  good : ∀ x ∈ l, goodN x.1 = true ∧ x.2 < n
structure Dk.Ok (d : Dk) : Prop where
  q : 0 ≤ d.quota ∧ d.quota ≤ 16777216
  fl : ∀ f ∈ d.files, f.bytes.length ≤ mostF ∧ f.safe ≤ f.bytes.length
  safe : NmOk d.files.length d.safe
  pend : ∀ c ∈ d.pend, strEq c.come nos = false → goodN c.come = true ∧ c.file < d.files.length
  seen : d.seen = d.pend.foldl chgN d.safe
  hist : ∀ i, ((d.pend.take i).foldl chgN d.safe).length ≤ 64
  falls : 0 ≤ d.falls ∧ d.falls ≤ 9223372036854775807
theorem goodN_ne {s : ByteArray} (h : goodN s = true) : strEq s nos = false := by
  rw [strEq_false]; rintro rfl
  revert h; decide
theorem NmOk.mono {n m : Nat} {l : List Nm} (h : NmOk n l) (k : n ≤ m) : NmOk m l := ⟨h.nodup, fun x hx => ⟨(h.good x hx).1, by have := (h.good x hx).2; omega⟩⟩
theorem NmOk.chg {n : Nat} {l : List Nm} (h : NmOk n l) {c : Cg} (hc : strEq c.come nos = false → goodN c.come = true ∧ c.file < n) : NmOk n (chgN l c) := by
  unfold chgN
  have h1 : NmOk n (l.filter (keepN c)) := ⟨h.nodup.sublist ((List.filter_sublist (p := keepN c)).map _), fun x hx => h.good x (List.mem_filter.1 hx).1⟩
  by_cases he : strEq c.come nos = true
  · rw [if_pos he, List.append_nil]; exact h1
  · rw [if_neg he]
    obtain ⟨k1, k2⟩ := hc (by simpa using he)
    refine ⟨?_, fun x hx => ?_⟩
    · rw [List.map_append, List.nodup_append]
      refine ⟨h1.nodup, by simp, fun a ha b hb e => ?_⟩
      obtain ⟨x, hx, rfl⟩ := List.mem_map.1 ha
      have := (List.mem_filter.1 hx).2
      simp only [List.map_cons, List.map_nil, List.mem_singleton] at hb
      rw [hb] at e
      unfold keepN at this
      rw [e, strEq_refl] at this
      simp at this
    · rcases List.mem_append.1 hx with hx | hx
      · exact h1.good x hx
      · rw [List.mem_singleton.1 hx]; exact ⟨k1, k2⟩
theorem NmOk.chgs {n : Nat} : ∀ {cs : List Cg} {l : List Nm}, NmOk n l → (∀ c ∈ cs, strEq c.come nos = false → goodN c.come = true ∧ c.file < n) → NmOk n (cs.foldl chgN l)
  | [], _, h, _ => h
  | c :: cs, l, h, hc => NmOk.chgs (cs := cs) (l := chgN l c) (h.chg (hc c (.head _))) fun x hx => hc x (.tail _ hx)
theorem Dk.Ok.seenOk {d : Dk} (h : d.Ok) : NmOk d.files.length d.seen := by rw [h.seen]; exact h.safe.chgs h.pend
theorem Dk.Ok.seenLe {d : Dk} (h : d.Ok) : d.seen.length ≤ 64 := by
  have := h.hist d.pend.length
  rwa [List.take_length, ← h.seen] at this
theorem Dk.fl_ok {d : Dk} (h : d.Ok) (k : Nat) : (d.fl k).bytes.length ≤ mostF ∧ (d.fl k).safe ≤ (d.fl k).bytes.length := by
  unfold Dk.fl
  cases hk : d.files[k]? with
  | none => exact ⟨Nat.zero_le _, Nat.zero_le _⟩
  | some f => exact h.fl f (List.mem_of_getElem? hk)
theorem sum_le {α : Type} (f : α → Nat) (m : Nat) : ∀ (l : List α), (∀ x ∈ l, f x ≤ m) → (l.map f).sum ≤ l.length * m
  | [], _ => by simp
  | x :: l, h => by
    have := sum_le f m l fun y hy => h y (.tail _ hy)
    have := h x (.head _)
    simp only [List.map_cons, List.sum_cons, List.length_cons, Nat.add_mul, Nat.one_mul]; omega
theorem mem_le_sum {α : Type} (f : α → Nat) : ∀ (l : List α) (x : α), x ∈ l → f x ≤ (l.map f).sum
  | y :: l, x, h => by
    simp only [List.map_cons, List.sum_cons]
    rcases List.mem_cons.1 h with rfl | h
    · omega
    · have := mem_le_sum f l x h; omega
theorem Dk.used_le {d : Dk} (h : d.Ok) : d.used ≤ 1073741824 := by
  have := sum_le (fun x : Nm => (d.fl x.2).bytes.length) mostF d.seen fun x _ => (d.fl_ok h x.2).1
  have := h.seenLe
  unfold Dk.used
  have : d.seen.length * mostF ≤ 64 * mostF := Nat.mul_le_mul_right _ this
  simp only [mostF] at *
  omega
theorem findN_mem {l : List Nm} {s : ByteArray} {k : Nat} (h : findN l s = some k) : (s, k) ∈ l := by
  induction l with
  | nil => cases h
  | cons x l ih =>
    unfold findN at h
    by_cases e : strEq x.1 s = true
    · rw [if_pos e] at h
      have := strEq_iff.1 e
      have h2 := Option.some.inj h
      rw [← this, ← h2]; exact .head _
    · rw [if_neg e] at h; exact .tail _ (ih h)
theorem findN_none {l : List Nm} {s : ByteArray} : findN l s = none ↔ ∀ x ∈ l, x.1 ≠ s := by
  induction l with
  | nil => simp [findN]
  | cons x l ih =>
    unfold findN
    by_cases e : strEq x.1 s = true
    · rw [if_pos e]; simp; exact fun h => absurd (strEq_iff.1 e) h
    · rw [if_neg e, ih]
      simp only [List.mem_cons, forall_eq_or_imp]
      exact ⟨fun h => ⟨fun k => e (strEq_iff.2 k), h⟩, fun h => h.2⟩
theorem findN_of {l : List Nm} (hn : (l.map (·.1)).Nodup) {s : ByteArray} {k : Nat} (h : (s, k) ∈ l) : findN l s = some k := by
  induction l with
  | nil => cases h
  | cons x l ih =>
    unfold findN
    rw [List.map_cons, List.nodup_cons] at hn
    rcases List.mem_cons.1 h with rfl | h
    · rw [if_pos (strEq_refl _)]
    · rw [if_neg (fun e => hn.1 (by rw [strEq_iff.1 e]; exact List.mem_map.2 ⟨_, h, rfl⟩))]
      exact ih hn.2 h
end SX
namespace SX
open Go
variable {P : Program} {env : Env}
abbrev bc1 (b : UInt8) : List Value := [.int .u8 (b.toNat : Nat)]
abbrev bcs (l : List UInt8) : List Value := l.flatMap bc1
theorem bcs_map (l : List UInt8) : bcs l = l.map fun b => Value.int .u8 (b.toNat : Nat) := by
  induction l with
  | nil => rfl
  | cons a l ih => rw [bcs, List.flatMap_cons, List.map_cons, ← ih]; rfl
theorem bcs_len (l : List UInt8) : (bcs l).length = l.length := by rw [bcs_map, List.length_map]
theorem bcs_one (l : List UInt8) : (bcs l).all Value.oneCell' = true := by
  rw [List.all_eq_true]; intro v hv; rw [bcs_map] at hv; obtain ⟨b, _, rfl⟩ := List.mem_map.1 hv; rfl
/-- []byte(s) -/
theorem ef_bytes {L : List Assn} {s t e by_ : Nat} [hs : TStr P s] [ht : TSl P t e 1 by_] [he : TInt P e .u8] {x : Operand} {b : ByteArray} (hx : evalE env x = some (.string b)) (hl : b.size ≤ maxLen) :
    Ef P env L (.convert s t x) (fun k => ∀ g cap cs fr, b.size ≤ cap → cap ≤ maxLen → (∀ (j : Nat) (u : Value), (bcs b.data.toList)[j]? = some u → cs[j]? = some u) → k (.slice (some ⟨g, 0, none⟩) b.size cap) (one g (.cells cs e fr) :: L)) := by
  intro ro dst ty pos af g N E a w next Q k hf hh hk hn
  have hr := run_bytes_of_string (P := P) w s t e b hs.und ht.und he.und
  refine wpIn_value (v := .slice (some ⟨w.heap.size, 0, none⟩) b.size (grownCap w b.size 0 e)) (w' := w.drew.alloc (.cells (bytesRow b (grownCap w b.size 0 e)) e ((bytesRow b (grownCap w b.size 0 e)).size, (bytesRow b (grownCap w b.size 0 e)).size + 1)))
    (by simp only [execOp, hf.ev x _ hx, hr, Sem.run_bind, Sem.run_pure, Result.andThen_ok]) ?_
  refine hn _ _ _ (hk _ _ _ _ (grownCap_ge w _ 0 e) (grownCap_le_maxLen w _ 0 e hl) fun j u hj => ?_) (hh.drew.alloc _)
  rw [bcs_map, List.getElem?_map] at hj
  rw [Option.map_eq_some_iff] at hj
  obtain ⟨c, hc, rfl⟩ := hj
  obtain ⟨hlt, rfl⟩ := List.getElem?_eq_some_iff.1 hc
  have hlt' : j < b.data.size := by simpa using hlt
  rw [bytesRow_at b _ j hlt']
  simp
theorem row_bytes {μ : PH} {g e : Nat} {cs : Array Value} {fr : Nat × Nat} {b : ByteArray} {cap : Nat} (h1 : b.size ≤ cap) (h2 : cap ≤ maxLen) (h : ∀ (j : Nat) (u : Value), (bcs b.data.toList)[j]? = some u → cs[j]? = some u) (hg : μ g = some (.cells cs e fr)) :
    Row μ (.slice (some ⟨g, 0, none⟩) b.size cap) 1 b.data.toList.length (bcs b.data.toList) := by
  have hl : b.data.toList.length = b.size := by rw [Array.length_toList]; rfl
  refine ⟨by rw [bcs_len]; omega, _, _, by rw [hl], by omega, h2, (fun h => by cases h), fun _ => ⟨g, 0, rfl, fun j u hj => ⟨_, _, _, hg, ?_⟩⟩⟩
  rw [Nat.zero_add]; exact h j u hj
end SX
namespace SX
open Go
/-- a file as it lies in memory: its block, its bytes' slice -/
structure Rc where
  a : Nat
  v : Value
  f : Fl
def adr (rs : List Rc) (k : Nat) : Value := match rs[k]? with | some r => .pointer (some ⟨r.a, 0, none⟩) | none => .pointer none
theorem adr_at {rs : List Rc} {k : Nat} {r : Rc} (h : rs[k]? = some r) : adr rs k = .pointer (some ⟨r.a, 0, none⟩) := by unfold adr; rw [h]
theorem adr_set {rs : List Rc} {i : Nat} {r r' : Rc} (h : rs[i]? = some r) (ha : r'.a = r.a) (k : Nat) : adr (rs.set i r') k = adr rs k := by
  by_cases e : i = k
  · subst e; rw [adr_at h, adr_at (List.getElem?_set_self (List.getElem?_eq_some_iff.1 h).1), ha]
  · unfold adr; rw [List.getElem?_set_ne e]
theorem adr_app {rs : List Rc} {k : Nat} (h : k < rs.length) (r : Rc) : adr (rs ++ [r]) k = adr rs k := by unfold adr; rw [List.getElem?_append_left h]
theorem adr_new (rs : List Rc) (r : Rc) : adr (rs ++ [r]) rs.length = .pointer (some ⟨r.a, 0, none⟩) := adr_at (by simp)
/-- a map of names is a plain list of names -/
structure NmRel (es : Ents ByteArray) (l : List Nm) (rs : List Rc) : Prop where
  keys : (es.map (·.1)).Nodup
  look : ∀ s, mlook es s = (findN l s).map (adr rs)
theorem NmRel.nil (rs : List Rc) : NmRel [] [] rs := ⟨List.nodup_nil, fun _ => rfl⟩
theorem NmRel.to {es : Ents ByteArray} {l : List Nm} {rs rs' : List Rc} (h : NmRel es l rs) (k : ∀ x ∈ l, adr rs' x.2 = adr rs x.2) : NmRel es l rs' :=
  ⟨h.keys, fun s => by
    rw [h.look]
    cases hf : findN l s with
    | none => rfl
    | some i => rw [Option.map_some, Option.map_some, k _ (findN_mem hf)]⟩
theorem NmRel.perm {es : Ents ByteArray} {l : List Nm} {rs : List Rc} (h : NmRel es l rs) (hn : (l.map (·.1)).Nodup) : (es.map fun x => (x.1, x.2.1)).Perm (l.map fun x => (x.1, adr rs x.2)) := by
  have n1 : (es.map fun x => (x.1, x.2.1)).Nodup := by
    have := h.keys
    rw [show es.map (·.1) = (es.map fun x => (x.1, x.2.1)).map (·.1) by rw [List.map_map]; rfl] at this
    exact List.Pairwise.of_map _ (fun a b h e => h (by rw [e])) this
  have n2 : (l.map fun x => (x.1, adr rs x.2)).Nodup := by
    have := hn
    rw [show l.map (·.1) = (l.map fun x => (x.1, adr rs x.2)).map (·.1) by rw [List.map_map]; rfl] at this
    exact List.Pairwise.of_map _ (fun a b h e => h (by rw [e])) this
  refine (List.perm_ext_iff_of_nodup n1 n2).2 fun ⟨s, v⟩ => ?_
  constructor
  · intro hm
    obtain ⟨x, hx, e⟩ := List.mem_map.1 hm
    have h1 := mlook_of h.keys hx
    rw [h.look] at h1
    obtain ⟨k, hk, hv⟩ := Option.map_eq_some_iff.1 h1
    obtain ⟨rfl, rfl⟩ := Prod.mk.inj e
    exact List.mem_map.2 ⟨_, findN_mem hk, by simp only [hv]⟩
  · intro hm
    obtain ⟨x, hx, e⟩ := List.mem_map.1 hm
    obtain ⟨rfl, rfl⟩ := Prod.mk.inj e
    have h1 := findN_of hn (s := x.1) (k := x.2) hx
    refine mlook_mem ?_
    rw [h.look, h1, Option.map_some]
theorem NmRel.len {es : Ents ByteArray} {l : List Nm} {rs : List Rc} (h : NmRel es l rs) (hn : (l.map (·.1)).Nodup) : es.length = l.length := by
  have := (h.perm hn).length_eq; simpa using this
theorem findN_cons (x : Nm) (l : List Nm) (s : ByteArray) : findN (x :: l) s = if strEq x.1 s = true then some x.2 else findN l s := rfl
theorem find_filter {l : List Nm} {q : Nm → Bool} (hq : ∀ x y : Nm, x.1 = y.1 → q x = q y) (s : ByteArray) : findN (l.filter q) s = if q (s, 0) = true then findN l s else none := by
  induction l with
  | nil => simp [findN]
  | cons x l ih =>
    rw [List.filter_cons]
    by_cases hx : q x = true
    · rw [if_pos hx]
      unfold findN
      by_cases e : strEq x.1 s = true
      · rw [if_pos e, if_pos e, if_pos (by rw [← hq x (s, 0) (strEq_iff.1 e)]; exact hx)]
      · rw [if_neg e, if_neg e, ih]
    · rw [if_neg hx, ih]
      by_cases e : strEq x.1 s = true
      · rw [if_neg (by rw [← hq x (s, 0) (strEq_iff.1 e)]; exact hx), if_neg (by rw [← hq x (s, 0) (strEq_iff.1 e)]; exact hx)]
      · conv => rhs; unfold findN
        rw [if_neg e]
theorem find_app (l m : List Nm) (s : ByteArray) : findN (l ++ m) s = (findN l s).or (findN m s) := by
  induction l with
  | nil => simp [findN]
  | cons x l ih =>
    rw [List.cons_append, findN_cons, findN_cons]
    by_cases e : strEq x.1 s = true
    · rw [if_pos e, if_pos e]; rfl
    · rw [if_neg e, if_neg e, ih]
theorem find_chg (l : List Nm) (c : Cg) (s : ByteArray) : findN (chgN l c) s = if strEq c.come nos = false ∧ c.come = s then some c.file else if s = c.gone ∨ s = c.come then none else findN l s := by
  unfold chgN
  rw [find_app, find_filter (fun x y h => by unfold keepN; rw [h])]
  have hk : keepN c (s, 0) = true ↔ ¬ (s = c.gone ∨ s = c.come) := by
    unfold keepN
    rw [Bool.and_eq_true, Bool.not_eq_true', Bool.not_eq_true', strEq_false, strEq_false]
    exact ⟨fun h k => k.elim h.1 h.2, fun h => ⟨fun k => h (.inl k), fun k => h (.inr k)⟩⟩
  by_cases h1 : strEq c.come nos = true
  · rw [if_pos h1]
    simp only [h1, Bool.true_eq_false, false_and, if_false]
    have : findN [] s = none := rfl
    rw [this, Option.or_none]
    by_cases h2 : s = c.gone ∨ s = c.come
    · rw [if_neg (fun k => hk.1 k h2), if_pos h2]
    · rw [if_pos (hk.2 h2), if_neg h2]
  · have h1' : strEq c.come nos = false := by simpa using h1
    rw [if_neg h1]
    have hs : findN [(c.come, c.file)] s = if strEq c.come s = true then some c.file else none := rfl
    rw [hs]
    by_cases h3 : c.come = s
    · rw [if_pos (strEq_iff.2 h3), if_pos (show strEq c.come nos = false ∧ c.come = s from ⟨h1', h3⟩), if_neg (fun k : keepN c (s, 0) = true => hk.1 k (.inr h3.symm))]; rfl
    · rw [if_neg (show ¬ (strEq c.come nos = false ∧ c.come = s) from fun k => h3 k.2), if_neg (show ¬ strEq c.come s = true from fun k => h3 (strEq_iff.1 k)), Option.or_none]
      by_cases h2 : s = c.gone ∨ s = c.come
      · rw [if_neg (show ¬ keepN c (s, 0) = true from fun k => hk.1 k h2), if_pos h2]
      · rw [if_pos (hk.2 h2), if_neg h2]
/-- a pending change as it lies in memory -/
abbrev Pc : Type := ByteArray × ByteArray × Value
abbrev encP (p : Pc) : List Value := [.string p.1, .string p.2.1, p.2.2]
def PcRel (rs : List Rc) (p : Pc) (c : Cg) : Prop := p.2.1 = c.come ∧ (p.1 = c.gone ∨ (c.gone = nos ∧ p.1 = c.come)) ∧ p.2.2 = if strEq c.come nos = true then .pointer none else adr rs c.file
/-- what a change does to a map -/
def doE (es : Ents ByteArray) (cl : Nat) (p : Pc) : Ents ByteArray := match p.2.2 with | .pointer none => del es p.1 | _ => upd (del es p.1) cl p.2.1 p.2.2
def doC (es : Ents ByteArray) (cl : Nat) (p : Pc) : Nat := match p.2.2 with | .pointer none => cl | _ => updC (del es p.1) cl p.2.1
theorem doE_born {es : Ents ByteArray} {cl : Nat} (h : Born es cl) (p : Pc) : Born (doE es cl p) (doC es cl p) := by
  unfold doE doC
  split
  · exact h.del _
  · exact (h.del _).upd _ _
theorem doE_rel {es : Ents ByteArray} {cl : Nat} {l : List Nm} {rs : List Rc} (h : NmRel es l rs) (hl : ∀ x ∈ l, strEq x.1 nos = false) {p : Pc} {c : Cg} (hp : PcRel rs p c) (hc : strEq c.come nos = false → c.file < rs.length) : NmRel (doE es cl p) (chgN l c) rs := by
  obtain ⟨h1, h2, h3⟩ := hp
  have hno : findN l nos = none := findN_none.2 fun x hx e => by have := hl x hx; rw [e, strEq_refl] at this; cases this
  by_cases he : strEq c.come nos = true
  · rw [if_pos he] at h3
    have hE : doE es cl p = del es p.1 := by unfold doE; rw [h3]
    rw [hE]
    refine ⟨del_keys h.keys _, fun s => ?_⟩
    rw [mlook_del h.keys, find_chg, if_neg (show ¬ (strEq c.come nos = false ∧ c.come = s) from fun k => by rw [he] at k; cases k.1), h.look]
    have hcn := strEq_iff.1 he
    by_cases e1 : p.1 = s
    · rw [if_pos e1]
      rcases h2 with h2 | ⟨h2, h2'⟩
      · rw [if_pos (.inl (by rw [← e1, h2]))]; rfl
      · rw [if_pos (.inr (by rw [← e1, h2']))]; rfl
    · rw [if_neg e1]
      by_cases e2 : s = c.gone ∨ s = c.come
      · rw [if_pos e2]
        have : s = nos := by
          rcases h2 with h2 | ⟨h2, h2'⟩
          · rcases e2 with e2 | e2
            · exact absurd (by rw [h2, e2]) e1
            · rw [e2, hcn]
          · rcases e2 with e2 | e2
            · rw [e2, h2]
            · exact absurd (by rw [h2', e2]) e1
        rw [this, hno]
      · rw [if_neg e2]
  · have he' : strEq c.come nos = false := by simpa using he
    rw [if_neg he] at h3
    obtain ⟨r, hr⟩ : ∃ r, rs[c.file]? = some r := ⟨_, List.getElem?_eq_getElem (hc he')⟩
    have hE : doE es cl p = upd (del es p.1) cl p.2.1 (adr rs c.file) := by unfold doE; rw [h3, adr_at hr]
    rw [hE]
    refine ⟨upd_keys (del_keys h.keys _) _ _ _, fun s => ?_⟩
    rw [mlook_upd, mlook_del h.keys, find_chg, h.look, h1]
    by_cases e0 : c.come = s
    · rw [if_pos e0, if_pos (show strEq c.come nos = false ∧ c.come = s from ⟨he', e0⟩)]; rfl
    · rw [if_neg e0, if_neg (show ¬ (strEq c.come nos = false ∧ c.come = s) from fun k => e0 k.2)]
      by_cases e1 : p.1 = s
      · rw [if_pos e1]
        rcases h2 with h2 | ⟨h2, h2'⟩
        · rw [if_pos (.inl (by rw [← e1, h2]))]; rfl
        · exact absurd (by rw [← h2', e1]) e0
      · rw [if_neg e1]
        by_cases e2 : s = c.gone ∨ s = c.come
        · rw [if_pos e2]
          have : s = nos := by
            rcases h2 with h2 | ⟨h2, h2'⟩
            · rcases e2 with e2 | e2
              · exact absurd (by rw [h2, e2]) e1
              · exact absurd e2.symm e0
            · rcases e2 with e2 | e2
              · rw [e2, h2]
              · exact absurd e2.symm e0
          rw [this, hno]
        · rw [if_neg e2]
end SX
namespace SX
open Go

def viaB (P : Program) (t : TypeId) (name : String) (ft off : Nat) (fn : Option (FuncId × Bool)) : Bool :=
  match P.info? t with
  | some inf => match inf.methods.find? (·.name == name) with
    | some m => decide (m.func = fn) && match m.path.toList with
      | [st] => st.deref && match P.underlying st.struct with
        | some (.struct fs) => match fs[st.index]? with
          | some f => f.type == ft && (f.offset == off && ((P.info? f.type).map (·.size != 0)).getD false)
          | none => false
        | _ => false
      | _ => false
    | none => false
  | none => false
/-- the method is promoted from the field at off, of type ft -/
class TVia (P : Program) (t : TypeId) (name : String) (ft off : outParam Nat) (fn : outParam (Option (FuncId × Bool))) : Prop where
  okB : viaB P t name ft off fn = true
theorem TVia.ok {P : Program} {t : TypeId} {name : String} {ft off : Nat} {fn : Option (FuncId × Bool)} (h : TVia P t name ft off fn) : ∃ inf m st fs f j, P.info? t = some inf ∧ inf.methods.find? (·.name == name) = some m ∧ m.func = fn ∧ m.path.toList = [st] ∧ st.deref = true ∧ P.underlying st.struct = some (.struct fs) ∧ fs[st.index]? = some f ∧ f.type = ft ∧ f.offset = off ∧ P.info? f.type = some j ∧ j.size ≠ 0 := by
  have h := h.okB
  unfold viaB at h
  split at h
  · rename_i inf hi
    split at h
    · rename_i m hm
      simp only [Bool.and_eq_true, decide_eq_true_eq] at h
      obtain ⟨h1, h⟩ := h
      split at h
      · rename_i st hp
        simp only [Bool.and_eq_true] at h
        obtain ⟨h2, h⟩ := h
        split at h
        · rename_i fs hu
          split at h
          · rename_i f hf
            simp only [Bool.and_eq_true, beq_iff_eq] at h
            obtain ⟨h3, h4, h5⟩ := h
            cases hj : P.info? f.type with
            | none => simp [hj] at h5
            | some j => simp [hj] at h5; exact ⟨inf, m, st, fs, f, j, hi, hm, h1, hp, h2, hu, hf, h3, h4, hj, h5⟩
          · cases h
        · cases h
      · cases h
    · cases h
  · cases h
section
variable {P : Program}
theorem InvS.exA {α : Type} {F : α → List Assn} {d : Nat} {t : TypeId} {v : Value} {name : String} {args : List Value} {R : List Assn} {post : Value → List Assn → Prop} (h : ∀ x, InvS P d t v name args (F x ++ R) post) : InvS P d t v name args (exA F :: R) post := fun E w hw => by
  obtain ⟨k1, k2, k3, k4, k5⟩ := hw
  have k6 : Sat (SX.exA F :: (E.X ++ R)) (fun b => w.heap[b]?) := Sat.perm (perm_out (.refl _)) _ k5
  obtain ⟨x, hx⟩ := exA_open k6
  refine h x E w ⟨k1, k2, k3, k4, Sat.perm ?_ _ hx⟩
  rw [← List.append_assoc, ← List.append_assoc]
  exact List.Perm.append_right _ List.perm_append_comm
theorem H.ex {α : Type} {F : α → List Assn} {L : List Assn} {E : Ctx} {w : World} (hh : H E w (exA F :: L)) : ∃ x, H E w (F x ++ L) := by
  obtain ⟨k1, k2, k3, k4, k5⟩ := hh
  have k6 : Sat (exA F :: (E.X ++ L)) (fun b => w.heap[b]?) := Sat.perm (perm_out (.refl _)) _ k5
  obtain ⟨x, hx⟩ := exA_open k6
  exact ⟨x, k1, k2, k3, k4, Sat.perm (by rw [← List.append_assoc, ← List.append_assoc]; exact List.Perm.append_right _ List.perm_append_comm) _ hx⟩
theorem rd_mlook2E {κ : Type} [DecidableEq κ] {env : Env} {L : List Assn} {t kt et b c : Nat} {kv : κ → Value} {l : Ents κ} {z : Value} [hm : TMap P t kt et] [hk : TKey P kt kv] [hz : TZv P et z] {m x : Operand} [hb : InM b L kv l c] (a : κ) {o : Option Value} (h : mlook l a = o) (hx : evalE env m = some (.map (some b))) (hy : evalE env x = some (kv a)) : Rd P env L (.lookup t m x true) (.tuple #[o.getD z, .bool o.isSome]) := by
  subst h; exact rd_mlook2 a hx hy
end
end SX
namespace SX
open Go
section
variable {P : Program} {env : Env} {L : List Assn} {μ : PH}
end
section
variable {P : Program} {env : Env} {L R : List Assn} {μ : PH}
end
end SX
namespace SX
open Go
variable {P : Program} {env : Env}
theorem pu_str_hi {t : TypeId} [h : TStr P t] {x y : Operand} {s : ByteArray} {ki : IntKind} {hi : Int} (k : Nat) (hx : evalE env x = some (.string s)) (hy : evalE env y = some (.int ki hi)) (hk : hi = (k : Int)) (hc : k ≤ s.size) :
    Pu P env (.slice t x none (some y) none) (.string (s.extract 0 k)) := fun ρ hρ _ _ _ _ _ w => by
  have h1 := run_slice_string_h (P := P) w t s h.und ki hi (by omega) (by omega)
  have h2 : (Instr.sliceAt t (.string s) none (some (.int ki hi)) none).run P w = (Instr.slice t (.string s) none (some (.int ki hi)) none).run P w := by
    simp [Instr.sliceAt, run_underlying h.und]
  rw [h1] at h2
  have h3 : hi.toNat = k := by omega
  rw [h3] at h2
  simp [execOp, hρ x _ hx, hρ y _ hy, h2]
theorem pu_str_lo {t : TypeId} [h : TStr P t] {x y : Operand} {s : ByteArray} {ki : IntKind} {lo : Int} (k : Nat) (hx : evalE env x = some (.string s)) (hy : evalE env y = some (.int ki lo)) (hk : lo = (k : Int)) (hc : k ≤ s.size) :
    Pu P env (.slice t x (some y) none none) (.string (s.extract k s.size)) := fun ρ hρ _ _ _ _ _ w => by
  have h1 := run_slice_string_l (P := P) w t s h.und ki lo (by omega) (by omega)
  have h2 : (Instr.sliceAt t (.string s) (some (.int ki lo)) none none).run P w = (Instr.slice t (.string s) (some (.int ki lo)) none none).run P w := by
    simp [Instr.sliceAt, run_underlying h.und]
  rw [h1] at h2
  have h3 : lo.toNat = k := by omega
  rw [h3] at h2
  simp [execOp, hρ x _ hx, hρ y _ hy, h2]
theorem pu_str_index {t : TypeId} [h : TStr P t] {x y : Operand} {s : ByteArray} {ki : IntKind} {i : Int} {j : Nat} {b : UInt8} (hx : evalE env x = some (.string s)) (hy : evalE env y = some (.int ki i)) (hi : i = (j : Int)) (hb : s.data.toList[j]? = some b) :
    Pu P env (.index t x y) (.int .u8 (b.toNat : Nat)) := fun ρ hρ _ _ _ _ _ w => by
  subst hi
  have hlt : j < s.data.size := by have := (List.getElem?_eq_some_iff.1 hb).1; simpa using this
  have h1 : s[j]? = some b := by
    rw [getElem?_pos s j hlt]
    have : s.data.toList[j]? = some s[j] := by rw [List.getElem?_eq_getElem (by simpa using hlt)]; rfl
    rw [this] at hb; exact hb
  simp [execOp, hρ x _ hx, hρ y _ hy, Instr.index, asIntOf, run_underlying h.und, h1]
theorem pu_str_add {t u : TypeId} {x y : Operand} {a b : ByteArray} (hx : evalE env x = some (.string a)) (hy : evalE env y = some (.string b)) (hs : a.size + b.size ≤ 9223372036854775807) : Pu P env (.binOp .add t x y u) (.string (a ++ b)) :=
  pu_str_op hx hy rfl (eqGuard_str _) (fun w => by
    have : ¬ (((a.size + b.size : Nat) : Int) > IntKind.i64.max) := by
      show ¬ (((a.size + b.size : Nat) : Int) > 9223372036854775807); omega
    unfold Op.stringOp
    simp only []
    rw [if_neg this]; rfl)
end SX
namespace SX
open Go Go.RowKit Go.WideShapes Go.ChangeShapes

section
variable {H0 : Type} {enc : TypeId × Value → H0} {P : Program}
theorem stays_all (hl : laidOutB P = true) {W W' : World} (hb : Below W.heap.size W W') {sp : Nat → Bool} : ∀ {ts : List TypeId} {vs : List Value} {ds : List (DataW H0)} {ps : List MemPlace},
    (ts.all fun t => P.readableRec t && decide (t < P.types.size)) = true → DataW.TrodAll enc P W 0 (fun _ => true) true ts vs ds ps → (∀ x ∈ ps, x.block < W.heap.size) → (∀ x ∈ ps, sp x.block = true) → DataW.TrodAll enc P W' 0 sp true ts vs ds ps
  | [], [], [], _, _, h, _, _ => h
  | t :: ts, _ :: _, _ :: _, _, hT, ⟨p, q, h1, h2, e⟩, hlt, hs => by
    simp only [List.all_cons, Bool.and_eq_true, decide_eq_true_eq] at hT
    obtain ⟨⟨r1, r2⟩, r3⟩ := hT
    refine ⟨p, q, WideElems.Trod_stays hl r1 r2 h1 (fun x hx => hb.same (hlt x (by rw [e]; exact List.mem_append_left _ hx))) (fun x hx => hs x (by rw [e]; exact List.mem_append_left _ hx)), ?_, e⟩
    exact stays_all hl hb (by simpa using r3) h2 (fun x hx => hlt x (by rw [e]; exact List.mem_append_right _ hx)) (fun x hx => hs x (by rw [e]; exact List.mem_append_right _ hx))

/-- true, and the arguments as they were -/
theorem law_post {f : Func} {s : ChangeSpec} {apart fresh handsOn again : Bool} {tb : TypeId} {W W' : World} {args : Array Value} {ds : List (DataW H0)} {before : List MemPlace}
    (hl : laidOutB P = true) (hpar : (f.params.toList.all fun t => P.readableRec t && decide (t < P.types.size)) = true) (hv : s.vars = []) (hrt : f.resultTypes = #[tb]) (htb : P.underlying tb = some .bool)
    (hW : DataW.Whole enc P f.params.toList s.vars apart W args.toList ds [] before) (hb : Below W.heap.size W W')
    (hfn : s.fn H0 (ds ++ []) = { results := [.lit (.bool true)], args := ds }) : s.post enc P f apart fresh handsOn again W args (.bool true) W' := by
  have hW' := hW
  obtain ⟨p, q, hA, hV, hpq, hfz, hnd⟩ := hW
  rw [hv] at hV
  obtain ⟨_, rfl⟩ := trodVars_none hV
  have lt : ∀ x ∈ p, x.block < W.heap.size := fun x hx => hW'.lt x (by rw [hpq]; exact List.mem_append_left _ hx)
  refine post_old (pa := p) (pv := []) hb hpq hW' (fun b sp hd => ?_) (fun sp hsp => ?_) (fun sp hsp => ?_) (ok_one hrt rfl (okWide_bool_mk htb true))
  · rw [hfn, hrt]; exact trodAll_cons_mk (shut_bool htb _) trodAll_mk0
  · rw [hfn]; exact stays_all hl hb hpar hA lt (fun x hx => hsp x (by rw [hpq]; exact List.mem_append_left _ hx))
  · rw [hfn, hv]; rfl
end

/-! ### How arguments read -/
def icsk (k : IntKind) (n : Int) : List Value := [.int k n]
theorem icsk_len (k : IntKind) (n : Int) : (icsk k n).length = 1 := rfl
theorem spot_of_cell {w : World} {a : Addr} {v : Value} (h : w.cell? a = some v) : a = ⟨a.block, a.off, none⟩ ∧ CellAt (fun b => w.heap[b]?) a.block a.off v := by
  obtain ⟨b, o, s⟩ := a
  unfold World.cell? at h
  simp only at h
  split at h
  · rename_i cs t fr hh
    cases s with
    | none => exact ⟨rfl, cs, t, fr, hh, by simpa using h⟩
    | some s => simp at h
  · cases h
section
variable {H0 : Type} {enc : TypeId × Value → H0} {P : Program} {W : World} {base : Nat}
end
end SX
namespace SX
open Go Go.RowKit Go.WideShapes Go.ChangeShapes Go.Deep

section
variable {H0 : Type} {enc : TypeId × Value → H0} {P : Program} {W : World}
/-- the cells of a slice, element by element -/
theorem trod_slice {α : Type} [Inhabited α] {f : α → List Value} {n : Nat} (hn : 0 < n) (hf : ∀ a, (f a).length = n) (R : α → DataW H0 → Prop) {t e : TypeId} (ht : P.underlying t = some (.slice e)) (hc : P.cellsOf e = n)
    (hel : ∀ fuel cs D Pl, DataW.trod enc P W 0 (fun _ => true) true fuel e cs = some (D, Pl) → ∃ a, cs = f a ∧ R a D)
    {fuel : Nat} {cs : List Value} {d : DataW H0} {ps : List MemPlace} (h : DataW.trod enc P W 0 (fun _ => true) true fuel t cs = some (d, ps)) :
    ∃ (v : Value) (xs : List α), cs = [v] ∧ Row (fun b => W.heap[b]?) v n xs.length (xs.flatMap f) ∧ ((d = .nil ∧ xs = []) ∨ ∃ (Ds sp : List (DataW H0)), d = .slice Ds sp ∧ Ds.length = xs.length ∧ ∀ (i : Nat) (a : α) (D : DataW H0), xs[i]? = some a → Ds[i]? = some D → R a D) := by
  rcases open_slice ht h with ⟨rfl, hx⟩ | ⟨a, len, cap, m, n', D, Pl, rfl, _, hl, hm, hmm, hx, hall⟩
  · cases hx
    exact ⟨_, [], rfl, Row.nil _ _, .inl ⟨rfl, rfl⟩⟩
  simp only [if_true] at hmm
  subst hmm
  cases hx
  obtain ⟨A, hA⟩ := choose_lt (α := α) (n := m) (p := fun i x => W.cells? 0 (a.add (i * P.cellsOf e)) (P.cellsOf e) = some (f x) ∧ R x (D i)) (fun i hi => by
    obtain ⟨cs', h1, h2⟩ := hall i hi
    obtain ⟨a', rfl, hR⟩ := hel _ _ _ _ h2
    exact ⟨a', h1, hR⟩)
  have hlen : ((List.range len).map A).length = len := by simp
  have hcell : ∀ i j v, i < m → (f (A i))[j]? = some v → W.cell? (a.add (i * n + j)) = some v := by
    intro i j v hi hv
    obtain ⟨h2, _⟩ := hA i hi
    obtain ⟨_, _, h3⟩ := World.cells?_some h2
    have hj : j < (f (A i)).length := (List.getElem?_eq_some_iff.1 hv).1
    rw [hf] at hj
    have := h3 j (by rw [hc]; exact hj)
    rw [hc] at this
    have e : (a.add (i * n)).add j = a.add (i * n + j) := by
      obtain ⟨b, o, s⟩ := a
      unfold Addr.add
      split <;> split <;> simp_all [Nat.add_assoc]
    rw [e] at this
    rw [this]; exact hv
  refine ⟨_, (List.range len).map A, rfl, ?_, .inr ⟨_, _, rfl, by simp, fun i a' D' hi hD => ?_⟩⟩
  · rw [hlen]
    refine ⟨by rw [flat_length hf, hlen], some a, m, rfl, hl, hm, fun h => (by cases h), fun hpos => ?_⟩
    obtain ⟨v0, hv0⟩ : ∃ v, (f (A 0))[0]? = some v := ⟨_, List.getElem?_eq_getElem (by rw [hf]; exact hn)⟩
    have h0 := hcell 0 0 v0 (by omega) hv0
    rw [Nat.zero_mul, Nat.zero_add, show a.add 0 = a by simp [Addr.add]] at h0
    have ha := (spot_of_cell h0).1
    refine ⟨a.block, a.off, by rw [← ha], fun j u hj => ?_⟩
    have hj2 : j < len * n := by
      have := (List.getElem?_eq_some_iff.1 hj).1
      rwa [flat_length hf, hlen] at this
    have hq : j / n < len := Nat.div_lt_of_lt_mul (by rw [Nat.mul_comm]; exact hj2)
    have hr : j % n < n := Nat.mod_lt _ hn
    have hg : ((List.range len).map A)[j / n]? = some (A (j / n)) := by rw [List.getElem?_map, List.getElem?_range hq]; rfl
    obtain ⟨v, hv⟩ : ∃ v, (f (A (j / n)))[j % n]? = some v := ⟨_, List.getElem?_eq_getElem (by rw [hf]; exact hr)⟩
    have hu := flat_get hf _ [] (j / n) _ hg (j % n) v hv
    rw [List.append_nil, Nat.div_add_mod'] at hu
    rw [hu] at hj
    cases hj
    have hc2 := (spot_of_cell (hcell (j / n) (j % n) _ (by omega) hv)).2
    rw [addr_block, addr_off, Nat.div_add_mod'] at hc2
    exact hc2
  · have hi' : i < len := by
      have := (List.getElem?_eq_some_iff.1 hi).1
      simpa using this
    simp [hi'] at hi hD
    subst hi hD
    exact (hA i (by omega)).2

theorem wf_u8 {x : Int} (h : (Lit.int .u8 x).wf = true) : 0 ≤ x ∧ x ≤ 255 := by
  simp only [Lit.wf, Bool.and_eq_true, decide_eq_true_eq] at h
  exact h
theorem wf_i64 {x : Int} (h : (Lit.int .i64 x).wf = true) : -9223372036854775808 ≤ x ∧ x ≤ 9223372036854775807 := by
  simp only [Lit.wf, Bool.and_eq_true, decide_eq_true_eq] at h
  exact h
def scsv (s : ByteArray) : List Value := [.string s]
theorem scsv_len (s : ByteArray) : (scsv s).length = 1 := rfl
/-- a slice of slices of integers -/
def gcs (a : Value × List Int) : List Value := [a.1]
instance : Inhabited (Value × List Int) := ⟨(.bool false, [])⟩
end
end SX
namespace SX
open Go
theorem Row.sl {μ : PH} {v : Value} {n l : Nat} {xs : List Value} (h : Row μ v n l xs) : ∃ A cap, v = .slice A l cap := by
  obtain ⟨_, A, cap, e, _⟩ := h; exact ⟨A, cap, e⟩
/-- a graph: its rows, and what each row reads as -/
def Graph (μ : PH) (v : Value) (G : List (Value × List Int)) : Prop := Row μ v 1 G.length (G.flatMap gcs) ∧ ∀ x ∈ G, Row μ x.1 1 x.2.length (x.2.flatMap (icsk .i64))
theorem Graph.le {μ μ' : PH} {v : Value} {G : List (Value × List Int)} (h : Graph μ v G) (k : Le μ μ') : Graph μ' v G := ⟨h.1.le k, fun x hx => (h.2 x hx).le k⟩
theorem Row.small {μ : PH} {v : Value} {n l : Nat} {xs : List Value} (h : Row μ v n l xs) : l ≤ 9223372036854775807 := by
  obtain ⟨_, _, _, _, h1, h2, _⟩ := h; simp only [maxLen] at h2; omega
def rowOf (g : List (List Int)) (c : Nat) : List Int := g.getD c []
/-- parents come first -/
def Good (g : List (List Int)) : Prop := ∀ (c : Nat) (l : List Int), g[c]? = some l → ∀ p ∈ l, 0 ≤ p ∧ p < c
def stepDn (g : List (List Int)) (c : Nat) (S : Nat → Bool) : Nat → Bool := fun j => S j || (decide (j = c) && (rowOf g c).any fun p => S p.toNat)
/-- d rows from c on -/
def dnF (g : List (List Int)) (S : Nat → Bool) (c : Nat) : Nat → (Nat → Bool)
  | 0 => S
  | d + 1 => stepDn g (c + d) (dnF g S c d)
def dn (g : List (List Int)) (a : Nat) : Nat → Bool := dnF g (fun j => decide (j = a)) (a + 1) (g.length - (a + 1))
/-- by definition: itself, or by a parent -/
inductive Reach (g : List (List Int)) : Nat → Nat → Prop
  | refl (a : Nat) : Reach g a a
  | step {a p j : Nat} (h : (p : Int) ∈ rowOf g a) (k : Reach g p j) : Reach g a j
theorem row_good {g : List (List Int)} (hg : Good g) {a : Nat} {p : Int} (h : p ∈ rowOf g a) : 0 ≤ p ∧ p < a ∧ a < g.length := by
  unfold rowOf at h
  rw [List.getD_eq_getElem?_getD] at h
  cases hc : g[a]? with
  | none => rw [hc] at h; cases h
  | some l => rw [hc] at h; exact ⟨(hg a l hc p h).1, (hg a l hc p h).2, (List.getElem?_eq_some_iff.1 hc).1⟩
theorem Reach.le {g : List (List Int)} (hg : Good g) {a j : Nat} (h : Reach g a j) : j ≤ a := by
  induction h with
  | refl => exact Nat.le_refl _
  | step h _ ih => have := row_good hg h; omega
theorem Reach.trans {g : List (List Int)} {a b c : Nat} (h : Reach g a b) (k : Reach g b c) : Reach g a c := by
  induction h with
  | refl => exact k
  | step h _ ih => exact .step h (ih k)
theorem Reach.last {g : List (List Int)} {a j : Nat} (h : Reach g a j) : a = j ∨ ∃ z, Reach g a z ∧ (j : Int) ∈ rowOf g z := by
  induction h with
  | refl => exact .inl rfl
  | @step a p j h _ ih =>
    right
    rcases ih with rfl | ⟨z, h1, h2⟩
    · exact ⟨a, .refl _, h⟩
    · exact ⟨z, .step h h1, h2⟩
theorem Reach.lt {g : List (List Int)} (hg : Good g) {a j : Nat} (h : Reach g a j) (hne : a ≠ j) : j < a ∧ a < g.length := by
  cases h with
  | refl => exact absurd rfl hne
  | step h k => have := row_good hg h; have := k.le hg; omega
section
variable {P : Program} {tI : TypeId} [TOne P tI]
theorem Split.all : ∀ {L : List Assn}, Split L L []
  | [] => .nil
  | _ :: _ => .cons .here Split.all
theorem Split.skip {A : Assn} {L K R : List Assn} (h : Split L K R) : Split (A :: L) K (A :: R) := by
  induction h with
  | nil => exact .nil
  | cons h _ ih => exact .cons (.there h) ih
/-- a slice of integers may be read -/
def Ints (P : Program) (tI : TypeId) (L : List Assn) (v : Value) (xs : List Int) : Prop := ∃ A cap, v = .slice A xs.length cap ∧ xs.length ≤ 9223372036854775807 ∧ (0 < xs.length → ∃ b off, A = some ⟨b, off, none⟩ ∧ ∀ (j : Nat) (x : Int), xs[j]? = some x → Ld P L tI ⟨b, off + j, none⟩ (.int .i64 x))
theorem Ints.row {μ : PH} {v : Value} {xs : List Int} {L : List Assn} [InR L μ] (h : Row μ v 1 xs.length (xs.flatMap (icsk .i64))) : Ints P tI L v xs := by
  obtain ⟨A, cap, hv⟩ := h.sl
  refine ⟨A, cap, hv, h.small, fun h0 => ?_⟩
  obtain ⟨b, off, cap', hv', c1, c2, hr⟩ := h.pos h0
  subst hv
  injection hv' with e1 _ _
  exact ⟨b, off, e1, fun j x hx => by
    have := (hr.elem (icsk_len .i64) hx).cell
    rw [Nat.mul_one] at this
    exact ld_ro this⟩
theorem H.take {A : Assn} {E : Ctx} {w : World} {L L' : List Assn} (h : H E w L) (t : Take A L L') : H E w (A :: L') := h.ent (Ent.perm t.perm)
end
section
variable {P : Program} {tG : TypeId}
end
theorem Row.at_ {μ : PH} {v : Value} {xs : List Int} (h : Row μ v 1 xs.length (xs.flatMap (icsk .i64))) {i : Nat} {x : Int} (hi : xs[i]? = some x) : ∃ b off cap, v = .slice (some ⟨b, off, none⟩) xs.length cap ∧ CellAt μ b (off + i * 1) (.int .i64 x) := by
  have hl := (List.getElem?_eq_some_iff.1 hi).1
  obtain ⟨b, off, cap, hv, _, _, hr⟩ := h.pos (by omega)
  exact ⟨b, off, cap, hv, (hr.elem (icsk_len .i64) hi).cell⟩
end SX
namespace SX
open Go Go.MapKept Go.Lib
section
variable {P : Program} {env : Env}
theorem strCells_bcs (s : ByteArray) : strCells s = bcs s.data.toList := by rw [bcs_map]; rfl
theorem append_string_at {w : World} {t u ty e : TypeId} {i : TypeInfo} (ht : P.underlying t = some (.slice e)) (hu : P.underlying u = some .string) (hi : P.info? e = some i) (hz : i.zero = some (.int .u8 0)) (hsize : i.size = 1) (hby : i.bytes = 1)
    {v : Value} {n : Nat} {xs : List Value} (hown : w.ownsRow 0 e 1 v n xs) (s : ByteArray) (h : n + s.size ≤ 140737488355328) :
    ∃ v' w', (Builtin.append_ #[t, u] ty #[v, .string s]).run P w = .ok v' w' ∧ w'.ownsRow 0 e 1 v' (n + s.size) (xs ++ strCells s) ∧ w.grownBy w' v.ownBlock ∧ (v'.ownBlock = v.ownBlock ∨ v'.ownBlock = some w.heap.size) := by
  have h63 : n + s.size ≤ maxLen := by unfold maxLen; omega
  obtain ⟨v', w', hr, h2, h3, h4⟩ := run_append_own_string (P := P) w 0 t u ty e i ht hu hi hz hsize hby v n xs hown s h63 h (Nat.zero_le _)
  refine ⟨v', w', hr, h2, h3, ?_⟩
  rcases hown.2 with ⟨rfl, rfl⟩ | ⟨g, cap, cur, rfl, _, hg, hnc, hcm, hcs, htake⟩
  · -- nil: whatever comes lies in a new block
    obtain ⟨v2, w2, hr2, k2, k3, k4⟩ := run_append_own_string (P := P) w w.heap.size t u ty e i ht hu hi hz hsize hby (.slice none 0 0) 0 xs ⟨hown.1, .inl ⟨rfl, rfl⟩⟩ s h63 h (Nat.le_refl _)
    rw [hr2] at hr
    obtain ⟨rfl, rfl⟩ := Result.ok.inj hr
    by_cases hm : s.size = 0
    · rw [h4.2 ⟨rfl, hm⟩]; exact .inl rfl
    · right
      have hn := run_append_nil_string (P := P) w t u ty e i (.int .u8 0) ht hu hi hz s (by omega) (by omega) (by rw [hby]; omega)
      rw [hn] at hr2
      obtain ⟨rfl, _⟩ := Result.ok.inj hr2
      rfl
  · by_cases hroom : n + s.size ≤ cap
    · have hcs' : cur.size = cap := by simpa using hcs
      have := run_append_room_string (P := P) w t u ty e i ht hu hi hsize g n cap cur hg s hroom (by omega)
      rw [this] at hr
      obtain ⟨rfl, _⟩ := Result.ok.inj hr
      exact .inl rfl
    · have hxl : xs.length = n := by simpa using hown.1
      have holds : ∀ j u, xs[j]? = some u → w.cell? ((⟨g, 0, none⟩ : Addr).add j) = some u := hown.cells (g := g) rfl
      have := run_append_grow_string (P := P) w t u ty e i (.int .u8 0) ht hu hi hz ⟨g, 0, none⟩ n cap xs (by rw [hsize]; simpa using hxl) holds s (by omega) (by omega) (by rw [hby]; exact growslice_fits (by omega) (by omega))
      rw [this] at hr
      obtain ⟨rfl, _⟩ := Result.ok.inj hr
      exact .inr rfl
theorem H.append_str {E : Ctx} {w : World} {L : List Assn} {t u e : TypeId} (ht : TSl P t e 1 1) (hu : TStr P u) (hz : TZv P e (.int .u8 0))
    {v : Value} {l : Nat} {xs : List Value} (h : H E w (own e 1 v l xs :: L)) (s : ByteArray) (hl : l + s.size ≤ 140737488355328) (ty : TypeId) :
    ∃ v' w', (Builtin.append_ #[t, u] ty #[v, .string s]).run P w = .ok v' w' ∧ H E w' (own e 1 v' (l + s.size) (xs ++ bcs s.data.toList) :: L) := by
  obtain ⟨i, hut, hi, hin, hib⟩ := ht.ok
  have hzz : i.zero = some (.int .u8 0) := by have := hz.ok; rw [hi] at this; exact this
  obtain ⟨e1, e2, e3, e4, h5⟩ := h
  obtain ⟨m1, m2, ho, hL, hd, s1, s2⟩ := Sat.perm (perm_out (X := E.X) (.refl _)) _ h5
  have hown : w.ownsRow 0 e 1 v l xs := by
    refine ⟨ho.1, ?_⟩
    rcases ho.2 with hnil | ⟨g, cap, cur, hv, hg, r⟩
    · exact .inl hnil
    · exact .inr ⟨g, cap, cur, hv, Nat.zero_le _, s1 _ _ hg, r⟩
  obtain ⟨v', w', hrun, hown', hg, hat⟩ := append_string_at (P := P) (w := w) (ty := ty) hut hu.und hi hzz hin hib hown s hl
  rw [strCells_bcs] at hown'
  have hlt2 : ∀ k o, m2 k = some o → k < w.heap.size := fun k o hk => (Array.getElem?_eq_some_iff.1 (s2 k o hk)).1
  have hvm : ∀ k, v.ownBlock = some k → m2 k = none := fun k hk => by
    rcases ho.2 with ⟨rfl, _⟩ | ⟨g0, cap, cur, rfl, hgm, _⟩
    · simp [Value.ownBlock] at hk
    · simp [Value.ownBlock] at hk
      subst hk
      exact (hd g0).resolve_left (by rw [hgm]; simp)
  have hm2 : ∀ k o, m2 k = some o → w'.heap[k]? = some o := fun k o hk => by
    rw [hg.block k (hlt2 k o hk) (fun he => by rw [hvm k he.symm] at hk; cases hk)]
    exact s2 k o hk
  refine ⟨v', w', hrun, ⟨hg.os.trans e1, hg.output.trans e2, hg.tape.trans e3, Nat.le_trans e4 hg.size, Sat.perm (perm_out (X := E.X) (.refl _)).symm _ ⟨fun k => if v'.ownBlock = some k then w'.heap[k]? else none, m2, ?_, hL, ?_, ?_, hm2⟩⟩⟩
  · refine ⟨hown'.1, ?_⟩
    rcases hown'.2 with hnil | ⟨g, cap, cur, rfl, _, hgg, r⟩
    · exact .inl hnil
    · exact .inr ⟨g, cap, cur, rfl, by simpa [Value.ownBlock] using hgg, r⟩
  · intro k
    by_cases hk : v'.ownBlock = some k
    · right
      rcases hat with he | he
      · exact hvm k (he ▸ hk)
      · rw [he] at hk
        cases hm : m2 k with
        | none => rfl
        | some o => have := hlt2 k o hm; simp at hk; omega
    · left; simp [hk]
  · intro k o hk
    by_cases hk' : v'.ownBlock = some k
    · simpa [hk'] using hk
    · simp [hk'] at hk
/-- append of a text's bytes -/
theorem ef_append_str {L : List Assn} {t u e : TypeId} [ht : TSl P t e 1 1] [hu : TStr P u] [hz : TZv P e (.int .u8 0)] {x y : Operand} {v : Value} {l : Nat} {xs : List Value} {R : List Assn} {s : ByteArray}
    (hx : evalE env x = some v) (hy : evalE env y = some (.string s)) (hL : Split L [own e 1 v l xs] R) (hl : l + s.size ≤ 140737488355328) :
    Ef P env L (.call { callee := .builtin .append, args := #[x, y], argTypes := #[t, u] }) (fun k => ∀ A c, k (.slice A (l + s.size) c) (own e 1 (.slice A (l + s.size) c) (l + s.size) (xs ++ bcs s.data.toList) :: R)) := by
  intro ro dst tt pos af g N E a w next Q k hf hh hk hn
  have h2 := hh.ent hL.ent
  obtain ⟨v', w', hrun, h'⟩ := H.append_str (P := P) (L := R) ht hu hz h2 s hl tt
  obtain ⟨A, c, rfl⟩ : ∃ A c, v' = .slice A (l + s.size) c := by
    obtain ⟨m1, _, ⟨_, ho⟩, _⟩ := h'.sat
    rcases ho with ⟨rfl, h0⟩ | ⟨g, cap, cur, rfl, _⟩
    · exact ⟨none, 0, by rw [h0]⟩
    · exact ⟨_, _, rfl⟩
  exact wpIn_value (run_builtin_append (v := .slice A (l + s.size) c) (w' := w') (by rw [hf.ev x _ hx, hf.ev y _ hy]; exact hrun)) <| hn _ _ _ (hk A c) h'
/-- string(b), b nil or of the call's own -/
theorem rd_bytes_own {L L' : List Assn} {s t e : Nat} [ht : TStr P t] [hs : TSl P s e 1 1] [he : TInt P e .u8] {x : Operand} {v : Value} (l : List UInt8) (hx : evalE env x = some v) (hb : Take (own e 1 v l.length (bcs l)) L L') :
    Rd P env L (.convert s t x) (.string ⟨l.toArray⟩) := by
  intro ρ hρ dst ty pos af g' E w hh
  obtain ⟨m1, m2, ⟨_, ho⟩, _, _, s1, _⟩ := (hh.ent (Ent.perm hb.perm)).sat
  rcases ho with ⟨rfl, h0⟩ | ⟨g, cap, cur, rfl, hg, _, _, _, htk⟩
  · have hl : l = [] := List.eq_nil_of_length_eq_zero h0
    subst hl
    have hr := run_convert_nil_bytes (P := P) w s t e 0 hs.und he.und ht.und
    simp only [execOp, hρ x _ hx, hr, Sem.run_bind, Sem.run_pure, Result.andThen_ok]
  · have h1 : w.heap[g]? = some (.cells cur e (0, 0)) := s1 _ _ hg
    have hr := run_convert_bytes_back (P := P) w s t e ⟨g, 0, none⟩ cap l hs.und he.und ht.und (fun j hj => by
      rw [addr_add, cell_of_row w g (0 + j) _ e (0, 0) h1]
      have h2 : (cur.toList.take (l.length * 1))[j]? = (bcs l)[j]? := by rw [htk]
      rw [List.getElem?_take, if_pos (by omega), bcs_map, List.getElem?_map, List.getElem?_eq_getElem hj] at h2
      rw [Nat.zero_add, ← Array.getElem?_toList, h2]; rfl)
    simp only [execOp, hρ x _ hx, hr, Sem.run_bind, Sem.run_pure, Result.andThen_ok]
theorem eqGuard_map {t : TypeId} {a : Option Nat} {v : Value} : ∀ op X Y w, (eqGuard op t X Y (.map a) v).run P w = .ok () w := fun op X Y w => by
  cases op <;> rfl
theorem pu_map_eq_nil {t k e u : TypeId} [h : TMap P t k e] {x y : Operand} {a : Option Nat} (hx : evalE env x = some (.map a)) (hy : evalE env y = some (.map none)) : Pu P env (.binOp .eql t x y u) (.bool a.isNone) :=
  pu_eq_of hx hy eqGuard_map rfl fun d w => by cases a <;> simp [Op.equalIn, run_underlying h.und]
theorem pu_typeAssert_map {t xt k e : TypeId} [h : TMap P t k e] {x : Operand} {v : Value} (hx : evalE env x = some (.iface t v)) : Pu P env (.typeAssert x xt t false) v := fun ρ hρ _ _ _ _ _ w => by
  have e2 : (Instr.typeAssert (.iface t v) xt t false).run P w = .ok v w := by simp [Instr.typeAssert, run_underlying h.und, go_sem, Result.andThen]
  simp [execOp, hρ x _ hx, e2]
/-- the model's own maps.clone -/
class MClone (P : Program) (f : FuncId) : Prop where
  ok : ∃ fn, P.funcs[f]? = some fn ∧ (fn.name == "runtime.NumGoroutine") = false ∧ fn.body.isNone = true ∧ Extern.findNext fn = none ∧ Extern.find fn = some Extern.MapsClone.clone
theorem ef_mclone {κ : Type} {L : List Assn} {f : FuncId} [hb : MClone P f] {fo x : Operand} {ats : Array TypeId} {t : TypeId} {b c : Nat} {kv : κ → Value} {l : Ents κ} [hm : InM b L kv l c] (hfo : evalE env fo = some (.func (.func f) #[] #[])) (hx : evalE env x = some (.iface t (.map (some b)))) :
    Ef P env L (.call { callee := .value fo, args := #[x], argTypes := ats }) (fun k => ∀ r, k (.iface t (.map (some r))) (mpe r kv l c :: L)) := by
  intro ro dst tt pos af g N E a w next Q k hf hh hk hn
  obtain ⟨R, htk⟩ := hm.ok
  have hob := hh.one_get htk
  obtain ⟨fn, h1, h2, h3, h4, h5⟩ := hb.ok
  have hr : (Extern.MapsClone.clone #[.iface t (.map (some b))]).run P w = .ok (.iface t (.map (some w.heap.size))) (w.alloc (.map (l.map (mke kv)).toArray c)) := by
    show (getObj b >>= fun o => match o with
      | .map entries clock => (newObj (.map entries clock) >>= fun n => pure (Value.iface t (.map (some n))))
      | _ => stuck "maps.clone: a map expected" : Sem Value).run P w = _
    simp [run_getObj_map hob, Result.andThen, go_sem]
  have hc := run_callFunc_extern (P := P) h1 h2 h3 h4 h5 #[.iface t (.map (some b))] w
  rw [hr] at hc
  exact wpIn_value (v := .iface t (.map (some w.heap.size))) (w' := w.alloc (.map (l.map (mke kv)).toArray c)) (by
    simp [execOp, resolve, hf.ev fo _ hfo, Deferred.ofValue, invoke, hf.ev x _ hx, hc, Result.andThen]) (hn _ _ _ (hk _) (hh.alloc _))
end
end SX
namespace SX
open Go

/-! what a row's check says -/
/-! sorted lists -/
/-! the numbers of a whole graph -/
end SX
namespace SX
open Go Go.Sort
theorem H.grow {E : Ctx} {w : World} {L : List Assn} (h : H E w L) (os : Array Obj) : H E (Go.Sort.grow w os) L := by
  obtain ⟨h1, h2, h3, h4, h5⟩ := h
  refine ⟨h1, h2, h3, by simp only [Go.Sort.grow, Array.size_append]; omega, h5.mono fun b o hb => ?_⟩
  have hlt : b < w.heap.size := (Array.getElem?_eq_some_iff.1 hb).1
  show (w.heap ++ os)[b]? = some o
  rw [Array.getElem?_append_left hlt]; exact hb
section
variable {α : Type} [Inhabited α] {enc : α → Value}
theorem putCells_front (d : List α) (zs ex : List Value) (hl : zs.length = d.length) : putCells enc 0 d.toArray (zs ++ ex).toArray = (d.map enc ++ ex).toArray := by
  apply Array.ext_getElem?
  intro k
  unfold putCells
  rw [Array.getElem?_mapIdx]
  simp only [List.getElem?_toArray, List.size_toArray, Nat.zero_add, Nat.sub_zero, Nat.zero_le, true_and]
  by_cases hk : k < d.length
  · rw [List.getElem?_append_left (by omega), List.getElem?_append_left (by rw [List.length_map]; exact hk), List.getElem?_map, List.getElem?_eq_getElem hk, List.getElem?_eq_getElem (by omega)]
    simp [hk]
  · rw [List.getElem?_append_right (by omega), List.getElem?_append_right (by rw [List.length_map]; omega), List.length_map, hl]
    cases ex[k - d.length]? <;> simp [hk]
theorem holds_front {w : World} {b e : Nat} {d : List α} {ex : List Value} (h : w.heap[b]? = some (.cells (d.map enc ++ ex).toArray e (0, 0))) : Holds enc w b 0 d.toArray := by
  intro j hj
  have hj' : j < d.length := by simpa using hj
  rw [Nat.zero_add]
  refine ⟨?_, by simp [World.frozen?, h]⟩
  simp only [World.cell?, h]
  show (d.map enc ++ ex).toArray[j]? = _
  rw [List.getElem?_toArray, List.getElem?_append_left (by rw [List.length_map]; exact hj'), List.getElem?_map, List.getElem?_eq_getElem hj']
  simp [hj']
theorem H.sorted {E : Ctx} {w : World} {L : List Assn} {b e n : Nat} {d d' : List α} {ex : List Value} {os : Array Obj} (h : H E w (blk b e (d.map enc ++ ex) :: L)) (hl : d'.length = d.length) :
    H E (Go.Sort.grow (putRow enc (Go.Sort.ahead w n) b 0 d'.toArray) os) (blk b e (d'.map enc ++ ex) :: L) := by
  refine H.grow ?_ os
  have hb := h.one_get .here
  refine H.upd (o' := .cells (d'.map enc ++ ex).toArray e (0, 0)) h .here _ rfl rfl rfl ?_ ?_ ?_
  · simp [putRow, mapBlock, Go.Sort.ahead]
  · show ((Go.Sort.ahead w n).heap.modify b (onCells (putCells enc 0 d'.toArray)))[b]? = _
    rw [Array.getElem?_modify]
    have : (Go.Sort.ahead w n).heap[b]? = some (.cells (d.map enc ++ ex).toArray e (0, 0)) := hb
    rw [if_pos rfl, this]
    show some (Obj.cells (putCells enc 0 d'.toArray (d.map enc ++ ex).toArray) e (0, 0)) = _
    rw [putCells_front d' (d.map enc) ex (by rw [List.length_map]; exact hl.symm)]
  · intro k hk
    show ((Go.Sort.ahead w n).heap.modify b _)[k]? = _
    rw [Array.getElem?_modify, if_neg (fun e => hk e.symm)]
    rfl
end
end SX
namespace SX
open Go Go.Proofs Go.Sort Go.RowKit
abbrev toB (l : List UInt8) : ByteArray := ⟨l.toArray⟩
abbrev byL (x : ByteArray) : List UInt8 := x.data.toList
theorem toB_byL (x : ByteArray) : toB (byL x) = x := by cases x; rfl
def srtS (xs : List ByteArray) : List ByteArray := ((xs.map byL).mergeSort fun x y => decide (x ≤ y)).map toB
theorem scsv_map (xs : List ByteArray) : xs.flatMap scsv = (xs.map byL).map encStr := by
  induction xs with
  | nil => rfl
  | cons x xs ih => rw [List.flatMap_cons, ih]; show Value.string x :: _ = Value.string (toB (byL x)) :: _; rw [toB_byL]; rfl
theorem scsv_map2 (ls : List (List UInt8)) : (ls.map toB).flatMap scsv = ls.map encStr := by
  induction ls with
  | nil => rfl
  | cons x xs ih => rw [List.map_cons, List.flatMap_cons, ih]; rfl
theorem srtS_len (xs : List ByteArray) : (srtS xs).length = xs.length := by
  unfold srtS; rw [List.length_map, (List.mergeSort_perm ..).length_eq, List.length_map]
theorem sort_strs {P : Program} {f : FuncId} {e : TypeId}
    (h : ∀ (blk off cap : Nat) (ss : List (List UInt8)) (w : World), Holds encStr w blk off ss.toArray → blk < w.heap.size → ss.length < 4611686018427387904 →
      Calls P f #[.slice (some ⟨blk, off, none⟩) ss.length cap] w fun x w' => x = .returned (.tuple #[]) ∧ ∃ n os, w' = Go.Sort.grow (putRow encStr (Go.Sort.ahead w n) blk off (ss.mergeSort fun x y => decide (x ≤ y)).toArray) os)
    (h0 : ∀ (p : Option Addr) (cap : Nat) (w : World), Calls P f #[.slice p 0 cap] w fun x w' => x = .returned (.tuple #[]) ∧ w' = w)
    (v : Value) (xs : List ByteArray) (hl : xs.length ≤ 1099511627776) : Spec P f [v] [own e 1 v xs.length (xs.flatMap scsv)] (fun r L => r = .tuple #[] ∧ L = [own e 1 v xs.length ((srtS xs).flatMap scsv)]) := by
  refine Spec.own_cases (L := []) (fun hv h1 _ => ?_) (fun b cap ex hv h1 h2 h3 h4 => ?_)
  · subst hv
    obtain rfl := List.eq_nil_of_length_eq_zero h1
    intro E w hh
    refine (h0 none 0 w).mono fun x w' ⟨e1, e2⟩ => ?_
    subst e1 e2
    have e : srtS [] = [] := List.eq_nil_of_length_eq_zero (by rw [srtS_len]; rfl)
    rw [e]
    exact ⟨_, _, rfl, ⟨rfl, rfl⟩, hh.ent own_nil_ent⟩
  · subst hv
    intro E w hh
    rw [scsv_map] at hh
    have hb := hh.one_get .here
    have hcall := h b 0 cap (xs.map byL) w (holds_front hb) (Array.getElem?_eq_some_iff.1 hb).1 (by rw [List.length_map]; omega)
    rw [List.length_map] at hcall
    refine hcall.mono fun x w' ⟨e1, n, os, e2⟩ => ?_
    subst e1 e2
    refine ⟨_, _, rfl, ⟨rfl, rfl⟩, ?_⟩
    have := H.sorted (n := n) (os := os) (d' := (xs.map byL).mergeSort fun x y => decide (x ≤ y)) hh (List.mergeSort_perm ..).length_eq
    rw [← scsv_map2] at this
    exact this.ent (own_close (n := 1) (by rw [flat_length scsv_len]; show (srtS xs).length * 1 = _; rw [srtS_len]) h4 h1 h2)
/-! ## the paths, plainly -/
theorem blLt (a b : ByteArray) : strLt a b = true ↔ byL a < byL b := by
  unfold strLt; rw [Lib.toList_data, Lib.toList_data, bl_iff]; exact Iff.rfl
theorem le_bl (a b : List UInt8) : decide (a ≤ b) = true ↔ strLt (toB b) (toB a) = false := by
  rw [decide_eq_true_iff, ← Bool.not_eq_true, blLt]; exact Iff.rfl
theorem srtS_pw (xs : List ByteArray) : (srtS xs).Pairwise fun a b => strLt b a = false := by
  have := List.pairwise_mergeSort (le := fun x y : List UInt8 => decide (x ≤ y)) (fun a b c h1 h2 => ?_) (fun a b => ?_) (xs.map byL)
  · unfold srtS
    rw [List.pairwise_map]
    exact this.imp fun {a b} h => (le_bl a b).1 h
  · rw [le_bl] at *
    cases h : strLt (toB c) (toB a) with
    | false => rfl
    | true =>
      rcases strLt_total (toB a) (toB b) with k | k | k
      · rw [strLt_trans h k] at h2; cases h2
      · rw [← k] at h2; rw [h] at h2; cases h2
      · rw [k] at h1; cases h1
  · show (decide (a ≤ b) || decide (b ≤ a)) = true
    rw [Bool.or_eq_true, le_bl, le_bl]
    cases h : strLt (toB b) (toB a) with
    | false => exact .inl rfl
    | true => exact .inr (strLt_asym h)
end SX
namespace SX
open Go
theorem moreF_le (keep : List Int) (k : Nat) (f : Fl) (h : f.safe ≤ f.bytes.length) : f.safe + moreF keep k f ≤ f.bytes.length := by
  unfold moreF
  split
  · omega
  · omega
theorem cutF_idem (keep : List Int) (k : Nat) (f : Fl) (h : f.safe ≤ f.bytes.length) : cutF keep k (cutF keep k f) = cutF keep k f := by
  have h1 := moreF_le keep k f h
  have h2 : moreF keep k (cutF keep k f) = 0 := by
    have hl : (cutF keep k f).bytes.length = (cutF keep k f).safe := by
      show (f.bytes.take (f.safe + moreF keep k f)).length = f.safe + moreF keep k f
      rw [List.length_take, Nat.min_eq_left h1]
    unfold moreF
    split
    · rfl
    · rw [hl]; omega
  have h3 : cutF keep k (cutF keep k f) = ⟨(cutF keep k f).bytes.take ((cutF keep k f).safe + 0), (cutF keep k f).safe + 0⟩ := by
    show (⟨(cutF keep k f).bytes.take ((cutF keep k f).safe + moreF keep k (cutF keep k f)), (cutF keep k f).safe + moreF keep k (cutF keep k f)⟩ : Fl) = _
    rw [h2]
  rw [h3]
  show (⟨(f.bytes.take (f.safe + moreF keep k f)).take (f.safe + moreF keep k f + 0), f.safe + moreF keep k f + 0⟩ : Fl) = _
  rw [Nat.add_zero, List.take_take, Nat.min_self]; rfl
/-- the files behind a crash, as far as the names are done -/
structure Crs (l : List Nm) (keep : List Int) (dn : List ByteArray) (rs rs' : List Rc) : Prop where
  len : rs'.length = rs.length
  at_ : ∀ (k : Nat) (r : Rc), rs[k]? = some r → ∃ r', rs'[k]? = some r' ∧ r'.a = r.a ∧ ((∃ s ∈ dn, findN l s = some k) → r'.f = cutF keep k r.f) ∧ ((¬ ∃ s ∈ dn, findN l s = some k) → r'.f = r.f)
theorem Crs.start (l : List Nm) (keep : List Int) (rs : List Rc) : Crs l keep [] rs rs := ⟨rfl, fun _ r h => ⟨r, h, rfl, (fun ⟨_, h, _⟩ => by cases h), fun _ => rfl⟩⟩
theorem Crs.adr {l : List Nm} {keep : List Int} {dn : List ByteArray} {rs rs' : List Rc} (h : Crs l keep dn rs rs') (k : Nat) : adr rs' k = adr rs k := by
  by_cases hk : k < rs.length
  · obtain ⟨r', h1, h2, _⟩ := h.at_ k _ (List.getElem?_eq_getElem hk)
    rw [adr_at h1, adr_at (List.getElem?_eq_getElem hk), h2]
  · unfold SX.adr
    rw [List.getElem?_eq_none (show rs'.length ≤ k by rw [h.len]; omega), List.getElem?_eq_none (show rs.length ≤ k by omega)]
/-- the file that comes next: what it was, what it is -/
theorem Crs.now {l : List Nm} {keep : List Int} {dn : List ByteArray} {rs rs' : List Rc} (h : Crs l keep dn rs rs') {k : Nat} {r : Rc} (hr : rs[k]? = some r) (hs : r.f.safe ≤ r.f.bytes.length) :
    ∃ r', rs'[k]? = some r' ∧ r'.a = r.a ∧ cutF keep k r'.f = cutF keep k r.f ∧ r'.f.safe ≤ r'.f.bytes.length ∧ r'.f.bytes.length ≤ r.f.bytes.length := by
  obtain ⟨r', h1, h2, h3, h4⟩ := h.at_ k r hr
  by_cases hd : ∃ s ∈ dn, findN l s = some k
  · refine ⟨r', h1, h2, ?_, ?_, ?_⟩
    · rw [h3 hd, cutF_idem _ _ _ hs]
    · rw [h3 hd]
      show r.f.safe + moreF keep k r.f ≤ (r.f.bytes.take _).length
      rw [List.length_take, Nat.min_eq_left (moreF_le keep k _ hs)]; exact Nat.le_refl _
    · rw [h3 hd]
      show (r.f.bytes.take _).length ≤ _
      rw [List.length_take]; omega
  · exact ⟨r', h1, h2, by rw [h4 hd], by rw [h4 hd]; exact hs, by rw [h4 hd]; exact Nat.le_refl _⟩
theorem Crs.step {l : List Nm} {keep : List Int} {dn : List ByteArray} {rs rs' : List Rc} (h : Crs l keep dn rs rs') {s : ByteArray} {k : Nat} {r r2 : Rc} (hf : findN l s = some k) (hr : rs[k]? = some r) (ha : r2.a = r.a) (h2 : r2.f = cutF keep k r.f) :
    Crs l keep (dn ++ [s]) rs (rs'.set k r2) := by
  refine ⟨by rw [List.length_set]; exact h.len, fun j q hq => ?_⟩
  have hmem : (∃ z ∈ dn ++ [s], findN l z = some j) ↔ (∃ z ∈ dn, findN l z = some j) ∨ k = j := by
    constructor
    · rintro ⟨z, hz, e⟩
      rcases List.mem_append.1 hz with hz | hz
      · exact .inl ⟨z, hz, e⟩
      · rw [List.mem_singleton.1 hz, hf] at e; exact .inr (Option.some.inj e)
    · rintro (⟨z, hz, e⟩ | e)
      · exact ⟨z, List.mem_append_left _ hz, e⟩
      · exact ⟨s, by simp, by rw [hf, e]⟩
  by_cases e : k = j
  · subst e
    have hlt : k < rs'.length := by rw [h.len]; exact (List.getElem?_eq_some_iff.1 hr).1
    rw [hr] at hq
    obtain rfl := Option.some.inj hq
    exact ⟨r2, List.getElem?_set_self hlt, ha, fun _ => h2, fun hn => absurd (hmem.2 (.inr rfl)) hn⟩
  · obtain ⟨q', h1, h3, h4, h5⟩ := h.at_ j q hq
    refine ⟨q', by rw [List.getElem?_set_ne e]; exact h1, h3, fun hm => h4 ?_, fun hm => h5 fun hn => hm (hmem.2 (.inl hn))⟩
    exact (hmem.1 hm).resolve_right e
/-- names behind some of the changes -/
abbrev namesK (d : Dk) (i : Nat) : List Nm := (d.pend.take i).foldl chgN d.safe
theorem namesK_ok {d : Dk} (h : d.Ok) (i : Nat) : NmOk d.files.length (namesK d i) := h.safe.chgs fun c hc => h.pend c (List.mem_of_mem_take hc)
theorem namesK_step {d : Dk} {i : Nat} {c : Cg} (h : d.pend[i]? = some c) : namesK d (i + 1) = chgN (namesK d i) c := by
  unfold namesK
  rw [List.take_add_one, h, List.foldl_append]; rfl
theorem namesAt_eq (d : Dk) (n : Int) : namesAt d n = namesK d (min (max n 0).toNat d.pend.length) := rfl
theorem namesK_live {d : Dk} : ∀ (i : Nat) (x : Nm), x ∈ namesK d i → (∃ y ∈ d.safe, y.2 = x.2) ∨ ∃ c ∈ d.pend, strEq c.come nos = false ∧ c.file = x.2 := by
  intro i
  induction i with
  | zero => intro x hx; exact .inl ⟨x, hx, rfl⟩
  | succ i ih =>
    intro x hx
    cases hc : d.pend[i]? with
    | none =>
      have e : namesK d (i + 1) = namesK d i := by unfold namesK; rw [List.take_add_one, hc]; simp
      rw [e] at hx; exact ih x hx
    | some c =>
      rw [namesK_step hc] at hx
      unfold chgN at hx
      rcases List.mem_append.1 hx with hx | hx
      · exact ih x (List.mem_filter.1 hx).1
      · split at hx
        · cases hx
        · next k => rw [List.mem_singleton.1 hx]; exact .inr ⟨c, List.mem_of_getElem? hc, by simpa using k, rfl⟩
end SX
namespace SX
theorem Crs.perm {l : List Nm} {keep : List Int} {dn dn' : List ByteArray} {rs rs' : List Rc} (h : Crs l keep dn rs rs') (hp : dn.Perm dn') : Crs l keep dn' rs rs' :=
  ⟨h.len, fun k r hr => let ⟨r', h1, h2, h3, h4⟩ := h.at_ k r hr; ⟨r', h1, h2, (fun ⟨s, hs, e⟩ => h3 ⟨s, hp.mem_iff.2 hs, e⟩), fun hn => h4 fun ⟨s, hs, e⟩ => hn ⟨s, hp.mem_iff.1 hs, e⟩⟩⟩
end SX
namespace SX
open Go
variable {P : Program} {env : Env}
/-! ### words of 32 -/
/-! ### words of 8 -/
end SX
namespace SX
abbrev W32 : Type := BitVec 32
end SX
namespace SX
open Go
section
variable {P : Program} {env : Env}
theorem pu_rem_nat {k : IntKind} {t u : TypeId} {x y : Operand} {a b : Nat} (hx : evalE env x = some (.int k (a : Nat))) (hy : evalE env y = some (.int k (b : Nat))) (h0 : 0 < b) : Pu P env (.binOp .rem t x y u) (.int k ((a % b : Nat) : Int)) := by
  have h := pu_rem (P := P) (t := t) (u := u) hx hy (by omega)
  rwa [Int.tmod_eq_emod_of_nonneg (by omega), ← Int.natCast_emod] at h
end
/-- the settings -/
structure Sett where
  ha : Int
  pe : Int
  mo : Int
  seed : W32
def Sett.bad (s : Sett) : Prop := s.ha < 1 ∨ 16 < s.ha ∨ s.pe < 1 ∨ 64 < s.pe ∨ s.mo < 0 ∨ 512 < s.mo
instance (s : Sett) : Decidable s.bad := by unfold Sett.bad; infer_instance
end SX
namespace SX
open Go
/-- how much there is of files and changes -/
def Within (m : Nat) (d : Dk) : Prop := d.files.length ≤ m ∧ d.pend.length ≤ m
theorem Within.mono {m n : Nat} {d : Dk} (h : Within m d) (k : m ≤ n) : Within n d := ⟨Nat.le_trans h.1 k, Nat.le_trans h.2 k⟩
theorem onFile_P {P : Dk → Prop} {d : Dk} {s : ByteArray} {f : Nat → Dk × Int} (h0 : P d) (h : ∀ k, findN d.seen s = some k → P (f k).1) : P (onFile d s f).1 := by
  unfold onFile
  split
  · exact h0
  · cases hf : findN d.seen s with
    | none => exact h0
    | some k => exact h k hf
theorem atStep_P {P : Dk → Prop} {d : Dk} {f : Dk → Dk} (h0 : P { d with falls := 0, off := true }) (h1 : P (f { d with falls := if 0 < d.falls then d.falls - 1 else d.falls })) : P (atStep d f).1 := by
  unfold atStep stepD
  by_cases a : 0 < d.falls
  · rw [if_pos a] at h1 ⊢
    by_cases b : d.falls = 1
    · rw [if_pos b]; exact h0
    · rw [if_neg b]; exact h1
  · rw [if_neg a] at h1 ⊢; exact h1
theorem Ok_fa {d : Dk} (h : d.Ok) {fl : Int} (hf : 0 ≤ fl ∧ fl ≤ 9223372036854775807) (off : Bool) : Dk.Ok { d with falls := fl, off := off } := ⟨h.q, h.fl, h.safe, h.pend, h.seen, h.hist, hf⟩
theorem Ok_fa0 {d : Dk} (h : d.Ok) : Dk.Ok { d with falls := 0, off := true } := Ok_fa h (by omega) true
theorem Ok_fa1 {d : Dk} (h : d.Ok) : Dk.Ok { d with falls := if 0 < d.falls then d.falls - 1 else d.falls } := Ok_fa h (by have := h.falls; split <;> omega) d.off
theorem newD_ok {q : Int} (h : 0 ≤ q ∧ q ≤ 16777216) : (newD q).Ok :=
  ⟨h, (fun f hf => by cases hf), ⟨List.nodup_nil, fun x hx => by cases hx⟩, (fun c hc => by cases hc), rfl, (fun i => by simp [newD]), by show (0 : Int) ≤ 0 ∧ (0 : Int) ≤ 9223372036854775807; omega⟩
theorem setF_ok {d : Dk} (h : d.Ok) {k : Nat} {f : Fl} (h1 : f.bytes.length ≤ mostF) (h2 : f.safe ≤ f.bytes.length) : (d.setF k f).Ok := by
  have e : (d.setF k f).files.length = d.files.length := by unfold Dk.setF; rw [List.length_set]
  refine ⟨h.q, fun g hg => ?_, ?_, ?_, h.seen, h.hist, h.falls⟩
  · rcases List.mem_or_eq_of_mem_set hg with hg | rfl
    · exact h.fl g hg
    · exact ⟨h1, h2⟩
  · rw [e]; exact h.safe
  · rw [e]; exact h.pend
theorem newF_ok {d : Dk} (h : d.Ok) : Dk.Ok { d with files := d.files ++ [⟨[], 0⟩] } := by
  refine ⟨h.q, fun f hf => ?_, h.safe.mono (by rw [List.length_append]; omega), fun c hc k => ?_, h.seen, h.hist, h.falls⟩
  · rcases List.mem_append.1 hf with hf | hf
    · exact h.fl f hf
    · rw [List.mem_singleton.1 hf]; exact ⟨Nat.zero_le _, Nat.le_refl _⟩
  · obtain ⟨k1, k2⟩ := h.pend c hc k
    exact ⟨k1, by rw [List.length_append]; omega⟩
theorem chg_ok {d : Dk} (h : d.Ok) {c : Cg} (hc : strEq c.come nos = false → goodN c.come = true ∧ c.file < d.files.length) (hl : (chgN d.seen c).length ≤ 64) : (d.chg c).Ok := by
  refine ⟨h.q, h.fl, h.safe, fun e he k => ?_, ?_, fun i => ?_, h.falls⟩
  · rcases List.mem_append.1 he with he | he
    · exact h.pend e he k
    · rw [List.mem_singleton.1 he] at k ⊢; exact hc k
  · show chgN d.seen c = (d.pend ++ [c]).foldl chgN d.safe
    rw [List.foldl_append, ← h.seen]; rfl
  · show (((d.pend ++ [c]).take i).foldl chgN d.safe).length ≤ 64
    by_cases hi : i ≤ d.pend.length
    · rw [List.take_append_of_le_length hi]; exact h.hist i
    · rw [List.take_of_length_le (by rw [List.length_append]; simp; omega), List.foldl_append, ← h.seen]; exact hl
theorem filter_gone {l : List Nm} {s : ByteArray} {k : Nat} (hf : findN l s = some k) {c : Cg} (hc : c.gone = s ∨ c.come = s) : (l.filter (keepN c)).length + 1 ≤ l.length := by
  have : (l.filter (keepN c)).length < l.length := List.length_filter_lt_length_iff_exists.2 ⟨_, findN_mem hf, by
    unfold keepN
    rcases hc with hc | hc
    · rw [hc, strEq_refl]; simp
    · rw [hc, strEq_refl]; simp⟩
  omega
theorem chgN_le (l : List Nm) (c : Cg) : (chgN l c).length ≤ (l.filter (keepN c)).length + 1 := by
  unfold chgN
  rw [List.length_append]
  split <;> simp
theorem fl_le_used {d : Dk} {s : ByteArray} {k : Nat} (h : findN d.seen s = some k) : (d.fl k).bytes.length ≤ d.used := mem_le_sum (fun x : Nm => (d.fl x.2).bytes.length) d.seen _ (findN_mem h)
theorem createD_ok {d : Dk} (h : d.Ok) (s : ByteArray) : (createD d s).1.Ok := by
  unfold createD
  split
  · exact h
  · split
    · exact h
    · next hg =>
      split
      · exact h
      · next hn =>
        refine atStep_P (Ok_fa0 h) ?_
        refine chg_ok (newF_ok (Ok_fa1 h)) (fun _ => ⟨by simpa using hg, by show d.files.length < (d.files ++ [_]).length; rw [List.length_append]; simp⟩) ?_
        have h1 := chgN_le d.seen ⟨nos, s, d.files.length⟩
        have h2 := h.seenLe
        show (chgN d.seen ⟨nos, s, d.files.length⟩).length ≤ 64
        cases hf : findN d.seen s with
        | none =>
          have h3 : ¬ 64 ≤ d.seen.length := fun h3 => hn ⟨by rw [hf]; rfl, h3⟩
          have h4 := List.length_filter_le (keepN ⟨nos, s, d.files.length⟩) d.seen
          omega
        | some k => have := filter_gone hf (c := ⟨nos, s, d.files.length⟩) (.inr rfl); omega
theorem appendD_ok {d : Dk} (h : d.Ok) (s : ByteArray) (t : List UInt8) : (appendD d s t).1.Ok := by
  refine onFile_P h fun k hk => ?_
  split
  · exact h
  · next hn =>
    refine atStep_P (Ok_fa0 h) ?_
    have h1 := Dk.fl_ok h k
    have h2 := fl_le_used hk
    have hq := h.q
    refine setF_ok (Ok_fa1 h) ?_ ?_
    · show ((d.fl k).bytes ++ t).length ≤ mostF
      rw [List.length_append]
      simp only [mostF] at *
      by_cases h0 : 0 < t.length
      · have : ¬ d.quota < (d.used : Int) + t.length := fun e => hn ⟨h0, e⟩
        omega
      · omega
    · show (d.fl k).safe ≤ ((d.fl k).bytes ++ t).length
      rw [List.length_append]; omega
theorem cutD_ok {d : Dk} (h : d.Ok) (s : ByteArray) (n : Int) : (cutD d s n).1.Ok := by
  refine onFile_P h fun k hk => ?_
  split
  · exact h
  · next hn =>
    refine atStep_P (Ok_fa0 h) ?_
    have h1 := Dk.fl_ok h k
    refine setF_ok (Ok_fa1 h) ?_ ?_
    · show ((d.fl k).bytes.take n.toNat).length ≤ mostF
      rw [List.length_take]; omega
    · show min (d.fl k).safe n.toNat ≤ ((d.fl k).bytes.take n.toNat).length
      rw [List.length_take]; omega
theorem syncD_ok {d : Dk} (h : d.Ok) (s : ByteArray) : (syncD d s).1.Ok := by
  refine onFile_P h fun k hk => ?_
  refine atStep_P (Ok_fa0 h) ?_
  exact setF_ok (Ok_fa1 h) (Dk.fl_ok h k).1 (Nat.le_refl _)
theorem syncNamesD_ok {d : Dk} (h : d.Ok) : (syncNamesD d).1.Ok := by
  unfold syncNamesD
  split
  · exact h
  · refine atStep_P (Ok_fa0 h) ?_
    have h1 := Ok_fa1 h
    exact ⟨h1.q, h1.fl, h.seenOk, (fun c hc => by cases hc), rfl, (fun i => by rw [List.take_nil]; exact h.seenLe), h1.falls⟩
theorem renameD_ok {d : Dk} (h : d.Ok) (s t : ByteArray) : (renameD d s t).1.Ok := by
  refine onFile_P h fun k hk => ?_
  split
  · exact h
  · next hg =>
    refine atStep_P (Ok_fa0 h) ?_
    split
    · exact Ok_fa1 h
    · have hm := h.seenOk.good _ (findN_mem hk)
      refine chg_ok (Ok_fa1 h) (fun _ => ⟨by simpa using hg, hm.2⟩) ?_
      have h1 := chgN_le d.seen ⟨s, t, k⟩
      have h2 := h.seenLe
      have h3 := filter_gone hk (c := ⟨s, t, k⟩) (.inl rfl)
      show (chgN d.seen ⟨s, t, k⟩).length ≤ 64
      omega
theorem removeD_ok {d : Dk} (h : d.Ok) (s : ByteArray) : (removeD d s).1.Ok := by
  refine onFile_P h fun k hk => ?_
  refine atStep_P (Ok_fa0 h) ?_
  refine chg_ok (Ok_fa1 h) (fun e => absurd e (by show ¬ strEq nos nos = false; rw [strEq_refl]; decide)) ?_
  have h1 := chgN_le d.seen ⟨s, nos, 0⟩
  have h2 := h.seenLe
  have h3 := filter_gone hk (c := ⟨s, nos, 0⟩) (.inl rfl)
  show (chgN d.seen ⟨s, nos, 0⟩).length ≤ 64
  omega
theorem damageD_ok {d : Dk} (h : d.Ok) (s : ByteArray) (n : Int) (t : List UInt8) : (damageD d s n t).1.Ok := by
  refine onFile_P h fun k hk => ?_
  split
  · exact h
  · next hn =>
    split
    · exact h
    · next hm =>
      have h1 := Dk.fl_ok h k
      have h2 := fl_le_used hk
      have hq := h.q
      refine setF_ok h ?_ (Nat.le_refl _)
      show ((d.fl k).bytes.take n.toNat ++ t ++ (d.fl k).bytes.drop (n.toNat + t.length)).length ≤ mostF
      rw [List.length_append, List.length_append, List.length_take, List.length_drop]
      simp only [mostF] at *
      by_cases h0 : 0 < (t.length : Int) - ((d.fl k).bytes.length - n)
      · have : ¬ d.quota < (d.used : Int) + ((t.length : Int) - ((d.fl k).bytes.length - n)) := fun e => hm ⟨h0, e⟩
        omega
      · omega
theorem crashD_ok {d : Dk} (h : d.Ok) (n : Int) (keep : List Int) : (crashD d n keep).Ok := by
  have hl : (crashD d n keep).files.length = d.files.length := by unfold crashD; simp
  have hno : NmOk d.files.length (namesAt d n) := by rw [namesAt_eq]; exact namesK_ok h _
  refine ⟨h.q, fun f hf => ?_, by rw [hl]; exact hno, (fun c hc => by cases hc), rfl, (fun i => ?_), ⟨Int.le_refl _, show (0 : Int) ≤ 9223372036854775807 by omega⟩⟩
  · obtain ⟨k, _, rfl⟩ := List.mem_map.1 hf
    split
    · have h1 := Dk.fl_ok h k
      have h2 := moreF_le keep k (d.fl k) h1.2
      show ((d.fl k).bytes.take ((d.fl k).safe + moreF keep k (d.fl k))).length ≤ mostF ∧ (d.fl k).safe + moreF keep k (d.fl k) ≤ ((d.fl k).bytes.take ((d.fl k).safe + moreF keep k (d.fl k))).length
      rw [List.length_take]; omega
    · exact ⟨Nat.zero_le _, Nat.le_refl _⟩
  · show ((([] : List Cg).take i).foldl chgN (namesAt d n)).length ≤ 64
    rw [List.take_nil]; exact h.hist _
theorem fallD_ok {d : Dk} (h : d.Ok) {n : Int} (hn : n ≤ 9223372036854775807) : (fallD d n).Ok := ⟨h.q, h.fl, h.safe, h.pend, h.seen, h.hist, by unfold fallD; dsimp only; omega⟩
/-! ## how much -/
theorem createD_in {d : Dk} {m : Nat} (h : Within m d) (s : ByteArray) : Within (m + 1) (createD d s).1 := by
  unfold createD
  split
  · exact h.mono (by omega)
  · split
    · exact h.mono (by omega)
    · split
      · exact h.mono (by omega)
      · refine atStep_P (P := Within (m + 1)) (h.mono (by omega)) ?_
        have := h.1; have := h.2
        constructor
        · show (d.files ++ [_]).length ≤ _; rw [List.length_append]; simp; omega
        · show (d.pend ++ [_]).length ≤ _; rw [List.length_append]; simp; omega
theorem set_in {d : Dk} {m : Nat} (h : Within m d) (k : Nat) (f : Fl) : Within m (d.setF k f) := ⟨by unfold Dk.setF; rw [List.length_set]; exact h.1, h.2⟩
theorem chg_in {d : Dk} {m : Nat} (h : Within m d) (c : Cg) : Within (m + 1) (d.chg c) := ⟨by have := h.1; show d.files.length ≤ _; omega, by have := h.2; show (d.pend ++ [_]).length ≤ _; rw [List.length_append]; simp; omega⟩
theorem appendD_in {d : Dk} {m : Nat} (h : Within m d) (s : ByteArray) (t : List UInt8) : Within m (appendD d s t).1 := by
  refine onFile_P h fun k hk => ?_
  split
  · exact h
  · exact atStep_P (P := Within m) h (set_in h _ _)
theorem cutD_in {d : Dk} {m : Nat} (h : Within m d) (s : ByteArray) (n : Int) : Within m (cutD d s n).1 := by
  refine onFile_P h fun k hk => ?_
  split
  · exact h
  · exact atStep_P (P := Within m) h (set_in h _ _)
theorem syncD_in {d : Dk} {m : Nat} (h : Within m d) (s : ByteArray) : Within m (syncD d s).1 := by
  refine onFile_P h fun k hk => ?_
  exact atStep_P (P := Within m) h (set_in h _ _)
theorem syncNamesD_in {d : Dk} {m : Nat} (h : Within m d) : Within m (syncNamesD d).1 := by
  unfold syncNamesD
  split
  · exact h
  · exact atStep_P (P := Within m) h ⟨h.1, Nat.zero_le _⟩
theorem renameD_in {d : Dk} {m : Nat} (h : Within m d) (s t : ByteArray) : Within (m + 1) (renameD d s t).1 := by
  refine onFile_P (P := Within (m + 1)) (h.mono (by omega)) fun k hk => ?_
  split
  · exact h.mono (by omega)
  · refine atStep_P (P := Within (m + 1)) (h.mono (by omega)) ?_
    split
    · exact h.mono (by omega)
    · exact chg_in h _
theorem removeD_in {d : Dk} {m : Nat} (h : Within m d) (s : ByteArray) : Within (m + 1) (removeD d s).1 := by
  refine onFile_P (P := Within (m + 1)) (h.mono (by omega)) fun k hk => ?_
  exact atStep_P (P := Within (m + 1)) (h.mono (by omega)) (chg_in h _)
theorem damageD_in {d : Dk} {m : Nat} (h : Within m d) (s : ByteArray) (n : Int) (t : List UInt8) : Within m (damageD d s n t).1 := by
  refine onFile_P h fun k hk => ?_
  split
  · exact h
  · split
    · exact h
    · exact set_in h _ _
theorem crashD_in {d : Dk} {m : Nat} (h : Within m d) (n : Int) (keep : List Int) : Within m (crashD d n keep) := ⟨by unfold crashD; simp; exact h.1, Nat.zero_le _⟩
theorem fallD_in {d : Dk} {m : Nat} (h : Within m d) (n : Int) : Within m (fallD d n) := h
end SX
namespace SX
open Go
section
variable {P : Program} {env : Env} {L L' : List Assn}
theorem own_cap2 {e n : Nat} {v : Value} {l : Nat} {xs : List Value} {m : PH} (h : Sat (own e n v l xs :: L) m) : ∃ A c, v = .slice A l c ∧ l ≤ c ∧ c ≤ maxLen ∧ (A = none → c = 0) ∧ ∀ a, A = some a → ∃ b, a = ⟨b, 0, none⟩ := by
  obtain ⟨m1, _, ⟨_, ho⟩, _⟩ := h
  rcases ho with ⟨rfl, rfl⟩ | ⟨g, cap, cur, rfl, _, h3, h4, _⟩
  · exact ⟨_, _, rfl, Nat.le_refl _, Nat.zero_le _, (fun _ => rfl), fun a h => by cases h⟩
  · exact ⟨_, _, rfl, h3, h4, (fun h => by cases h), fun a h => ⟨g, (Option.some.inj h).symm⟩⟩
theorem own_cell {E : Ctx} {w : World} {e n b c l i : Nat} {xs : List Value} {v : Value} (hh : H E w L) (hL : Take (own e n (.slice (some ⟨b, 0, none⟩) l c) l xs) L L') (hv : xs[i]? = some v) : w.cell? ⟨b, i, none⟩ = some v := by
  obtain ⟨m1, m2, ⟨_, ho⟩, _, _, s1, _⟩ := (hh.ent (Ent.perm hL.perm)).sat
  rcases ho with ⟨h0, _⟩ | ⟨g, cap, cur, h1, hg, _, _, _, htk⟩
  · cases h0
  · obtain ⟨h2, _, _⟩ := Value.slice.inj h1
    obtain ⟨rfl, _, _⟩ := Addr.mk.inj (Option.some.inj h2)
    have hw : w.heap[b]? = some (.cells cur e (0, 0)) := s1 _ _ hg
    rw [← htk, List.getElem?_take] at hv
    split at hv
    · rw [cell_of_row w b i _ e (0, 0) hw, ← Array.getElem?_toList]; exact hv
    · cases hv
/-- an element of a slice of the call's own -/
theorem rd_own {t : TypeId} [ht : TOne P t] {x : Operand} {e n b c l i : Nat} {xs : List Value} {v : Value} (hx : evalE env x = some (.pointer (some ⟨b, i, none⟩))) (hL : Take (own e n (.slice (some ⟨b, 0, none⟩) l c) l xs) L L') (hv : xs[i]? = some v) : Rd P env L (.load t x) v :=
  rd_of_ld hx fun {E w} hh => by
    have ha := run_isAgg ht.und w
    simp [loadVar, ha, own_cell hh hL hv]
theorem rd_ownA {t k : Nat} [ht : TAgg P t k] {x : Operand} {e n b c l i : Nat} {xs vs : List Value} (hx : evalE env x = some (.pointer (some ⟨b, i, none⟩))) (hL : Take (own e n (.slice (some ⟨b, 0, none⟩) l c) l xs) L L') (hl : vs.length = k) (hv : ∀ (j : Nat) (v : Value), vs[j]? = some v → xs[i + j]? = some v) : Rd P env L (.load t x) (.agg vs.toArray) :=
  rd_of_ld hx fun {E w} hh => by
    have ha := run_isAgg ht.und w
    have hr := run_loadCells_list (P := P) w ⟨b, i, none⟩ vs (fun j v hj => by rw [addr_add]; exact own_cell hh hL (hv j v hj))
    rw [hl] at hr
    simp [loadVar, ha, run_sizeOf ht.inf, hr]
theorem set_app {xs ex : List Value} {i : Nat} {v : Value} (h : i < xs.length) : (xs ++ ex).set i v = xs.set i v ++ ex := by rw [List.set_append_left _ _ h]
/-- an element of a slice of the call's own is written -/
theorem ef_store_own {t : TypeId} [ht : TOne P t] {x y : Operand} {e n b c l i : Nat} {xs : List Value} {v : Value} {R : List Assn} (hx : evalE env x = some (.pointer (some ⟨b, i, none⟩))) (hy : evalE env y = some v) (hL : Split L [own e n (.slice (some ⟨b, 0, none⟩) l c) l xs] R) (hi : i < xs.length) (hv : v.oneCell' = true) :
    Ef P env L (.store t x y) (fun k => k undef (own e n (.slice (some ⟨b, 0, none⟩) l c) l (xs.set i v) :: R)) := by
  intro ro dst tt pos af g N E a w next Q k hf hh hk hn
  have h2 := hh.ent hL.ent
  obtain ⟨h21, h22, h23, h24, h25⟩ := h2
  have k6 : Sat (own e n (.slice (some ⟨b, 0, none⟩) l c) l xs :: (E.X ++ R)) (fun b => w.heap[b]?) := Sat.perm (perm_out (.refl _)) _ h25
  rcases own_open k6 with ⟨h0, _⟩ | ⟨b', cap, ex, h1, h3, h4, h5, h6, h7⟩
  · cases h0
  · obtain ⟨h8, _, rfl⟩ := Value.slice.inj h1
    obtain ⟨rfl, _, _⟩ := Addr.mk.inj (Option.some.inj h8)
    have h9 : H E w (blk b e (xs ++ ex) :: R) := ⟨h21, h22, h23, h24, Sat.perm (perm_out (.refl _)).symm _ h7⟩
    refine ef_storeP (P := P) (t := t) (L := blk b e (xs ++ ex) :: R) (i := i) hx hy hv (by rw [List.length_append]; omega) ro dst tt pos af g N E a w next Q (fun u L' => u = undef ∧ Ent L' (own e n (.slice (some ⟨b, 0, none⟩) l c) l (xs.set i v) :: R)) hf h9 ⟨rfl, ?_⟩ ?_
    · rw [set_app hi]
      exact own_close (by rw [List.length_set]; exact h5) h6 h3 h4
    · rintro u w' L' ⟨rfl, he⟩ hh'
      exact hn _ _ _ hk (hh'.ent he)
theorem over_app {xs ex vs : List Value} {i : Nat} (h : i + vs.length ≤ xs.length) : over (xs ++ ex) vs i = over xs vs i ++ ex := by
  unfold over
  rw [List.take_append_of_le_length (by omega), List.drop_append_of_le_length h]; simp only [List.append_assoc]
theorem over_len {xs vs : List Value} {i : Nat} (h : i + vs.length ≤ xs.length) : (over xs vs i).length = xs.length := by
  unfold over; rw [List.length_append, List.length_append, List.length_take, List.length_drop]; omega
theorem ef_store_ownA {t k : Nat} [ht : TAgg P t k] {x y : Operand} {e n b c l i : Nat} {xs vs : List Value} {R : List Assn} (hx : evalE env x = some (.pointer (some ⟨b, i, none⟩))) (hy : evalE env y = some (.agg vs.toArray)) (hL : Split L [own e n (.slice (some ⟨b, 0, none⟩) l c) l xs] R) (hi : i + vs.length ≤ xs.length) (hl : vs.length = k) (hv : vs.all Value.oneCell' = true) :
    Ef P env L (.store t x y) (fun k => k undef (own e n (.slice (some ⟨b, 0, none⟩) l c) l (over xs vs i) :: R)) := by
  intro ro dst tt pos af g N E a w next Q k hf hh hk hn
  have h2 := hh.ent hL.ent
  obtain ⟨h21, h22, h23, h24, h25⟩ := h2
  have k6 : Sat (own e n (.slice (some ⟨b, 0, none⟩) l c) l xs :: (E.X ++ R)) (fun b => w.heap[b]?) := Sat.perm (perm_out (.refl _)) _ h25
  rcases own_open k6 with ⟨h0, _⟩ | ⟨b', cap, ex, h1, h3, h4, h5, h6, h7⟩
  · cases h0
  · obtain ⟨h8, _, rfl⟩ := Value.slice.inj h1
    obtain ⟨rfl, _, _⟩ := Addr.mk.inj (Option.some.inj h8)
    have h9 : H E w (blk b e (xs ++ ex) :: R) := ⟨h21, h22, h23, h24, Sat.perm (perm_out (.refl _)).symm _ h7⟩
    refine ef_storeAP (P := P) (t := t) (L := blk b e (xs ++ ex) :: R) (i := i) hx hy hv hl (by rw [List.length_append]; omega) ro dst tt pos af g N E a w next Q (fun u L' => u = undef ∧ Ent L' (own e n (.slice (some ⟨b, 0, none⟩) l c) l (over xs vs i) :: R)) hf h9 ⟨rfl, ?_⟩ ?_
    · rw [over_app hi]
      exact own_close (by rw [over_len hi]; exact h5) h6 h3 h4
    · rintro u w' L' ⟨rfl, he⟩ hh'
      exact hn _ _ _ hk (hh'.ent he)
/-- elements laid in cells -/
theorem flat_at {α : Type} {f : α → List Value} {n : Nat} (hf : ∀ a, (f a).length = n) {l : List α} {i : Nat} {a : α} (h : l[i]? = some a) (j : Nat) (v : Value) (hj : (f a)[j]? = some v) : (l.flatMap f)[i * n + j]? = some v := by
  have := flat_get hf l [] i a h j v hj
  rwa [List.append_nil] at this
theorem flat_over2 {α : Type} {f : α → List Value} {n : Nat} (hf : ∀ a, (f a).length = n) : ∀ {l : List α} {i : Nat} {a : α}, i < l.length → over (l.flatMap f) (f a) (i * n) = (l.set i a).flatMap f
  | [], _, _, h => by cases h
  | b :: l, 0, a, _ => by
    unfold over
    rw [Nat.zero_mul, List.take_zero, List.nil_append, Nat.zero_add, List.set_cons_zero, List.flatMap_cons, List.flatMap_cons, hf a, ← hf b, List.drop_left]
  | b :: l, i + 1, a, h => by
    have ih := flat_over2 hf (l := l) (i := i) (a := a) (by simpa using h)
    unfold over at ih ⊢
    rw [List.set_cons_succ, List.flatMap_cons, List.flatMap_cons, ← ih]
    rw [show (i + 1) * n = (f b).length + i * n by rw [hf b, Nat.add_mul, Nat.one_mul, Nat.add_comm], List.take_length_add_append, Nat.add_assoc, List.drop_length_add_append]
    simp only [List.append_assoc]
/-- make of elements of more cells than one -/
theorem madeCells_flat {zs : List Value} {n l : Nat} (hz : zs.length = n) (hn : 0 < n) : madeCells zs.toArray (l * n) = ((List.replicate l ()).flatMap fun _ => zs).toArray := by
  apply Array.ext
  · rw [size_madeCells, List.size_toArray, flat_length (f := fun _ : Unit => zs) (k := n) (fun _ => hz), List.length_replicate]
  · intro i h1 h2
    have hi : i < l * n := by rwa [size_madeCells] at h1
    have hq : i / n < l := by rw [Nat.div_lt_iff_lt_mul hn]; exact hi
    have hr : i % n < zs.length := by rw [hz]; exact Nat.mod_lt _ hn
    have e1 : ((List.replicate l ()).flatMap fun _ => zs)[i]? = some zs[i % n] := by
      have := flat_at (f := fun _ : Unit => zs) (n := n) (fun _ => hz) (l := List.replicate l ()) (i := i / n) (a := ()) (by rw [List.getElem?_replicate, if_pos hq]) (i % n) zs[i % n] (List.getElem?_eq_getElem hr)
      rwa [show i / n * n + i % n = i by rw [Nat.mul_comm]; exact Nat.div_add_mod i n] at this
    have e2 : (madeCells zs.toArray (l * n))[i] = zs[i % n] := by
      subst hz
      simp only [madeCells, Array.getElem_map, Array.getElem_range, List.size_toArray]
      rw [getElem!_pos zs.toArray (i % zs.length) (by simpa using hr)]; simp
    rw [e2]
    have e3 : ((List.replicate l ()).flatMap fun _ => zs).toArray[i]? = some zs[i % n] := by rw [List.getElem?_toArray]; exact e1
    rw [Array.getElem?_eq_getElem h2] at e3
    exact (Option.some.inj e3).symm
theorem ef_makeN {t e n by_ : Nat} [ht : TSl P t e n by_] {zs : List Value} [hz : TZero P e zs] {x y : Operand} {kx ky : IntKind} {c : Int} (l : Nat) (hx : evalE env x = some (.int kx c)) (hy : evalE env y = some (.int ky c)) (h0 : c = (l : Int)) (hb : (by_ : Int) * l ≤ 281474976710656) (hc : l ≤ maxLen) (hzl : zs.length = n := by rfl) (hn0 : 0 < n := by decide) :
    Ef P env L (.makeSlice t x y) (fun k => ∀ b, k (.slice (some ⟨b, 0, none⟩) l l) (own e n (.slice (some ⟨b, 0, none⟩) l l) l ((List.replicate l ()).flatMap fun _ => zs) :: L)) := by
  intro ro dst ty pos af g N E a w next Q k hf hh hk hn
  obtain ⟨i, hu, hi, hin, hib⟩ := ht.ok
  obtain ⟨i', z', hi', hzz, hzc⟩ := hz.ok
  have : i' = i := Option.some.inj (hi'.symm.trans hi)
  subst this
  subst h0
  have hr := run_make (P := P) w t e i' z' hu hi hzz kx ky l l (by omega) (by omega) (by rw [hib]; exact hb) (by simp only [maxLen] at hc; omega)
  rw [hin, Int.toNat_natCast, hzc, madeCells_flat hzl hn0] at hr
  refine wpIn_value (v := .slice (some ⟨w.heap.size, 0, none⟩) l l) (w' := w.alloc (.cells ((List.replicate l ()).flatMap fun _ => zs).toArray e)) (by simp [execOp, hf.ev x _ hx, hf.ev y _ hy, hr]) (hn _ _ _ (hk _) ((hh.alloc _).ent ?_))
  have hfl : ((List.replicate l ()).flatMap fun _ => zs).length = l * n := by rw [flat_length (f := fun _ : Unit => zs) (k := n) (fun _ => hzl), List.length_replicate]
  refine Ent.imp fun m hm => ⟨hfl, .inr ⟨w.heap.size, l, _, rfl, hm, Nat.le_refl _, hc, by rw [List.size_toArray, hfl], ?_⟩⟩
  rw [← hfl]; exact List.take_length
end
end SX
namespace SX
open Go
end SX
namespace SX
open Go
end SX
namespace SX
open Go Go.ChangeShapes Go.WideShapes Go.ChangeAt Go.RowKit
variable {P : Program} {H0 : Type} {enc : TypeId × Value → H0} {W : World}
theorem trod_ints {t e : TypeId} {k : IntKind} {v : Value} {fuel : Nat} {x : DataW H0 × List MemPlace} (ht : P.underlying t = some (.slice e)) (he : P.underlying e = some (.int k)) (hc : P.cellsOf e = 1)
    (hf : DataW.trod enc P W 0 (fun _ => true) true fuel t [v] = some x) :
    ∃ xs : List Int, Row (fun b => W.heap[b]?) v 1 xs.length (xs.flatMap (icsk k)) := by
  rcases open_ints ht he hc hf with ⟨hcs, _⟩ | ⟨a, len, cap, zs, hcs, _, hl, hm, hz, _, hcell, _⟩
  · rw [List.cons.injEq] at hcs
    rw [hcs.1]
    exact ⟨[], Row.nil _ _⟩
  · rw [List.cons.injEq] at hcs
    rw [hcs.1]
    simp only [if_true] at hz
    have hlen : (zs.take len).length = len := by rw [List.length_take]; omega
    refine ⟨zs.take len, ?_⟩
    rw [hlen]
    refine ⟨by rw [flat_length (icsk_len k), hlen], some a, cap, rfl, hl, hm, fun h => (by cases h), fun hpos => ?_⟩
    have h0 := hcell 0 (by omega)
    rw [show a.add 0 = a by simp [Addr.add]] at h0
    have ha := (spot_of_cell h0).1
    refine ⟨a.block, a.off, by rw [← ha], fun j u hj => ?_⟩
    have hj' : j < len := by
      have := (List.getElem?_eq_some_iff.1 hj).1
      rw [flat_length (icsk_len k), hlen] at this; omega
    obtain ⟨z, hzj⟩ : ∃ z, (zs.take len)[j]? = some z := ⟨_, List.getElem?_eq_getElem (by omega)⟩
    have hu := flat_get (icsk_len k) (zs.take len) [] j z hzj 0 (.int k z) rfl
    rw [List.append_nil, Nat.mul_one, Nat.add_zero] at hu
    rw [hu] at hj
    cases hj
    have hc2 := (spot_of_cell (hcell j (by omega))).2
    rw [addr_block, addr_off] at hc2
    have : zs.getD j 0 = z := by
      rw [List.getElem?_take, if_pos hj'] at hzj
      simp [List.getD, hzj]
    rw [this] at hc2
    exact hc2
end SX
namespace SX
open Go Go.ChangeShapes Go.WideShapes Go.ChangeAt Go.RowKit
variable {P : Program} {W : World} {H0 : Type} {enc : TypeId × Value → H0}
/-- a call: kind, name, to, text, number, and a fate (a number, a list) -/
structure OpA where
  kind : Int
  name : ByteArray
  to : ByteArray
  text : ByteArray
  n : Int
  fn : Int
  kv : Value
  keep : List Int
instance : Inhabited OpA := ⟨⟨0, ⟨#[]⟩, ⟨#[]⟩, ⟨#[]⟩, 0, 0, .bool false, []⟩⟩
def ocs (o : OpA) : List Value := [.int .u8 o.kind, .string o.name, .string o.to, .string o.text, .int .i64 o.n, .int .i64 o.fn, o.kv]
theorem ocs_len (o : OpA) : (ocs o).length = 7 := rfl
structure OpOk (μ : PH) (o : OpA) : Prop where
  kind : 0 ≤ o.kind ∧ o.kind ≤ 255
  n : -9223372036854775808 ≤ o.n ∧ o.n ≤ 9223372036854775807
  keep : Row μ o.kv 1 o.keep.length (o.keep.flatMap (icsk .i64))
theorem OpOk.le {μ μ' : PH} {o : OpA} (h : OpOk μ o) (k : Le μ μ') : OpOk μ' o := ⟨h.kind, h.n, h.keep.le k⟩
def OpR (W : World) (o : OpA) (D : DataW H0) : Prop := OpOk (fun b => W.heap[b]?) o ∧ ∃ a0 a1 a2 a4 a5, D = .agg [a0, a1, a2, .lit (.string o.text.data.toList), a4, a5]
/-- the types of a call's parts -/
structure OpT (P : Program) (t t8 ts ti tf tk : TypeId) : Prop where
  ok : ∃ f0 f1 f2 f3 f4 f5 g0 g1, P.underlying t = some (.struct #[f0, f1, f2, f3, f4, f5]) ∧ P.underlying tf = some (.struct #[g0, g1]) ∧
    (f0.type = t8 ∧ f0.offset = 0) ∧ (f1.type = ts ∧ f1.offset = 1) ∧ (f2.type = ts ∧ f2.offset = 2) ∧ (f3.type = ts ∧ f3.offset = 3) ∧ (f4.type = ti ∧ f4.offset = 4) ∧ (f5.type = tf ∧ f5.offset = 5) ∧ (g0.type = ti ∧ g0.offset = 0) ∧ g1.type = tk ∧ g1.offset = 1
  u8 : P.underlying t8 = some (.int .u8)
  us : P.underlying ts = some .string
  ui : P.underlying ti = some (.int .i64)
  uk : P.underlying tk = some (.slice ti)
  c : P.cellsOf t = 7 ∧ P.cellsOf t8 = 1 ∧ P.cellsOf ts = 1 ∧ P.cellsOf ti = 1 ∧ P.cellsOf tf = 2 ∧ P.cellsOf tk = 1
theorem trod_op {t t8 ts ti tf tk : TypeId} (hT : OpT P t t8 ts ti tf tk) {fuel : Nat} {cs : List Value} {D : DataW H0} {Pl : List MemPlace} (h : DataW.trod enc P W 0 (fun _ => true) true fuel t cs = some (D, Pl)) :
    ∃ o : OpA, cs = ocs o ∧ OpR W o D := by
  obtain ⟨f0, f1, f2, f3, f4, f5, g0, g1, ht, hf, e0, e1, e2, e3, e4, e5, k0, k1, k2⟩ := hT.ok
  obtain ⟨c7, c8, cS, cI, cF, cK⟩ := hT.c
  obtain ⟨xs, n, _, hx, hl, hlen, hel⟩ := DataW.trod_struct ht h
  rw [c7] at hl
  match xs, hlen with
  | [y0, y1, y2, y3, y4, y5], _ =>
    have q0 := hel 0 f0 rfl
    have q1 := hel 1 f1 rfl
    have q2 := hel 2 f2 rfl
    have q3 := hel 3 f3 rfl
    have q4 := hel 4 f4 rfl
    have q5 := hel 5 f5 rfl
    rw [e0.1, e0.2, c8] at q0
    rw [e1.1, e1.2, cS] at q1
    rw [e2.1, e2.2, cS] at q2
    rw [e3.1, e3.2, cS] at q3
    rw [e4.1, e4.2, cI] at q4
    rw [e5.1, e5.2, cF] at q5
    match cs, hl with
    | [c0, c1, c2, c3, c4, c5, c6], _ =>
      obtain ⟨kd, r0, _, w0⟩ := DataW.trod_int hT.u8 q0
      obtain ⟨s1, r1, _, _⟩ := DataW.trod_string hT.us q1
      obtain ⟨s2, r2, _, _⟩ := DataW.trod_string hT.us q2
      obtain ⟨s3, r3, z3, _⟩ := DataW.trod_string hT.us q3
      obtain ⟨n4, r4, _, w4⟩ := DataW.trod_int hT.ui q4
      obtain ⟨z0, z1, m, _, _, p0, p1⟩ := trod_struct2 hf q5
      rw [k0.1, k0.2, cI] at p0
      rw [k1, k2, cK] at p1
      obtain ⟨n5, r5, _, _⟩ := DataW.trod_int hT.ui p0
      obtain ⟨ks, hk⟩ := trod_ints (v := c6) hT.uk hT.ui cI p1
      simp at r0 r1 r2 r3 r4 r5
      subst r0 r1 r2 r3 r4 r5
      have z3' : y3 = (.lit (.string s3.data.toList), []) := by simpa using z3
      refine ⟨⟨kd, s1, s2, s3, n4, n5, c6, ks⟩, rfl, ⟨wf_u8 w0, wf_i64 w4, hk⟩, y0.1, y1.1, y2.1, y4.1, y5.1, ?_⟩
      rw [z3'] at hx
      exact (Prod.mk.inj hx).1
/-- an argument that is a list of calls -/
theorem arg_ops {q t t8 ts ti tf tk : TypeId} (hT : OpT P t t8 ts ti tf tk) (hq : P.underlying q = some (.slice t)) {v : Value} {d : DataW H0} {ps : List MemPlace} {r : Go.Reach} {b0 : Nat} (hv : Value.okWide P W r b0 q v) (h : DataW.Trod enc P W 0 (fun _ => true) true q v d ps) :
    ∃ xs : List OpA, Row (fun b => W.heap[b]?) v 7 xs.length (xs.flatMap ocs) ∧ (∀ o ∈ xs, OpOk (fun b => W.heap[b]?) o) ∧
      ((d = .nil ∧ xs = []) ∨ ∃ (Ds sp : List (DataW H0)), d = .slice Ds sp ∧ Ds.length = xs.length ∧ ∀ (i : Nat) (o : OpA) (D : DataW H0), xs[i]? = some o → Ds[i]? = some D → OpR W o D) := by
  obtain ⟨a0, len, cap, rfl⟩ := okWide_slice hq hv
  obtain ⟨fuel, hf⟩ := h
  obtain ⟨v', xs, hcs, hrow, hd⟩ := trod_slice (f := ocs) (by decide) ocs_len (OpR W) hq hT.c.1 (fun fuel cs D Pl h => trod_op hT h) hf
  simp only [Value.cells, List.cons.injEq, and_true] at hcs
  subst hcs
  refine ⟨xs, hrow, fun o ho => ?_, hd⟩
  rcases hd with ⟨_, rfl⟩ | ⟨Ds, sp, h1, h2, h3⟩
  · cases ho
  · obtain ⟨i, hi⟩ := List.getElem?_of_mem ho
    have hlt := (List.getElem?_eq_some_iff.1 hi).1
    exact (h3 i o Ds[i] hi (List.getElem?_eq_getElem (by omega))).1
end SX
namespace SX
open Go
def opD (d : Dk) (o : OpA) : Dk :=
  if o.kind % 12 = 0 then (createD d o.name).1 else if o.kind % 12 = 2 then (cutD d o.name o.n).1 else if o.kind % 12 = 3 then (syncD d o.name).1 else
  if o.kind % 12 = 4 then (renameD d o.name o.to).1 else if o.kind % 12 = 5 then (removeD d o.name).1 else if o.kind % 12 = 6 then (syncNamesD d).1 else
  if o.kind % 12 = 7 then fallD d o.n else if o.kind % 12 = 8 then crashD d o.fn o.keep else if o.kind % 12 = 9 then (damageD d o.name o.n o.text.data.toList).1 else
  if o.kind % 12 = 10 then d else (appendD d o.name o.text.data.toList).1
theorem opD_P {P : Dk → Prop} {d : Dk} {o : OpA} (h0 : P (createD d o.name).1) (h2 : P (cutD d o.name o.n).1) (h3 : P (syncD d o.name).1) (h4 : o.kind % 12 = 4 → P (renameD d o.name o.to).1) (h5 : P (removeD d o.name).1) (h6 : P (syncNamesD d).1)
    (h7 : P (fallD d o.n)) (h8 : P (crashD d o.fn o.keep)) (h9 : P (damageD d o.name o.n o.text.data.toList).1) (h10 : P d) (h11 : P (appendD d o.name o.text.data.toList).1) : P (opD d o) := by
  unfold opD
  repeat' split
  all_goals first | assumption | exact h4 (by assumption)
theorem opD_ok {d : Dk} (h : d.Ok) {o : OpA} (ho : o.n ≤ 9223372036854775807) : (opD d o).Ok :=
  opD_P (createD_ok h _) (cutD_ok h _ _) (syncD_ok h _) (fun _ => renameD_ok h _ _) (removeD_ok h _) (syncNamesD_ok h) (fallD_ok h ho) (crashD_ok h _ _) (damageD_ok h _ _ _) h (appendD_ok h _ _)
theorem opD_in {d : Dk} {m : Nat} (h : Within m d) (o : OpA) : Within (m + 1) (opD d o) :=
  opD_P (createD_in h _) ((cutD_in h _ _).mono (by omega)) ((syncD_in h _).mono (by omega)) (fun _ => renameD_in h _ _) (removeD_in h _) ((syncNamesD_in h).mono (by omega)) ((fallD_in h _).mono (by omega)) ((crashD_in h _ _).mono (by omega))
    ((damageD_in h _ _ _).mono (by omega)) (h.mono (by omega)) ((appendD_in h _ _).mono (by omega))
/-! ## a name that stays -/
/-- a list of names has s with k, and k under no other name -/
def Has (s : ByteArray) (k : Nat) (l : List Nm) : Prop := (s, k) ∈ l ∧ ∀ x ∈ l, x.2 = k → x.1 = s
/-- a change that has nothing to do with s and k -/
def Far (s : ByteArray) (k : Nat) (c : Cg) : Prop := c.gone ≠ s ∧ c.come ≠ s ∧ (strEq c.come nos = true ∨ c.file ≠ k)
theorem Has.chg {s : ByteArray} {k : Nat} {l : List Nm} (h : Has s k l) {c : Cg} (hc : Far s k c) : Has s k (chgN l c) := by
  unfold chgN
  refine ⟨List.mem_append_left _ (List.mem_filter.2 ⟨h.1, ?_⟩), fun x hx e => ?_⟩
  · unfold keepN
    rw [show strEq s c.gone = false from by rw [Bool.eq_false_iff]; exact fun q => hc.1 (strEq_iff.1 q).symm,
      show strEq s c.come = false from by rw [Bool.eq_false_iff]; exact fun q => hc.2.1 (strEq_iff.1 q).symm]
    rfl
  · rcases List.mem_append.1 hx with hx | hx
    · exact h.2 x (List.mem_filter.1 hx).1 e
    · split at hx
      · cases hx
      · rename_i hne
        rw [List.mem_singleton.1 hx] at e
        rcases hc.2.2 with q | q
        · exact absurd q hne
        · exact absurd e q
theorem Has.chgs {s : ByteArray} {k : Nat} : ∀ {cs : List Cg} {l : List Nm}, Has s k l → (∀ c ∈ cs, Far s k c) → Has s k (cs.foldl chgN l)
  | [], _, h, _ => h
  | c :: _, _, h, hc => (h.chg (hc c (List.mem_cons_self ..))).chgs fun e he => hc e (List.mem_cons_of_mem _ he)
structure Stay (s : ByteArray) (k : Nat) (t : List UInt8) (d : Dk) : Prop where
  lt : k < d.files.length
  fl : d.fl k = ⟨t, t.length⟩
  safe : Has s k d.safe
  seen : Has s k d.seen
  pend : ∀ c ∈ d.pend, Far s k c
section
variable {s : ByteArray} {k : Nat} {t : List UInt8} {d : Dk}
theorem Stay.fa (h : Stay s k t d) (fl : Int) (off : Bool) : Stay s k t { d with falls := fl, off := off } := ⟨h.lt, h.fl, h.safe, h.seen, h.pend⟩
theorem Stay.set (h : Stay s k t d) {j : Nat} (hj : j ≠ k) (f : Fl) : Stay s k t (d.setF j f) := by
  refine ⟨?_, ?_, h.safe, h.seen, h.pend⟩
  · unfold Dk.setF; rw [List.length_set]; exact h.lt
  · unfold Dk.setF Dk.fl; rw [List.getElem?_set_ne hj]; exact h.fl
theorem Stay.chg (h : Stay s k t d) {c : Cg} (hc : Far s k c) : Stay s k t (d.chg c) :=
  ⟨h.lt, h.fl, h.safe, h.seen.chg hc, fun e he => by
    rcases List.mem_append.1 he with he | he
    · exact h.pend e he
    · rw [List.mem_singleton.1 he]; exact hc⟩
theorem Stay.newF (h : Stay s k t d) : Stay s k t { d with files := d.files ++ [⟨[], 0⟩] } := by
  refine ⟨?_, ?_, h.safe, h.seen, h.pend⟩
  · show k < (d.files ++ [_]).length
    rw [List.length_append]; have := h.lt; omega
  · have e := h.fl
    unfold Dk.fl at e ⊢
    show ((d.files ++ [_])[k]?).getD _ = _
    rw [List.getElem?_append_left h.lt]; exact e
theorem Stay.atStep (h : Stay s k t d) {f : Dk → Dk} (hf : ∀ fl, Stay s k t (f { d with falls := fl })) : Stay s k t (atStep d f).1 :=
  atStep_P (h.fa _ _) (hf _)
theorem Stay.other (h : Stay s k t d) {n : ByteArray} (hn : n ≠ s) {j : Nat} (hj : findN d.seen n = some j) : j ≠ k := fun e => hn (h.seen.2 _ (findN_mem hj) e)
theorem Stay.create (h : Stay s k t d) {n : ByteArray} (hn : n ≠ s) (hs : s ≠ nos) : Stay s k t (createD d n).1 := by
  unfold createD
  split
  · exact h
  · split
    · exact h
    · split
      · exact h
      · refine h.atStep fun fl => ?_
        exact ((h.fa fl d.off).newF).chg ⟨Ne.symm hs, hn, .inr (by have := h.lt; show d.files.length ≠ k; omega)⟩
theorem Stay.append (h : Stay s k t d) {n : ByteArray} (hn : n ≠ s) (x : List UInt8) : Stay s k t (appendD d n x).1 :=
  onFile_P h fun j hj => by
    split
    · exact h
    · exact h.atStep fun fl => (h.fa fl d.off).set (h.other hn hj) _
theorem Stay.cut (h : Stay s k t d) {n : ByteArray} (hn : n ≠ s) (x : Int) : Stay s k t (cutD d n x).1 :=
  onFile_P h fun j hj => by
    split
    · exact h
    · exact h.atStep fun fl => (h.fa fl d.off).set (h.other hn hj) _
theorem Stay.sync (h : Stay s k t d) {n : ByteArray} (hn : n ≠ s) : Stay s k t (syncD d n).1 :=
  onFile_P h fun _ hj => h.atStep fun fl => (h.fa fl d.off).set (h.other hn hj) _
theorem Stay.damage (h : Stay s k t d) {n : ByteArray} (hn : n ≠ s) (x : Int) (y : List UInt8) : Stay s k t (damageD d n x y).1 :=
  onFile_P h fun j hj => by
    split
    · exact h
    · split
      · exact h
      · exact h.set (h.other hn hj) _
theorem Stay.syncN (h : Stay s k t d) : Stay s k t (syncNamesD d).1 := by
  unfold syncNamesD
  split
  · exact h
  · exact h.atStep fun fl => ⟨h.lt, h.fl, h.seen, h.seen, fun c hc => by cases hc⟩
theorem Stay.rename (h : Stay s k t d) {n m : ByteArray} (hn : n ≠ s) (hm : m ≠ s) : Stay s k t (renameD d n m).1 :=
  onFile_P h fun j hj => by
    split
    · exact h
    · refine h.atStep fun fl => ?_
      split
      · exact h.fa fl d.off
      · exact (h.fa fl d.off).chg ⟨hn, hm, .inr (h.other hn hj)⟩
theorem Stay.remove (h : Stay s k t d) {n : ByteArray} (hn : n ≠ s) (hs : s ≠ nos) : Stay s k t (removeD d n).1 :=
  onFile_P h fun _ _ => h.atStep fun fl => (h.fa fl d.off).chg ⟨hn, Ne.symm hs, .inl (strEq_refl _)⟩
theorem Stay.names (h : Stay s k t d) (n : Int) : Has s k (namesAt d n) := h.safe.chgs fun c hc => h.pend c (List.mem_of_mem_take hc)
theorem Stay.crash (h : Stay s k t d) (n : Int) (keep : List Int) : Stay s k t (crashD d n keep) := by
  have hn := h.names n
  refine ⟨?_, ?_, hn, hn, fun c hc => by cases hc⟩
  · unfold crashD; simp; exact h.lt
  · have e : (namesAt d n).any (fun x => decide (x.2 = k)) = true := List.any_eq_true.2 ⟨(s, k), hn.1, by simp⟩
    have e2 : (crashD d n keep).fl k = cutF keep k (d.fl k) := by
      unfold crashD Dk.fl
      show (((List.range d.files.length).map _)[k]?).getD _ = _
      rw [List.getElem?_map, List.getElem?_range h.lt]
      show (if _ then _ else _) = _
      rw [if_pos e]
    rw [e2, h.fl]
    have e3 : moreF keep k ⟨t, t.length⟩ = 0 := by
      unfold moreF
      split
      · rfl
      · show (min _ ((t.length : Int) - t.length)).toNat = 0
        omega
    unfold cutF
    rw [e3]
    show (⟨t.take (t.length + 0), t.length + 0⟩ : Fl) = _
    rw [Nat.add_zero, List.take_length]
theorem Stay.op (h : Stay s k t d) {o : OpA} (hn : o.name ≠ s) (ht : o.kind % 12 = 4 → o.to ≠ s) (hs : s ≠ nos) : Stay s k t (opD d o) :=
  opD_P (h.create hn hs) (h.cut hn _) (h.sync hn) (fun q => h.rename hn (ht q)) (h.remove hn hs) h.syncN (h.fa _ _) (h.crash _ _) (h.damage hn _ _) h (h.append hn _)
theorem Stay.read (h : Stay s k t d) (hd : d.Ok) (n : Int) (keep : List Int) : readD (crashD d n keep) s = (t, 0) := by
  have hc := h.crash n keep
  have hf : findN (crashD d n keep).seen s = some k := findN_of (crashD_ok hd n keep).seenOk.nodup hc.seen.1
  unfold readD
  rw [if_neg (by show ¬ (false = true); decide), hf]
  show (((crashD d n keep).fl k).bytes, (0 : Int)) = _
  rw [hc.fl]
end
end SX
namespace SX
open Go
/-- one text looked at: is it above the last, and below the one that is held? -/
def updS (last nx s : ByteArray) : ByteArray := if strLt last s = true ∧ (nx = ⟨#[]⟩ ∨ strLt s nx = true) then s else nx
def selS (last : ByteArray) (xs : List ByteArray) : ByteArray := xs.foldl (updS last) ⟨#[]⟩
theorem selS_succ {xs : List ByteArray} {i : Nat} {y : ByteArray} (last : ByteArray) (h : xs[i]? = some y) : selS last (xs.take (i + 1)) = updS last (selS last (xs.take i)) y := by
  unfold selS
  rw [List.take_add_one, h, List.foldl_append]; rfl
theorem gt_lt (a b : ByteArray) : (!(strLt a b || strEq a b)) = strLt b a := by
  rcases strLt_total a b with h | h | h
  · rw [h, strLt_asym h]; rfl
  · rw [h, strLt_irrefl, show strEq b b = true from strEq_iff.2 rfl]; rfl
  · rw [h, strLt_asym h, show strEq a b = false from by rw [Bool.eq_false_iff]; intro e; exact strLt_ne h (strEq_iff.1 e).symm]; rfl
theorem strLt_nil {s : ByteArray} (h : s ≠ ⟨#[]⟩) : strLt ⟨#[]⟩ s = true := by
  rcases strLt_total ⟨#[]⟩ s with k | k | k
  · exact k
  · exact absurd k.symm h
  · have k2 : byL s < byL (⟨#[]⟩ : ByteArray) := (blLt _ _).1 k
    exact absurd k2 (List.not_lt_nil _)
theorem selS_spec (last : ByteArray) (xs : List ByteArray) (hne : ∀ x ∈ xs, x ≠ ⟨#[]⟩) :
    (selS last xs = ⟨#[]⟩ ∧ ∀ x ∈ xs, strLt last x = false) ∨ (selS last xs ∈ xs ∧ strLt last (selS last xs) = true ∧ ∀ x ∈ xs, strLt last x = true → strLt x (selS last xs) = false) := by
  have key : ∀ n, n ≤ xs.length → (selS last (xs.take n) = ⟨#[]⟩ ∧ ∀ x ∈ xs.take n, strLt last x = false) ∨ (selS last (xs.take n) ∈ xs.take n ∧ strLt last (selS last (xs.take n)) = true ∧ ∀ x ∈ xs.take n, strLt last x = true → strLt x (selS last (xs.take n)) = false) := by
    intro n
    induction n with
    | zero => exact fun _ => .inl ⟨rfl, fun x hx => by cases hx⟩
    | succ n ih =>
      intro hn
      have hy : xs[n]? = some xs[n] := List.getElem?_eq_getElem hn
      have hmem : xs[n] ∈ xs := List.getElem_mem hn
      rw [selS_succ last hy]
      have ht : xs.take (n + 1) = xs.take n ++ [xs[n]] := by rw [List.take_add_one, hy]; rfl
      rw [ht]
      generalize hr : selS last (xs.take n) = r at ih ⊢
      generalize xs[n] = y at hmem ⊢
      by_cases h1 : strLt last y = true
      · by_cases h2 : r = ⟨#[]⟩ ∨ strLt y r = true
        · have e : updS last r y = y := by unfold updS; rw [if_pos ⟨h1, h2⟩]
          rw [e]
          refine .inr ⟨List.mem_append_right _ (List.mem_singleton.2 rfl), h1, fun x hx hlx => ?_⟩
          rcases List.mem_append.1 hx with hx | hx
          · rcases ih (by omega) with ⟨_, k2⟩ | ⟨k1, k2, k3⟩
            · rw [k2 x hx] at hlx; cases hlx
            · have k4 := k3 x hx hlx
              rcases h2 with h2 | h2
              · exact absurd h2 (hne r (List.mem_of_mem_take k1))
              · cases h : strLt x y with
                | false => rfl
                | true => rw [strLt_trans h h2] at k4; cases k4
          · rw [List.mem_singleton.1 hx]; exact strLt_irrefl y
        · have e : updS last r y = r := by unfold updS; rw [if_neg fun q => h2 q.2]
          rw [e]
          rw [not_or] at h2
          rcases ih (by omega) with ⟨k1, _⟩ | ⟨k1, k2, k3⟩
          · exact absurd k1 h2.1
          · refine .inr ⟨List.mem_append_left _ k1, k2, fun x hx hlx => ?_⟩
            rcases List.mem_append.1 hx with hx | hx
            · exact k3 x hx hlx
            · rw [List.mem_singleton.1 hx]; simpa using h2.2
      · have e : updS last r y = r := by unfold updS; rw [if_neg fun q => h1 q.1]
        rw [e]
        have h1' : strLt last y = false := by simpa using h1
        rcases ih (by omega) with ⟨k1, k2⟩ | ⟨k1, k2, k3⟩
        · refine .inl ⟨k1, fun x hx => ?_⟩
          rcases List.mem_append.1 hx with hx | hx
          · exact k2 x hx
          · rw [List.mem_singleton.1 hx]; exact h1'
        · refine .inr ⟨List.mem_append_left _ k1, k2, fun x hx hlx => ?_⟩
          rcases List.mem_append.1 hx with hx | hx
          · exact k3 x hx hlx
          · rw [List.mem_singleton.1 hx, h1'] at hlx; cases hlx
  have := key xs.length (Nat.le_refl _)
  rwa [List.take_length] at this
/-- the last of the first j -/
def lastS (T : List ByteArray) (j : Nat) : ByteArray := if j = 0 then ⟨#[]⟩ else (T[j - 1]?).getD ⟨#[]⟩
theorem selS_at {xs T : List ByteArray} (hp : T.Perm xs) (hr : T.Pairwise fun a b => strLt a b = true) (hne : ∀ x ∈ xs, x ≠ ⟨#[]⟩) {j : Nat} (hj : j ≤ T.length) : selS (lastS T j) xs = (T[j]?).getD ⟨#[]⟩ := by
  have hlow : ∀ (i : Nat) (x : ByteArray), T[i]? = some x → (strLt (lastS T j) x = true ↔ j ≤ i) := by
    intro i x hx
    have hxm : x ∈ xs := hp.mem_iff.1 (List.mem_of_getElem? hx)
    have hi : i < T.length := (List.getElem?_eq_some_iff.1 hx).1
    have hxe : x = T[i] := (List.getElem?_eq_some_iff.1 hx).2.symm
    unfold lastS
    by_cases h0 : j = 0
    · rw [if_pos h0]
      exact ⟨fun _ => by omega, fun _ => strLt_nil (hne x hxm)⟩
    · rw [if_neg h0, List.getElem?_eq_getElem (show j - 1 < T.length by omega), Option.getD_some, hxe]
      have hpw := List.pairwise_iff_getElem.1 hr
      constructor
      · intro h
        by_cases hc : j ≤ i
        · exact hc
        · by_cases e : i = j - 1
          · subst e; rw [strLt_irrefl] at h; cases h
          · rw [strLt_asym (hpw i (j - 1) hi (by omega) (by omega))] at h; cases h
      · exact fun h => hpw (j - 1) i (by omega) hi (by omega)
  rcases selS_spec (lastS T j) xs hne with ⟨k1, k2⟩ | ⟨k1, k2, k3⟩
  · rw [k1]
    by_cases h : j < T.length
    · have hx := List.getElem?_eq_getElem h
      have := (hlow j _ hx).2 (Nat.le_refl _)
      rw [k2 _ (hp.mem_iff.1 (List.getElem_mem h))] at this; cases this
    · rw [List.getElem?_eq_none (by omega)]; rfl
  · generalize hr2 : selS (lastS T j) xs = r at k1 k2 k3 ⊢
    obtain ⟨i, hi⟩ := List.getElem?_of_mem (hp.mem_iff.2 k1)
    have hji := (hlow i r hi).1 k2
    have hil := (List.getElem?_eq_some_iff.1 hi).1
    have hjl : j < T.length := by omega
    have hx := List.getElem?_eq_getElem hjl
    by_cases e : i = j
    · subst e; rw [hi]; rfl
    · have h1 := k3 T[j] (hp.mem_iff.1 (List.getElem_mem hjl)) ((hlow j _ hx).2 (Nat.le_refl _))
      have h2 := List.pairwise_iff_getElem.1 hr j i hjl hil (by omega)
      rw [(List.getElem?_eq_some_iff.1 hi).2, h1] at h2; cases h2
end SX
namespace SX
open Go
section
variable {P : Program} {env : Env} {L : List Assn}
theorem ent_ro00 {L : List Assn} : Ent L (ro (fun _ => none) :: L) := fun m h => ⟨fun _ => none, m, (fun k x hk => by cases hk), h, (fun _ => .inl rfl), (fun _ _ h => by cases h), (fun _ _ h => h)⟩
theorem flat_one {α : Type} {f : α → List Value} (h : ∀ a, (f a).all Value.oneCell' = true) (xs : List α) : (xs.flatMap f).all Value.oneCell' = true := by
  rw [List.all_flatMap]; exact List.all_eq_true.2 fun a _ => h a
theorem ef_append_own {t e n by_ : Nat} [ht : TSl P t e n by_] {zs : List Value} [hz : TZero P e zs] {x y : Operand} {v s : Value} {l m : Nat} {xs news : List Value} {R : List Assn}
    (hx : evalE env x = some v) (hy : evalE env y = some s) (hL : Split L [own e n v l xs, own e n s m news] R) (h1 : news.all Value.oneCell' = true) (h63 : l + m ≤ maxLen) (hby : (l + m) * by_ ≤ 140737488355328) (hzl : zs.length = n := by rfl) (hn0 : 0 < n := by decide) :
    Ef P env L (.call { callee := .builtin .append, args := #[x, y], argTypes := #[t, t] }) (fun k => ∀ A c, k (.slice A (l + m) c) (own e n (.slice A (l + m) c) (l + m) (xs ++ news) :: own e n s m news :: R)) := by
  intro ro_ dst tt pos af g N E a w next Q k hf hh hk hn
  have h2 := hh.ent (hL.ent.trans Ent.swap)
  obtain ⟨k1, k2, k3, k4, k5⟩ := h2
  have k6 : Sat (own e n s m news :: (E.X ++ own e n v l xs :: R)) (fun b => w.heap[b]?) := Sat.perm (perm_out (.refl _)) _ k5
  rcases own_open k6 with ⟨rfl, rfl, rfl⟩ | ⟨b, cap, ex, rfl, a2, a3, a4, a5, a6⟩
  · have h3 : H E w (own e n v l xs :: own e n (.slice none 0 0) 0 [] :: ro (fun _ => none) :: R) := (hh.ent hL.ent).ent (Ent.under (X := [own e n v l xs, own e n (.slice none 0 0) 0 []]) ent_ro00)
    obtain ⟨v', w', hrun, h', _⟩ := H.append_ro (P := P) (μ := fun _ => none) (L := own e n (.slice none 0 0) 0 [] :: ro (fun _ => none) :: R) ht hz hzl hn0 h3 (Row.nil _ n) h1 h63 hby tt
    obtain ⟨A, c, rfl⟩ : ∃ A c, v' = .slice A (l + 0) c := by
      obtain ⟨m1, _, ⟨_, ho⟩, _⟩ := h'.sat
      rcases ho with ⟨rfl, h0⟩ | ⟨g, cap, cur, rfl, _⟩
      · exact ⟨none, 0, by rw [h0]⟩
      · exact ⟨_, _, rfl⟩
    refine wpIn_value (run_builtin_append (v := .slice A (l + 0) c) (w' := w') (by rw [hf.ev x _ hx, hf.ev y _ hy]; exact hrun)) <| hn _ _ _ (hk A c) (h'.ent ?_)
    exact Ent.under (X := [own e n (.slice A (l + 0) c) (l + 0) (xs ++ []), own e n (.slice none 0 0) 0 []]) Ent.drop
  · have h3 : H E w (blk b e (news ++ ex) :: own e n v l xs :: R) := ⟨k1, k2, k3, k4, Sat.perm (perm_out (.refl _)).symm _ a6⟩
    have h4 := h3.ent Ent.swap
    have hsrc : w.heap[b]? = some (.cells (news ++ ex).toArray e (0, 0)) := h4.one_get (.there .here)
    obtain ⟨v', w', hrun, h', _⟩ := H.append (P := P) ht hz hzl hn0 h4 (so := 0) (c := cap) hsrc news a4 (fun j u hj => by
      rw [Nat.zero_add, List.getElem?_append_left (List.getElem?_eq_some_iff.1 hj).1]; exact hj) h1 h63 hby tt
    obtain ⟨A, c, rfl⟩ : ∃ A c, v' = .slice A (l + m) c := by
      obtain ⟨m1, _, ⟨_, ho⟩, _⟩ := h'.sat
      rcases ho with ⟨rfl, h0⟩ | ⟨g, cap, cur, rfl, _⟩
      · exact ⟨none, 0, by rw [h0]⟩
      · exact ⟨_, _, rfl⟩
    refine wpIn_value (run_builtin_append (v := .slice A (l + m) c) (w' := w') (by rw [hf.ev x _ hx, hf.ev y _ hy]; exact hrun)) <| hn _ _ _ (hk A c) (h'.ent ?_)
    exact Ent.cons (own_close a4 a5 a2 a3)
end
end SX
namespace SX
open Go Go.MapKept
def pkv (o : Option Nat) : Value := .pointer (o.map fun b => ⟨b, 0, none⟩)
/-- a row of cells lies there -/
def Cells (w : World) (b : Nat) : Prop := ∃ ca ta, w.heap[b]? = some (.cells ca ta (0, 0))
class TPKey (P : Program) (kt : TypeId) : Prop where
  und : ∃ te, P.underlying kt = some (.pointer te) ∧ ((P.info? te).any fun j => j.size != 0) = true
theorem TPKey.ok {P : Program} {kt : TypeId} (h : TPKey P kt) : ∃ te j, P.underlying kt = some (.pointer te) ∧ P.info? te = some j ∧ j.size ≠ 0 := by
  obtain ⟨te, h1, h2⟩ := h.und
  cases hi : P.info? te with
  | none => rw [hi] at h2; cases h2
  | some j => rw [hi] at h2; exact ⟨te, j, h1, hi, by simpa using h2⟩
section
variable {P : Program} {env : Env} {L : List Assn}
theorem run_eq_p {w : World} {kt : TypeId} (hk : TPKey P kt) (a b : Option Nat) (ha : ∀ x, a = some x → Cells w x) (hb : ∀ x, b = some x → Cells w x) : (Op.equal kt (pkv a) (pkv b)).run P w = .ok (decide (a = b)) w := by
  obtain ⟨te, j, h1, h2, h3⟩ := hk.ok
  have key : ∀ d : Nat, (Op.equalIn (d + 1) kt (pkv a) (pkv b)).run P w = .ok (decide (a = b)) w := fun d => by
    cases a with
    | none => cases b <;> simp [pkv, Op.equalIn, run_underlying h1]
    | some x =>
      cases b with
      | none => simp [pkv, Op.equalIn, run_underlying h1]
      | some y =>
        by_cases e : x = y
        · subst e
          simp [pkv, Op.equalIn, run_underlying h1, Go.sizeOf, Go.typeInfo, h2, run_sameAddr_same]
        · obtain ⟨ca, ta, hca⟩ := ha x rfl
          obtain ⟨cb, tb, hcb⟩ := hb y rfl
          have hne : (⟨x, 0, none⟩ : Addr) ≠ ⟨y, 0, none⟩ := fun q => e (Addr.mk.inj q).1
          simp [pkv, Op.equalIn, run_underlying h1, Go.sizeOf, Go.typeInfo, h2, h3, run_sameAddr_other w hne hca hcb, e]
  exact key 9999
theorem ask_place {w : World} {kt : TypeId} (hk : TPKey P kt) (a : Option Nat) (ha : ∀ x, a = some x → Cells w x) : ∀ (l : Ents (Option Nat)) (i : Nat), (∀ y ∈ l, ∀ x, y.1 = some x → Cells w x) →
    (mlook l a = none ∧ (Instr.findAsking kt (pkv a) (l.map (mke pkv)) i).run P w = .ok none w ∧ place l a = none) ∨ ∃ j v, mlook l a = some v ∧ (Instr.findAsking kt (pkv a) (l.map (mke pkv)) i).run P w = .ok (some (i + j, v)) w ∧ place l a = some j ∧ j < l.length ∧ (l[j]?).map (·.1) = some a
  | [], i, _ => .inl ⟨rfl, by simp [Instr.findAsking], rfl⟩
  | x :: l, i, hl => by
    have hr := run_eq_p (P := P) (w := w) hk a x.1 ha (hl x (.head _))
    by_cases h : x.1 = a
    · refine .inr ⟨0, x.2.1, by simp [mlook, h], ?_, by simp [place, h], by simp, by simp [h]⟩
      rw [decide_eq_true h.symm] at hr
      simp [Instr.findAsking, mke, hr]
    · rw [decide_eq_false (fun e => h e.symm)] at hr
      rcases ask_place hk a ha l (i + 1) (fun y hy => hl y (.tail _ hy)) with ⟨h1, h2, h3⟩ | ⟨j, v, h1, h2, h3, h4, h5⟩
      · refine .inl ⟨by simp [mlook, h, h1], ?_, by simp [place, h, h3]⟩
        simp [Instr.findAsking, mke, hr]
        exact h2
      · refine .inr ⟨j + 1, v, by simp [mlook, h, h1], ?_, by simp [place, h, h3], by simp [h4], by simpa using h5⟩
        rw [show i + (j + 1) = i + 1 + j by omega]
        simp [Instr.findAsking, mke, hr]
        exact h2
theorem find_p {w : World} {kt : TypeId} (hk : TPKey P kt) (a : Option Nat) (l : Ents (Option Nat)) : (Instr.findKey kt (pkv a) (l.map (mke pkv))).run P w = (Instr.findAsking kt (pkv a) (l.map (mke pkv)) 0).run P w := by
  obtain ⟨te, j, h1, _⟩ := hk.ok
  cases l with
  | nil => simp [Instr.findKey, run_underlying h1, Instr.findNow, Instr.findAsking]
  | cons x l => simp [Instr.findKey, run_underlying h1, Instr.findNow, Instr.sameNow, pkv, mke]
theorem check_p {w : World} {kt : TypeId} (hk : TPKey P kt) (a : Option Nat) (e : Bool) : (Instr.checkKey e 10000 kt (pkv a)).run P w = .ok () w := by
  obtain ⟨te, j, h1, _⟩ := hk.ok
  unfold Instr.checkKey
  simp [run_underlying h1, pkv]
theorem run_look_p {w : World} {t kt et b c : Nat} {l : Ents (Option Nat)} {z : Value} (hm : TMap P t kt et) (hk : TPKey P kt) (hz : (zeroValue et).run P w = .ok z w) (hb : w.heap[b]? = some (.map (l.map (mke pkv)).toArray c)) (a : Option Nat)
    (ha : ∀ x, a = some x → Cells w x) (hl : ∀ y ∈ l, ∀ x, y.1 = some x → Cells w x) (ok : Bool) :
    (Instr.lookup t (.map (some b)) (pkv a) ok).run P w = .ok (if ok then .tuple #[(mlook l a).getD z, .bool (mlook l a).isSome] else (mlook l a).getD z) w := by
  have hck := check_p (P := P) (w := w) hk a
  rcases ask_place (P := P) (w := w) hk a ha l 0 hl with ⟨h1, h2, _⟩ | ⟨j, v, h1, h2, _⟩
  · have hf := (find_p (P := P) (w := w) hk a l).trans h2
    rw [h1]
    cases ok <;> simp [Instr.lookup, run_underlying hm.und, run_getObj_map hb, hck, hf, hz, Result.andThen]
  · have hf := (find_p (P := P) (w := w) hk a l).trans h2
    rw [h1]
    cases ok <;> simp [Instr.lookup, run_underlying hm.und, run_getObj_map hb, hck, hf, Result.andThen]
theorem run_upd_p {w : World} {t kt et b c : Nat} {l : Ents (Option Nat)} (hm : TMap P t kt et) (hk : TPKey P kt) (hb : w.heap[b]? = some (.map (l.map (mke pkv)).toArray c)) (a : Option Nat) (v : Value)
    (ha : ∀ x, a = some x → Cells w x) (hl : ∀ y ∈ l, ∀ x, y.1 = some x → Cells w x) :
    (Instr.mapUpdate t (.map (some b)) (pkv a) v).run P w = .ok () { w with heap := w.heap.setIfInBounds b (.map ((upd l c a v).map (mke pkv)).toArray (updC l c a)) } := by
  have hck := check_p (P := P) (w := w) hk a
  rcases ask_place (P := P) (w := w) hk a ha l 0 hl with ⟨h1, h2, _⟩ | ⟨j, u, h1, h2, h3, h4, h5⟩
  · have hf := (find_p (P := P) (w := w) hk a l).trans h2
    have e := upd_new (kv := pkv) a c v l h1
    simp [Instr.mapUpdate, run_underlying hm.und, run_getObj_map hb, hck, hf, run_setObj_map _ hb, Result.andThen, updC, h1, e]
  · have hf := (find_p (P := P) (w := w) hk a l).trans h2
    have e := upd_at (kv := pkv) a c v l j h3
    have hkey : (Option.map ((fun x : MapEntry => x.key) ∘ mke pkv) l[j]?).getD (pkv a) = pkv a := by
      cases hx : l[j]? with
      | none => rfl
      | some x => rw [hx] at h5; simp only [Option.map_some, Option.some.injEq] at h5; simp [mke, h5]
    have hst : (Instr.keyThatStays (pkv a) (pkv a)).run P w = .ok (pkv a) w := by simp [Instr.keyThatStays, Instr.sameBits, pkv]
    simp only [Nat.zero_add] at hf
    simp [Instr.mapUpdate, run_underlying hm.und, run_getObj_map hb, hck, hf, run_setObj_map _ hb, Result.andThen, updC, h1, e, hkey, hst]
/-- all pointers in sight point to rows of cells -/
def PtrsOk (L : List Assn) (a : Option Nat) (l : Ents (Option Nat)) : Prop := ∀ {E : Ctx} {w : World}, H E w L → (∀ x, a = some x → Cells w x) ∧ ∀ y ∈ l, ∀ x, y.1 = some x → Cells w x
theorem rd_plook {t kt et b c : Nat} {l : Ents (Option Nat)} {z : Value} [hm : TMap P t kt et] [hk : TPKey P kt] [hz : TZv P et z] {m x : Operand} [hb : InM b L pkv l c] (a : Option Nat) (hx : evalE env m = some (.map (some b))) (hy : evalE env x = some (pkv a)) (hp : PtrsOk L a l) : Rd P env L (.lookup t m x false) ((mlook l a).getD z) := by
  intro ρ hρ dst ty pos af g E w hh
  obtain ⟨R, ht⟩ := hb.ok
  have hob := hh.one_get ht
  have hr := run_look_p hm hk (hz.run w) hob a (hp hh).1 (hp hh).2 false
  simp only [Bool.false_eq_true, if_false] at hr
  simp [execOp, hρ m _ hx, hρ x _ hy, hr]
theorem rd_plook2 {t kt et b c : Nat} {l : Ents (Option Nat)} {z : Value} [hm : TMap P t kt et] [hk : TPKey P kt] [hz : TZv P et z] {m x : Operand} [hb : InM b L pkv l c] (a : Option Nat) (hx : evalE env m = some (.map (some b))) (hy : evalE env x = some (pkv a)) (hp : PtrsOk L a l) :
    Rd P env L (.lookup t m x true) (.tuple #[(mlook l a).getD z, .bool (mlook l a).isSome]) := by
  intro ρ hρ dst ty pos af g E w hh
  obtain ⟨R, ht⟩ := hb.ok
  have hob := hh.one_get ht
  have hr := run_look_p hm hk (hz.run w) hob a (hp hh).1 (hp hh).2 true
  simp only [if_true] at hr
  simp [execOp, hρ m _ hx, hρ x _ hy, hr]
theorem ef_pupd {t kt et b c : Nat} {l : Ents (Option Nat)} {R : List Assn} [hm : TMap P t kt et] [hk : TPKey P kt] {m x y : Operand} (a : Option Nat) {v : Value} (hx : evalE env m = some (.map (some b))) (hy : evalE env x = some (pkv a)) (hv : evalE env y = some v) (hL : Split L [mpe b pkv l c] R) (hp : PtrsOk L a l) :
    Ef P env L (.mapUpdate t m x y) (fun k => k undef (mpe b pkv (upd l c a v) (updC l c a) :: R)) := by
  intro ro dst tt pos af g N E a' w next Q k hf hh hk' hn
  have hpp := hp hh
  have h2 := hh.ent hL.ent
  have hob := h2.one_get .here
  have hu := run_upd_p hm hk hob a v hpp.1 hpp.2
  have hlt : b < w.heap.size := (Array.getElem?_eq_some_iff.1 hob).1
  have hrun : (execOp a'.eval ⟨dst, .mapUpdate t m x y, tt, pos, af, g⟩).run P w = .ok .skip { w with heap := w.heap.setIfInBounds b (.map ((upd l c a v).map (mke pkv)).toArray (updC l c a)) } := by
    simp [execOp, hf.ev m _ hx, hf.ev x _ hy, hf.ev y _ hv, hu]
  refine wpIn_skip_op hrun (hn undef _ _ hk' (h2.upd (b := b) .here _ rfl rfl rfl (by simp) ?_ ?_))
  · simp [hlt]
  · intro k hne
    simp [Ne.symm hne]
theorem ef_pins {t kt et b c : Nat} {l : Ents (Option Nat)} {R : List Assn} [hm : TMap P t kt et] [hk : TPKey P kt] {m x y : Operand} (a : Option Nat) {v : Value} (hx : evalE env m = some (.map (some b))) (hy : evalE env x = some (pkv a)) (hv : evalE env y = some v) (hL : Split L [mpe b pkv l c] R) (hp : PtrsOk L a l) :
    Ef P env L (.insert t m x y) (fun k => k undef (mpe b pkv (upd l c a v) (updC l c a) :: R)) := by
  intro ro dst tt pos af g N E a' w next Q k hf hh hk' hn
  have hpp := hp hh
  have h2 := hh.ent hL.ent
  have hob := h2.one_get .here
  have hu := run_upd_p hm hk hob a v hpp.1 hpp.2
  have hlt : b < w.heap.size := (Array.getElem?_eq_some_iff.1 hob).1
  have hrun : (execOp a'.eval ⟨dst, .insert t m x y, tt, pos, af, g⟩).run P w = .ok .skip { w with heap := w.heap.setIfInBounds b (.map ((upd l c a v).map (mke pkv)).toArray (updC l c a)) } := by
    simp [execOp, hf.ev m _ hx, hf.ev x _ hy, hf.ev y _ hv, hu]
  refine wpIn_skip_op hrun (hn undef _ _ hk' (h2.upd (b := b) .here _ rfl rfl rfl (by simp) ?_ ?_))
  · simp [hlt]
  · intro k hne
    simp [Ne.symm hne]
end
end SX
namespace SX
open Go
def Real (r : Rc) : Prop := r.f.safe ≤ r.f.bytes.length
/-- no record -/
def gst : Rc := ⟨0, .bool false, ⟨[], 1⟩⟩
theorem gst_no : ¬ Real gst := by unfold Real gst; decide
structure Cop (rs rs' : List Rc) (l : Ents (Option Nat)) : Prop where
  len : rs'.length = rs.length
  nil : mlook l none = some (.pointer none)
  keys : ∀ y ∈ l, ∀ x, y.1 = some x → ∃ (k : Nat) (r : Rc), rs[k]? = some r ∧ Real r ∧ r.a = x
  at_ : ∀ (k : Nat) (r : Rc), rs[k]? = some r → Real r → (mlook l (some r.a) = none ∧ rs'[k]? = some gst) ∨ ∃ r', rs'[k]? = some r' ∧ Real r' ∧ r'.f = r.f ∧ mlook l (some r.a) = some (.pointer (some ⟨r'.a, 0, none⟩))
/-- records have places of their own -/
def Dist (rs : List Rc) : Prop := ∀ (j k : Nat) (r s : Rc), rs[j]? = some r → rs[k]? = some s → Real r → Real s → r.a = s.a → j = k
/-- what is there stays -/
def Grown (rs rs' : List Rc) : Prop := ∀ (k : Nat) (r : Rc), rs[k]? = some r → Real r → rs'[k]? = some r
theorem Grown.refl (rs : List Rc) : Grown rs rs := fun _ _ h _ => h
theorem Grown.trans {a b c : List Rc} (h : Grown a b) (k : Grown b c) : Grown a c := fun i r h1 h2 => k i r (h i r h1 h2) h2
theorem upd_mem {κ : Type} [DecidableEq κ] {a : κ} {v : Value} {c : Nat} {x : κ × Value × Nat} : ∀ {l : Ents κ}, x ∈ upd l c a v → x.1 = a ∨ ∃ y ∈ l, y.1 = x.1
  | [], h => by
    have : x = (a, v, c) := by simpa [upd] using h
    exact .inl (by rw [this])
  | y :: l, h => by
    unfold upd at h
    by_cases e : y.1 = a
    · rw [if_pos e] at h
      rcases List.mem_cons.1 h with h | h
      · exact .inl (by rw [h]; exact e)
      · exact .inr ⟨x, .tail _ h, rfl⟩
    · rw [if_neg e] at h
      rcases List.mem_cons.1 h with h | h
      · exact .inr ⟨y, .head _, by rw [h]⟩
      · rcases upd_mem h with h | ⟨z, h1, h2⟩
        · exact .inl h
        · exact .inr ⟨z, .tail _ h1, h2⟩
theorem Cop.start (rs : List Rc) (c : Nat) : Cop rs (List.replicate rs.length gst) [(none, .pointer none, c)] where
  len := List.length_replicate
  nil := rfl
  keys := fun y hy x hx => by
    rw [List.mem_singleton.1 hy] at hx; cases hx
  at_ := fun k r hk _ => .inl ⟨rfl, by rw [List.getElem?_replicate, if_pos (List.getElem?_eq_some_iff.1 hk).1]⟩
theorem Cop.step_keys {rs rs' : List Rc} {l : Ents (Option Nat)} (h : Cop rs rs' l) {k : Nat} {r : Rc} (hk : rs[k]? = some r) (hr : Real r) {c : Nat} {v : Value} : ∀ y ∈ upd l c (some r.a) v, ∀ x, y.1 = some x → ∃ (k : Nat) (r : Rc), rs[k]? = some r ∧ Real r ∧ r.a = x := fun y hy x hx => by
  rcases upd_mem hy with e | ⟨z, hz, e⟩
  · rw [e] at hx; exact ⟨k, r, hk, hr, Option.some.inj hx⟩
  · exact h.keys z hz x (by rw [e]; exact hx)
theorem Cop.step {rs rs' : List Rc} {l : Ents (Option Nat)} (h : Cop rs rs' l) (hd : Dist rs) {k : Nat} {r r2 : Rc} (hk : rs[k]? = some r) (hr : Real r) (h2 : Real r2) (hf : r2.f = r.f) (c : Nat) :
    Cop rs (rs'.set k r2) (upd l c (some r.a) (.pointer (some ⟨r2.a, 0, none⟩))) where
  len := by rw [List.length_set]; exact h.len
  nil := by rw [mlook_upd, if_neg (by simp)]; exact h.nil
  keys := fun y hy x hx => by
    rcases upd_mem hy with e | ⟨z, hz, e⟩
    · rw [e] at hx; exact ⟨k, r, hk, hr, Option.some.inj hx⟩
    · exact h.keys z hz x (by rw [e]; exact hx)
  at_ := fun j s hj hs => by
    rw [mlook_upd]
    by_cases e : j = k
    · subst e
      rw [hk] at hj; cases hj
      refine .inr ⟨r2, List.getElem?_set_self (by rw [h.len]; exact (List.getElem?_eq_some_iff.1 hk).1), h2, hf, by rw [if_pos rfl]⟩
    · rw [if_neg (fun q => e (hd j k s r hj hk hs hr (Option.some.inj q).symm)), List.getElem?_set_ne (Ne.symm e)]
      exact h.at_ j s hj hs
theorem Grown.set {rs' : List Rc} {k : Nat} (hk : rs'[k]? = some gst) (r2 : Rc) : Grown rs' (rs'.set k r2) := fun j r hj hr => by
  by_cases e : k = j
  · subst e; rw [hk] at hj; cases hj; exact absurd hr gst_no
  · rw [List.getElem?_set_ne e]; exact hj
end SX
namespace SX
open Go
theorem Grown.adr {rs rs2 : List Rc} (g : Grown rs rs2) {k : Nat} {r : Rc} (h : rs[k]? = some r) (hr : Real r) : adr rs2 k = adr rs k := by
  rw [adr_at h, adr_at (g k r h hr)]
/-- a file that is there -/
def There (d : Dk) (rs : List Rc) (k : Nat) : Prop := ∃ r, rs[k]? = some r ∧ Real r ∧ r.f = d.fl k
theorem There.grow {d : Dk} {rs rs2 : List Rc} {k : Nat} (h : There d rs k) (g : Grown rs rs2) : There d rs2 k := by
  obtain ⟨r, h1, h2, h3⟩ := h
  exact ⟨r, g k r h1 h2, h2, h3⟩
open Classical in
structure Half (d : Dk) (l : List Nm) (dn : List ByteArray) (es : Ents ByteArray) (rs : List Rc) : Prop where
  keys : (es.map (·.1)).Nodup
  look : ∀ s, mlook es s = if s ∈ dn then (findN l s).map (adr rs) else none
  real : ∀ s ∈ dn, ∀ k, findN l s = some k → There d rs k
theorem Half.start (d : Dk) (l : List Nm) (rs : List Rc) : Half d l [] [] rs := ⟨List.nodup_nil, fun s => by rw [if_neg (by simp)]; rfl, fun _ h => by cases h⟩
theorem Half.grow {d : Dk} {l : List Nm} {dn : List ByteArray} {es : Ents ByteArray} {rs rs2 : List Rc} (h : Half d l dn es rs) (g : Grown rs rs2) : Half d l dn es rs2 where
  keys := h.keys
  look := fun s => by
    rw [h.look]
    by_cases hs : s ∈ dn
    · rw [if_pos hs, if_pos hs]
      cases hf : findN l s with
      | none => rfl
      | some k =>
        obtain ⟨r, h1, h2, _⟩ := h.real s hs k hf
        rw [Option.map_some, Option.map_some, g.adr h1 h2]
    · rw [if_neg hs, if_neg hs]
  real := fun s hs k hf => (h.real s hs k hf).grow g
theorem Half.step {d : Dk} {l : List Nm} {dn : List ByteArray} {es : Ents ByteArray} {rs : List Rc} (h : Half d l dn es rs) {s : ByteArray} {k : Nat} (hf : findN l s = some k) {r : Rc} (h1 : rs[k]? = some r) (h2 : Real r) (h3 : r.f = d.fl k) (c : Nat) :
    Half d l (dn ++ [s]) (upd es c s (.pointer (some ⟨r.a, 0, none⟩))) rs where
  keys := upd_keys h.keys c s _
  look := fun t => by
    rw [mlook_upd, h.look]
    by_cases e : s = t
    · subst e
      rw [if_pos rfl, if_pos (by simp), hf, Option.map_some, adr_at h1]
    · rw [if_neg e]
      by_cases ht : t ∈ dn
      · rw [if_pos ht, if_pos (List.mem_append_left _ ht)]
      · rw [if_neg ht, if_neg (fun q => by
          rcases List.mem_append.1 q with q | q
          · exact ht q
          · exact e (List.mem_singleton.1 q).symm)]
  real := fun t ht j hj => by
    rcases List.mem_append.1 ht with q | q
    · exact h.real t q j hj
    · rw [List.mem_singleton.1 q, hf] at hj
      cases hj
      exact ⟨r, h1, h2, h3⟩
theorem Half.fin {d : Dk} {l : List Nm} {dn : List ByteArray} {es : Ents ByteArray} {rs : List Rc} (h : Half d l dn es rs) (ha : ∀ (s : ByteArray) (k : Nat), findN l s = some k → s ∈ dn) : NmRel es l rs :=
  ⟨h.keys, fun s => by
    rw [h.look]
    cases hf : findN l s with
    | none => rw [Option.map_none]; split <;> rfl
    | some k => rw [if_pos (ha s k hf)]⟩
structure PHalf (d : Dk) (ps : List Pc) (rs : List Rc) (i : Nat) : Prop where
  len : ps.length = i
  rel : ∀ (j : Nat) (p : Pc) (c : Cg), ps[j]? = some p → d.pend[j]? = some c → PcRel rs p c ∧ (strEq c.come nos = false → There d rs c.file)
theorem PHalf.start (d : Dk) (rs : List Rc) : PHalf d [] rs 0 := ⟨rfl, fun _ _ _ h => by cases h⟩
theorem PHalf.grow {d : Dk} {ps : List Pc} {rs rs2 : List Rc} {i : Nat} (h : PHalf d ps rs i) (g : Grown rs rs2) : PHalf d ps rs2 i :=
  ⟨h.len, fun j p c hp hc => by
    obtain ⟨⟨h1, h2, h3⟩, h4⟩ := h.rel j p c hp hc
    refine ⟨⟨h1, h2, ?_⟩, fun e => (h4 e).grow g⟩
    rw [h3]
    by_cases e : strEq c.come nos = true
    · rw [if_pos e, if_pos e]
    · rw [if_neg e, if_neg e]
      obtain ⟨r, k1, k2, _⟩ := h4 (by simpa using e)
      rw [g.adr k1 k2]⟩
theorem PHalf.step {d : Dk} {ps : List Pc} {rs : List Rc} {i : Nat} (h : PHalf d ps rs i) {p : Pc} {c : Cg} (hc : d.pend[i]? = some c) (h1 : PcRel rs p c) (h2 : strEq c.come nos = false → There d rs c.file) : PHalf d (ps ++ [p]) rs (i + 1) :=
  ⟨by rw [List.length_append, h.len]; rfl, fun j q e hq he => by
    by_cases hj : j < ps.length
    · rw [List.getElem?_append_left hj] at hq; exact h.rel j q e hq he
    · have hlt := (List.getElem?_eq_some_iff.1 hq).1
      rw [List.length_append, List.length_singleton] at hlt
      have e1 : j = ps.length := by omega
      subst e1
      rw [List.getElem?_concat_length] at hq
      rw [h.len, hc] at he
      cases hq; cases he
      exact ⟨h1, h2⟩⟩
theorem nmr_at {es : Ents ByteArray} {l : List Nm} {rs : List Rc} (h : NmRel es l rs) {y : ByteArray × Value × Nat} (hy : y ∈ es) : ∃ k, findN l y.1 = some k ∧ y.2.1 = adr rs k := by
  have h1 := mlook_of h.keys hy
  rw [h.look] at h1
  obtain ⟨k, h2, h3⟩ := Option.map_eq_some_iff.1 h1
  exact ⟨k, h2, h3.symm⟩
theorem nmr_all {es dn : Ents ByteArray} {l : List Nm} {rs : List Rc} (h : NmRel es l rs) (hp : dn.Perm es) : ∀ (s : ByteArray) (k : Nat), findN l s = some k → s ∈ dn.map (·.1) := fun s k hf => by
  have h1 : mlook es s = some (adr rs k) := by rw [h.look, hf]; rfl
  have h2 := mlook_mem h1
  obtain ⟨x, hx, e⟩ := List.mem_map.1 h2
  exact List.mem_map.2 ⟨x, hp.mem_iff.2 hx, (Prod.mk.inj e).1⟩
end SX
namespace SX
open Go Go.ChangeShapes Go.WideShapes Go.ChangeAt Go.RowKit
variable {P : Program} {W : World} {H0 : Type} {enc : TypeId × Value → H0}
/-- a list of calls as it is handed over -/
def OpsR (W : World) (xs : List OpA) (d : DataW H0) : Prop := (d = .nil ∧ xs = []) ∨ ∃ (Ds sp : List (DataW H0)), d = .slice Ds sp ∧ Ds.length = xs.length ∧ ∀ (i : Nat) (o : OpA) (D : DataW H0), xs[i]? = some o → Ds[i]? = some D → OpR W o D
theorem trod_ops {q t t8 ts ti tf tk : TypeId} (hT : OpT P t t8 ts ti tf tk) (hq : P.underlying q = some (.slice t)) {v : Value} {fuel : Nat} {d : DataW H0} {ps : List MemPlace} (hf : DataW.trod enc P W 0 (fun _ => true) true fuel q [v] = some (d, ps)) :
    ∃ xs : List OpA, Row (fun b => W.heap[b]?) v 7 xs.length (xs.flatMap ocs) ∧ (∀ o ∈ xs, OpOk (fun b => W.heap[b]?) o) ∧ OpsR W xs d := by
  obtain ⟨v', xs, hcs, hrow, hd⟩ := trod_slice (f := ocs) (by decide) ocs_len (OpR W) hq hT.c.1 (fun fuel cs D Pl h => trod_op hT h) hf
  simp only [List.cons.injEq, and_true] at hcs
  subst hcs
  refine ⟨xs, hrow, fun o ho => ?_, hd⟩
  rcases hd with ⟨_, rfl⟩ | ⟨Ds, sp, h1, h2, h3⟩
  · cases ho
  · obtain ⟨i, hi⟩ := List.getElem?_of_mem ho
    have hlt := (List.getElem?_eq_some_iff.1 hi).1
    exact (h3 i o Ds[i] hi (List.getElem?_eq_getElem (by omega))).1
theorem arg_opss {a q t t8 ts ti tf tk : TypeId} (hT : OpT P t t8 ts ti tf tk) (hq : P.underlying q = some (.slice t)) (ha : P.underlying a = some (.array 2 q)) (cq : P.cellsOf q = 1) (ca : P.cellsOf a = 2) {v : Value} {d : DataW H0} {ps : List MemPlace} {r : Go.Reach} {b0 : Nat}
    (hv : Value.okWide P W r b0 a v) (h : DataW.Trod enc P W 0 (fun _ => true) true a v d ps) :
    ∃ (v1 v2 : Value) (xs ys : List OpA) (d1 d2 : DataW H0), v = .agg #[v1, v2] ∧ d = .agg [d1, d2] ∧ Row (fun b => W.heap[b]?) v1 7 xs.length (xs.flatMap ocs) ∧ (∀ o ∈ xs, OpOk (fun b => W.heap[b]?) o) ∧ OpsR W xs d1 ∧
      Row (fun b => W.heap[b]?) v2 7 ys.length (ys.flatMap ocs) ∧ (∀ o ∈ ys, OpOk (fun b => W.heap[b]?) o) ∧ OpsR W ys d2 := by
  unfold Value.okWide at hv
  rw [ha] at hv
  obtain ⟨cs, rfl, hcs, _⟩ := hv
  obtain ⟨fuel, hf⟩ := h
  obtain ⟨xs, m, _, hx, hlen, hxn, hel⟩ := DataW.trod_array ha hf
  have hl2 : cs.toList.length = 2 := by rw [Array.length_toList, hcs, ca]
  obtain ⟨cs⟩ := cs
  match cs, hl2 with
  | [x, y], _ =>
    have h0 := hel 0 (by omega)
    have h1 := hel 1 (by omega)
    match xs, hxn with
    | [z0, z1], _ =>
      rw [cq] at h0 h1
      obtain ⟨xs, k1, k2, k3⟩ := trod_ops (v := x) hT hq (d := z0.1) (ps := z0.2) h0
      obtain ⟨ys, j1, j2, j3⟩ := trod_ops (v := y) hT hq (d := z1.1) (ps := z1.2) h1
      exact ⟨x, y, xs, ys, z0.1, z1.1, rfl, (Prod.mk.inj hx).1, k1, k2, k3, j1, j2, j3⟩
end SX
namespace SX
open Go Go.ChangeShapes
section
variable {H : Type} {enc : TypeId × Value → H}
theorem returns_sized {a : Assume} {C : Checked} {os : Os} {f : FuncId} {fn : Func} {s : ChangeSpec} {conds : List PathCond} {apart fresh handsOn again : Bool}
    (own : ownKnob C.prog.godebug = none) (started : os.Started) (noInit : C.prog.inits.idxOf? f = none) (hfn : C.prog.funcs[f]? = some fn)
    (witness : ∃ (w : World) (tape : Tape) (i : Input), w.os = os ∧ (w.forCall tape i).Shaped C.prog ∧ i.vars = [] ∧ Input.okWide C.prog (w.forCall tape i) .any w.heap.size f i ∧
      s.pre6 enc C.prog fn conds apart (w.forCall tape i).memory i.args ∧ a.holds C.prog (lone (Frame.enter C.prog f i.args .normal) [] (w.forCall tape i)))
    (contract : ∀ (W : World) (base : Nat) (args : Array Value) (ds gs : List (DataW H)) (before : List MemPlace),
      (∀ (j : Nat) t v, fn.params[j]? = some t → args[j]? = some v → Value.okWide C.prog W .any base t v) →
      DataW.Whole enc C.prog fn.params.toList s.vars apart W args.toList ds gs before →
      (DataW.weightsEach C.prog (fn.params.toList ++ s.plain.varTypes C.prog) (ds ++ gs)).all (· ≤ reachBytes) = true →
      Calls C.prog f args W fun e W' => ∃ v, e = .returned v ∧ s.post enc C.prog fn apart fresh handsOn again W args v W') :
    ReturnsInHanded a C os f .any (s.pre6 enc C.prog fn conds apart) (s.post enc C.prog fn apart fresh handsOn again) := by
  refine returnsInHanded_of_calls own started noInit witness ?_
  intro w tape i _ _ _ hok hpre _
  obtain ⟨_, _, _, fn', hfn', _, _, _, _, hval⟩ := hok
  have e : fn' = fn := Option.some.inj (hfn'.symm.trans hfn)
  subst e
  obtain ⟨⟨ds, gs, before, hw, _⟩, hz⟩ := hpre
  have hw' := DataW.Whole.of_heap (w' := w.forCall tape i) (by rfl) hw
  refine (contract (w.forCall tape i) w.heap.size i.args ds gs before hval hw' (hz.weights hw)).mono fun e W' ⟨v, he, hp⟩ => ?_
  subst he
  exact ChangeSpec.post_blind hp
end
section
variable {H : Type} {P : Program}
theorem weights_at : ∀ {ts : List TypeId} {ds : List (DataW H)} {i : Nat} {t : TypeId} {d : DataW H}, ts[i]? = some t → ds[i]? = some d → (DataW.weightsEach P ts ds).all (· ≤ reachBytes) = true → (d.weights P t).all (· ≤ reachBytes) = true
  | t0 :: ts, d0 :: ds, 0, t, d, ht, hd, h => by
    obtain rfl := Option.some.inj ht
    obtain rfl := Option.some.inj hd
    rw [DataW.weightsEach, List.all_append, Bool.and_eq_true] at h
    exact h.1
  | t0 :: ts, d0 :: ds, i + 1, t, d, ht, hd, h => by
    rw [DataW.weightsEach, List.all_append, Bool.and_eq_true] at h
    exact weights_at (i := i) (by simpa using ht) (by simpa using hd) h.2
theorem weights_in {e : TypeId} : ∀ {ds : List (DataW H)} {d : DataW H}, d ∈ ds → (DataW.weightsAll P e ds).all (· ≤ reachBytes) = true → (d.weights P e).all (· ≤ reachBytes) = true
  | x :: ds, d, hd, h => by
    rw [DataW.weightsAll, List.all_append, Bool.and_eq_true] at h
    rcases List.mem_cons.1 hd with rfl | hd
    · exact h.1
    · exact weights_in hd h.2
end
end SX
namespace SX
open Go Go.ChangeShapes
variable {H : Type} {P : Program}
theorem slice_in {t e : TypeId} (ht : P.underlying t = some (.slice e)) {Ds sp : List (DataW H)} (h : ((DataW.slice Ds sp : DataW H).weights P t).all (· ≤ reachBytes) = true) : (DataW.weightsAll P e Ds).all (· ≤ reachBytes) = true := by
  rw [DataW.weights, ht] at h
  dsimp only at h
  rw [List.all_cons, List.all_append, Bool.and_eq_true, Bool.and_eq_true] at h
  exact h.2.1
theorem array_in {t e : TypeId} {n : Nat} (ht : P.underlying t = some (.array n e)) {l : List (DataW H)} {d : DataW H} (hd : d ∈ l) (h : ((DataW.agg l : DataW H).weights P t).all (· ≤ reachBytes) = true) : (d.weights P e).all (· ≤ reachBytes) = true := by
  rw [DataW.weights, ht] at h
  exact weights_in hd h
theorem op_sized {W : World} {t t8 ts ti tf tk : TypeId} (hT : OpT P t t8 ts ti tf tk) {o : OpA} {D : DataW H} (hd : OpR W o D) (h : (D.weights P t).all (· ≤ reachBytes) = true) : o.text.size ≤ 140737488351232 := by
  obtain ⟨_, a0, a1, a2, a4, a5, rfl⟩ := hd
  obtain ⟨f0, f1, f2, f3, f4, f5, _, _, hS, _⟩ := hT.ok
  rw [DataW.weights, hS] at h
  have h1 := weights_at (i := 3) (t := f3.type) (d := .lit (.string o.text.data.toList)) rfl rfl h
  rw [DataW.weights, List.all_cons, Bool.and_eq_true] at h1
  have h2 : o.text.data.toList.length ≤ reachBytes := of_decide_eq_true h1.1
  have h3 : o.text.data.toList.length = o.text.size := by rw [Array.length_toList]; rfl
  have h4 : reachBytes = 140737488351232 := rfl
  omega
theorem ops_sized {W : World} {q t t8 ts ti tf tk : TypeId} (hT : OpT P t t8 ts ti tf tk) (hq : P.underlying q = some (.slice t)) {xs : List OpA} {d : DataW H} (h : (d.weights P q).all (· ≤ reachBytes) = true) (hd : OpsR W xs d) : ∀ o ∈ xs, o.text.size ≤ 140737488351232 := by
  rcases hd with ⟨_, rfl⟩ | ⟨Ds, sp, rfl, hl, hr⟩
  · exact fun x hx => by cases hx
  · intro o ho
    obtain ⟨j, hj⟩ := List.getElem?_of_mem ho
    obtain ⟨D, hD⟩ : ∃ D, Ds[j]? = some D := ⟨_, List.getElem?_eq_getElem (by rw [hl]; exact (List.getElem?_eq_some_iff.1 hj).1)⟩
    exact op_sized hT (hr j o D hj hD) (weights_in (List.mem_of_getElem? hD) (slice_in hq h))
end SX
namespace SX
open Go Go.Proofs
instance : Body Try.prog 2 := ⟨_, Try.func2, rfl, by decide⟩
instance : Body Try.prog 3 := ⟨_, Try.func3, rfl, by decide⟩
instance : Body Try.prog 4 := ⟨_, Try.func4, rfl, by decide⟩
instance : Body Try.prog 5 := ⟨_, Try.func5, rfl, by decide⟩
instance : Body Try.prog 6 := ⟨_, Try.func6, rfl, by decide⟩
instance : Body Try.prog 7 := ⟨_, Try.func7, rfl, by decide⟩
instance : Body Try.prog 8 := ⟨_, Try.func8, rfl, by decide⟩
instance : Body Try.prog 9 := ⟨_, Try.func9, rfl, by decide⟩
instance : Body Try.prog 10 := ⟨_, Try.func10, rfl, by decide⟩
instance : Body Try.prog 11 := ⟨_, Try.func11, rfl, by decide⟩
instance : Body Try.prog 12 := ⟨_, Try.func12, rfl, by decide⟩
instance : Body Try.prog 13 := ⟨_, Try.func13, rfl, by decide⟩
instance : Body Try.prog 14 := ⟨_, Try.func14, rfl, by decide⟩
instance : Body Try.prog 15 := ⟨_, Try.func15, rfl, by decide⟩
instance : Body Try.prog 16 := ⟨_, Try.func16, rfl, by decide⟩
instance : Body Try.prog 17 := ⟨_, Try.func17, rfl, by decide⟩
instance : Body Try.prog 18 := ⟨_, Try.func18, rfl, by decide⟩
instance : Body Try.prog 19 := ⟨_, Try.func19, rfl, by decide⟩
instance : Body Try.prog 20 := ⟨_, Try.func20, rfl, by decide⟩
instance : Body Try.prog 21 := ⟨_, Try.func21, rfl, by decide⟩
instance : Body Try.prog 22 := ⟨_, Try.func22, rfl, by decide⟩
instance : Body Try.prog 23 := ⟨_, Try.func23, rfl, by decide⟩
instance : Body Try.prog 24 := ⟨_, Try.func24, rfl, by decide⟩
instance : Body Try.prog 25 := ⟨_, Try.func25, rfl, by decide⟩
instance : Body Try.prog 26 := ⟨_, Try.func26, rfl, by decide⟩
instance : Body Try.prog 27 := ⟨_, Try.func27, rfl, by decide⟩
instance : Body Try.prog 28 := ⟨_, Try.func28, rfl, by decide⟩
instance : Body Try.prog 29 := ⟨_, Try.func29, rfl, by decide⟩
instance : Body Try.prog 30 := ⟨_, Try.func30, rfl, by decide⟩
instance : Body Try.prog 31 := ⟨_, Try.func31, rfl, by decide⟩
instance : Body Try.prog 32 := ⟨_, Try.func32, rfl, by decide⟩
instance : Body Try.prog 33 := ⟨_, Try.func33, rfl, by decide⟩
instance : Body Try.prog 34 := ⟨_, Try.func34, rfl, by decide⟩
instance : Body Try.prog 35 := ⟨_, Try.func35, rfl, by decide⟩
instance : Body Try.prog 36 := ⟨_, Try.func36, rfl, by decide⟩
instance : Body Try.prog 37 := ⟨_, Try.func37, rfl, by decide⟩
instance : Body Try.prog 38 := ⟨_, Try.func38, rfl, by decide⟩
instance : Body Try.prog 39 := ⟨_, Try.func39, rfl, by decide⟩
instance : Body Try.prog 40 := ⟨_, Try.func40, rfl, by decide⟩
instance : Body Try.prog 41 := ⟨_, Try.func41, rfl, by decide⟩
instance : Body Try.prog 42 := ⟨_, Try.func42, rfl, by decide⟩
instance : Body Try.prog 43 := ⟨_, Try.func43, rfl, by decide⟩
instance : Body Try.prog 44 := ⟨_, Try.func44, rfl, by decide⟩
instance : Body Try.prog 45 := ⟨_, Try.func45, rfl, by decide⟩
instance : Body Try.prog 46 := ⟨_, Try.func46, rfl, by decide⟩
instance : Body Try.prog 47 := ⟨_, Try.func47, rfl, by decide⟩
instance : Body Try.prog 48 := ⟨_, Try.func48, rfl, by decide⟩
instance : Body Try.prog 49 := ⟨_, Try.func49, rfl, by decide⟩
instance : Body Try.prog 50 := ⟨_, Try.func50, rfl, by decide⟩
instance : Body Try.prog 51 := ⟨_, Try.func51, rfl, by decide⟩
instance : Body Try.prog 52 := ⟨_, Try.func52, rfl, by decide⟩
instance : Body Try.prog 53 := ⟨_, Try.func53, rfl, by decide⟩
instance : Body Try.prog 54 := ⟨_, Try.func54, rfl, by decide⟩
instance : Body Try.prog 55 := ⟨_, Try.func55, rfl, by decide⟩
instance : Body Try.prog 56 := ⟨_, Try.func56, rfl, by decide⟩
instance : Body Try.prog 57 := ⟨_, Try.func57, rfl, by decide⟩
instance : Body Try.prog 58 := ⟨_, Try.func58, rfl, by decide⟩
instance : Body Try.prog 59 := ⟨_, Try.func59, rfl, by decide⟩
instance : Body Try.prog 60 := ⟨_, Try.func60, rfl, by decide⟩
instance : Body Try.prog 61 := ⟨_, Try.func61, rfl, by decide⟩
instance : Body Try.prog 62 := ⟨_, Try.func62, rfl, by decide⟩
instance : Body Try.prog 63 := ⟨_, Try.func63, rfl, by decide⟩
instance : Body Try.prog 64 := ⟨_, Try.func64, rfl, by decide⟩
instance : Body Try.prog 65 := ⟨_, Try.func65, rfl, by decide⟩
instance : Body Try.prog 66 := ⟨_, Try.func66, rfl, by decide⟩
instance : Body Try.prog 68 := ⟨_, Try.func68, rfl, by decide⟩
instance : Body Try.prog 69 := ⟨_, Try.func69, rfl, by decide⟩
instance : Body Try.prog 70 := ⟨_, Try.func70, rfl, by decide⟩
instance : Body Try.prog 71 := ⟨_, Try.func71, rfl, by decide⟩
instance : Body Try.prog 72 := ⟨_, Try.func72, rfl, by decide⟩
instance : Body Try.prog 73 := ⟨_, Try.func73, rfl, by decide⟩
instance : Body Try.prog 74 := ⟨_, Try.func74, rfl, by decide⟩
instance : Body Try.prog 75 := ⟨_, Try.func75, rfl, by decide⟩
instance : Body Try.prog 76 := ⟨_, Try.func76, rfl, by decide⟩
instance : Body Try.prog 77 := ⟨_, Try.func77, rfl, by decide⟩
instance : Body Try.prog 78 := ⟨_, Try.func78, rfl, by decide⟩
instance : Body Try.prog 79 := ⟨_, Try.func79, rfl, by decide⟩
instance : Body Try.prog 80 := ⟨_, Try.func80, rfl, by decide⟩
instance : Body Try.prog 81 := ⟨_, Try.func81, rfl, by decide⟩
instance : Body Try.prog 82 := ⟨_, Try.func82, rfl, by decide⟩
instance : Body Try.prog 83 := ⟨_, Try.func83, rfl, by decide⟩
instance : Body Try.prog 84 := ⟨_, Try.func84, rfl, by decide⟩
instance : Body Try.prog 85 := ⟨_, Try.func85, rfl, by decide⟩
instance : Body Try.prog 86 := ⟨_, Try.func86, rfl, by decide⟩
instance : Body Try.prog 87 := ⟨_, Try.func87, rfl, by decide⟩
instance : Body Try.prog 88 := ⟨_, Try.func88, rfl, by decide⟩
instance : Body Try.prog 89 := ⟨_, Try.func89, rfl, by decide⟩
instance : Body Try.prog 90 := ⟨_, Try.func90, rfl, by decide⟩
instance : Body Try.prog 91 := ⟨_, Try.func91, rfl, by decide⟩
instance : Body Try.prog 92 := ⟨_, Try.func92, rfl, by decide⟩
instance : Body Try.prog 93 := ⟨_, Try.func93, rfl, by decide⟩
instance : TOne Try.prog 1 := ⟨by kernel_rfl, by kernel_rfl⟩
instance : TZero Try.prog 1 [.nilFunc] := ⟨by kernel_rfl⟩
instance : TFn Try.prog 1 := ⟨_, _, _, Try.underlying1⟩
instance : TConc Try.prog 1 := ⟨_, Try.underlying1, rfl⟩
instance : TOne Try.prog 3 := ⟨by kernel_rfl, by kernel_rfl⟩
instance : TZero Try.prog 3 [(.int .i64 0)] := ⟨by kernel_rfl⟩
instance : TInt Try.prog 3 .i64 := ⟨Try.underlying3⟩
instance : TConc Try.prog 3 := ⟨_, Try.underlying3, rfl⟩
instance : TOne Try.prog 4 := ⟨by kernel_rfl, by kernel_rfl⟩
instance : TZero Try.prog 4 [(.bool false)] := ⟨by kernel_rfl⟩
instance : TBool Try.prog 4 := ⟨Try.underlying4⟩
instance : TConc Try.prog 4 := ⟨_, Try.underlying4, rfl⟩
instance : TOne Try.prog 5 := ⟨by kernel_rfl, by kernel_rfl⟩
instance : TZero Try.prog 5 [(.int .u8 0)] := ⟨by kernel_rfl⟩
instance : TInt Try.prog 5 .u8 := ⟨Try.underlying5⟩
instance : TConc Try.prog 5 := ⟨_, Try.underlying5, rfl⟩
instance : TOne Try.prog 9 := ⟨by kernel_rfl, by kernel_rfl⟩
instance : TZero Try.prog 9 [(.string ⟨#[]⟩)] := ⟨by kernel_rfl⟩
instance : TStr Try.prog 9 := ⟨Try.underlying9⟩
instance : TConc Try.prog 9 := ⟨_, Try.underlying9, rfl⟩
instance : TOne Try.prog 20 := ⟨by kernel_rfl, by kernel_rfl⟩
instance : TZero Try.prog 20 [.nilIface] := ⟨by kernel_rfl⟩
instance : TOne Try.prog 21 := ⟨by kernel_rfl, by kernel_rfl⟩
instance : TZero Try.prog 21 [(.int .i32 0)] := ⟨by kernel_rfl⟩
instance : TInt Try.prog 21 .i32 := ⟨Try.underlying21⟩
instance : TConc Try.prog 21 := ⟨_, Try.underlying21, rfl⟩
instance : TOne Try.prog 22 := ⟨by kernel_rfl, by kernel_rfl⟩
instance : TZero Try.prog 22 [(.slice none 0 0)] := ⟨by kernel_rfl⟩
instance : TSl Try.prog 22 9 1 16 := ⟨Try.underlying22, by kernel_rfl⟩
instance : TConc Try.prog 22 := ⟨_, Try.underlying22, rfl⟩
instance : TOne Try.prog 24 := ⟨by kernel_rfl, by kernel_rfl⟩
instance : TZero Try.prog 24 [(.pointer none)] := ⟨by kernel_rfl⟩
instance : TPtr Try.prog 24 := ⟨_, Try.underlying24⟩
instance : TConc Try.prog 24 := ⟨_, Try.underlying24, rfl⟩
instance : TOne Try.prog 25 := ⟨by kernel_rfl, by kernel_rfl⟩
instance : TZero Try.prog 25 [(.int .i64 0)] := ⟨by kernel_rfl⟩
instance : TInt Try.prog 25 .i64 := ⟨Try.underlying25⟩
instance : TConc Try.prog 25 := ⟨_, Try.underlying25, rfl⟩
instance : TOne Try.prog 32 := ⟨by kernel_rfl, by kernel_rfl⟩
instance : TZero Try.prog 32 [(.slice none 0 0)] := ⟨by kernel_rfl⟩
instance : TSl Try.prog 32 3 1 8 := ⟨Try.underlying32, by kernel_rfl⟩
instance : TConc Try.prog 32 := ⟨_, Try.underlying32, rfl⟩
instance : TAgg Try.prog 34 2 := ⟨by kernel_rfl, by kernel_rfl⟩
instance : TZero Try.prog 34 [(.int .i64 0), (.slice none 0 0)] := ⟨by kernel_rfl⟩
instance : TBld Try.prog 34 [(.int .i64 0), (.slice none 0 0)] [(0, 1), (1, 1)] := ⟨by kernel_rfl, by kernel_rfl⟩
instance : TFld Try.prog 34 0 0 := ⟨by kernel_rfl⟩
instance : TPart Try.prog 34 0 0 1 false := ⟨by kernel_rfl⟩
instance : TFld Try.prog 34 1 1 := ⟨by kernel_rfl⟩
instance : TPart Try.prog 34 1 1 1 false := ⟨by kernel_rfl⟩
instance : TConc Try.prog 34 := ⟨_, Try.underlying34, rfl⟩
instance : TOne Try.prog 38 := ⟨by kernel_rfl, by kernel_rfl⟩
instance : TZero Try.prog 38 [(.slice none 0 0)] := ⟨by kernel_rfl⟩
instance : TSl Try.prog 38 43 7 96 := ⟨Try.underlying38, by kernel_rfl⟩
instance : TConc Try.prog 38 := ⟨_, Try.underlying38, rfl⟩
instance : TOne Try.prog 39 := ⟨by kernel_rfl, by kernel_rfl⟩
instance : TZero Try.prog 39 [(.pointer none)] := ⟨by kernel_rfl⟩
instance : TPtr Try.prog 39 := ⟨_, Try.underlying39⟩
instance : TConc Try.prog 39 := ⟨_, Try.underlying39, rfl⟩
instance : TAgg Try.prog 43 7 := ⟨by kernel_rfl, by kernel_rfl⟩
instance : TZero Try.prog 43 [(.int .u8 0), (.string ⟨#[]⟩), (.string ⟨#[]⟩), (.string ⟨#[]⟩), (.int .i64 0), (.int .i64 0), (.slice none 0 0)] := ⟨by kernel_rfl⟩
instance : TBld Try.prog 43 [(.int .u8 0), (.string ⟨#[]⟩), (.string ⟨#[]⟩), (.string ⟨#[]⟩), (.int .i64 0), (.int .i64 0), (.slice none 0 0)] [(0, 1), (1, 1), (2, 1), (3, 1), (4, 1), (5, 2)] := ⟨by kernel_rfl, by kernel_rfl⟩
instance : TFld Try.prog 43 0 0 := ⟨by kernel_rfl⟩
instance : TPart Try.prog 43 0 0 1 false := ⟨by kernel_rfl⟩
instance : TFld Try.prog 43 1 1 := ⟨by kernel_rfl⟩
instance : TPart Try.prog 43 1 1 1 false := ⟨by kernel_rfl⟩
instance : TFld Try.prog 43 2 2 := ⟨by kernel_rfl⟩
instance : TPart Try.prog 43 2 2 1 false := ⟨by kernel_rfl⟩
instance : TFld Try.prog 43 3 3 := ⟨by kernel_rfl⟩
instance : TPart Try.prog 43 3 3 1 false := ⟨by kernel_rfl⟩
instance : TFld Try.prog 43 4 4 := ⟨by kernel_rfl⟩
instance : TPart Try.prog 43 4 4 1 false := ⟨by kernel_rfl⟩
instance : TFld Try.prog 43 5 5 := ⟨by kernel_rfl⟩
instance : TPart Try.prog 43 5 5 2 true := ⟨by kernel_rfl⟩
instance : TConc Try.prog 43 := ⟨_, Try.underlying43, rfl⟩
instance : TAgg Try.prog 55 2 := ⟨by kernel_rfl, by kernel_rfl⟩
instance : TZero Try.prog 55 [(.slice none 0 0), (.slice none 0 0)] := ⟨by kernel_rfl⟩
instance : TArr Try.prog 55 2 38 1 := ⟨Try.underlying55, by kernel_rfl⟩
instance : TConc Try.prog 55 := ⟨_, Try.underlying55, rfl⟩
instance : TOne Try.prog 60 := ⟨by kernel_rfl, by kernel_rfl⟩
instance : TZero Try.prog 60 [(.slice none 0 0)] := ⟨by kernel_rfl⟩
instance : TSl Try.prog 60 99 2 24 := ⟨Try.underlying60, by kernel_rfl⟩
instance : TConc Try.prog 60 := ⟨_, Try.underlying60, rfl⟩
instance : TOne Try.prog 61 := ⟨by kernel_rfl, by kernel_rfl⟩
instance : TZero Try.prog 61 [(.slice none 0 0)] := ⟨by kernel_rfl⟩
instance : TSl Try.prog 61 97 2 24 := ⟨Try.underlying61, by kernel_rfl⟩
instance : TConc Try.prog 61 := ⟨_, Try.underlying61, rfl⟩
instance : TOne Try.prog 62 := ⟨by kernel_rfl, by kernel_rfl⟩
instance : TZero Try.prog 62 [(.slice none 0 0)] := ⟨by kernel_rfl⟩
instance : TSl Try.prog 62 95 3 40 := ⟨Try.underlying62, by kernel_rfl⟩
instance : TConc Try.prog 62 := ⟨_, Try.underlying62, rfl⟩
instance : TAgg Try.prog 64 7 := ⟨by kernel_rfl, by kernel_rfl⟩
instance : TZero Try.prog 64 [(.int .i64 0), (.slice none 0 0), (.slice none 0 0), (.slice none 0 0), (.slice none 0 0), (.int .i64 0), (.bool false)] := ⟨by kernel_rfl⟩
instance : TBld Try.prog 64 [(.int .i64 0), (.slice none 0 0), (.slice none 0 0), (.slice none 0 0), (.slice none 0 0), (.int .i64 0), (.bool false)] [(0, 1), (1, 1), (2, 1), (3, 1), (4, 1), (5, 1), (6, 1)] := ⟨by kernel_rfl, by kernel_rfl⟩
instance : TFld Try.prog 64 0 0 := ⟨by kernel_rfl⟩
instance : TPart Try.prog 64 0 0 1 false := ⟨by kernel_rfl⟩
instance : TFld Try.prog 64 1 1 := ⟨by kernel_rfl⟩
instance : TPart Try.prog 64 1 1 1 false := ⟨by kernel_rfl⟩
instance : TFld Try.prog 64 2 2 := ⟨by kernel_rfl⟩
instance : TPart Try.prog 64 2 2 1 false := ⟨by kernel_rfl⟩
instance : TFld Try.prog 64 3 3 := ⟨by kernel_rfl⟩
instance : TPart Try.prog 64 3 3 1 false := ⟨by kernel_rfl⟩
instance : TFld Try.prog 64 4 4 := ⟨by kernel_rfl⟩
instance : TPart Try.prog 64 4 4 1 false := ⟨by kernel_rfl⟩
instance : TFld Try.prog 64 5 5 := ⟨by kernel_rfl⟩
instance : TPart Try.prog 64 5 5 1 false := ⟨by kernel_rfl⟩
instance : TFld Try.prog 64 6 6 := ⟨by kernel_rfl⟩
instance : TPart Try.prog 64 6 6 1 false := ⟨by kernel_rfl⟩
instance : TConc Try.prog 64 := ⟨_, Try.underlying64, rfl⟩
instance : TOne Try.prog 68 := ⟨by kernel_rfl, by kernel_rfl⟩
instance : TZero Try.prog 68 [(.slice none 0 0)] := ⟨by kernel_rfl⟩
instance : TSl Try.prog 68 25 1 8 := ⟨Try.underlying68, by kernel_rfl⟩
instance : TConc Try.prog 68 := ⟨_, Try.underlying68, rfl⟩
instance : TOne Try.prog 70 := ⟨by kernel_rfl, by kernel_rfl⟩
instance : TZero Try.prog 70 [(.map none)] := ⟨by kernel_rfl⟩
instance : TMap Try.prog 70 9 74 := ⟨Try.underlying70⟩
instance : TZv Try.prog 74 (.pointer none) := ⟨by kernel_rfl⟩
instance : TConc Try.prog 70 := ⟨_, Try.underlying70, rfl⟩
instance : TOne Try.prog 71 := ⟨by kernel_rfl, by kernel_rfl⟩
instance : TZero Try.prog 71 [(.slice none 0 0)] := ⟨by kernel_rfl⟩
instance : TSl Try.prog 71 84 3 40 := ⟨Try.underlying71, by kernel_rfl⟩
instance : TConc Try.prog 71 := ⟨_, Try.underlying71, rfl⟩
instance : TAgg Try.prog 73 7 := ⟨by kernel_rfl, by kernel_rfl⟩
instance : TZero Try.prog 73 [(.int .i64 0), (.int .i64 0), (.map none), (.map none), (.slice none 0 0), (.int .i64 0), (.bool false)] := ⟨by kernel_rfl⟩
instance : TBld Try.prog 73 [(.int .i64 0), (.int .i64 0), (.map none), (.map none), (.slice none 0 0), (.int .i64 0), (.bool false)] [(0, 1), (1, 1), (2, 1), (3, 1), (4, 1), (5, 1), (6, 1)] := ⟨by kernel_rfl, by kernel_rfl⟩
instance : TFld Try.prog 73 0 0 := ⟨by kernel_rfl⟩
instance : TPart Try.prog 73 0 0 1 false := ⟨by kernel_rfl⟩
instance : TFld Try.prog 73 1 1 := ⟨by kernel_rfl⟩
instance : TPart Try.prog 73 1 1 1 false := ⟨by kernel_rfl⟩
instance : TFld Try.prog 73 2 2 := ⟨by kernel_rfl⟩
instance : TPart Try.prog 73 2 2 1 false := ⟨by kernel_rfl⟩
instance : TFld Try.prog 73 3 3 := ⟨by kernel_rfl⟩
instance : TPart Try.prog 73 3 3 1 false := ⟨by kernel_rfl⟩
instance : TFld Try.prog 73 4 4 := ⟨by kernel_rfl⟩
instance : TPart Try.prog 73 4 4 1 false := ⟨by kernel_rfl⟩
instance : TFld Try.prog 73 5 5 := ⟨by kernel_rfl⟩
instance : TPart Try.prog 73 5 5 1 false := ⟨by kernel_rfl⟩
instance : TFld Try.prog 73 6 6 := ⟨by kernel_rfl⟩
instance : TPart Try.prog 73 6 6 1 false := ⟨by kernel_rfl⟩
instance : TConc Try.prog 73 := ⟨_, Try.underlying73, rfl⟩
instance : TOne Try.prog 74 := ⟨by kernel_rfl, by kernel_rfl⟩
instance : TZero Try.prog 74 [(.pointer none)] := ⟨by kernel_rfl⟩
instance : TPtr Try.prog 74 := ⟨_, Try.underlying74⟩
instance : TConc Try.prog 74 := ⟨_, Try.underlying74, rfl⟩
instance : TOne Try.prog 80 := ⟨by kernel_rfl, by kernel_rfl⟩
instance : TZero Try.prog 80 [(.slice none 0 0)] := ⟨by kernel_rfl⟩
instance : TSl Try.prog 80 5 1 1 := ⟨Try.underlying80, by kernel_rfl⟩
instance : TConc Try.prog 80 := ⟨_, Try.underlying80, rfl⟩
instance : TAgg Try.prog 82 3 := ⟨by kernel_rfl, by kernel_rfl⟩
instance : TZero Try.prog 82 [(.int .i64 0), (.slice none 0 0), (.int .i64 0)] := ⟨by kernel_rfl⟩
instance : TBld Try.prog 82 [(.int .i64 0), (.slice none 0 0), (.int .i64 0)] [(0, 1), (1, 1), (2, 1)] := ⟨by kernel_rfl, by kernel_rfl⟩
instance : TFld Try.prog 82 0 0 := ⟨by kernel_rfl⟩
instance : TPart Try.prog 82 0 0 1 false := ⟨by kernel_rfl⟩
instance : TFld Try.prog 82 1 1 := ⟨by kernel_rfl⟩
instance : TPart Try.prog 82 1 1 1 false := ⟨by kernel_rfl⟩
instance : TFld Try.prog 82 2 2 := ⟨by kernel_rfl⟩
instance : TPart Try.prog 82 2 2 1 false := ⟨by kernel_rfl⟩
instance : TConc Try.prog 82 := ⟨_, Try.underlying82, rfl⟩
instance : TAgg Try.prog 84 3 := ⟨by kernel_rfl, by kernel_rfl⟩
instance : TZero Try.prog 84 [(.string ⟨#[]⟩), (.string ⟨#[]⟩), (.pointer none)] := ⟨by kernel_rfl⟩
instance : TBld Try.prog 84 [(.string ⟨#[]⟩), (.string ⟨#[]⟩), (.pointer none)] [(0, 1), (1, 1), (2, 1)] := ⟨by kernel_rfl, by kernel_rfl⟩
instance : TFld Try.prog 84 0 0 := ⟨by kernel_rfl⟩
instance : TPart Try.prog 84 0 0 1 false := ⟨by kernel_rfl⟩
instance : TFld Try.prog 84 1 1 := ⟨by kernel_rfl⟩
instance : TPart Try.prog 84 1 1 1 false := ⟨by kernel_rfl⟩
instance : TFld Try.prog 84 2 2 := ⟨by kernel_rfl⟩
instance : TPart Try.prog 84 2 2 1 false := ⟨by kernel_rfl⟩
instance : TConc Try.prog 84 := ⟨_, Try.underlying84, rfl⟩
instance : TOne Try.prog 90 := ⟨by kernel_rfl, by kernel_rfl⟩
instance : TZero Try.prog 90 [(.map none)] := ⟨by kernel_rfl⟩
instance : TMap Try.prog 90 74 74 := ⟨Try.underlying90⟩
instance : TConc Try.prog 90 := ⟨_, Try.underlying90, rfl⟩
instance : TAgg Try.prog 95 3 := ⟨by kernel_rfl, by kernel_rfl⟩
instance : TZero Try.prog 95 [(.string ⟨#[]⟩), (.string ⟨#[]⟩), (.int .i64 0)] := ⟨by kernel_rfl⟩
instance : TBld Try.prog 95 [(.string ⟨#[]⟩), (.string ⟨#[]⟩), (.int .i64 0)] [(0, 1), (1, 1), (2, 1)] := ⟨by kernel_rfl, by kernel_rfl⟩
instance : TEqN Try.prog 95 [true, true, false] := ⟨by kernel_rfl, by kernel_rfl, by kernel_rfl, by kernel_rfl⟩
instance : TFld Try.prog 95 0 0 := ⟨by kernel_rfl⟩
instance : TPart Try.prog 95 0 0 1 false := ⟨by kernel_rfl⟩
instance : TFld Try.prog 95 1 1 := ⟨by kernel_rfl⟩
instance : TPart Try.prog 95 1 1 1 false := ⟨by kernel_rfl⟩
instance : TFld Try.prog 95 2 2 := ⟨by kernel_rfl⟩
instance : TPart Try.prog 95 2 2 1 false := ⟨by kernel_rfl⟩
instance : TConc Try.prog 95 := ⟨_, Try.underlying95, rfl⟩
instance : TAgg Try.prog 97 2 := ⟨by kernel_rfl, by kernel_rfl⟩
instance : TZero Try.prog 97 [(.string ⟨#[]⟩), (.int .i64 0)] := ⟨by kernel_rfl⟩
instance : TBld Try.prog 97 [(.string ⟨#[]⟩), (.int .i64 0)] [(0, 1), (1, 1)] := ⟨by kernel_rfl, by kernel_rfl⟩
instance : TEqN Try.prog 97 [true, false] := ⟨by kernel_rfl, by kernel_rfl, by kernel_rfl, by kernel_rfl⟩
instance : TFld Try.prog 97 0 0 := ⟨by kernel_rfl⟩
instance : TPart Try.prog 97 0 0 1 false := ⟨by kernel_rfl⟩
instance : TFld Try.prog 97 1 1 := ⟨by kernel_rfl⟩
instance : TPart Try.prog 97 1 1 1 false := ⟨by kernel_rfl⟩
instance : TConc Try.prog 97 := ⟨_, Try.underlying97, rfl⟩
instance : TAgg Try.prog 99 2 := ⟨by kernel_rfl, by kernel_rfl⟩
instance : TZero Try.prog 99 [(.string ⟨#[]⟩), (.int .i64 0)] := ⟨by kernel_rfl⟩
instance : TBld Try.prog 99 [(.string ⟨#[]⟩), (.int .i64 0)] [(0, 1), (1, 1)] := ⟨by kernel_rfl, by kernel_rfl⟩
instance : TEqN Try.prog 99 [true, false] := ⟨by kernel_rfl, by kernel_rfl, by kernel_rfl, by kernel_rfl⟩
instance : TFld Try.prog 99 0 0 := ⟨by kernel_rfl⟩
instance : TPart Try.prog 99 0 0 1 false := ⟨by kernel_rfl⟩
instance : TFld Try.prog 99 1 1 := ⟨by kernel_rfl⟩
instance : TPart Try.prog 99 1 1 1 false := ⟨by kernel_rfl⟩
instance : TConc Try.prog 99 := ⟨_, Try.underlying99, rfl⟩
instance : TOne Try.prog 101 := ⟨by kernel_rfl, by kernel_rfl⟩
instance : TZero Try.prog 101 [.nilFunc] := ⟨by kernel_rfl⟩
instance : TFn Try.prog 101 := ⟨_, _, _, Try.underlying101⟩
instance : TConc Try.prog 101 := ⟨_, Try.underlying101, rfl⟩
instance : TOne Try.prog 109 := ⟨by kernel_rfl, by kernel_rfl⟩
instance : TZero Try.prog 109 [(.int .u64 0)] := ⟨by kernel_rfl⟩
instance : TInt Try.prog 109 .u64 := ⟨Try.underlying109⟩
instance : TConc Try.prog 109 := ⟨_, Try.underlying109, rfl⟩
instance : TOne Try.prog 112 := ⟨by kernel_rfl, by kernel_rfl⟩
instance : TZero Try.prog 112 [(.int .i64 0)] := ⟨by kernel_rfl⟩
instance : TInt Try.prog 112 .i64 := ⟨Try.underlying112⟩
instance : TConc Try.prog 112 := ⟨_, Try.underlying112, rfl⟩
instance : TOne Try.prog 121 := ⟨by kernel_rfl, by kernel_rfl⟩
instance : TZero Try.prog 121 [(.int .u32 0)] := ⟨by kernel_rfl⟩
instance : TInt Try.prog 121 .u32 := ⟨Try.underlying121⟩
instance : TConc Try.prog 121 := ⟨_, Try.underlying121, rfl⟩
instance : TOne Try.prog 123 := ⟨by kernel_rfl, by kernel_rfl⟩
instance : TZero Try.prog 123 [(.int .u64 0)] := ⟨by kernel_rfl⟩
instance : TInt Try.prog 123 .u64 := ⟨Try.underlying123⟩
instance : TConc Try.prog 123 := ⟨_, Try.underlying123, rfl⟩
instance : TOne Try.prog 124 := ⟨by kernel_rfl, by kernel_rfl⟩
instance : TZero Try.prog 124 [(.int .u64 0)] := ⟨by kernel_rfl⟩
instance : TInt Try.prog 124 .u64 := ⟨Try.underlying124⟩
instance : TConc Try.prog 124 := ⟨_, Try.underlying124, rfl⟩
instance : TOne Try.prog 128 := ⟨by kernel_rfl, by kernel_rfl⟩
instance : TZero Try.prog 128 [(.pointer none)] := ⟨by kernel_rfl⟩
instance : TPtr Try.prog 128 := ⟨_, Try.underlying128⟩
instance : TConc Try.prog 128 := ⟨_, Try.underlying128, rfl⟩
instance : TOne Try.prog 130 := ⟨by kernel_rfl, by kernel_rfl⟩
instance : TZero Try.prog 130 [(.pointer none)] := ⟨by kernel_rfl⟩
instance : TPtr Try.prog 130 := ⟨_, Try.underlying130⟩
instance : TConc Try.prog 130 := ⟨_, Try.underlying130, rfl⟩
end SX
namespace SX
open Go Go.Proofs
def recG (k : Nat) (r : Rc) : List Assn := [blk r.a 82 [.int .i64 (k : Nat), r.v, .int .i64 (r.f.safe : Nat)], own 5 1 r.v r.f.bytes.length (bcs r.f.bytes)]
/-- a record whose file has more safe bytes than bytes is none: nothing lies in memory -/
def recA (k : Nat) (r : Rc) : List Assn := if r.f.safe ≤ r.f.bytes.length then recG k r else []
theorem recA_ok {k : Nat} {r : Rc} (h : r.f.safe ≤ r.f.bytes.length) : recA k r = recG k r := if_pos h
theorem real_of {d : Dk} (hd : d.Ok) {k : Nat} {r : Rc} (hf : r.f = d.fl k) : r.f.safe ≤ r.f.bytes.length := by rw [hf]; exact (Dk.fl_ok hd k).2
def recsL : Nat → List Rc → List Assn
  | _, [] => []
  | k, r :: rs => recA k r ++ recsL (k + 1) rs
theorem recsL_app : ∀ (k : Nat) (a b : List Rc), recsL k (a ++ b) = recsL k a ++ recsL (k + a.length) b
  | k, [], b => by simp [recsL]
  | k, r :: a, b => by
    rw [List.cons_append, recsL, recsL, recsL_app, List.append_assoc, List.length_cons]
    congr 3; omega
def recsA (rs : List Rc) : Assn := star (recsL 0 rs)
def holeA (rs : List Rc) (i : Nat) : Assn := star (recsL 0 (rs.take i) ++ recsL (i + 1) (rs.drop (i + 1)))
theorem recs_eq {rs : List Rc} {i : Nat} {r : Rc} (h : rs[i]? = some r) : recsL 0 rs = recsL 0 (rs.take i) ++ (recA i r ++ recsL (i + 1) (rs.drop (i + 1))) := by
  have hlt := (List.getElem?_eq_some_iff.1 h).1
  have e : rs = rs.take i ++ r :: rs.drop (i + 1) := by
    rw [← (List.getElem?_eq_some_iff.1 h).2, ← List.drop_eq_getElem_cons hlt, List.take_append_drop]
  conv => lhs; rw [e]
  rw [recsL_app, List.length_take, Nat.min_eq_left (by omega), Nat.zero_add]; rfl
theorem recs_open {rs : List Rc} {i : Nat} {r : Rc} (h : rs[i]? = some r) (hg : r.f.safe ≤ r.f.bytes.length) {L : List Assn} : Ent (recsA rs :: L) (recG i r ++ holeA rs i :: L) := by
  rw [← recA_ok hg]
  refine star_ent.trans ?_
  rw [recs_eq h]
  refine Ent.trans (Ent.perm ?_) (Ent.under (X := recA i r) star_close)
  rw [List.append_assoc, List.append_assoc]
  refine (List.perm_append_comm_assoc _ _ _).trans ?_
  rw [List.append_assoc]
theorem recs_close {rs : List Rc} {i : Nat} {r : Rc} (h : i < rs.length) (hg : r.f.safe ≤ r.f.bytes.length) {L : List Assn} : Ent (recG i r ++ holeA rs i :: L) (recsA (rs.set i r) :: L) := by
  rw [← recA_ok hg]
  have h1 : (rs.set i r)[i]? = some r := List.getElem?_set_self h
  have e : recsL 0 (rs.set i r) = recsL 0 (rs.take i) ++ (recA i r ++ recsL (i + 1) (rs.drop (i + 1))) := by
    rw [recs_eq h1, List.take_set_of_le (Nat.le_refl _), List.drop_set_of_lt (by omega)]
  refine Ent.trans ?_ star_close
  rw [e]
  refine Ent.trans (Ent.under (X := recA i r) star_ent) (Ent.perm ?_)
  simp only [List.append_assoc]
  exact List.perm_append_comm_assoc _ _ _
theorem recs_new {rs : List Rc} {r : Rc} (hg : r.f.safe ≤ r.f.bytes.length) {L : List Assn} : Ent (recG rs.length r ++ recsA rs :: L) (recsA (rs ++ [r]) :: L) := by
  rw [← recA_ok hg]
  refine Ent.trans (Ent.under (X := recA rs.length r) star_ent) ?_
  refine Ent.trans ?_ star_close
  rw [recsL_app, Nat.zero_add]
  show Ent _ ((recsL 0 rs ++ (recA rs.length r ++ [])) ++ L)
  rw [List.append_nil, List.append_assoc]
  exact Ent.perm (List.perm_append_comm_assoc _ _ _)
/-- what lies in memory of a disk -/
structure FX where
  sb : Nat
  fb : Nat
  es : Ents ByteArray
  cs : Nat
  ef : Ents ByteArray
  cf : Nat
  rs : List Rc
  ps : List Pc
  pv : Value
abbrev fsC (q : Int) (n : Nat) (sb fb : Nat) (pv : Value) (fa : Int) (off : Bool) : List Value := [.int .i64 q, .int .i64 (n : Nat), .map (some sb), .map (some fb), pv, .int .i64 fa, .bool off]
def live (d : Dk) (k : Nat) : Prop := (∃ x ∈ d.seen, x.2 = k) ∨ (∃ x ∈ d.safe, x.2 = k) ∨ ∃ c ∈ d.pend, strEq c.come nos = false ∧ c.file = k
structure Rep (d : Dk) (x : FX) : Prop where
  seen : NmRel x.es d.seen x.rs
  safe : NmRel x.ef d.safe x.rs
  bs : Born x.es x.cs
  bf : Born x.ef x.cf
  len : x.rs.length = d.files.length
  fl : ∀ k, live d k → ∃ r, x.rs[k]? = some r ∧ r.f = d.fl k
  ps : x.ps.length = d.pend.length ∧ ∀ (i : Nat) (p : Pc) (c : Cg), x.ps[i]? = some p → d.pend[i]? = some c → PcRel x.rs p c
abbrev fsH (p : Nat) (d : Dk) (x : FX) : Assn := blk p 73 (fsC d.quota x.rs.length x.sb x.fb x.pv d.falls d.off)
def FSA (p : Nat) (d : Dk) : Assn := exA fun x : {x : FX // Rep d x} => [fsH p d x.1, mpe x.1.sb skv x.1.es x.1.cs, mpe x.1.fb skv x.1.ef x.1.cf, own 84 3 x.1.pv x.1.ps.length (x.1.ps.flatMap encP), recsA x.1.rs]
theorem fs_close {p : Nat} {d : Dk} {x : FX} (h : Rep d x) {L : List Assn} : Ent (fsH p d x :: mpe x.sb skv x.es x.cs :: mpe x.fb skv x.ef x.cf :: own 84 3 x.pv x.ps.length (x.ps.flatMap encP) :: recsA x.rs :: L) (FSA p d :: L) :=
  ent_ex (F := fun x : {x : FX // Rep d x} => [fsH p d x.1, mpe x.1.sb skv x.1.es x.1.cs, mpe x.1.fb skv x.1.ef x.1.cf, own 84 3 x.1.pv x.1.ps.length (x.1.ps.flatMap encP), recsA x.1.rs]) ⟨x, h⟩ (by repeat (first | exact Split.nil | (apply Split.cons; (repeat (first | with_reducible exact Take.here | apply Take.there)))))
theorem FSA.open' {p : Nat} {d : Dk} {f : FuncId} {args : List Value} {L : List Assn} {post : Value → List Assn → Prop}
    (h : ∀ x, Rep d x → Spec Try.prog f args (fsH p d x :: mpe x.sb skv x.es x.cs :: mpe x.fb skv x.ef x.cf :: own 84 3 x.pv x.ps.length (x.ps.flatMap encP) :: recsA x.rs :: L) post) : Spec Try.prog f args (FSA p d :: L) post := Spec.exA' fun x => h x.1 x.2
abbrev pv (p : Nat) : Value := .pointer (some ⟨p, 0, none⟩)
/-- find -/
def findV (rs : List Rc) (d : Dk) (s : ByteArray) : Value × Int := if d.off = true then (.pointer none, 8) else match findN d.seen s with | none => (.pointer none, 6) | some k => (adr rs k, 0)
theorem find_spec (p : Nat) (d : Dk) (x : FX) (hx : Rep d x) (s : ByteArray) : Spec Try.prog 35 [pv p, .string s] [fsH p d x, mpe x.sb skv x.es x.cs] (fun r L => r = .tuple #[(findV x.rs d s).1, .int .i64 (findV x.rs d s).2] ∧ L = [fsH p d x, mpe x.sb skv x.es x.cs]) := by
  have hl := hx.seen.look s
  refine Spec.of 28 Try.func35 rfl rfl rfl ?_
  refine swp_seq ?_
  refine swp_region ?_
  refine s_pu (pu_assign rfl) ?_
  refine s_pu (pu_assign rfl) ?_
  refine swl_sub _ (.cons (t := 0) rfl (.cons (t := 1) rfl .nil)) ?_
  refine swl_nil ?_
  refine then_n ?_
  refine swp_seq ?_
  refine swp_block ?_
  refine swp_seq ?_
  refine swp_region ?_
  refine s_pu (pu_move rfl) ?_
  refine s_pu (pu_ptr_eq_nil rfl rfl) ?_
  refine s_pu (pu_assign rfl) ?_
  refine swl_sub _ (.cons (t := 0) rfl (.cons (t := 1) rfl (.cons (t := 8) rfl .nil))) ?_
  refine swl_nil ?_
  refine then_n ?_
  refine swp_cond (b := _) rfl (fun h8 => by cases h8) (fun h8 => ?_)
  refine swp_seq ?_
  refine swp_region ?_
  refine s_pu (pu_move rfl) ?_
  first | refine s_pu (pu_nilCheck rfl) ?_ | refine s_pu (pu_nilCheck_fn rfl) ?_ | refine s_pu (pu_nilCheck_if rfl) ?_
  first | refine s_pu (pu_fieldAddr0 rfl) ?_ | refine s_pu (pu_fieldAddr rfl) ?_
  refine s_rd (rd_load rfl rfl) ?_
  refine s_pu (pu_assign rfl) ?_
  refine swl_sub _ (.cons (t := 0) rfl (.cons (t := 1) rfl (.cons (t := 11) rfl .nil))) ?_
  refine swl_nil ?_
  refine then_n ?_
  refine swp_cond (b := _) rfl (fun h11 => ?_) (fun h11 => ?_)
  · skip   -- 11 T
    refine swp_seq ?_
    refine swp_region ?_
    refine s_pu (pu_assign rfl) ?_
    refine s_pu (pu_assign rfl) ?_
    refine swl_sub _ (.cons (t := 4) rfl (.cons (t := 5) rfl .nil)) ?_
    refine swl_nil ?_
    refine then_n ?_
    refine swp_ret ?_
    refine block_r ?_
    refine then_r ?_
    refine done_ret [fsH p d x, mpe x.sb skv x.es x.cs] (.tmp rfl (.tmp rfl .nil)) ⟨?_, rfl⟩ (by repeat (first | exact Split.nil | (apply Split.cons; (repeat (first | with_reducible exact Take.here | apply Take.there)))))
    unfold findV; rw [if_pos h11]; rfl
  · skip   -- 11 F
    refine swp_skip ?_
    refine block_n ?_
    refine then_n ?_
    refine swp_seq ?_
    refine swp_region ?_
    refine s_pu (pu_move rfl) ?_
    first | refine s_pu (pu_nilCheck rfl) ?_ | refine s_pu (pu_nilCheck_fn rfl) ?_ | refine s_pu (pu_nilCheck_if rfl) ?_
    first | refine s_pu (pu_fieldAddr0 rfl) ?_ | refine s_pu (pu_fieldAddr rfl) ?_
    refine s_rd (rd_load rfl rfl) ?_
    refine s_pu (pu_move rfl) ?_
    refine s_rd (rd_mlook2E (kv := skv) s hl rfl rfl) ?_
    refine s_pu (pu_move rfl) ?_
    first | refine s_pu (pu_extractL rfl) ?_ | refine s_pu (pu_extract rfl rfl) ?_
    first | refine s_pu (pu_extractL rfl) ?_ | refine s_pu (pu_extract rfl rfl) ?_
    refine s_pu (pu_assign rfl) ?_
    refine s_pu (pu_assign rfl) ?_
    refine swl_sub _ (.cons (t := 6) rfl (.cons (t := 7) rfl .nil)) ?_
    refine swl_nil ?_
    refine then_n ?_
    refine swp_seq ?_
    refine swp_seq ?_
    refine swp_region ?_
    refine s_pu (pu_move rfl) ?_
    refine s_pu (pu_not rfl) ?_
    refine swl_sub _ (.cons (t := 6) rfl (.cons (t := 26) rfl .nil)) ?_
    refine swl_nil ?_
    refine then_n ?_
    refine swp_cond (b := _) rfl (fun h26 => ?_) (fun h26 => ?_)
    · skip   -- 26 T
      refine swp_seq ?_
      refine swp_region ?_
      refine s_pu (pu_assign rfl) ?_
      refine s_pu (pu_assign rfl) ?_
      refine swl_sub _ (.cons (t := 4) rfl (.cons (t := 5) rfl .nil)) ?_
      refine swl_nil ?_
      refine then_n ?_
      refine swp_ret ?_
      refine then_r ?_
      refine done_ret [fsH p d x, mpe x.sb skv x.es x.cs] (.tmp rfl (.tmp rfl .nil)) ⟨?_, rfl⟩ (by repeat (first | exact Split.nil | (apply Split.cons; (repeat (first | with_reducible exact Take.here | apply Take.there)))))
      unfold findV
      cases hf : findN d.seen s with
      | none => rw [if_neg (by rw [h11]; decide)]; rfl
      | some k => rw [hf] at h26; cases h26
    · skip   -- 26 F
      refine swp_skip ?_
      refine then_n ?_
      refine swp_seq ?_
      refine swp_region ?_
      refine s_pu (pu_move rfl) ?_
      refine s_pu (pu_assign rfl) ?_
      refine s_pu (pu_assign rfl) ?_
      refine swl_sub _ (.cons (t := 4) rfl (.cons (t := 5) rfl .nil)) ?_
      refine swl_nil ?_
      refine then_n ?_
      refine swp_ret ?_
      refine done_ret [fsH p d x, mpe x.sb skv x.es x.cs] (.tmp rfl (.tmp rfl .nil)) ⟨?_, rfl⟩ (by repeat (first | exact Split.nil | (apply Split.cons; (repeat (first | with_reducible exact Take.here | apply Take.there)))))
      unfold findV
      cases hf : findN d.seen s with
      | none => rw [hf] at h26; cases h26
      | some k => rw [if_neg (by rw [h11]; decide)]; rfl
end SX
namespace SX
open Go Go.Proofs
def badB (b : UInt8) : Bool := decide (b.toNat < 33) || decide (126 < b.toNat)
theorem named1_spec (b : UInt8) : Spec Try.prog 66 [.int .u8 (b.toNat : Nat)] [] (fun r L => r = .bool (badB b) ∧ L = []) := by
  refine Spec.of 9 Try.func66 rfl rfl rfl ?_
  refine swp_seq ?_
  refine swp_region ?_
  refine s_pu (pu_assign rfl) ?_
  refine swl_sub _ (.cons (t := 0) rfl .nil) ?_
  refine swl_nil ?_
  refine then_n ?_
  refine swp_seq ?_
  refine swp_region ?_
  refine s_pu (pu_move rfl) ?_
  refine s_pu (pu_lss rfl rfl) ?_
  refine s_pu (pu_move rfl) ?_
  refine s_split 5 rfl (fun h5 => ?_) (fun h5 => ?_)
  · skip   -- 5 T
    refine s_off rfl rfl rfl ?_
    refine s_off rfl rfl rfl ?_
    first | refine s_pu (pu_pick_t rfl rfl) ?_ | refine s_pu (pu_pick_f rfl rfl) ?_
    refine s_pu (pu_assign rfl) ?_
    refine swl_sub _ (.cons (t := 2) rfl .nil) ?_
    refine swl_nil ?_
    refine then_n ?_
    refine swp_ret ?_
    refine done_ret [] (.tmp rfl .nil) ⟨?_, rfl⟩ (by repeat (first | exact Split.nil | (apply Split.cons; (repeat (first | with_reducible exact Take.here | apply Take.there)))))
    unfold badB
    first
      | (have h := of_decide_eq_true h5; rw [decide_eq_true (show b.toNat < 33 by omega)]; rfl)
      | (have h := of_decide_eq_false h5
         rw [decide_eq_false (show ¬ b.toNat < 33 by omega)]
         by_cases h2 : 126 < b.toNat
         · rw [decide_eq_true h2, decide_eq_true (by omega)]; rfl
         · rw [decide_eq_false h2, decide_eq_false (by omega)]; rfl)
  · skip   -- 5 F
    refine s_on rfl rfl ?_
    refine s_pu (pu_move rfl) ?_
    refine s_on rfl rfl ?_
    refine s_pu (pu_gtr rfl rfl) ?_
    first | refine s_pu (pu_pick_t rfl rfl) ?_ | refine s_pu (pu_pick_f rfl rfl) ?_
    refine s_pu (pu_assign rfl) ?_
    refine swl_sub _ (.cons (t := 2) rfl .nil) ?_
    refine swl_nil ?_
    refine then_n ?_
    refine swp_ret ?_
    refine done_ret [] (.tmp rfl .nil) ⟨?_, rfl⟩ (by repeat (first | exact Split.nil | (apply Split.cons; (repeat (first | with_reducible exact Take.here | apply Take.there)))))
    unfold badB
    first
      | (have h := of_decide_eq_true h5; rw [decide_eq_true (show b.toNat < 33 by omega)]; rfl)
      | (have h := of_decide_eq_false h5
         rw [decide_eq_false (show ¬ b.toNat < 33 by omega)]
         by_cases h2 : 126 < b.toNat
         · rw [decide_eq_true h2, decide_eq_true (by omega)]; rfl
         · rw [decide_eq_false h2, decide_eq_false (by omega)]; rfl)
theorem swl_share1 {P : Program} {rn : Option Nat} {Q : Post} {N : Nat} {L : List Assn} {μ : PH} {env : Env} {ops : Array Oper} {ol : List Oper} {b : Nat} {o : Obj} {L0 : List Assn} (hL : Split L0 [one b o, ro μ] L) (h : ∀ μ', Le μ μ' → μ' b = some o → swl P rn ops Q N ol env (ro μ' :: L)) : swl P rn ops Q N ol env L0 := fun E D a w hd hf hh => by
  obtain ⟨μ', h1, h2, h3⟩ := (hh.ent hL.ent).share
  exact h μ' h1 h2 E D a w hd hf h3
theorem ent_ro0 {L : List Assn} : Ent L (ro (fun _ => none) :: L) := fun m h => ⟨fun _ => none, m, (fun k x hk => by cases hk), h, (fun _ => .inl rfl), (fun _ _ h => by cases h), (fun _ _ h => h)⟩
theorem idx_spec (μ : PH) (v : Value) (l : List UInt8) (hr : Row μ v 1 l.length (bcs l)) (hl : l.length ≤ 1048576) : Spec Try.prog 75 [v, .func (.func 66) #[] #[]] [ro μ] (fun r L => ∃ i : Int, r = .int .i64 i ∧ (0 ≤ i ↔ l.any badB = true) ∧ L = [ro μ]) := by
  refine Spec.of 19 Try.func75 rfl rfl rfl ?_
  refine swp_seq ?_
  refine swp_region ?_
  refine s_pu (pu_assign rfl) ?_
  refine swl_sub _ (.cons (t := 0) rfl (.cons (t := 1) rfl .nil)) ?_
  refine swl_nil ?_
  refine then_n ?_
  refine swp_seq ?_
  refine swp_seq ?_
  refine swp_region ?_
  refine s_pu (pu_move rfl) ?_
  refine s_pu (pu_len_row hr rfl) ?_
  refine s_pu (pu_move rfl) ?_
  refine swl_sub _ (.cons (t := 0) rfl (.cons (t := 1) rfl (.cons (t := 7) rfl (.cons (t := 8) rfl .nil)))) ?_
  refine swl_nil ?_
  refine then_n ?_
  refine swp_block ?_
  refine swp_loop (ι := Nat) (fun i env L => Sub env [(0, v), (1, .func (.func 66) #[] #[]), (7, .int .i64 (l.length : Nat)), (8, .int .i64 (i : Nat))] ∧ L = [ro μ] ∧ i ≤ l.length ∧ (l.take i).any badB = false) (fun i => l.length - i) 0 ⟨⟨rfl, rfl, rfl, rfl, trivial⟩, rfl, Nat.zero_le _, rfl⟩ ?_
  rintro i env L ⟨hsub, rfl, hi, hn⟩
  refine swp_sub _ hsub ?_
  clear hsub env
  refine swp_seq ?_
  refine swp_region ?_
  refine s_pu (pu_lss rfl rfl) ?_
  refine swl_sub _ (.cons (t := 0) rfl (.cons (t := 1) rfl (.cons (t := 7) rfl (.cons (t := 8) rfl (.cons (t := 9) rfl .nil))))) ?_
  refine swl_nil ?_
  refine then_n ?_
  refine swp_seq ?_
  refine swp_cond (b := _) rfl (fun h9 => ?_) (fun h9 => ?_)
  · skip   -- 9 T
    have h9' : i < l.length := by have := of_decide_eq_true h9; omega
    obtain ⟨b, hb⟩ : ∃ b, l[i]? = some b := ⟨_, List.getElem?_eq_getElem h9'⟩
    obtain ⟨g, o, c, hv, _, _, hrr⟩ := hr.pos (by omega)
    have hc := (hrr.elem (f := bc1) (n := 1) (fun _ => rfl) hb).cell
    refine swp_skip ?_
    refine then_n ?_
    refine swp_seq ?_
    refine swp_block ?_
    refine swp_seq ?_
    refine swp_region ?_
    refine s_pu (pu_move rfl) ?_
    refine s_pu (pu_assign rfl) ?_
    refine swl_sub _ (.cons (t := 0) rfl (.cons (t := 1) rfl (.cons (t := 5) rfl (.cons (t := 7) rfl (.cons (t := 8) rfl .nil))))) ?_
    refine swl_nil ?_
    refine then_n ?_
    refine swp_seq ?_
    refine swp_region ?_
    refine s_pu (pu_move rfl) ?_
    refine s_pu (pu_move rfl) ?_
    refine s_pu (pu_move rfl) ?_
    refine s_pu (pu_indexAddr (o + i * 1) (congrArg some hv) rfl (by omega) (by omega) (by rw [Int.toNat_natCast])) ?_
    refine s_rd (rd_ro rfl hc) ?_
    refine s_ef (ef_fn (named1_spec b) rfl rfl (by repeat (first | exact Split.nil | (apply Split.cons; (repeat (first | with_reducible exact Take.here | apply Take.there)))))) ?_
    rintro v16 L1 ⟨rfl, rfl⟩
    refine swl_app ?_
    refine swl_sub _ (.cons (t := 0) rfl (.cons (t := 1) rfl (.cons (t := 5) rfl (.cons (t := 7) rfl (.cons (t := 8) rfl (.cons (t := 16) rfl .nil)))))) ?_
    refine swl_nil ?_
    refine then_n ?_
    refine swp_cond (b := _) rfl (fun h16 => ?_) (fun h16 => ?_)
    · skip   -- 16 T
      refine swp_seq ?_
      refine swp_region ?_
      refine s_pu (pu_move rfl) ?_
      refine s_pu (pu_assign rfl) ?_
      refine swl_sub _ (.cons (t := 4) rfl .nil) ?_
      refine swl_nil ?_
      refine then_n ?_
      refine swp_ret ?_
      refine block_r ?_
      refine then_r ?_
      refine then_r ?_
      refine block_r ?_
      refine then_r ?_
      refine done_ret [ro μ] (.tmp rfl .nil) ⟨i, rfl, ⟨fun _ => List.any_eq_true.2 ⟨b, List.mem_of_getElem? hb, h16⟩, fun _ => by omega⟩, rfl⟩ (by repeat (first | exact Split.nil | (apply Split.cons; (repeat (first | with_reducible exact Take.here | apply Take.there)))))
    · skip   -- 16 F
      refine swp_skip ?_
      refine block_n ?_
      refine then_n ?_
      refine swp_region ?_
      refine s_pu (pu_add_as ((i + 1 : Nat) : Int) rfl rfl (by omega) (by omega) (by omega)) ?_
      refine s_pu (pu_move rfl) ?_
      refine swl_sub _ (.cons (t := 0) rfl (.cons (t := 1) rfl (.cons (t := 7) rfl (.cons (t := 8) rfl .nil)))) ?_
      refine swl_nil ?_
      refine then_n ⟨i + 1, ⟨⟨rfl, rfl, rfl, rfl, trivial⟩, rfl, h9', ?_⟩, by omega⟩
      rw [List.take_add_one, hb, List.any_append, hn]; simp [h16]
  · skip   -- 9 F
    have h9' := of_decide_eq_false h9
    obtain rfl : i = l.length := by omega
    rw [List.take_length] at hn
    refine swp_exit ?_
    refine then_x ?_
    refine then_x ?_
    refine block_hit rfl ?_
    refine then_n ?_
    refine swp_seq ?_
    refine swp_region ?_
    refine s_pu (pu_assign rfl) ?_
    refine swl_sub _ (.cons (t := 4) rfl .nil) ?_
    refine swl_nil ?_
    refine then_n ?_
    refine swp_ret ?_
    refine done_ret [ro μ] (.tmp rfl .nil) ⟨-1, rfl, ⟨fun h => by omega, fun h => by rw [hn] at h; cases h⟩, rfl⟩ (by repeat (first | exact Split.nil | (apply Split.cons; (repeat (first | with_reducible exact Take.here | apply Take.there)))))
theorem contains_spec (μ : PH) (v : Value) (l : List UInt8) (hr : Row μ v 1 l.length (bcs l)) (hl : l.length ≤ 1048576) : Spec Try.prog 65 [v, .func (.func 66) #[] #[]] [ro μ] (fun r L => r = .bool (l.any badB) ∧ L = [ro μ]) := by
  refine Spec.of 9 Try.func65 rfl rfl rfl ?_
  refine swp_seq ?_
  refine swp_region ?_
  refine s_pu (pu_assign rfl) ?_
  refine swl_sub _ (.cons (t := 0) rfl (.cons (t := 1) rfl .nil)) ?_
  refine swl_nil ?_
  refine then_n ?_
  refine swp_seq ?_
  refine swp_region ?_
  refine s_pu (pu_move rfl) ?_
  refine s_pu (pu_move rfl) ?_
  refine s_ef (ef_fn (idx_spec μ v l hr hl) rfl rfl (by repeat (first | exact Split.nil | (apply Split.cons; (repeat (first | with_reducible exact Take.here | apply Take.there)))))) ?_
  rintro v7 L1 ⟨i, rfl, hi, rfl⟩
  refine swl_app ?_
  refine s_pu (pu_geq rfl rfl) ?_
  refine s_pu (pu_assign rfl) ?_
  refine swl_sub _ (.cons (t := 4) rfl .nil) ?_
  refine swl_nil ?_
  refine then_n ?_
  refine swp_ret ?_
  refine done_ret [ro μ] (.tmp rfl .nil) ⟨?_, rfl⟩ (by repeat (first | exact Split.nil | (apply Split.cons; (repeat (first | with_reducible exact Take.here | apply Take.there)))))
  show Value.bool (decide (0 ≤ i)) = _
  congr 1
  by_cases h : l.any badB = true
  · rw [h]; exact decide_eq_true (hi.2 h)
  · rw [Bool.not_eq_true] at h; rw [h]; exact decide_eq_false (fun k => by rw [hi.1 k] at h; cases h)
theorem goodN_eq (s : ByteArray) : goodN s = (decide (s.size ≠ 0) && (decide (s.size ≤ 32) && !s.data.toList.any badB)) := by
  unfold goodN
  congr 1
  · congr 1; exact propext ⟨fun h => by omega, fun h => by omega⟩
  · congr 1
    rw [List.not_any_eq_all_not]
    congr 1
    funext b
    unfold badB
    by_cases h1 : b.toNat < 33
    · rw [decide_eq_true h1, decide_eq_false (show ¬ 33 ≤ b.toNat by omega)]; rfl
    · rw [decide_eq_false h1, decide_eq_true (show 33 ≤ b.toNat by omega)]
      by_cases h2 : 126 < b.toNat
      · rw [decide_eq_true h2, decide_eq_false (show ¬ b.toNat ≤ 126 by omega)]; rfl
      · rw [decide_eq_false h2, decide_eq_true (show b.toNat ≤ 126 by omega)]; rfl
theorem strEq_nos (s : ByteArray) : strEq s nos = decide (s.size = 0) := by
  by_cases h : s.size = 0
  · rw [decide_eq_true h]
    refine strEq_iff.2 ?_
    cases s with
    | mk d => congr 1; exact Array.eq_empty_of_size_eq_zero h
  · rw [decide_eq_false h, strEq_false]; rintro rfl; exact h rfl
theorem named_spec (s : ByteArray) : Spec Try.prog 36 [.string s] [] (fun r L => r = .bool (goodN s) ∧ L = []) := by
  have hg := goodN_eq s
  have hn := strEq_nos s
  have hll : s.data.toList.length = s.size := by rw [Array.length_toList]; rfl
  refine Spec.of 16 Try.func36 rfl rfl rfl ?_
  refine swp_seq ?_
  refine swp_region ?_
  refine s_pu (pu_assign rfl) ?_
  refine swl_sub _ (.cons (t := 0) rfl .nil) ?_
  refine swl_nil ?_
  refine then_n ?_
  refine swp_seq ?_
  refine swp_region ?_
  refine s_pu (pu_move rfl) ?_
  refine s_pu (pu_str_neq rfl rfl) ?_
  refine s_pu (pu_move rfl) ?_
  refine s_split 5 rfl (fun h5 => ?_) (fun h5 => ?_)
  · skip   -- 5 T
    refine s_on rfl rfl ?_
    refine s_pu (pu_move rfl) ?_
    refine s_on rfl rfl ?_
    refine s_pu (pu_strlen rfl) ?_
    refine s_on rfl rfl ?_
    refine s_pu (pu_leq rfl rfl) ?_
    first | refine s_pu (pu_pick_t rfl rfl) ?_ | refine s_pu (pu_pick_f rfl rfl) ?_
    refine s_pu (pu_move rfl) ?_
    refine s_split 10 rfl (fun h10 => ?_) (fun h10 => ?_)
    · skip   -- 10 T
      refine s_on rfl rfl ?_
      refine s_pu (pu_move rfl) ?_
      refine s_on rfl rfl ?_
      refine s_ef (ef_bytes rfl (by first | (simp only [maxLen]; have := of_decide_eq_true h10; omega) | cases h10)) ?_
      rintro g cap cs fr hc1 hc2 hc3
      refine swl_ent ent_ro0 ?_
      refine swl_share1 (by repeat (first | exact Split.nil | (apply Split.cons; (repeat (first | with_reducible exact Take.here | apply Take.there))))) fun μ1 _ gg => ?_
      have hrow := row_bytes hc1 hc2 hc3 gg
      refine s_on rfl rfl ?_
      refine s_ef (ef_fn (contains_spec μ1 _ _ hrow (by first | (have := of_decide_eq_true h10; omega) | cases h10)) rfl rfl (by repeat (first | exact Split.nil | (apply Split.cons; (repeat (first | with_reducible exact Take.here | apply Take.there)))))) ?_
      rintro v13 L1 ⟨rfl, rfl⟩
      refine swl_app ?_
      refine s_on rfl rfl ?_
      refine s_pu (pu_not rfl) ?_
      first | refine s_pu (pu_pick_t rfl rfl) ?_ | refine s_pu (pu_pick_f rfl rfl) ?_
      refine s_pu (pu_assign rfl) ?_
      refine swl_sub _ (.cons (t := 2) rfl .nil) ?_
      refine swl_nil ?_
      refine then_n ?_
      refine swp_ret ?_
      refine done_ret [] (.tmp rfl .nil) ⟨?_, rfl⟩ (by repeat (first | exact Split.nil | (apply Split.cons; (repeat (first | with_reducible exact Take.here | apply Take.there)))))
      rw [hg]
      rw [hn] at h5
      first
        | (cases h10; done)
        | (have h1 : s.size ≠ 0 := by simpa using h5
           have h2 := of_decide_eq_true h10
           rw [decide_eq_true h1, decide_eq_true (by omega)]; rfl)
        | (have h1 : s.size ≠ 0 := by simpa using h5
           have h2 := of_decide_eq_false h10
           rw [decide_eq_true h1, decide_eq_false (p := s.size ≤ 32) (by omega)]; rfl)
        | (have h1 : s.size = 0 := by simpa using h5
           rw [decide_eq_false (p := s.size ≠ 0) (by omega)]; rfl)
    · skip   -- 10 F
      refine s_off rfl rfl rfl ?_
      refine s_off rfl rfl rfl ?_
      refine s_off rfl rfl rfl ?_
      refine s_off rfl rfl rfl ?_
      first | refine s_pu (pu_pick_t rfl rfl) ?_ | refine s_pu (pu_pick_f rfl rfl) ?_
      refine s_pu (pu_assign rfl) ?_
      refine swl_sub _ (.cons (t := 2) rfl .nil) ?_
      refine swl_nil ?_
      refine then_n ?_
      refine swp_ret ?_
      refine done_ret [] (.tmp rfl .nil) ⟨?_, rfl⟩ (by repeat (first | exact Split.nil | (apply Split.cons; (repeat (first | with_reducible exact Take.here | apply Take.there)))))
      rw [hg]
      rw [hn] at h5
      first
        | (cases h10; done)
        | (have h1 : s.size ≠ 0 := by simpa using h5
           have h2 := of_decide_eq_true h10
           rw [decide_eq_true h1, decide_eq_true (by omega)]; rfl)
        | (have h1 : s.size ≠ 0 := by simpa using h5
           have h2 := of_decide_eq_false h10
           rw [decide_eq_true h1, decide_eq_false (p := s.size ≤ 32) (by omega)]; rfl)
        | (have h1 : s.size = 0 := by simpa using h5
           rw [decide_eq_false (p := s.size ≠ 0) (by omega)]; rfl)
  · skip   -- 5 F
    refine s_off rfl rfl rfl ?_
    refine s_off rfl rfl rfl ?_
    refine s_off rfl rfl rfl ?_
    first | refine s_pu (pu_pick_t rfl rfl) ?_ | refine s_pu (pu_pick_f rfl rfl) ?_
    refine s_pu (pu_move rfl) ?_
    refine s_split 10 rfl (fun h10 => ?_) (fun h10 => ?_)
    · skip   -- 10 T
      refine s_on rfl rfl ?_
      refine s_pu (pu_move rfl) ?_
      refine s_on rfl rfl ?_
      refine s_ef (ef_bytes rfl (by first | (simp only [maxLen]; have := of_decide_eq_true h10; omega) | cases h10)) ?_
      rintro g cap cs fr hc1 hc2 hc3
      refine swl_ent ent_ro0 ?_
      refine swl_share1 (by repeat (first | exact Split.nil | (apply Split.cons; (repeat (first | with_reducible exact Take.here | apply Take.there))))) fun μ1 _ gg => ?_
      have hrow := row_bytes hc1 hc2 hc3 gg
      refine s_on rfl rfl ?_
      refine s_ef (ef_fn (contains_spec μ1 _ _ hrow (by first | (have := of_decide_eq_true h10; omega) | cases h10)) rfl rfl (by repeat (first | exact Split.nil | (apply Split.cons; (repeat (first | with_reducible exact Take.here | apply Take.there)))))) ?_
      rintro v13 L1 ⟨rfl, rfl⟩
      refine swl_app ?_
      refine s_on rfl rfl ?_
      refine s_pu (pu_not rfl) ?_
      first | refine s_pu (pu_pick_t rfl rfl) ?_ | refine s_pu (pu_pick_f rfl rfl) ?_
      refine s_pu (pu_assign rfl) ?_
      refine swl_sub _ (.cons (t := 2) rfl .nil) ?_
      refine swl_nil ?_
      refine then_n ?_
      refine swp_ret ?_
      refine done_ret [] (.tmp rfl .nil) ⟨?_, rfl⟩ (by repeat (first | exact Split.nil | (apply Split.cons; (repeat (first | with_reducible exact Take.here | apply Take.there)))))
      rw [hg]
      rw [hn] at h5
      first
        | (cases h10; done)
        | (have h1 : s.size ≠ 0 := by simpa using h5
           have h2 := of_decide_eq_true h10
           rw [decide_eq_true h1, decide_eq_true (by omega)]; rfl)
        | (have h1 : s.size ≠ 0 := by simpa using h5
           have h2 := of_decide_eq_false h10
           rw [decide_eq_true h1, decide_eq_false (p := s.size ≤ 32) (by omega)]; rfl)
        | (have h1 : s.size = 0 := by simpa using h5
           rw [decide_eq_false (p := s.size ≠ 0) (by omega)]; rfl)
    · skip   -- 10 F
      refine s_off rfl rfl rfl ?_
      refine s_off rfl rfl rfl ?_
      refine s_off rfl rfl rfl ?_
      refine s_off rfl rfl rfl ?_
      first | refine s_pu (pu_pick_t rfl rfl) ?_ | refine s_pu (pu_pick_f rfl rfl) ?_
      refine s_pu (pu_assign rfl) ?_
      refine swl_sub _ (.cons (t := 2) rfl .nil) ?_
      refine swl_nil ?_
      refine then_n ?_
      refine swp_ret ?_
      refine done_ret [] (.tmp rfl .nil) ⟨?_, rfl⟩ (by repeat (first | exact Split.nil | (apply Split.cons; (repeat (first | with_reducible exact Take.here | apply Take.there)))))
      rw [hg]
      rw [hn] at h5
      first
        | (cases h10; done)
        | (have h1 : s.size ≠ 0 := by simpa using h5
           have h2 := of_decide_eq_true h10
           rw [decide_eq_true h1, decide_eq_true (by omega)]; rfl)
        | (have h1 : s.size ≠ 0 := by simpa using h5
           have h2 := of_decide_eq_false h10
           rw [decide_eq_true h1, decide_eq_false (p := s.size ≤ 32) (by omega)]; rfl)
        | (have h1 : s.size = 0 := by simpa using h5
           rw [decide_eq_false (p := s.size ≠ 0) (by omega)]; rfl)
end SX
