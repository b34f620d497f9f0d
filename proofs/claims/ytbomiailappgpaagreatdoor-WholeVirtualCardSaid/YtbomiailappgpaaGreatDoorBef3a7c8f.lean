/- A part of the proof: walks of the program's functions, and the rules by which they go. -/
import Derived.Test.YtbomiailappgpaaGreatDoorB0a89f28a
import Derived.Shelf.Slices.CompactS
import Derived.Sort.EncStr
import Derived.Lib.RowBridge
import Derived.ArgAppend
import Derived.Recover
import Derived.Conc.MuLone
import Derived.Laws.CopyRow
import Derived.OpenShut
import Derived.ChangeSame
import Derived.Test.YtbomiailappgpaaGreatDoorProg
import Derived.Shelf.Small.Bits
import Derived.Shelf.Small.Strs
import Derived.Shelf.Small.Wraps
import Derived.Shelf.Strconv.Atoi
import Derived.Shelf.Strconv.Itoa0
import Derived.Shelf.Strconv.Itoa1
import Derived.Shelf.LaysM
import Derived.Shelf.Strconv.Itoa2
import Derived.Shelf.Strconv.Itoa3
import Derived.Shelf.Strconv.AtoiErrFast
import Derived.Shelf.Strconv.ParseIntEmpty
import Derived.Shelf.Strconv.AtoiFail
import Derived.Shelf.Strconv.Clone
import Derived.Shelf.Strconv.SyntaxError
import Derived.Shelf.LaysC
import Derived.Shelf.Strconv.ToError
import Derived.Shelf.Strconv.AtoiErr
import Derived.Shelf.Sort.Plain
import Derived.Shelf.Strings.Prefix
import Derived.Ground.Names2Prog
import Derived.Shelf.Slices.Clone
import Derived.Shelf.Slices.Cells
import Derived.Shelf.Slices.In.SortNone
import Derived.Ground.SlgnProg
import Derived.Shelf.SlicesE.Clone
namespace SX
open Go Go.Proofs Go.Sort Go.RowKit
abbrev Qh (l:List UInt8):ByteArray:=⟨l.toArray⟩
abbrev KW (x:ByteArray):List UInt8:=x.data.toList
theorem Hb (x:ByteArray):Qh (KW x)=x:=by cases x; rfl
def Ey (xs:List ByteArray):List ByteArray:=((xs.map KW).mergeSort fun x y=>decide (x≤y)).map Qh
def Jg (xs:List ByteArray):List ByteArray:=(Lib.compact (xs.map KW)).map Qh
theorem Qi (xs:List ByteArray):xs.flatMap G3=(xs.map KW).map encStr:=by
 induction xs with
 | nil=>rfl
 | cons x xs ih=>rw [List.flatMap_cons,ih]; show Value.string x::_=Value.string (Qh (KW x))::_; rw [Hb]; rfl
theorem NE (ls:List (List UInt8)):(ls.map Qh).flatMap G3=ls.map encStr:=by
 induction ls with
 | nil=>rfl
 | cons x xs ih=>rw [List.map_cons,List.flatMap_cons,ih]; rfl
theorem Gz (xs:List ByteArray):(Ey xs).length=xs.length:=by
 unfold Ey; rw [List.length_map,(List.mergeSort_perm ..).length_eq,List.length_map]
theorem OX (xs:List ByteArray):(Jg xs).length≤xs.length:=by
 unfold Jg; rw [List.length_map]; have:=Lib.compact_length_le (xs.map KW); rw [List.length_map] at this; exact this
theorem NF {P:Program}{f:FuncId}{e:TypeId}
  (h:∀ (B5 off cap:Nat) (ss:List (List UInt8)) (w:World),Holds encStr w B5 off ss.toArray→B5<w.heap.size→ss.length<4611686018427387904 →
   Calls P f #[.slice (some ⟨B5,off,none⟩) ss.length cap] w fun x w'=>x=.returned (.tuple #[])∧∃ n os,w'=Go.Sort.grow (putRow encStr (Go.Sort.ahead w n) B5 off (ss.mergeSort fun x y=>decide (x≤y)).toArray) os)
  (h0:∀ (p:Option Addr) (cap:Nat) (w:World),Calls P f #[.slice p 0 cap] w fun x w'=>x=.returned (.tuple #[])∧w'=w)
  (v:Value) (xs:List ByteArray) (hl:xs.length≤1099511627776):Spec P f [v] [own e 1 v xs.length (xs.flatMap G3)] (fun r L=>r=.tuple #[]∧L=[own e 1 v xs.length ((Ey xs).flatMap G3)]):=by
 refine Spec.own_cases (L:=[]) (fun hv h1 _=>?_) (fun b cap ex hv h1 h2 h3 h4=>?_)
 ·subst hv
  obtain rfl:=List.eq_nil_of_length_eq_zero h1
  intro E w hh
  refine (h0 none 0 w).mono fun x w' ⟨e1,e2⟩=>?_
  subst e1 e2
  have e:Ey []=[]:=List.eq_nil_of_length_eq_zero (by rw [Gz]; rfl)
  rw [e]
  exact ⟨_,_,rfl,⟨rfl,rfl⟩,hh.ent own_nil_ent⟩
 ·subst hv
  intro E w hh
  rw [Qi] at hh
  have hb:=hh.one_get .here
  have hcall:=h b 0 cap (xs.map KW) w (KC hb) (Array.getElem?_eq_some_iff.1 hb).1 (by rw [List.length_map]; omega)
  rw [List.length_map] at hcall
  refine hcall.mono fun x w' ⟨e1,n,os,e2⟩=>?_
  subst e1 e2
  refine ⟨_,_,rfl,⟨rfl,rfl⟩,?_⟩
  have:=H.sorted (n:=n) (os:=os) (d':=(xs.map KW).mergeSort fun x y=>decide (x≤y)) hh (List.mergeSort_perm ..).length_eq
  rw [← NE] at this
  exact this.ent (DB (n:=1) (by rw [Cp LO]; show (Ey xs).length*1=_; rw [Gz]) h4 h1 h2)
theorem OY {P:Program}{f:FuncId}{e:TypeId}
  (h:∀ (B5 off cap:Nat) (zs:List (List UInt8)) (w:World),Holds encStr w B5 off zs.toArray→zs.length≤9223372036854775807→zs.length≤cap →
   Calls P f #[.slice (some ⟨B5,off,none⟩) zs.length cap] w fun x w'=>x=.returned (.slice (some ⟨B5,off,none⟩) (Lib.compact zs).length cap)∧∃ q,w'=putRow encStr (Go.Sort.ahead w q) B5 off (Lib.compact zs++List.replicate (zs.length-(Lib.compact zs).length) []).toArray)
  (h0:∀ (p:Option Addr) (cap:Nat) (w:World),Calls P f #[.slice p 0 cap] w fun x w'=>x=.returned (.slice p 0 cap)∧w'=w)
  (v:Value) (xs:List ByteArray) (hl:xs.length≤1099511627776):Spec P f [v] [own e 1 v xs.length (xs.flatMap G3)] (fun r L=>L=[own e 1 r (Jg xs).length ((Jg xs).flatMap G3)]):=by
 refine Spec.own_cases (L:=[]) (fun hv h1 _=>?_) (fun b cap ex hv h1 h2 h3 h4=>?_)
 ·subst hv
  obtain rfl:=List.eq_nil_of_length_eq_zero h1
  intro E w hh
  refine (h0 none 0 w).mono fun x w' ⟨e1,e2⟩=>?_
  subst e1 e2
  have e:Jg []=[]:=List.eq_nil_of_length_eq_zero (by have:=OX []; simpa using this)
  rw [e]
  exact ⟨_,_,rfl,rfl,hh.ent own_nil_ent⟩
 ·subst hv
  intro E w hh
  rw [Qi] at hh
  have hb:=hh.one_get .here
  have hcall:=h b 0 cap (xs.map KW) w (KC hb) (by rw [List.length_map]; omega) (by rw [List.length_map]; exact h1)
  rw [List.length_map] at hcall
  refine hcall.mono fun x w' ⟨e1,q,e2⟩=>?_
  subst e1 e2
  have hle:=OX xs
  unfold Jg at hle
  rw [List.length_map] at hle
  refine ⟨_,_,rfl,rfl,?_⟩
  have:=H.sorted (n:=q) (os:=#[]) (d':=Lib.compact (xs.map KW)++List.replicate (xs.length-(Lib.compact (xs.map KW)).length) []) hh (by rw [List.length_append,List.length_replicate,List.length_map]; omega)
  rw [grow_empty,List.map_append,List.append_assoc,← NE] at this
  have hl2:(Jg xs).length=(Lib.compact (xs.map KW)).length:=by unfold Jg; rw [List.length_map]
  rw [← hl2]
  rw [← hl2] at this
  exact this.ent (DB (n:=1) (by rw [Cp LO]; rfl) (by rw [List.length_append,List.length_map,List.length_replicate,h4]; omega) (by omega) h2)
theorem A2b(a b:ByteArray):BE a b=true↔KW a<KW b:=by
 unfold BE; rw [Lib.toList_data,Lib.toList_data,A0K]; exact Iff.rfl
theorem TH (a b:List UInt8):decide (a≤b)=true↔BE (Qh b) (Qh a)=false:=by
 rw [decide_eq_true_iff,← Bool.not_eq_true,A2b]; exact Iff.rfl
theorem Lc (xs:List ByteArray):(Ey xs).Pairwise fun a b=>BE b a=false:=by
 have:=List.pairwise_mergeSort (le:=fun x y:List UInt8=>decide (x≤y)) (fun a b c h1 h2=>?_) (fun a b=>?_) (xs.map KW)
 ·unfold Ey
  rw [List.pairwise_map]
  exact this.imp fun {a b} h=>(TH a b).1 h
 ·rw [TH] at *
  cases h:BE (Qh c) (Qh a) with
  | false=>rfl
  | true =>
   rcases DS (Qh a) (Qh b) with k | k | k
   ·rw [Da h k] at h2; cases h2
   ·rw [← k] at h2; rw [h] at h2; cases h2
   ·rw [k] at h1; cases h1
 ·show (decide (a≤b)||decide (b≤a))=true
  rw [Bool.or_eq_true,TH,TH]
  cases h:BE (Qh b) (Qh a) with
  | false=>exact .inl rfl
  | true=>exact .inr (Jd h)
theorem Xm (xs:List ByteArray)(p:ByteArray):p∈Ey xs↔p∈xs:=by
 unfold Ey
 rw [List.mem_map]
 constructor
 ·rintro ⟨l,hl,rfl⟩
  rw [(List.mergeSort_perm ..).mem_iff,List.mem_map] at hl
  obtain ⟨x,hx,rfl⟩:=hl
  rw [Hb]; exact hx
 ·intro h
  exact ⟨KW p,by rw [(List.mergeSort_perm ..).mem_iff]; exact List.mem_map_of_mem h,Hb p⟩
theorem TI (d:List ByteArray)(hs:d.Pairwise fun a b=>BE b a=false):∀ m,m≤d.length→((Lib.compactUpTo (d.map KW).toArray m).map Qh).Pairwise (fun a b=>BE a b=true)∧(∀ p,p∈(Lib.compactUpTo (d.map KW).toArray m).map Qh↔∃ j,j<m∧d[j]? = some p):=by
 intro m
 induction m with
 | zero=>intro _; exact ⟨List.Pairwise.nil,fun p=>by simp [Lib.compactUpTo]⟩
 | succ m ih =>
  intro hm
  obtain ⟨i1,i2⟩:=ih (by omega)
  have hget:∀ j,j<d.length→(d.map KW).toArray[j]! = KW d[j]!:=fun j hj=>by
   rw [getElem!_pos _ j (by simpa using hj),getElem!_pos d j hj]; simp
  rw [Lib.compactUpTo_succ,List.map_append]
  have hdm:d[m]? = some d[m]!:=by rw [getElem!_pos d m (by omega),List.getElem?_eq_getElem]
  by_cases hk:Lib.keeps (d.map KW).toArray m=true
  ·rw [if_pos hk,hget m (by omega)]
   simp only [List.map_cons,List.map_nil]
   rw [Hb]
   refine ⟨List.pairwise_append.2 ⟨i1,List.pairwise_singleton _ _,fun a ha b hb=>?_⟩,fun p=>?_⟩
   ·simp only [List.mem_singleton] at hb
    subst hb
    obtain ⟨j,hj,hja⟩:=(i2 a).1 ha
    have hm0:m≠0:=by omega
    unfold Lib.keeps at hk
    rw [decide_eq_true_iff,hget m (by omega),hget (m-1) (by omega)] at hk
    have hne:=hk.resolve_left hm0
    have hne':d[m]!≠d[m-1]!:=fun e=>hne (by rw [e])
    have hp:d[m-1]? = some d[m-1]!:=by rw [getElem!_pos d (m-1) (by omega),List.getElem?_eq_getElem]
    have hle:∀ i k x y,i<k→d[i]? = some x→d[k]? = some y→BE y x=false:=fun i k x y hik hx hy=>by
     obtain ⟨h1,rfl⟩:=List.getElem?_eq_some_iff.1 hx
     obtain ⟨h2,rfl⟩:=List.getElem?_eq_some_iff.1 hy
     exact List.pairwise_iff_getElem.1 hs i k h1 h2 hik
    have k1:BE d[m-1]! d[m]! = true:=by
     rcases DS d[m-1]! d[m]! with k | k | k
     ·exact k
     ·exact absurd k.symm hne'
     ·rw [hle _ _ _ _ (by omega) hp hdm] at k; cases k
    by_cases hj2:j=m-1
    ·subst hj2; rw [hp] at hja; cases hja; exact k1
    ·have k2:=hle j (m-1) a _ (by omega) hja hp
     rcases DS a d[m-1]! with k | k | k
     ·exact Da k k1
     ·rw [k]; exact k1
     ·rw [k] at k2; cases k2
   ·rw [List.mem_append,i2,List.mem_singleton]
    constructor
    ·rintro (⟨j,hj,h⟩ | rfl)
     ·exact ⟨j,by omega,h⟩
     ·exact ⟨m,by omega,hdm⟩
    ·rintro ⟨j,hj,h⟩
     by_cases hjm:j=m
     ·subst hjm; rw [hdm] at h; exact .inr (Option.some.inj h).symm
     ·exact .inl ⟨j,by omega,h⟩
  ·rw [if_neg hk,List.map_nil,List.append_nil]
   refine ⟨i1,fun p=>?_⟩
   rw [i2]
   constructor
   ·rintro ⟨j,hj,h⟩; exact ⟨j,by omega,h⟩
   ·rintro ⟨j,hj,h⟩
    by_cases hjm:j=m
    ·subst hjm
     unfold Lib.keeps at hk
     rw [decide_eq_true_iff] at hk
     have hm0:j≠0:=fun e=>hk (.inl e)
     have he:(d.map KW).toArray[j]! = (d.map KW).toArray[j-1]!:=Classical.byContradiction fun hne=>hk (.inr hne)
     rw [hget j (by omega),hget (j-1) (by omega)] at he
     have he':d[j]! = d[j-1]!:=by rw [← Hb d[j]!,he,Hb]
     refine ⟨j-1,by omega,?_⟩
     rw [hdm,he'] at h
     rw [← h,getElem!_pos d (j-1) (by omega),List.getElem?_eq_getElem]
    ·exact ⟨j,by omega,h⟩
def UN (xs:List ByteArray):List ByteArray:=Jg (Ey xs)
theorem M0 (xs:List ByteArray):(UN xs).Pairwise fun a b=>BE a b=true:=by
 have:=(TI (Ey xs) (Lc xs) (Ey xs).length (Nat.le_refl _)).1
 unfold UN Jg Lib.compact; rw [List.length_map]; exact this
theorem Qj (xs:List ByteArray)(p:ByteArray):p∈UN xs↔p∈xs:=by
 have:=(TI (Ey xs) (Lc xs) (Ey xs).length (Nat.le_refl _)).2 p
 unfold UN Jg Lib.compact; rw [List.length_map,this,← Xm,List.mem_iff_getElem?]
 constructor
 ·rintro ⟨j,_,h⟩; exact ⟨j,h⟩
 ·rintro ⟨j,h⟩; exact ⟨j,(List.getElem?_eq_some_iff.1 h).1,h⟩
theorem Xn (xs:List ByteArray):(UN xs).length≤xs.length:=by
 have h1:=OX (Ey xs); rw [Gz] at h1; exact h1
end SX
namespace SX
open Go
def U32 (n:Int):Prop:=0≤n∧n≤4294967295
theorem U32.bv{n:Int}(h:U32 n):n=((BitVec.ofInt 32 n).toNat:Int):=by
 obtain ⟨h1,h2⟩:=h
 rw [BitVec.toNat_ofInt]
 omega
def U32s (l:List En):Prop:=∀ e∈l,U32 e.2
theorem HQ:U32 0:=⟨by decide,by decide⟩
theorem U32s.lookE{l:List En}(h:U32s l)(p:ByteArray):U32 (lookE l p):=by
 induction l with
 | nil=>exact HQ
 | cons e l ih =>
  unfold SX.lookE
  split
  ·exact h e (.head _)
  ·exact ih fun x hx=>h x (.tail _ hx)
theorem U32s.lookB{l:List En}(h:U32s l)(p:ByteArray):U32 (lookB l p):=by
 unfold SX.lookB
 split
 ·rename_i e he
  split
  ·exact h e (List.mem_of_getElem? he)
  ·exact HQ
 ·exact HQ
def Qk (b o t:Int):Int:=((TB (BitVec.ofInt 32 b) (BitVec.ofInt 32 o) (BitVec.ofInt 32 t)).toNat:Int)
def D6 (b o t:Int):Int×Bool:=if o=t∨b=t then (o,false) else if b=o then (t,false) else (Qk b o t,true)
abbrev Rw:Type:=ByteArray×Int×Int×Int
def Hz (r:Rw):List En:=if (D6 r.2.1 r.2.2.1 r.2.2.2).1=0 then [] else [(r.1,(D6 r.2.1 r.2.2.1 r.2.2.2).1)]
def Ql (r:Rw):List Cf:=if (D6 r.2.1 r.2.2.1 r.2.2.2).2=true then [r] else []
def CG (rs:List Rw):List En:=rs.flatMap Hz
def Fs (rs:List Rw):List Cf:=rs.flatMap Ql
theorem Qm (rs:List Rw):(CG rs).length≤rs.length:=by
 induction rs with
 | nil=>exact Nat.le_refl _
 | cons r rs ih =>
  rw [CG,List.flatMap_cons,List.length_append,List.length_cons]
  have:(Hz r).length≤1:=by unfold Hz; split <;> simp
  unfold CG at ih; omega
theorem TJ (rs:List Rw):(Fs rs).length≤rs.length:=by
 induction rs with
 | nil=>exact Nat.le_refl _
 | cons r rs ih =>
  rw [Fs,List.flatMap_cons,List.length_append,List.length_cons]
  have:(Ql r).length≤1:=by unfold Ql; split <;> simp
  unfold Fs at ih; omega
def Fe (a b c:List En):List ByteArray:=UN (a.map (·.1)++b.map (·.1)++c.map (·.1))
def D4 (a b c:List En):List Rw:=(Fe a b c).map fun p=>(p,lookB a p,lookB b p,lookB c p)
def E6 (m:Option ByteArray)(l:List En):Option ByteArray :=
 match l with
 | []=>m
 | e::_=>match m with
  | none=>some e.1
  | some p=>if BE e.1 p then some e.1 else some p
def DU (a b c:List En):Option ByteArray:=E6 (E6 (E6 none a) b) c
def Dy (l:List En)(p:ByteArray):Int×List En :=
 match l with
 | []=>(0,[])
 | e::r=>if Bt e.1 p then (e.2,r) else (0,e::r)
def Ez:Nat→List En→List En→List En→List Rw
 | 0,_,_,_=>[]
 | n+1,a,b,c=>match DU a b c with
  | none=>[]
  | some p=>(p,(Dy a p).1,(Dy b p).1,(Dy c p).1)::Ez n (Dy a p).2 (Dy b p).2 (Dy c p).2
theorem D0 (m:Option ByteArray)(l:List En):(E6 m l=none↔m=none∧l=[]) ∧
  (∀ p,E6 m l=some p→(m=some p∨∃ e r,l=e::r∧e.1=p)∧(∀ q,m=some q→BE q p=false)∧(∀ e r,l=e::r→BE e.1 p=false)):=by
 cases l with
 | nil =>
  refine ⟨by simp [E6],fun p hp=>?_⟩
  simp only [E6] at hp
  exact ⟨.inl hp,(fun q hq=>by rw [hp] at hq; cases hq; exact CF _),(fun e r h=>by cases h)⟩
 | cons e r =>
  cases m with
  | none =>
   refine ⟨by simp [E6],fun p hp=>?_⟩
   simp only [E6,Option.some.injEq] at hp
   exact ⟨.inr ⟨e,r,rfl,hp⟩,(fun q hq=>by cases hq),(fun e' r' h=>by cases h; rw [hp]; exact CF _)⟩
  | some q =>
   cases hc:BE e.1 q with
   | true =>
    refine ⟨by simp [E6,hc],fun p hp=>?_⟩
    simp only [E6,hc,if_true,Option.some.injEq] at hp
    refine ⟨.inr ⟨e,r,rfl,hp⟩,(fun q' hq=>?_),(fun e' r' h=>by cases h; rw [hp]; exact CF _)⟩
    cases hq; rw [← hp]; exact Jd hc
   | false =>
    refine ⟨by simp [E6,hc],fun p hp=>?_⟩
    simp only [E6,hc,Bool.false_eq_true,if_false,Option.some.injEq] at hp
    refine ⟨.inl (by rw [hp]),(fun q' hq=>?_),(fun e' r' h=>?_)⟩
    ·cases hq; rw [hp]; exact CF _
    ·cases h; rw [← hp]; exact hc
theorem OZ {l:List En}{p:ByteArray}(hr:CU l)(hp:∀ e r,l=e::r→BE e.1 p=false) :
  (Dy l p).1=lookE l p∧CU (Dy l p).2∧(∀ e∈(Dy l p).2,BE p e.1=true)∧(∀ q,q∈l.map (·.1)↔(q∈(Dy l p).2.map (·.1)∨(q=p∧q∈l.map (·.1))))∧(∀ q,q≠p→lookE (Dy l p).2 q=lookE l q)∧(Dy l p).2.length≤l.length:=by
 cases l with
 | nil=>exact ⟨rfl,hr,(fun e h=>by cases h),(fun q=>by simp [Dy]),(fun _ _=>rfl),Nat.le_refl _⟩
 | cons e r =>
  obtain ⟨k1,k2⟩:=List.pairwise_cons.1 hr
  cases he:Bt e.1 p with
  | true =>
   have hee:=BS.1 he
   have h1:Dy (e::r) p=(e.2,r):=by simp [Dy,he]
   rw [h1]
   refine ⟨by simp [lookE,he],k2,(fun x hx=>hee▸k1 x hx),(fun q=>?_),(fun q hq=>?_),by simp⟩
   ·simp only [List.map_cons,List.mem_cons]
    constructor
    ·rintro (h | h)
     ·exact .inr ⟨h.trans hee,.inl h⟩
     ·exact .inl h
    ·rintro (h | ⟨_,h⟩)
     ·exact .inr h
     ·exact h
   ·have:Bt e.1 q=false:=Cc.2 fun h=>hq (h.symm.trans hee)
    simp [lookE,this]
  | false =>
   have h1:Dy (e::r) p=(0,e::r):=by simp [Dy,he]
   rw [h1]
   have hlt:BE p e.1=true:=by
    rcases DS p e.1 with k | k | k
    ·exact k
    ·rw [k,BQ] at he; cases he
    ·rw [hp e r rfl] at k; cases k
   have hall:∀ x∈e::r,BE p x.1=true:=by
    intro x hx
    rcases List.mem_cons.1 hx with rfl | hx
    ·exact hlt
    ·exact Da hlt (k1 x hx)
   refine ⟨(H7 fun x hx=>Cc.2 fun h=>Gu (hall x hx) h.symm).symm,hr,hall,(fun q=>?_),(fun _ _=>rfl),Nat.le_refl _⟩
   exact ⟨.inl,fun h=>h.elim id And.right⟩
def Hc (f:Nat→Int)(n:Nat):Int:=((List.range n).map f).find? (·≠0) |>.getD 0
theorem Jh {f:Nat→Int}{n i:Nat}(hi:i<n)(h1:∀ j<i,f j=0)(h2:f i≠0):Hc f n=f i:=by
 unfold Hc
 have:((List.range n).map f).find? (·≠0)=some (f i):=by
  rw [List.find?_eq_some_iff_getElem]
  refine ⟨by simpa using h2,i,by simpa using hi,by simp,fun j hj=>?_⟩
  simp [h1 j hj]
 rw [this]; rfl
theorem M1 {f:Nat→Int}{n:Nat}(h1:∀ j<n,f j=0):Hc f n=0:=by
 unfold Hc
 have:((List.range n).map f).find? (·≠0)=none:=by
  rw [List.find?_eq_none]
  intro x hx
  obtain ⟨j,hj,rfl⟩:=List.mem_map.1 hx
  simp [h1 j (List.mem_range.1 hj)]
 rw [this]; rfl
theorem P0 {f:Nat→Int}{n:Nat}(h:Hc f n=0):∀ j<n,f j=0:=by
 intro j hj
 induction j using Nat.strongRecOn with
 | _ j ih =>
  by_cases h0:f j=0
  ·exact h0
  ·exact absurd ((Jh hj (fun k hk=>ih k hk (by omega)) h0).symm.trans h) h0
def S9 (n:Int):Bool:=decide (0≤n)&&decide (n<65536)
theorem Lf {n:Int}:S9 n=true↔0≤n∧n<65536:=by unfold S9; simp
abbrev Cm:Type:=List Int×Int
def M2 (ps:List Int)(i:Nat):Int:=match ps[i]? with
 | none=>0
 | some p=>if S9 p=false then 1 else if (ps.take i).contains p then 11 else 0
def D1 (c:Cm):Int:=if 16<c.1.length then 5 else if S9 c.2=false then 1 else Hc (M2 c.1) c.1.length
theorem K7 {ps:List Int}{i:Nat}{p:Int}(h:ps[i]? = some p):M2 ps i=if S9 p=false then 1 else if (ps.take i).contains p then 11 else 0:=by
 unfold M2; rw [h]
theorem K8 {c:Cm}(h:D1 c=0):c.1.length≤16∧(0≤c.2∧c.2<65536)∧(∀ p∈c.1,0≤p∧p<65536):=by
 unfold D1 at h
 split at h
 ·cases h
 split at h
 ·cases h
 rename_i h1 h2
 refine ⟨by omega,Lf.1 (by simpa using h2),fun p hp=>?_⟩
 obtain ⟨i,hi⟩:=List.getElem?_of_mem hp
 have hz:=P0 h i (List.getElem?_eq_some_iff.1 hi).1
 rw [K7 hi] at hz
 by_cases hq:S9 p=false
 ·rw [if_pos hq] at hz; cases hz
 ·exact Lf.1 (by simpa using hq)
def IZ (ps:List Int):List UInt8:=ps.flatMap fun p=>Br 4 p.toNat
def D2 (c:Cm):List UInt8:=Br 4 c.2.toNat++Br 1 c.1.length++IZ c.1
theorem K9 (ps:List Int):(IZ ps).length=4*ps.length:=by
 induction ps with
 | nil=>rfl
 | cons p ps ih=>
  show (Br 4 p.toNat++IZ ps).length=_
  rw [List.length_append,Bu,ih,List.length_cons]; omega
theorem Sa {ps:List Int}{i:Nat}{p:Int}(h:ps[i]? = some p):IZ (ps.take (i+1))=IZ (ps.take i)++Br 4 p.toNat:=by
 unfold IZ
 rw [List.take_add_one,h,List.flatMap_append]
 simp
def Qo (c:Cm):List UInt8:=if D1 c=0 then D2 c else []
def Ka (s:List UInt8):Nat→Nat→List Int
 | 0,_=>[]
 | k+1,pos=>((OO ((s.drop pos).take 4):Nat):Int)::Ka s k (pos+4)
theorem KD (s:List UInt8):∀ (k pos:Nat),Ka s (k+1) pos=Ka s k pos++[((OO ((s.drop (pos+4*k)).take 4):Nat):Int)]
 | 0,pos=>rfl
 | k+1,pos=>by
  rw [Ka,KD s k (pos+4),Ka,List.cons_append]
  rw [show pos+4+4*k=pos+4*(k+1) by omega]
def Ji (l:List UInt8):Nat:=(UA l).toNat
theorem JA (l:List UInt8):Ji l<4294967296:=(UA l).isLt
abbrev Fm:Type:=Nat×List UInt8
def HR (f:Fm):List UInt8:=Br 1 f.1++Br 4 f.2.length++f.2
def DF (f:Fm):List UInt8:=HR f++Br 4 (Ji (HR f))
theorem NG (f:Fm):(HR f).length=f.2.length+5:=by
 unfold HR; simp only [List.length_append,Bu]; omega
theorem GA (f:Fm):(DF f).length=f.2.length+9:=by
 unfold DF; rw [List.length_append,NG,Bu]
structure Fl where
 bytes:List UInt8
 safe:Nat
abbrev Nm:Type:=ByteArray×Nat
structure Cg where
 gone:ByteArray
 come:ByteArray
 file:Nat
structure Dk where
 quota:Int
 files:List Fl
 seen:List Nm
 safe:List Nm
 pend:List Cg
 falls:Int
 off:Bool
abbrev Dd:ByteArray:=⟨#[]⟩
def DG (s:ByteArray):Bool:=decide (1≤s.size)&&(decide (s.size≤32)&&s.data.toList.all fun b=>decide (33≤b.toNat)&&decide (b.toNat≤126))
def BC:List Nm→ByteArray→Option Nat
 | [],_=>none
 | x::l,s=>if Bt x.1 s=true then some x.2 else BC l s
def F5 (c:Cg)(x:Nm):Bool:=!Bt x.1 c.gone&&!Bt x.1 c.come
def F6 (l:List Nm)(c:Cg):List Nm:=l.filter (F5 c)++(if Bt c.come Dd=true then [] else [(c.come,c.file)])
def Dk.fl (d:Dk)(k:Nat):Fl:=(d.files[k]?).getD ⟨[],0⟩
def Dk.used(d:Dk):Nat:=(d.seen.map fun x=>(d.fl x.2).bytes.length).sum
def Dk.setF(d:Dk)(k:Nat)(f:Fl):Dk:={ d with files:=d.files.set k f}
def Dk.chg (d:Dk)(c:Cg):Dk:={ d with seen:=F6 d.seen c,pend:=d.pend++[c]}
def HS (d:Dk):Dk×Int:=if 0<d.falls then (if d.falls=1 then ({ d with falls:=0,off:=true},8) else ({ d with falls:=d.falls-1},0)) else (d,0)
def EA (d:Dk)(f:Dk→Dk):Dk×Int:=if (HS d).2=0 then (f (HS d).1,0) else ((HS d).1,(HS d).2)
def HT (q:Int):Dk:=⟨q,[],[],[],[],0,false⟩
def BG (d:Dk)(s:ByteArray):Dk×Int :=
 if d.off=true then (d,8) else if DG s=false then (d,1) else if (BC d.seen s).isNone=true∧64≤d.seen.length then (d,7) else
  EA d fun d=>({ d with files:=d.files++[⟨[],0⟩]}:Dk).chg ⟨Dd,s,d.files.length⟩
def Ff (d:Dk)(s:ByteArray)(f:Nat→Dk×Int):Dk×Int:=if d.off=true then (d,8) else match BC d.seen s with | none=>(d,6) | some k=>f k
def BR (d:Dk)(s:ByteArray)(t:List UInt8):Dk×Int:=Ff d s fun k =>
 if 0<t.length∧d.quota<(d.used:Int)+t.length then (d,7) else EA d fun d=>d.setF k ⟨(d.fl k).bytes++t,(d.fl k).safe⟩
def Dz (d:Dk)(s:ByteArray):Dk×Int:=Ff d s fun k=>EA d fun d=>d.setF k ⟨(d.fl k).bytes,(d.fl k).bytes.length⟩
def C2 (d:Dk):Dk×Int:=if d.off=true then (d,8) else EA d fun d=>{ d with safe:=d.seen,pend:=[]}
def CH (d:Dk)(s t:ByteArray):Dk×Int:=Ff d s fun k=>if DG t=false then (d,1) else EA d fun d=>if Bt s t=true then d else d.chg ⟨s,t,k⟩
def DH (d:Dk)(s:ByteArray):Dk×Int:=Ff d s fun _=>EA d fun d=>d.chg ⟨s,Dd,0⟩
def J0 (d:Dk)(s:ByteArray):List UInt8×Int:=if d.off=true then ([],8) else match BC d.seen s with | none=>([],6) | some k=>((d.fl k).bytes,0)
def A0t (keep:List Int)(k:Nat)(f:Fl):Nat:=if keep.length=0 then 0 else (min (max ((keep[k % keep.length]?).getD 0) 0) ((f.bytes.length:Int)-f.safe)).toNat
def A1E (keep:List Int)(k:Nat)(f:Fl):Fl:=⟨f.bytes.take (f.safe+A0t keep k f),f.safe+A0t keep k f⟩
abbrev FR:Nat:=16777216
structure NmOk (n:Nat) (l:List Nm):Prop where
 nodup:(l.map (·.1)).Nodup
 good:∀ x∈l,DG x.1=true∧x.2<n
structure Dk.Ok (d:Dk):Prop where
 q:0≤d.quota∧d.quota≤16777216
 fl:∀ f∈d.files,f.bytes.length≤FR∧f.safe≤f.bytes.length
 safe:NmOk d.files.length d.safe
 pend:∀ c∈d.pend,Bt c.come Dd=false→DG c.come=true∧c.file<d.files.length
 seen:d.seen=d.pend.foldl F6 d.safe
 hist:∀ i,((d.pend.take i).foldl F6 d.safe).length≤64
 falls:0≤d.falls∧d.falls≤9223372036854775807
theorem HV {s:ByteArray}(h:DG s=true):Bt s Dd=false:=by
 rw [Cc]; rintro rfl
 revert h; decide
theorem NmOk.mono{n m:Nat}{l:List Nm}(h:NmOk n l)(k:n≤m):NmOk m l:=⟨h.nodup,fun x hx=>⟨(h.good x hx).1,by have:=(h.good x hx).2; omega⟩⟩
theorem NmOk.chg{n:Nat}{l:List Nm}(h:NmOk n l){c:Cg}(hc:Bt c.come Dd=false→DG c.come=true∧c.file<n):NmOk n (F6 l c):=by
 unfold F6
 have h1:NmOk n (l.filter (F5 c)):=⟨h.nodup.sublist ((List.filter_sublist (p:=F5 c)).map _),fun x hx=>h.good x (List.mem_filter.1 hx).1⟩
 by_cases he:Bt c.come Dd=true
 ·rw [if_pos he,List.append_nil]; exact h1
 ·rw [if_neg he]
  obtain ⟨k1,k2⟩:=hc (by simpa using he)
  refine ⟨?_,fun x hx=>?_⟩
  ·rw [List.map_append,List.nodup_append]
   refine ⟨h1.nodup,by simp,fun a ha b hb e=>?_⟩
   obtain ⟨x,hx,rfl⟩:=List.mem_map.1 ha
   have:=(List.mem_filter.1 hx).2
   simp only [List.map_cons,List.map_nil,List.mem_singleton] at hb
   rw [hb] at e
   unfold F5 at this
   rw [e,BQ] at this
   simp at this
  ·rcases List.mem_append.1 hx with hx | hx
   ·exact h1.good x hx
   ·rw [List.mem_singleton.1 hx]; exact ⟨k1,k2⟩
theorem NmOk.chgs{n:Nat}:∀ {cs:List Cg} {l:List Nm},NmOk n l→(∀ c∈cs,Bt c.come Dd=false→DG c.come=true∧c.file<n)→NmOk n (cs.foldl F6 l)
 | [],_,h,_=>h
 | c::cs,l,h,hc=>NmOk.chgs (cs:=cs) (l:=F6 l c) (h.chg (hc c (.head _))) fun x hx=>hc x (.tail _ hx)
theorem Dk.Ok.seenOk{d:Dk}(h:d.Ok):NmOk d.files.length d.seen:=by rw [h.seen]; exact h.safe.chgs h.pend
theorem Dk.Ok.seenLe{d:Dk}(h:d.Ok):d.seen.length≤64:=by
 have:=h.hist d.pend.length
 rwa [List.take_length,← h.seen] at this
theorem Dk.fl_ok{d:Dk}(h:d.Ok)(k:Nat):(d.fl k).bytes.length≤FR∧(d.fl k).safe≤(d.fl k).bytes.length:=by
 unfold Dk.fl
 cases hk:d.files[k]? with
 | none=>exact ⟨Nat.zero_le _,Nat.zero_le _⟩
 | some f=>exact h.fl f (List.mem_of_getElem? hk)
theorem P1 {α:Type}(f:α→Nat)(m:Nat):∀ (l:List α),(∀ x∈l,f x≤m)→(l.map f).sum≤l.length*m
 | [],_=>by simp
 | x::l,h=>by
  have:=P1 f m l fun y hy=>h y (.tail _ hy)
  have:=h x (.head _)
  simp only [List.map_cons,List.sum_cons,List.length_cons,Nat.add_mul,Nat.one_mul]; omega
theorem M3 {α:Type}(f:α→Nat):∀ (l:List α) (x:α),x∈l→f x≤(l.map f).sum
 | y::l,x,h=>by
  simp only [List.map_cons,List.sum_cons]
  rcases List.mem_cons.1 h with rfl | h
  ·omega
  ·have:=M3 f l x h; omega
theorem Dk.used_le{d:Dk}(h:d.Ok):d.used≤1073741824:=by
 have:=P1 (fun x:Nm=>(d.fl x.2).bytes.length) FR d.seen fun x _=>(d.fl_ok h x.2).1
 have:=h.seenLe
 unfold Dk.used
 have:d.seen.length*FR≤64*FR:=Nat.mul_le_mul_right _ this
 simp only [FR] at *
 omega
theorem CC {l:List Nm}{s:ByteArray}{k:Nat}(h:BC l s=some k):(s,k)∈l:=by
 induction l with
 | nil=>cases h
 | cons x l ih =>
  unfold BC at h
  by_cases e:Bt x.1 s=true
  ·rw [if_pos e] at h
   have:=BS.1 e
   have h2:=Option.some.inj h
   rw [← this,← h2]; exact .head _
  ·rw [if_neg e] at h; exact .tail _ (ih h)
theorem Jj {l:List Nm}{s:ByteArray}:BC l s=none↔∀ x∈l,x.1≠s:=by
 induction l with
 | nil=>simp [BC]
 | cons x l ih =>
  unfold BC
  by_cases e:Bt x.1 s=true
  ·rw [if_pos e]; simp; exact fun h=>absurd (BS.1 e) h
  ·rw [if_neg e,ih]
   simp only [List.mem_cons,forall_eq_or_imp]
   exact ⟨fun h=>⟨fun k=>e (BS.2 k),h⟩,fun h=>h.2⟩
theorem M4 {l:List Nm}(hn:(l.map (·.1)).Nodup){s:ByteArray}{k:Nat}(h:(s,k)∈l):BC l s=some k:=by
 induction l with
 | nil=>cases h
 | cons x l ih =>
  unfold BC
  rw [List.map_cons,List.nodup_cons] at hn
  rcases List.mem_cons.1 h with rfl | h
  ·rw [if_pos (BQ _)]
  ·rw [if_neg (fun e=>hn.1 (by rw [BS.1 e]; exact List.mem_map.2 ⟨_,h,rfl⟩))]
   exact ih hn.2 h
structure Rc where
 a:Nat
 v:Value
 f:Fl
def adr (rs:List Rc)(k:Nat):Value:=match rs[k]? with | some r=>.pointer (some ⟨r.a,0,none⟩) | none=>.pointer none
theorem Jk {rs:List Rc}{k:Nat}{r:Rc}(h:rs[k]? = some r):adr rs k=.pointer (some ⟨r.a,0,none⟩):=by unfold adr; rw [h]
theorem P2 {rs:List Rc}{i:Nat}{r r':Rc}(h:rs[i]? = some r)(ha:r'.a=r.a)(k:Nat):adr (rs.set i r') k=adr rs k:=by
 by_cases e:i=k
 ·subst e; rw [Jk h,Jk (List.getElem?_set_self (List.getElem?_eq_some_iff.1 h).1),ha]
 ·unfold adr; rw [List.getElem?_set_ne e]
theorem P3 {rs:List Rc}{k:Nat}(h:k<rs.length)(r:Rc):adr (rs++[r]) k=adr rs k:=by unfold adr; rw [List.getElem?_append_left h]
theorem Zp (rs:List Rc)(r:Rc):adr (rs++[r]) rs.length=.pointer (some ⟨r.a,0,none⟩):=Jk (by simp)
structure NmRel (es:BM ByteArray) (l:List Nm) (rs:List Rc):Prop where
 keys:(es.map (·.1)).Nodup
 look:∀ s,C7 es s=(BC l s).map (adr rs)
theorem NmRel.nil(rs:List Rc):NmRel [] [] rs:=⟨List.nodup_nil,fun _=>rfl⟩
theorem NmRel.to{es:BM ByteArray}{l:List Nm}{rs rs':List Rc}(h:NmRel es l rs)(k:∀ x∈l,adr rs' x.2=adr rs x.2):NmRel es l rs' :=
 ⟨h.keys,fun s=>by
  rw [h.look]
  cases hf:BC l s with
  | none=>rfl
  | some i=>rw [Option.map_some,Option.map_some,k _ (CC hf)]⟩
theorem NmRel.perm{es:BM ByteArray}{l:List Nm}{rs:List Rc}(h:NmRel es l rs)(hn:(l.map (·.1)).Nodup):(es.map fun x=>(x.1,x.2.1)).Perm (l.map fun x=>(x.1,adr rs x.2)):=by
 have n1:(es.map fun x=>(x.1,x.2.1)).Nodup:=by
  have:=h.keys
  rw [show es.map (·.1)=(es.map fun x=>(x.1,x.2.1)).map (·.1) by rw [List.map_map]; rfl] at this
  exact List.Pairwise.of_map _ (fun a b h e=>h (by rw [e])) this
 have n2:(l.map fun x=>(x.1,adr rs x.2)).Nodup:=by
  have:=hn
  rw [show l.map (·.1)=(l.map fun x=>(x.1,adr rs x.2)).map (·.1) by rw [List.map_map]; rfl] at this
  exact List.Pairwise.of_map _ (fun a b h e=>h (by rw [e])) this
 refine (List.perm_ext_iff_of_nodup n1 n2).2 fun ⟨s,v⟩=>?_
 constructor
 ·intro hm
  obtain ⟨x,hx,e⟩:=List.mem_map.1 hm
  have h1:=Qb h.keys hx
  rw [h.look] at h1
  obtain ⟨k,hk,hv⟩:=Option.map_eq_some_iff.1 h1
  obtain ⟨rfl,rfl⟩:=Prod.mk.inj e
  exact List.mem_map.2 ⟨_,CC hk,by simp only [hv]⟩
 ·intro hm
  obtain ⟨x,hx,e⟩:=List.mem_map.1 hm
  obtain ⟨rfl,rfl⟩:=Prod.mk.inj e
  have h1:=M4 hn (s:=x.1) (k:=x.2) hx
  refine UI ?_
  rw [h.look,h1,Option.map_some]
theorem NmRel.len{es:BM ByteArray}{l:List Nm}{rs:List Rc}(h:NmRel es l rs)(hn:(l.map (·.1)).Nodup):es.length=l.length:=by
 have:=(h.perm hn).length_eq; simpa using this
theorem M5 (x:Nm)(l:List Nm)(s:ByteArray):BC (x::l) s=if Bt x.1 s=true then some x.2 else BC l s:=rfl
theorem Qp {l:List Nm}{q:Nm→Bool}(hq:∀ x y:Nm,x.1=y.1→q x=q y)(s:ByteArray):BC (l.filter q) s=if q (s,0)=true then BC l s else none:=by
 induction l with
 | nil=>simp [BC]
 | cons x l ih =>
  rw [List.filter_cons]
  by_cases hx:q x=true
  ·rw [if_pos hx]
   unfold BC
   by_cases e:Bt x.1 s=true
   ·rw [if_pos e,if_pos e,if_pos (by rw [← hq x (s,0) (BS.1 e)]; exact hx)]
   ·rw [if_neg e,if_neg e,ih]
  ·rw [if_neg hx,ih]
   by_cases e:Bt x.1 s=true
   ·rw [if_neg (by rw [← hq x (s,0) (BS.1 e)]; exact hx),if_neg (by rw [← hq x (s,0) (BS.1 e)]; exact hx)]
   ·conv=>rhs; unfold BC
    rw [if_neg e]
theorem Xo (l m:List Nm)(s:ByteArray):BC (l++m) s=(BC l s).or (BC m s):=by
 induction l with
 | nil=>simp [BC]
 | cons x l ih =>
  rw [List.cons_append,M5,M5]
  by_cases e:Bt x.1 s=true
  ·rw [if_pos e,if_pos e]; rfl
  ·rw [if_neg e,if_neg e,ih]
theorem M6 (l:List Nm)(c:Cg)(s:ByteArray):BC (F6 l c) s=if Bt c.come Dd=false∧c.come=s then some c.file else if s=c.gone∨s=c.come then none else BC l s:=by
 unfold F6
 rw [Xo,Qp (fun x y h=>by unfold F5; rw [h])]
 have hk:F5 c (s,0)=true↔¬ (s=c.gone∨s=c.come):=by
  unfold F5
  rw [Bool.and_eq_true,Bool.not_eq_true',Bool.not_eq_true',Cc,Cc]
  exact ⟨fun h k=>k.elim h.1 h.2,fun h=>⟨fun k=>h (.inl k),fun k=>h (.inr k)⟩⟩
 by_cases h1:Bt c.come Dd=true
 ·rw [if_pos h1]
  simp only [h1,Bool.true_eq_false,false_and,if_false]
  have:BC [] s=none:=rfl
  rw [this,Option.or_none]
  by_cases h2:s=c.gone∨s=c.come
  ·rw [if_neg (fun k=>hk.1 k h2),if_pos h2]
  ·rw [if_pos (hk.2 h2),if_neg h2]
 ·have h1':Bt c.come Dd=false:=by simpa using h1
  rw [if_neg h1]
  have hs:BC [(c.come,c.file)] s=if Bt c.come s=true then some c.file else none:=rfl
  rw [hs]
  by_cases h3:c.come=s
  ·rw [if_pos (BS.2 h3),if_pos (show Bt c.come Dd=false∧c.come=s from ⟨h1',h3⟩),if_neg (fun k:F5 c (s,0)=true=>hk.1 k (.inr h3.symm))]; rfl
  ·rw [if_neg (show ¬ (Bt c.come Dd=false∧c.come=s) from fun k=>h3 k.2),if_neg (show ¬ Bt c.come s=true from fun k=>h3 (BS.1 k)),Option.or_none]
   by_cases h2:s=c.gone∨s=c.come
   ·rw [if_neg (show ¬ F5 c (s,0)=true from fun k=>hk.1 k h2),if_pos h2]
   ·rw [if_pos (hk.2 h2),if_neg h2]
abbrev Pc:Type:=ByteArray×ByteArray×Value
abbrev Cj (p:Pc):List Value:=[.string p.1,.string p.2.1,p.2.2]
def Xp (rs:List Rc)(p:Pc)(c:Cg):Prop:=p.2.1=c.come∧(p.1=c.gone∨(c.gone=Dd∧p.1=c.come))∧p.2.2=if Bt c.come Dd=true then .pointer none else adr rs c.file
def KE (es:BM ByteArray)(cl:Nat)(p:Pc):BM ByteArray:=match p.2.2 with | .pointer none=>del es p.1 | _=>upd (del es p.1) cl p.2.1 p.2.2
def Nc (es:BM ByteArray)(cl:Nat)(p:Pc):Nat:=match p.2.2 with | .pointer none=>cl | _=>K0 (del es p.1) cl p.2.1
theorem Xq {es:BM ByteArray}{cl:Nat}(h:Born es cl)(p:Pc):Born (KE es cl p) (Nc es cl p):=by
 unfold KE Nc
 split
 ·exact h.del _
 ·exact (h.del _).upd _ _
theorem Zq {es:BM ByteArray}{cl:Nat}{l:List Nm}{rs:List Rc}(h:NmRel es l rs)(hl:∀ x∈l,Bt x.1 Dd=false){p:Pc}{c:Cg}(hp:Xp rs p c)(hc:Bt c.come Dd=false→c.file<rs.length):NmRel (KE es cl p) (F6 l c) rs:=by
 obtain ⟨h1,h2,h3⟩:=hp
 have hno:BC l Dd=none:=Jj.2 fun x hx e=>by have:=hl x hx; rw [e,BQ] at this; cases this
 by_cases he:Bt c.come Dd=true
 ·rw [if_pos he] at h3
  have hE:KE es cl p=del es p.1:=by unfold KE; rw [h3]
  rw [hE]
  refine ⟨LS h.keys _,fun s=>?_⟩
  rw [K3 h.keys,M6,if_neg (show ¬ (Bt c.come Dd=false∧c.come=s) from fun k=>by rw [he] at k; cases k.1),h.look]
  have hcn:=BS.1 he
  by_cases e1:p.1=s
  ·rw [if_pos e1]
   rcases h2 with h2 | ⟨h2,h2'⟩
   ·rw [if_pos (.inl (by rw [← e1,h2]))]; rfl
   ·rw [if_pos (.inr (by rw [← e1,h2']))]; rfl
  ·rw [if_neg e1]
   by_cases e2:s=c.gone∨s=c.come
   ·rw [if_pos e2]
    have:s=Dd:=by
     rcases h2 with h2 | ⟨h2,h2'⟩
     ·rcases e2 with e2 | e2
      ·exact absurd (by rw [h2,e2]) e1
      ·rw [e2,hcn]
     ·rcases e2 with e2 | e2
      ·rw [e2,h2]
      ·exact absurd (by rw [h2',e2]) e1
    rw [this,hno]
   ·rw [if_neg e2]
 ·have he':Bt c.come Dd=false:=by simpa using he
  rw [if_neg he] at h3
  obtain ⟨r,hr⟩:∃ r,rs[c.file]? = some r:=⟨_,List.getElem?_eq_getElem (hc he')⟩
  have hE:KE es cl p=upd (del es p.1) cl p.2.1 (adr rs c.file):=by unfold KE; rw [h3,Jk hr]
  rw [hE]
  refine ⟨Qa (LS h.keys _) _ _ _,fun s=>?_⟩
  rw [It,K3 h.keys,M6,h.look,h1]
  by_cases e0:c.come=s
  ·rw [if_pos e0,if_pos (show Bt c.come Dd=false∧c.come=s from ⟨he',e0⟩)]; rfl
  ·rw [if_neg e0,if_neg (show ¬ (Bt c.come Dd=false∧c.come=s) from fun k=>e0 k.2)]
   by_cases e1:p.1=s
   ·rw [if_pos e1]
    rcases h2 with h2 | ⟨h2,h2'⟩
    ·rw [if_pos (.inl (by rw [← e1,h2]))]; rfl
    ·exact absurd (by rw [← h2',e1]) e0
   ·rw [if_neg e1]
    by_cases e2:s=c.gone∨s=c.come
    ·rw [if_pos e2]
     have:s=Dd:=by
      rcases h2 with h2 | ⟨h2,h2'⟩
      ·rcases e2 with e2 | e2
       ·exact absurd (by rw [h2,e2]) e1
       ·exact absurd e2.symm e0
      ·rcases e2 with e2 | e2
       ·rw [e2,h2]
       ·exact absurd e2.symm e0
     rw [this,hno]
    ·rw [if_neg e2]

def A1F (P:Program)(t:TypeId)(name:String)(ft off:Nat)(fn:Option (FuncId×Bool)):Bool :=
 match P.info? t with
 | some inf=>match inf.methods.find? (·.name == name) with
  | some m=>decide (m.func=fn)&&match m.path.toList with
   | [st]=>st.deref&&match P.underlying st.struct with
    | some (.struct fs)=>match fs[st.index]? with
     | some f=>f.type == ft&&(f.offset == off&&((P.info? f.type).map (·.size != 0)).getD false)
     | none=>false
    | _=>false
   | _=>false
  | none=>false
 | none=>false
class TVia (P:Program) (t:TypeId) (name:String) (ft off:outParam Nat) (fn:outParam (Option (FuncId×Bool))):Prop where
 okB:A1F P t name ft off fn=true
theorem TVia.ok{P:Program}{t:TypeId}{name:String}{ft off:Nat}{fn:Option (FuncId×Bool)}(h:TVia P t name ft off fn):∃ inf m st fs f j,P.info? t=some inf∧inf.methods.find? (·.name == name)=some m∧m.func=fn∧m.path.toList=[st]∧st.deref=true∧P.underlying st.struct=some (.struct fs)∧fs[st.index]? = some f∧f.type=ft∧f.offset=off∧P.info? f.type=some j∧j.size≠0:=by
 have h:=h.okB
 unfold A1F at h
 split at h
 ·rename_i inf hi
  split at h
  ·rename_i m hm
   simp only [Bool.and_eq_true,decide_eq_true_eq] at h
   obtain ⟨h1,h⟩:=h
   split at h
   ·rename_i st hp
    simp only [Bool.and_eq_true] at h
    obtain ⟨h2,h⟩:=h
    split at h
    ·rename_i fs hu
     split at h
     ·rename_i f hf
      simp only [Bool.and_eq_true,beq_iff_eq] at h
      obtain ⟨h3,h4,h5⟩:=h
      cases hj:P.info? f.type with
      | none=>simp [hj] at h5
      | some j=>simp [hj] at h5; exact ⟨inf,m,st,fs,f,j,hi,hm,h1,hp,h2,hu,hf,h3,h4,hj,h5⟩
     ·cases h
    ·cases h
   ·cases h
  ·cases h
 ·cases h
section
variable {P:Program}
theorem InvS.exA{α:Type}{F:α→List AK}{d:Nat}{t:TypeId}{v:Value}{name:String}{args:List Value}{R:List AK}{post:Value→List AK→Prop}(h:∀ x,InvS P d t v name args (F x++R) post):InvS P d t v name args (exA F::R) post:=fun E w hw=>by
 obtain ⟨k1,k2,k3,k4,k5⟩:=hw
 have k6:Sat (SX.exA F::(E.X++R)) (fun b=>w.heap[b]?):=Sat.perm (BF (.refl _)) _ k5
 obtain ⟨x,hx⟩:=Ew k6
 refine h x E w ⟨k1,k2,k3,k4,Sat.perm ?_ _ hx⟩
 rw [← List.append_assoc,← List.append_assoc]
 exact List.Perm.append_right _ List.perm_append_comm
theorem H.ex{α:Type}{F:α→List AK}{L:List AK}{E:Ctx}{w:World}(hh:H E w (exA F::L)):∃ x,H E w (F x++L):=by
 obtain ⟨k1,k2,k3,k4,k5⟩:=hh
 have k6:Sat (exA F::(E.X++L)) (fun b=>w.heap[b]?):=Sat.perm (BF (.refl _)) _ k5
 obtain ⟨x,hx⟩:=Ew k6
 exact ⟨x,k1,k2,k3,k4,Sat.perm (by rw [← List.append_assoc,← List.append_assoc]; exact List.Perm.append_right _ List.perm_append_comm) _ hx⟩
theorem Sb {κ:Type}[DecidableEq κ]{env:CA}{L:List AK}{t kt et b c:Nat}{kv:κ→Value}{l:BM κ}{z:Value}[hm:TMap P t kt et][hk:TKey P kt kv][hz:TZv P et z]{m x:Operand}[hb:InM b L kv l c](a:κ){o:Option Value}(h:C7 l a=o)(hx:AO env m=some (.map (some b)))(hy:AO env x=some (kv a)):Rd P env L (.lookup t m x true) (.tuple #[o.getD z,.bool o.isSome]):=by
 subst h; exact Nq a hx hy
end
structure An where
 n:Int
 y:Bool
 e:Int
 i:Option Addr×Nat×Nat
 t:Option Addr×Nat×Nat
abbrev TK (x:Option Addr×Nat×Nat):Value:=.slice x.1 x.2.1 x.2.2
abbrev Lg (a:An):List Value:=[.int .i64 a.e,.bool a.y,.int .i64 a.n,TK a.i,TK a.t]
abbrev pt (o:Option Nat):Value:=.pointer (o.map fun p=>⟨p,0,none⟩)
structure Nd where
 p:Nat
 k:ByteArray
 a:An
abbrev ndc (x:Nd)(o e:Option Nat):List Value:=[.string x.k,.int .i64 x.a.e,.bool x.a.y,.int .i64 x.a.n,TK x.a.i,TK x.a.t,pt o,pt e]
abbrev ndV (tn:TypeId)(x:Nd)(o e:Value):AK:=B5 x.p tn [.string x.k,.int .i64 x.a.e,.bool x.a.y,.int .i64 x.a.n,TK x.a.i,TK x.a.t,o,e]
abbrev G4 (tn:TypeId)(x:Nd)(o e:Option Nat):AK:=B5 x.p tn (ndc x o e)
def hd:List Nd→Option Nat→Option Nat
 | [],e=>e
 | y::_,_=>some y.p
def Hd:Option Nat→List Nd→Option Nat
 | o,[]=>o
 | _,x::l=>Hd (some x.p) l
def Zr (tn:TypeId):Option Nat→List Nd→Option Nat→List AK
 | _,[],_=>[]
 | o,x::l,e=>G4 tn x o (hd l e)::Zr tn (some x.p) l e
theorem Gj (a b:List Nd)(e:Option Nat):hd (a++b) e=hd a (hd b e):=by cases a <;> rfl
theorem Lh:∀ (o:Option Nat) (a b:List Nd),Hd o (a++b)=Hd (Hd o a) b
 | _,[],_=>rfl
 | _,x::a,b=>Lh (some x.p) a b
theorem He (o:Option Nat)(a:List Nd)(m:Nd):Hd o (a++[m])=some m.p:=by rw [Lh]; rfl
theorem P4 {tn:TypeId}:∀ (o:Option Nat) (a b:List Nd) (e:Option Nat),Zr tn o (a++b) e=Zr tn o a (hd b e)++Zr tn (Hd o a) b e
 | _,[],_,_=>rfl
 | o,x::a,b,e=>by
  show G4 tn x o (hd (a++b) e)::Zr tn (some x.p) (a++b) e=_
  rw [P4 (some x.p) a b e,Gj]; rfl
def dA (tn:TypeId)(o:Option Nat)(l:List Nd)(e:Option Nat):AK:=exA fun _:Unit=>Zr tn o l e
theorem dA_open{tn:TypeId}{o:Option Nat}{l:List Nd}{e:Option Nat}{L:List AK}:Ent (dA tn o l e::L) (Zr tn o l e++L):=fun m h=>by
 obtain ⟨_,h⟩:=Ew h
 exact h
theorem GB {tn:TypeId}{o:Option Nat}{l:List Nd}{e:Option Nat}{L:List AK}:Ent (Zr tn o l e++L) (dA tn o l e::L):=DZ (F:=fun _:Unit=>Zr tn o l e) ()
theorem M7 {tn:TypeId}{o e:Option Nat}{L:List AK}:Ent L (dA tn o [] e::L):=GB (o:=o) (l:=[]) (e:=e)
theorem dA_app{tn:TypeId}{o:Option Nat}{a b:List Nd}{e:Option Nat}{L:List AK}:Ent (dA tn o (a++b) e::L) (dA tn o a (hd b e)::dA tn (Hd o a) b e::L):=by
 refine dA_open.trans ?_
 rw [P4,List.append_assoc]
 exact (Ent.under GB _).trans GB
theorem P5 {tn:TypeId}{o:Option Nat}{a b:List Nd}{e:Option Nat}{L:List AK}:Ent (dA tn o a (hd b e)::dA tn (Hd o a) b e::L) (dA tn o (a++b) e::L):=by
 refine Ent.trans ?_ GB
 rw [P4,List.append_assoc]
 exact dA_open.trans (Ent.under dA_open _)
theorem dA_cons{tn:TypeId}{o:Option Nat}{x:Nd}{l:List Nd}{e:Option Nat}{L:List AK}:Ent (dA tn o (x::l) e::L) (G4 tn x o (hd l e)::dA tn (some x.p) l e::L) :=
 dA_open.trans (Ent.under (GB (o:=some x.p) (l:=l) (e:=e) (L:=L)) [G4 tn x o (hd l e)])
theorem dA_uncons{tn:TypeId}{o:Option Nat}{x:Nd}{l:List Nd}{e:Option Nat}{L:List AK}:Ent (G4 tn x o (hd l e)::dA tn (some x.p) l e::L) (dA tn o (x::l) e::L) :=
 (Ent.under dA_open [G4 tn x o (hd l e)]).trans (GB (o:=o) (l:=x::l) (e:=e) (L:=L))
theorem TL {tn:TypeId}{o:Option Nat}{x:Nd}{l:List Nd}{e:Option Nat}{L:List AK}:Ent (dA tn o (l++[x]) e::L) (G4 tn x (Hd o l) e::dA tn o l (some x.p)::L) :=
 dA_app.trans (Ent.swap.trans (dA_cons.trans (Ent.under Ent.drop [G4 tn x (Hd o l) e])))
theorem NH {tn:TypeId}{o:Option Nat}{x:Nd}{l:List Nd}{e:Option Nat}{L:List AK}:Ent (G4 tn x (Hd o l) e::dA tn o l (some x.p)::L) (dA tn o (l++[x]) e::L) :=
 (Ent.under (M7 (tn:=tn) (o:=some x.p) (e:=e)) [G4 tn x (Hd o l) e]).trans ((dA_uncons (tn:=tn) (o:=Hd o l) (x:=x) (l:=[]) (e:=e)).trans (Ent.swap.trans (P5 (tn:=tn) (o:=o) (a:=l) (b:=[x]) (e:=e))))
theorem Xr {tn:TypeId}{o:Option Nat}{a b:List Nd}{x:Nd}{e:Option Nat}{L:List AK}:Ent (dA tn o (a++x::b) e::L) (G4 tn x (Hd o a) (hd b e)::dA tn (some x.p) b e::dA tn o a (some x.p)::L) :=
 dA_app.trans (Ent.swap.trans dA_cons)
theorem dA_unmid{tn:TypeId}{o:Option Nat}{a b:List Nd}{x:Nd}{e:Option Nat}{L:List AK}:Ent (G4 tn x (Hd o a) (hd b e)::dA tn (some x.p) b e::dA tn o a (some x.p)::L) (dA tn o (a++x::b) e::L) :=
 dA_uncons.trans (Ent.swap.trans (P5 (b:=x::b)))
theorem TM {tn:TypeId}{o:Option Nat}{a b:List Nd}{m n:Nd}{e:Option Nat}{L:List AK}:Ent (G4 tn m (Hd o a) (some n.p)::dA tn o a (some m.p)::G4 tn n (some m.p) (hd b e)::dA tn (some n.p) b e::L) (dA tn o (a++[m]++n::b) e::L):=by
 have hj:=P5 (tn:=tn) (o:=o) (a:=a++[m]) (b:=n::b) (e:=e) (L:=L)
 rw [He] at hj
 refine Ent.trans ?_ hj
 refine Ent.trans ?_ (NH (tn:=tn) (o:=o) (l:=a) (x:=m) (e:=some n.p))
 exact Ent.under (dA_uncons (tn:=tn) (o:=some m.p) (x:=n) (l:=b) (e:=e)) [_,_]
end SX
namespace SX
open Go
section
variable {P:Program} {ro:Option Nat} {ops:Array Oper} {Q:DK} {N:Nat} {rds:List Nat} {fuel:Nat} {listed:Array Bool} {env:CA} {Lr Lx:List AK}
theorem Ix {p:Prop}(h:∀ m,Sat Lx m→p)(k:p→EG P ro ops Q N rds fuel listed false env Lr Lx):EG P ro ops Q N rds fuel listed false env Lr Lx :=
 fun E D a w hd hf hh hc=>k (h _ (show H (E.add D) w Lx from hh).sat) E D a w hd hf hh hc
end
end SX
namespace SX
open Go
theorem Spec.fr{P:Program}{f:FuncId}{args:List Value}{pre:List AK}{post:Value→List AK→Prop}(h:Spec P f args pre post)(R:List AK):Spec P f args (pre++R) (fun v L=>∃ L',post v L'∧L=L'++R) :=
 fun _ _ hw=>(h.frame hw).mono fun _ _ ⟨v,L',e,p,k⟩=>⟨v,_,e,⟨L',p,rfl⟩,k⟩
end SX
namespace SX
open Go
theorem Xs {α:Type}{F:α→List AK}{L L':List AK}(h:∀ x,Ent (F x++L) L'):Ent (exA F::L) L':=fun m hm=>by
 obtain ⟨x,hx⟩:=Ew hm
 exact h x m hx
end SX
namespace SX
open Go
section
variable {P:Program}
theorem A0u{e n b cap l:Nat}{xs:List Value}{L L':List AK}(t:Take (own e n (.slice (some ⟨b,0,none⟩) l cap) l xs) L L'){E:Ctx}{w:World}(hh:H E w L):∃ ex,H E w (B5 b e (xs++ex)::L'):=by
 obtain ⟨k1,k2,k3,k4,k5⟩:=hh.take t
 have k6:Sat (own e n (.slice (some ⟨b,0,none⟩) l cap) l xs::(E.X++L')) (fun b=>w.heap[b]?):=Sat.perm (BF (.refl _)) _ k5
 rcases Eu k6 with ⟨a1,a2,a3⟩ | ⟨b',cap',ex,a1,a2,a3,a4,a5,a6⟩
 ·cases a1
 ·injection a1 with e1 e2 e3
  injection e1 with e1
  injection e1 with e1
  subst e1
  exact ⟨ex,k1,k2,k3,k4,Sat.perm (BF (.refl _)).symm _ a6⟩
theorem Zs {L L':List AK}{b cap l n:Nat}{xs:List Value}{e:TypeId}(t:Take (own e n (.slice (some ⟨b,0,none⟩) l cap) l xs) L L'){ty:TypeId}[TOne P ty]{j:Nat}{v:Value}(hv:xs[j]? = some v):Ld P L ty ⟨b,j,none⟩ v:=by
 intro E w hh
 obtain ⟨ex,h⟩:=A0u t hh
 exact OE (L:=B5 b e (xs++ex)::L') (ty:=e) (cs:=xs++ex) (by rw [List.getElem?_append_left (List.getElem?_eq_some_iff.1 hv).1]; exact hv) E w h
theorem TN {L L':List AK}{b cap l n:Nat}{xs:List Value}{e:TypeId}(t:Take (own e n (.slice (some ⟨b,0,none⟩) l cap) l xs) L L'){ty k:TypeId}[TAgg P ty k]{i:Nat}{vs:List Value}(hl:vs.length=k)(hv:∀ j v,vs[j]? = some v→xs[i+j]? = some v):Ld P L ty ⟨b,i,none⟩ (.agg vs.toArray):=by
 intro E w hh
 obtain ⟨ex,h⟩:=A0u t hh
 exact RE (L:=B5 b e (xs++ex)::L') (ty:=e) (cs:=xs++ex) hl (fun j v h2=>by have h3:=hv j v h2; rw [List.getElem?_append_left (List.getElem?_eq_some_iff.1 h3).1]; exact h3) E w h
end
end SX
namespace SX
open Go
end SX
namespace SX
open Go
variable {P:Program} {Q:DK} {N:Nat} {env:CA} {L:List AK}

end SX
namespace SX
open Go
section
variable {P:Program} {env:CA} {L:List AK} {μ:PH}
theorem UO {t e n by_:Nat}[h:TSl P t e n by_]{x y z:Operand}{A:Option Addr}{l c:Nat}{k1 k2:IntKind}{hi mx:Int}(a b:Nat)(hx:AO env x=some (.slice A l c))(hy:AO env y=some (.int k1 hi))(hz:AO env z=some (.int k2 mx))(h1:hi=(a:Int))(h2:mx=(b:Int))(hab:a≤b)(hc:b≤c) :
  Pu P env (.slice t x none (some y) (some z)) (.slice A a b):=fun ρ hρ _ _ _ _ _ w=>by
 obtain ⟨i,hu,hi,hin,hib⟩:=h.ok
 subst h1 h2
 have e2:¬ ((c:Int)<(b:Int)):=by omega
 have q1:(0:Int)≤(a:Int)∧(a:Int)≤(b:Int):=by omega
 have q2:(0:Int)≤(b:Int)∧(b:Int)≤(c:Int):=by omega
 simp [execOp,hρ x _ hx,hρ y _ hy,hρ z _ hz,Instr.sliceAt,Instr.slice,run_underlying hu,Instr.sliceBounds,Instr.sliceBound,asIntOf,Go.sizeOf,typeInfo,hi,q1,q2,hab,hc]
 intro _
 have h0:∀ a:Addr,a.add 0=a:=fun a=>by unfold Addr.add; split <;> simp_all
 cases A <;> simp [h0]
def Cat (μ:PH)(e n:Nat)(v:Value)(l:Nat)(xs:List Value)(L R:List AK):Prop :=
 (L=ro μ::R∧Row μ v n l xs∧∃ A,v=.slice A l l)∨L=own e n v l xs::ro μ::R
end
section
variable {P:Program} {env:CA} {L R:List AK} {μ:PH}
theorem H.append_full{E:Ctx}{w:World}{t e:TypeId}{n by_:Nat}(ht:TSl P t e n by_){zs:List Value}(hz:TZero P e zs)(hzl:zs.length=n)(hn0:0<n)
  {v s:Value} {l m:Nat} {xs news:List Value} {A:Option Addr} (hv:v=.slice A l l) (hr:Row μ v n l xs) (h:H E w (ro μ::R)) (hs:Row μ s n m news) (h63:l+m≤maxLen) (hby:(l+m)*by_≤140737488355328) (ty:TypeId) :
  ∃ v' w' L',(Builtin.append_ #[t,t] ty #[v,s]).run P w=.ok v' w'∧H E w' L'∧Cat μ e n v' (l+m) (xs++news) L' R:=by
 obtain ⟨i,hu,hi,hin,hib⟩:=ht.ok
 obtain ⟨i',z,hi',hzz,hzc⟩:=hz.ok
 have:i'=i:=Option.some.inj (hi'.symm.trans hi)
 subst this
 subst hv
 have hs':=hs
 obtain ⟨hsl,B,c,rfl,_,_,_,hpos⟩:=hs
 by_cases hm0:m=0
 ·subst hm0
  have hnil:news=[]:=List.eq_nil_of_length_eq_zero (by rw [hsl]; simp)
  subst hnil
  refine ⟨.slice A l l,w,_,?_,h,.inl ⟨rfl,by simpa using hr,A,rfl⟩⟩
  have hld:∀ B:Addr,(loadCells B 0).run P w=.ok #[] w:=fun B=>run_loadCells_list (P:=P) w B [] (by simp)
  cases A <;> cases B <;> simp [Builtin.append_,run_underlying hu,Go.sizeOf,typeInfo,hi,Builtin.lenOf,Builtin.firstCells,storeCells,hld]
 ·by_cases hl0:l=0
  ·-- an empty slice: nil or not,what comes is new
   subst hl0
   have hxn:xs=[]:=List.eq_nil_of_length_eq_zero (by rw [hr.1]; simp)
   subst hxn
   obtain ⟨ab,off,rfl,hrow⟩:=hpos (by omega)
   have hcells:∀ j u,news[j]? = some u→w.cell? ((⟨ab,off,none⟩:Addr).add j)=some u:=fun j u hj=>by
    rw [CJ]; exact H5 (L:=ro μ::R) h (hrow j u hj)
   have hld:∀ (w:World) (B:Addr),(loadCells B 0).run P w=.ok #[] w:=fun w B=>run_loadCells_list (P:=P) w B [] (by simp)
   have hf:=run_firstCells_some (P:=P) w.drew i'.size m ⟨ab,off,none⟩ m c news (by rw [hsl,hin]) (by simpa using hcells)
   have h63':¬ (9223372036854775807<(m:Int)):=by simp only [maxLen] at h63; omega
   have h48:Builtin.nextslicecap (0+m) 0*i'.bytes≤281474976710656:=growslice_fits (by omega) (by rw [hib]; exact hby)
   rw [Nat.zero_add] at h48
   have h48':¬ (281474976710656<Builtin.nextslicecap m 0*i'.bytes):=by omega
   have hge:=grownCap_ge w m 0 e
   have hcm:grownCap w m 0 e≤maxLen:=grownCap_le_maxLen w m 0 e (by omega)
   have hrun:(Builtin.append_ #[t,t] ty #[.slice A 0 0,.slice (some ⟨ab,off,none⟩) m c]).run P w=.ok (.slice (some ⟨w.heap.size,0,none⟩) m (grownCap w m 0 e)) (w.drew.alloc (.cells (news.toArray++Builtin.zeroCells z.cells (grownCap w m 0 e-m)) e)):=by
    have hfo:(Builtin.firstCells i'.size 0 (.slice A 0 0)).run P w.drew=.ok #[] w.drew:=by cases A <;> simp [Builtin.firstCells,hld]
    simp [Builtin.append_,run_underlying hu,Go.sizeOf,typeInfo,zeroValue,hi,hzz,Builtin.lenOf,hm0,h63',h48',Question.forced,hf,hfo,newRow,grownCap]
   rw [Nat.zero_add]
   refine ⟨_,_,own e n (.slice (some ⟨w.heap.size,0,none⟩) m (grownCap w m 0 e)) m news::ro μ::R,hrun,?_,.inr rfl⟩
   refine (H.alloc (w:=w.drew) h.drew _).ent (Ent.imp fun mm hm=>⟨hsl,.inr ⟨w.heap.size,_,_,rfl,hm,hge,hcm,?_,?_⟩⟩)
   ·simp only [Array.size_append,List.size_toArray,size_zeroCells,hzc,hzl,hsl,← Nat.add_mul]
    congr 1
    omega
   ·simp only [Array.toList_append]
    rw [← hsl]
    exact List.take_left
  ·obtain ⟨hxl,A',cap,hA,hlc,hcm0,_,hpr⟩:=hr
   obtain ⟨rb,ro_,hA2,hrr⟩:=hpr (by omega)
   simp only [Value.slice.injEq] at hA
   obtain ⟨hA3,_,hcap⟩:=hA
   subst hcap
   subst hA3
   subst hA2
   obtain ⟨ab,off,rfl,hrow⟩:=hpos (by omega)
   have hcells:∀ j u,news[j]? = some u→w.cell? ((⟨ab,off,none⟩:Addr).add j)=some u:=fun j u hj=>by
    rw [CJ]; exact H5 (L:=ro μ::R) h (hrow j u hj)
   have hold:∀ j u,xs[j]? = some u→w.cell? ((⟨rb,ro_,none⟩:Addr).add j)=some u:=fun j u hj=>by
    rw [CJ]; exact H5 (L:=ro μ::R) h (hrr j u hj)
   have hge:=grownCap_ge w (l+m) l e
   have hcm:grownCap w (l+m) l e≤maxLen:=grownCap_le_maxLen w (l+m) l e h63
   have hrun:=run_append_grow (P:=P) w t ty e i' z hu hi hzz ⟨rb,ro_,none⟩ l l xs (by rw [hxl,hin]) hold ⟨ab,off,none⟩ m c news (by rw [hsl,hin]) hcells (by omega) (by simp only [maxLen] at h63; omega) (growslice_fits (by omega) (by rw [hib]; exact hby))
   refine ⟨_,_,own e n (.slice (some ⟨w.heap.size,0,none⟩) (l+m) (grownCap w (l+m) l e)) (l+m) (xs++news)::ro μ::R,hrun,?_,.inr rfl⟩
   have hll:(xs++news).length=(l+m)*n:=by rw [List.length_append,hxl,hsl,Nat.add_mul]
   refine (H.alloc (w:=w.drew) h.drew _).ent (Ent.imp fun mm hm=>⟨hll,.inr ⟨w.heap.size,_,_,rfl,hm,hge,hcm,?_,?_⟩⟩)
   ·simp only [Array.size_append,List.size_toArray,size_zeroCells,hzc,hzl,hsl,hxl,← Nat.add_mul]
    congr 1
    omega
   ·simp only [Array.toList_append,List.append_assoc]
    rw [← List.append_assoc,← hll]
    exact List.take_left
theorem Nf {t e n by_:Nat}[ht:TSl P t e n by_]{zs:List Value}[hz:TZero P e zs]{x y:Operand}{v s:Value}{l m:Nat}{xs news:List Value}
  (hc:Cat μ e n v l xs L R) (hs:Row μ s n m news) (hx:AO env x=some v) (hy:AO env y=some s) (h1:news.all Value.oneCell'=true) (h63:l+m≤maxLen) (hby:(l+m)*by_≤140737488355328) (hzl:zs.length=n:=by rfl) (hn0:0<n:=by decide) :
  Ef P env L (.call { callee:=.builtin .append,args:=#[x,y],argTypes:=#[t,t]}) (fun k=>∀ v' L',Cat μ e n v' (l+m) (xs++news) L' R→k v' L'):=by
 intro ro_ dst tt pos af g N E a w next Q k hf hh hk hn
 rcases hc with ⟨rfl,hr,A,hA⟩ | rfl
 ·obtain ⟨v',w',L',hrun,h',hc'⟩:=H.append_full (P:=P) ht hz hzl hn0 hA hr hh hs h63 hby tt
  exact Ce (CY (v:=v') (w':=w') (by rw [hf.ev x _ hx,hf.ev y _ hy]; exact hrun)) <| hn _ _ _ (hk v' L' hc') h'
 ·obtain ⟨v',w',hrun,h',_⟩:=H.append_ro (P:=P) (L:=ro μ::R) ht hz hzl hn0 hh hs h1 h63 hby tt
  exact Ce (CY (v:=v') (w':=w') (by rw [hf.ev x _ hx,hf.ev y _ hy]; exact hrun)) <| hn _ _ _ (hk v' _ (.inr rfl)) h'
end
end SX
namespace SX
open Go
structure Crs (l:List Nm) (keep:List Int) (dn:List ByteArray) (rs rs':List Rc):Prop where
 len:rs'.length=rs.length
 at_:∀ (k:Nat) (r:Rc),rs[k]? = some r→∃ r',rs'[k]? = some r'∧r'.a=r.a∧((∃ s∈dn,BC l s=some k)→r'.f=A1E keep k r.f)∧((¬ ∃ s∈dn,BC l s=some k)→r'.f=r.f)
theorem Crs.start(l:List Nm)(keep:List Int)(rs:List Rc):Crs l keep [] rs rs:=⟨rfl,fun _ r h=>⟨r,h,rfl,(fun ⟨_,h,_⟩=>by cases h),fun _=>rfl⟩⟩
theorem Crs.adr{l:List Nm}{keep:List Int}{dn:List ByteArray}{rs rs':List Rc}(h:Crs l keep dn rs rs')(k:Nat):adr rs' k=adr rs k:=by
 by_cases hk:k<rs.length
 ·obtain ⟨r',h1,h2,_⟩:=h.at_ k _ (List.getElem?_eq_getElem hk)
  rw [Jk h1,Jk (List.getElem?_eq_getElem hk),h2]
 ·unfold SX.adr
  rw [List.getElem?_eq_none (show rs'.length≤k by rw [h.len]; omega),List.getElem?_eq_none (show rs.length≤k by omega)]
theorem Crs.step{l:List Nm}{keep:List Int}{dn:List ByteArray}{rs rs':List Rc}(h:Crs l keep dn rs rs'){s:ByteArray}{k:Nat}{r r2:Rc}(hf:BC l s=some k)(hr:rs[k]? = some r)(ha:r2.a=r.a)(h2:r2.f=A1E keep k r.f) :
  Crs l keep (dn++[s]) rs (rs'.set k r2):=by
 refine ⟨by rw [List.length_set]; exact h.len,fun j q hq=>?_⟩
 have hmem:(∃ z∈dn++[s],BC l z=some j)↔(∃ z∈dn,BC l z=some j)∨k=j:=by
  constructor
  ·rintro ⟨z,hz,e⟩
   rcases List.mem_append.1 hz with hz | hz
   ·exact .inl ⟨z,hz,e⟩
   ·rw [List.mem_singleton.1 hz,hf] at e; exact .inr (Option.some.inj e)
  ·rintro (⟨z,hz,e⟩ | e)
   ·exact ⟨z,List.mem_append_left _ hz,e⟩
   ·exact ⟨s,by simp,by rw [hf,e]⟩
 by_cases e:k=j
 ·subst e
  have hlt:k<rs'.length:=by rw [h.len]; exact (List.getElem?_eq_some_iff.1 hr).1
  rw [hr] at hq
  obtain rfl:=Option.some.inj hq
  exact ⟨r2,List.getElem?_set_self hlt,ha,fun _=>h2,fun hn=>absurd (hmem.2 (.inr rfl)) hn⟩
 ·obtain ⟨q',h1,h3,h4,h5⟩:=h.at_ j q hq
  refine ⟨q',by rw [List.getElem?_set_ne e]; exact h1,h3,fun hm=>h4 ?_,fun hm=>h5 fun hn=>hm (hmem.2 (.inl hn))⟩
  exact (hmem.1 hm).resolve_right e
end SX
namespace SX
theorem Crs.perm{l:List Nm}{keep:List Int}{dn dn':List ByteArray}{rs rs':List Rc}(h:Crs l keep dn rs rs')(hp:dn.Perm dn'):Crs l keep dn' rs rs' :=
 ⟨h.len,fun k r hr=>let ⟨r',h1,h2,h3,h4⟩:=h.at_ k r hr; ⟨r',h1,h2,(fun ⟨s,hs,e⟩=>h3 ⟨s,hp.mem_iff.2 hs,e⟩),fun hn=>h4 fun ⟨s,hs,e⟩=>hn ⟨s,hp.mem_iff.1 hs,e⟩⟩⟩
end SX
namespace SX
open Go
def Within (m:Nat)(d:Dk):Prop:=d.files.length≤m∧d.pend.length≤m
theorem Within.mono{m n:Nat}{d:Dk}(h:Within m d)(k:m≤n):Within n d:=⟨Nat.le_trans h.1 k,Nat.le_trans h.2 k⟩
theorem M8 {P:Dk→Prop}{d:Dk}{s:ByteArray}{f:Nat→Dk×Int}(h0:P d)(h:∀ k,BC d.seen s=some k→P (f k).1):P (Ff d s f).1:=by
 unfold Ff
 split
 ·exact h0
 ·cases hf:BC d.seen s with
  | none=>exact h0
  | some k=>exact h k hf
theorem GD {P:Dk→Prop}{d:Dk}{f:Dk→Dk}(h0:P { d with falls:=0,off:=true})(h1:P (f { d with falls:=if 0<d.falls then d.falls-1 else d.falls})):P (EA d f).1:=by
 unfold EA HS
 by_cases a:0<d.falls
 ·rw [if_pos a] at h1 ⊢
  by_cases b:d.falls=1
  ·rw [if_pos b]; exact h0
  ·rw [if_neg b]; exact h1
 ·rw [if_neg a] at h1 ⊢; exact h1
theorem A0v{d:Dk}(h:d.Ok){fl:Int}(hf:0≤fl∧fl≤9223372036854775807)(off:Bool):Dk.Ok { d with falls:=fl,off:=off}:=⟨h.q,h.fl,h.safe,h.pend,h.seen,h.hist,hf⟩
theorem M9 {d:Dk}(h:d.Ok):Dk.Ok { d with falls:=0,off:=true}:=A0v h (by omega) true
theorem Kb {d:Dk}(h:d.Ok):Dk.Ok { d with falls:=if 0<d.falls then d.falls-1 else d.falls}:=A0v h (by have:=h.falls; split <;> omega) d.off
theorem Zt {q:Int}(h:0≤q∧q≤16777216):(HT q).Ok :=
 ⟨h,(fun f hf=>by cases hf),⟨List.nodup_nil,fun x hx=>by cases hx⟩,(fun c hc=>by cases hc),rfl,(fun i=>by simp [HT]),by show (0:Int)≤0∧(0:Int)≤9223372036854775807; omega⟩
theorem TO {d:Dk}(h:d.Ok){k:Nat}{f:Fl}(h1:f.bytes.length≤FR)(h2:f.safe≤f.bytes.length):(d.setF k f).Ok:=by
 have e:(d.setF k f).files.length=d.files.length:=by unfold Dk.setF; rw [List.length_set]
 refine ⟨h.q,fun g hg=>?_,?_,?_,h.seen,h.hist,h.falls⟩
 ·rcases List.mem_or_eq_of_mem_set hg with hg | rfl
  ·exact h.fl g hg
  ·exact ⟨h1,h2⟩
 ·rw [e]; exact h.safe
 ·rw [e]; exact h.pend
theorem TP {d:Dk}(h:d.Ok):Dk.Ok { d with files:=d.files++[⟨[],0⟩]}:=by
 refine ⟨h.q,fun f hf=>?_,h.safe.mono (by rw [List.length_append]; omega),fun c hc k=>?_,h.seen,h.hist,h.falls⟩
 ·rcases List.mem_append.1 hf with hf | hf
  ·exact h.fl f hf
  ·rw [List.mem_singleton.1 hf]; exact ⟨Nat.zero_le _,Nat.le_refl _⟩
 ·obtain ⟨k1,k2⟩:=h.pend c hc k
  exact ⟨k1,by rw [List.length_append]; omega⟩
theorem Sc {d:Dk}(h:d.Ok){c:Cg}(hc:Bt c.come Dd=false→DG c.come=true∧c.file<d.files.length)(hl:(F6 d.seen c).length≤64):(d.chg c).Ok:=by
 refine ⟨h.q,h.fl,h.safe,fun e he k=>?_,?_,fun i=>?_,h.falls⟩
 ·rcases List.mem_append.1 he with he | he
  ·exact h.pend e he k
  ·rw [List.mem_singleton.1 he] at k ⊢; exact hc k
 ·show F6 d.seen c=(d.pend++[c]).foldl F6 d.safe
  rw [List.foldl_append,← h.seen]; rfl
 ·show (((d.pend++[c]).take i).foldl F6 d.safe).length≤64
  by_cases hi:i≤d.pend.length
  ·rw [List.take_append_of_le_length hi]; exact h.hist i
  ·rw [List.take_of_length_le (by rw [List.length_append]; simp; omega),List.foldl_append,← h.seen]; exact hl
theorem HW {l:List Nm}{s:ByteArray}{k:Nat}(hf:BC l s=some k){c:Cg}(hc:c.gone=s∨c.come=s):(l.filter (F5 c)).length+1≤l.length:=by
 have:(l.filter (F5 c)).length<l.length:=List.length_filter_lt_length_iff_exists.2 ⟨_,CC hf,by
  unfold F5
  rcases hc with hc | hc
  ·rw [hc,BQ]; simp
  ·rw [hc,BQ]; simp⟩
 omega
theorem P6 (l:List Nm)(c:Cg):(F6 l c).length≤(l.filter (F5 c)).length+1:=by
 unfold F6
 rw [List.length_append]
 split <;> simp
theorem Sd {d:Dk}{s:ByteArray}{k:Nat}(h:BC d.seen s=some k):(d.fl k).bytes.length≤d.used:=M3 (fun x:Nm=>(d.fl x.2).bytes.length) d.seen _ (CC h)
theorem Mb {d:Dk}(h:d.Ok)(s:ByteArray):(BG d s).1.Ok:=by
 unfold BG
 split
 ·exact h
 ·split
  ·exact h
  ·next hg =>
   split
   ·exact h
   ·next hn =>
    refine GD (M9 h) ?_
    refine Sc (TP (Kb h)) (fun _=>⟨by simpa using hg,by show d.files.length<(d.files++[_]).length; rw [List.length_append]; simp⟩) ?_
    have h1:=P6 d.seen ⟨Dd,s,d.files.length⟩
    have h2:=h.seenLe
    show (F6 d.seen ⟨Dd,s,d.files.length⟩).length≤64
    cases hf:BC d.seen s with
    | none =>
     have h3:¬ 64≤d.seen.length:=fun h3=>hn ⟨by rw [hf]; rfl,h3⟩
     have h4:=List.length_filter_le (F5 ⟨Dd,s,d.files.length⟩) d.seen
     omega
    | some k=>have:=HW hf (c:=⟨Dd,s,d.files.length⟩) (.inr rfl); omega
theorem Se {d:Dk}(h:d.Ok)(s:ByteArray)(t:List UInt8):(BR d s t).1.Ok:=by
 refine M8 h fun k hk=>?_
 split
 ·exact h
 ·next hn =>
  refine GD (M9 h) ?_
  have h1:=Dk.fl_ok h k
  have h2:=Sd hk
  have hq:=h.q
  refine TO (Kb h) ?_ ?_
  ·show ((d.fl k).bytes++t).length≤FR
   rw [List.length_append]
   simp only [FR] at *
   by_cases h0:0<t.length
   ·have:¬ d.quota<(d.used:Int)+t.length:=fun e=>hn ⟨h0,e⟩
    omega
   ·omega
  ·show (d.fl k).safe≤((d.fl k).bytes++t).length
   rw [List.length_append]; omega
theorem Ng {d:Dk}(h:d.Ok):(C2 d).1.Ok:=by
 unfold C2
 split
 ·exact h
 ·refine GD (M9 h) ?_
  have h1:=Kb h
  exact ⟨h1.q,h1.fl,h.seenOk,(fun c hc=>by cases hc),rfl,(fun i=>by rw [List.take_nil]; exact h.seenLe),h1.falls⟩
theorem Sf {d:Dk}(h:d.Ok)(s t:ByteArray):(CH d s t).1.Ok:=by
 refine M8 h fun k hk=>?_
 split
 ·exact h
 ·next hg =>
  refine GD (M9 h) ?_
  split
  ·exact Kb h
  ·have hm:=h.seenOk.good _ (CC hk)
   refine Sc (Kb h) (fun _=>⟨by simpa using hg,hm.2⟩) ?_
   have h1:=P6 d.seen ⟨s,t,k⟩
   have h2:=h.seenLe
   have h3:=HW hk (c:=⟨s,t,k⟩) (.inl rfl)
   show (F6 d.seen ⟨s,t,k⟩).length≤64
   omega
theorem Sg {d:Dk}(h:d.Ok)(s:ByteArray):(DH d s).1.Ok:=by
 refine M8 h fun k hk=>?_
 refine GD (M9 h) ?_
 refine Sc (Kb h) (fun e=>absurd e (by show ¬ Bt Dd Dd=false; rw [BQ]; decide)) ?_
 have h1:=P6 d.seen ⟨s,Dd,0⟩
 have h2:=h.seenLe
 have h3:=HW hk (c:=⟨s,Dd,0⟩) (.inl rfl)
 show (F6 d.seen ⟨s,Dd,0⟩).length≤64
 omega
theorem Sh {d:Dk}{m:Nat}(h:Within m d)(s:ByteArray):Within (m+1) (BG d s).1:=by
 unfold BG
 split
 ·exact h.mono (by omega)
 ·split
  ·exact h.mono (by omega)
  ·split
   ·exact h.mono (by omega)
   ·refine GD (P:=Within (m+1)) (h.mono (by omega)) ?_
    have:=h.1; have:=h.2
    constructor
    ·show (d.files++[_]).length≤_; rw [List.length_append]; simp; omega
    ·show (d.pend++[_]).length≤_; rw [List.length_append]; simp; omega
theorem A0P{d:Dk}{m:Nat}(h:Within m d)(c:Cg):Within (m+1) (d.chg c):=⟨by have:=h.1; show d.files.length≤_; omega,by have:=h.2; show (d.pend++[_]).length≤_; rw [List.length_append]; simp; omega⟩
section
variable {P:Program} {env:CA} {L L':List AK}
theorem GE {e n:Nat}{v:Value}{l:Nat}{xs:List Value}{m:PH}(h:Sat (own e n v l xs::L) m):∃ A c,v=.slice A l c∧l≤c∧c≤maxLen∧(A=none→c=0)∧∀ a,A=some a→∃ b,a=⟨b,0,none⟩:=by
 obtain ⟨m1,_,⟨_,ho⟩,_⟩:=h
 rcases ho with ⟨rfl,rfl⟩ | ⟨g,cap,cur,rfl,_,h3,h4,_⟩
 ·exact ⟨_,_,rfl,Nat.le_refl _,Nat.zero_le _,(fun _=>rfl),fun a h=>by cases h⟩
 ·exact ⟨_,_,rfl,h3,h4,(fun h=>by cases h),fun a h=>⟨g,(Option.some.inj h).symm⟩⟩
theorem Qq {E:Ctx}{w:World}{e n b c l i:Nat}{xs:List Value}{v:Value}(hh:H E w L)(hL:Take (own e n (.slice (some ⟨b,0,none⟩) l c) l xs) L L')(hv:xs[i]? = some v):w.cell? ⟨b,i,none⟩=some v:=by
 obtain ⟨m1,m2,⟨_,ho⟩,_,_,s1,_⟩:=(hh.ent (Ent.perm hL.perm)).sat
 rcases ho with ⟨h0,_⟩ | ⟨g,cap,cur,h1,hg,_,_,_,htk⟩
 ·cases h0
 ·obtain ⟨h2,_,_⟩:=Value.slice.inj h1
  obtain ⟨rfl,_,_⟩:=Addr.mk.inj (Option.some.inj h2)
  have hw:w.heap[b]? = some (.cells cur e (0,0)):=s1 _ _ hg
  rw [← htk,List.getElem?_take] at hv
  split at hv
  ·rw [cell_of_row w b i _ e (0,0) hw,← Array.getElem?_toList]; exact hv
  ·cases hv
theorem Gk {t:TypeId}[ht:TOne P t]{x:Operand}{e n b c l i:Nat}{xs:List Value}{v:Value}(hx:AO env x=some (.pointer (some ⟨b,i,none⟩)))(hL:Take (own e n (.slice (some ⟨b,0,none⟩) l c) l xs) L L')(hv:xs[i]? = some v):Rd P env L (.load t x) v :=
 CX hx fun {E w} hh=>by
  have ha:=FA ht.und w
  simp [loadVar,ha,Qq hh hL hv]
theorem Zu {t k:Nat}[ht:TAgg P t k]{x:Operand}{e n b c l i:Nat}{xs vs:List Value}(hx:AO env x=some (.pointer (some ⟨b,i,none⟩)))(hL:Take (own e n (.slice (some ⟨b,0,none⟩) l c) l xs) L L')(hl:vs.length=k)(hv:∀ (j:Nat) (v:Value),vs[j]? = some v→xs[i+j]? = some v):Rd P env L (.load t x) (.agg vs.toArray) :=
 CX hx fun {E w} hh=>by
  have ha:=FA ht.und w
  have hr:=run_loadCells_list (P:=P) w ⟨b,i,none⟩ vs (fun j v hj=>by rw [CJ]; exact Qq hh hL (hv j v hj))
  rw [hl] at hr
  simp [loadVar,ha,EP ht.inf,hr]
theorem Zv {xs ex:List Value}{i:Nat}{v:Value}(h:i<xs.length):(xs++ex).set i v=xs.set i v++ex:=by rw [List.set_append_left _ _ h]
theorem Hf {t:TypeId}[ht:TOne P t]{x y:Operand}{e n b c l i:Nat}{xs:List Value}{v:Value}{R:List AK}(hx:AO env x=some (.pointer (some ⟨b,i,none⟩)))(hy:AO env y=some v)(hL:Split L [own e n (.slice (some ⟨b,0,none⟩) l c) l xs] R)(hi:i<xs.length)(hv:v.oneCell'=true) :
  Ef P env L (.store t x y) (fun k=>k undef (own e n (.slice (some ⟨b,0,none⟩) l c) l (xs.set i v)::R)):=by
 intro ro dst tt pos af g N E a w next Q k hf hh hk hn
 have h2:=hh.ent hL.ent
 obtain ⟨h21,h22,h23,h24,h25⟩:=h2
 have k6:Sat (own e n (.slice (some ⟨b,0,none⟩) l c) l xs::(E.X++R)) (fun b=>w.heap[b]?):=Sat.perm (BF (.refl _)) _ h25
 rcases Eu k6 with ⟨h0,_⟩ | ⟨b',cap,ex,h1,h3,h4,h5,h6,h7⟩
 ·cases h0
 ·obtain ⟨h8,_,rfl⟩:=Value.slice.inj h1
  obtain ⟨rfl,_,_⟩:=Addr.mk.inj (Option.some.inj h8)
  have h9:H E w (B5 b e (xs++ex)::R):=⟨h21,h22,h23,h24,Sat.perm (BF (.refl _)).symm _ h7⟩
  refine CB (P:=P) (t:=t) (L:=B5 b e (xs++ex)::R) (i:=i) hx hy hv (by rw [List.length_append]; omega) ro dst tt pos af g N E a w next Q (fun u L'=>u=undef∧Ent L' (own e n (.slice (some ⟨b,0,none⟩) l c) l (xs.set i v)::R)) hf h9 ⟨rfl,?_⟩ ?_
  ·rw [Zv hi]
   exact DB (by rw [List.length_set]; exact h5) h6 h3 h4
  ·rintro u w' L' ⟨rfl,he⟩ hh'
   exact hn _ _ _ hk (hh'.ent he)
theorem P7 {α:Type}{f:α→List Value}{n:Nat}(hf:∀ a,(f a).length=n){l:List α}{i:Nat}{a:α}(h:l[i]? = some a)(j:Nat)(v:Value)(hj:(f a)[j]? = some v):(l.flatMap f)[i*n+j]? = some v:=by
 have:=Cz hf l [] i a h j v hj
 rwa [List.append_nil] at this
end
section
variable {P:Program} {env:CA} {L:List AK}
theorem Mc {α:Type}{f:α→List Value}(h:∀ a,(f a).all Value.oneCell'=true)(xs:List α):(xs.flatMap f).all Value.oneCell'=true:=by
 rw [List.all_flatMap]; exact List.all_eq_true.2 fun a _=>h a
end
end SX
namespace SX
open Go
structure GR where
 ps:List Int
 tr:Int
 gn:Int
 st:Int
 bt:List UInt8
structure GR.Ok (r:GR) (n:Nat):Prop where
 pl:r.ps.length≤16
 pr:∀ p∈r.ps,0≤p∧p<n
 pn:r.ps.Nodup
 tr:0≤r.tr∧r.tr<65536
 gn:1≤r.gn∧r.gn≤1023
 ft:(r.st=1∧r.bt≠[]∧r.bt.length≤4096)∨(r.st=2∧r.bt=[])
structure GsOk (base:Nat) (R:List GR):Prop where
 len:R.length≤16
 all:base+R.length≤65536
 row:∀ (i:Nat) (r:GR),R[i]? = some r→r.Ok (base+i)
def JB (r:GR):Nat:=match r.ps with
 | []=>4294967295
 | p::_=>p.toNat
def IN (e:Nat)(r:GR):Nat:=if 2<r.ps.length then 2147483648+e / 4 else match r.ps[1]? with
 | some p=>p.toNat
 | none=>4294967295
def HX (r:GR):List Int:=(r.ps.drop 1).take (r.ps.length-1-1)
def Si (r:GR):Nat:=(r.ps.getD (r.ps.length-1) 0).toNat
def GF (l:List Int):List UInt8:=l.flatMap fun p=>Br 4 p.toNat
def F7 (r:GR):List UInt8:=if 2<r.ps.length then GF (HX r)++Br 4 (Si r+2147483648) else []
def HY (e:Nat)(r:GR):List UInt8:=Br 4 r.tr.toNat++(Br 4 (JB r)++(Br 4 (IN e r)++(Br 2 r.gn.toNat++Br 1 r.st.toNat)))
def EK (R:List GR):List UInt8:=R.flatMap F7
def Ee:Nat→List GR→List UInt8
 | _,[]=>[]
 | e,r::R=>HY e r++Ee (e+(F7 r).length) R
def FS:Nat→List GR→List UInt8
 | _,[]=>[]
 | k,r::R=>Br 4 (k+r.bt.length)++FS (k+r.bt.length) R
def El (R:List GR):List UInt8:=R.flatMap (·.bt)
def HZ (base n:Nat):List UInt8:=Br 4 base++(Br 4 n++(Br 1 3++(Br 1 10++(Br 2 2++Br 4 7))))
theorem NI (l:List Int):(GF l).length=4*l.length:=by
 unfold GF
 induction l with
 | nil=>rfl
 | cons x l ih=>rw [List.flatMap_cons,List.length_append,ih,Bu,List.length_cons]; omega
theorem UP (r:GR):(F7 r).length=if 2<r.ps.length then 4*(r.ps.length-1) else 0:=by
 unfold F7
 split
 ·rw [List.length_append,NI,Bu]
  unfold HX
  rw [List.length_take,List.length_drop]; omega
 ·rfl
theorem Xt {r:GR}{n:Nat}(h:r.Ok n):(F7 r).length≤60∧(F7 r).length % 4=0:=by
 have:=h.pl
 rw [UP]; split <;> omega
theorem UQ (e:Nat)(r:GR):(HY e r).length=15:=by unfold HY; simp only [List.length_append,Bu]
theorem NJ (A B:List GR):EK (A++B)=EK A++EK B:=List.flatMap_append
theorem NK (A B:List GR):El (A++B)=El A++El B:=List.flatMap_append
theorem Md:∀ (e:Nat) (A B:List GR),Ee e (A++B)=Ee e A++Ee (e+(EK A).length) B
 | e,[],B=>rfl
 | e,r::A,B=>by
  show HY e r++Ee _ (A++B)=(HY e r++Ee _ A)++_
  rw [Md,List.append_assoc,show EK (r::A)=F7 r++EK A from rfl,List.length_append,Nat.add_assoc]
theorem NL:∀ (k:Nat) (A B:List GR),FS k (A++B)=FS k A++FS (k+(El A).length) B
 | k,[],B=>rfl
 | k,r::A,B=>by
  show Br 4 _++FS _ (A++B)=(Br 4 _++FS _ A)++_
  rw [NL,List.append_assoc,show El (r::A)=r.bt++El A from rfl,List.length_append,Nat.add_assoc]
theorem Sj (e:Nat)(r:GR):Ee e [r]=HY e r:=List.append_nil _
theorem UR (k:Nat)(r:GR):FS k [r]=Br 4 (k+r.bt.length):=List.append_nil _
theorem NM (r:GR):EK [r]=F7 r:=List.append_nil _
theorem NN (r:GR):El [r]=r.bt:=List.append_nil _
theorem Hg:∀ (e:Nat) (R:List GR),(Ee e R).length=15*R.length
 | _,[]=>rfl
 | e,r::R=>by show (HY e r++Ee _ R).length=_; rw [List.length_append,UQ,Hg,List.length_cons]; omega
theorem Iy:∀ (k:Nat) (R:List GR),(FS k R).length=4*R.length
 | _,[]=>rfl
 | k,r::R=>by show (Br 4 _++FS _ R).length=_; rw [List.length_append,Bu,Iy,List.length_cons]; omega
theorem Ca {α:Type}{R:List α}{i:Nat}{r:α}(h:R[i]? = some r):R.take (i+1)=R.take i++[r]:=by rw [List.take_add_one,h]; rfl
theorem NO {α:Type}{R:List α}{i:Nat}{r:α}(h:R[i]? = some r):R.drop i=r::R.drop (i+1):=by
 obtain ⟨hi,rfl⟩:=List.getElem?_eq_some_iff.1 h
 exact List.drop_eq_getElem_cons hi
theorem Zw {base:Nat}{R:List GR}(h:GsOk base R)(i:Nat):(EK (R.take i)).length≤60*(R.take i).length∧(EK (R.take i)).length % 4=0∧(El (R.take i)).length≤4096*(R.take i).length:=by
 induction i with
 | zero=>rw [List.take_zero]; exact ⟨Nat.le_refl _,rfl,Nat.le_refl _⟩
 | succ i ih =>
  cases hr:R[i]? with
  | none=>rw [show R.take (i+1)=R.take i by rw [List.take_add_one,hr]; exact List.append_nil _]; exact ih
  | some r =>
   rw [Ca hr,NJ,NK,NM,NN,List.length_append,List.length_append,List.length_append,List.length_singleton]
   have h1:=Xt (h.row i r hr)
   have h2:r.bt.length≤4096:=by
    rcases (h.row i r hr).ft with ⟨_,_,h⟩ | ⟨_,h⟩
    ·exact h
    ·rw [h]; exact Nat.zero_le _
   omega
theorem Me {base:Nat}{R:List GR}(h:GsOk base R)(i:Nat):(EK (R.take i)).length≤960∧(EK (R.take i)).length % 4=0∧(El (R.take i)).length≤65536:=by
 have:=Zw h i
 have h2:(R.take i).length≤16:=by rw [List.length_take]; have:=h.len; omega
 omega
abbrev US (x:Value×GR):List Value:=[x.1,.int .i64 x.2.tr,.int .i64 x.2.gn,.int .i64 x.2.st,.string (str x.2.bt)]
structure GRows (μ:PH) (v:Value) (R:List (Value×GR)):Prop where
 row:Row μ v 5 R.length (R.flatMap US)
 ps:∀ x∈R,Row μ x.1 1 x.2.ps.length (x.2.ps.flatMap (Bw .i64))
abbrev E0 (R:List (Value×GR)):List GR:=R.map (·.2)
theorem GRows.le{μ μ':PH}{v:Value}{R:List (Value×GR)}(h:GRows μ v R)(k:Le μ μ'):GRows μ' v R:=⟨h.row.le k,fun x hx=>(h.ps x hx).le k⟩
abbrev grl (A:Option Addr)(c:Nat)(r:GR):List Value:=[.slice A r.ps.length c,.int .i64 r.tr,.int .i64 r.gn,.int .i64 r.st,.string (str r.bt)]
theorem P8 {μ:PH}{v:Value}{R:List (Value×GR)}(h:GRows μ v R){i:Nat}{x:Value×GR}(hi:R[i]? = some x):∃ b off cap A c,v=.slice (some ⟨b,off,none⟩) R.length cap∧RowAt μ b (off+i*5) (grl A c x.2)∧Row μ (.slice A x.2.ps.length c) 1 x.2.ps.length (x.2.ps.flatMap (Bw .i64))∧x.1=.slice A x.2.ps.length c:=by
 have hl:=(List.getElem?_eq_some_iff.1 hi).1
 obtain ⟨b,off,cap,hv,_,_,hr⟩:=h.row.pos (by omega)
 have hp:=h.ps x (List.mem_of_getElem? hi)
 obtain ⟨A,c,hx⟩:=hp.sl
 have he:=hr.elem (f:=US) (n:=5) (fun _=>rfl) hi
 unfold US at he
 rw [hx] at he hp
 exact ⟨b,off,cap,A,c,hv,he,hp,hx⟩
theorem Sk {R:List (Value×GR)}{i:Nat}{x:Value×GR}(h:R[i]? = some x):(E0 R)[i]? = some x.2:=by rw [List.getElem?_map,h]; rfl
section
variable {P:Program} {env:CA}
theorem DW {n:Nat}(h:n<4294967296):IntKind.u32.wrap (n:Int)=n:=by simp [IntKind.wrap,IntKind.bits,IntKind.signed]; omega
theorem Mf {t u:TypeId}{x y:Operand}{a b:Int}(c:Nat)(hx:AO env x=some (.int .u32 a))(hy:AO env y=some (.int .u32 b))(hc:a+b=(c:Int))(h2:c<4294967296):Pu P env (.binOp .add t x y u) (.int .u32 (c:Nat)):=by
 have:=OC (P:=P) (t:=t) (u:=u) hx hy
 rwa [hc,DW h2] at this
end
end SX
namespace SX
open Go
theorem Row.tk{μ:PH}{A:Option Addr}{cap n:Nat}{β:Type}{f:β→List Value}(hf:∀ e,(f e).length=n){l:List β}(h:Row μ (.slice A l.length cap) n l.length (l.flatMap f)){i:Nat}(hi:i≤l.length):Row μ (.slice A i cap) n (l.take i).length ((l.take i).flatMap f):=by
 obtain ⟨e0,A',c',e1,e2,e3,e4,e5⟩:=h
 cases e1
 have hl:(l.take i).length=i:=by rw [List.length_take]; omega
 rw [hl]
 refine ⟨by rw [Cp (f:=f) (k:=n) hf,hl],A,cap,rfl,by omega,e3,e4,fun h0=>?_⟩
 obtain ⟨b,off,rfl,hr⟩:=e5 (by omega)
 refine ⟨b,off,rfl,fun j u hj=>?_⟩
 have hs:l.flatMap f=(l.take i).flatMap f++(l.drop i).flatMap f:=by rw [← List.flatMap_append,List.take_append_drop]
 have hjl:=(List.getElem?_eq_some_iff.1 hj).1
 exact hr j u (by rw [hs,List.getElem?_append_left hjl]; exact hj)
end SX
namespace SX
open Go
theorem Jl {β:Type}{f:β→List Value}(hf:∀ e,(f e).length=1):∀ (es:List β) (k:Nat),(es.flatMap f).take k=(es.take k).flatMap f
 | [],k=>by simp
 | x::es,0=>rfl
 | x::es,k+1=>by
  obtain ⟨v,hv⟩:∃ v,f x=[v]:=List.length_eq_one_iff.1 (hf x)
  rw [List.flatMap_cons,hv,List.take_succ_cons,List.flatMap_cons,hv,List.singleton_append,List.take_succ_cons,Jl hf es k,List.singleton_append]
theorem Mg {β:Type}{f:β→List Value}(hf:∀ e,(f e).length=1):∀ (es:List β) (k:Nat),(es.flatMap f).drop k=(es.drop k).flatMap f
 | [],k=>by simp
 | x::es,0=>rfl
 | x::es,k+1=>by
  obtain ⟨v,hv⟩:∃ v,f x=[v]:=List.length_eq_one_iff.1 (hf x)
  rw [List.flatMap_cons,hv,List.drop_succ_cons,List.singleton_append,List.drop_succ_cons,Mg hf es k]
theorem Qr (r:GR):(HX r).length=r.ps.length-1-1:=by unfold HX; rw [List.length_take,List.length_drop]; omega
theorem Sl (r:GR):((r.ps.flatMap (Bw .i64)).take ((r.ps.length-1)*1)).drop (1*1)=(HX r).flatMap (Bw .i64):=by
 rw [Nat.mul_one,Nat.mul_one,Jl (f:=Bw .i64) (fun _=>rfl),Mg (f:=Bw .i64) (fun _=>rfl),List.drop_take]; rfl
theorem CD {P:Program}{env:CA}{s t:TypeId}{ks k k':IntKind}[hs:TInt P s ks][ht:TInt P t k']{x:Operand}{n:Int}(m:Nat)(hx:AO env x=some (.int k n))(hn:n=(m:Int))(h:k'.wrap (m:Int)=m):Pu P env (.convert s t x) (.int k' (m:Nat)):=by
 subst hn; exact BP hx h
theorem UT (a b:List Int):GF (a++b)=GF a++GF b:=List.flatMap_append
end SX
namespace SX
open Go
theorem Sm {R:List GR}{i:Nat}{r:GR}(h:R[i]? = some r):Ee 0 (R.take (i+1))=Ee 0 (R.take i)++HY (EK (R.take i)).length r:=by rw [Ca h,Md,Sj,Nat.zero_add]
theorem UU {R:List GR}{i:Nat}{r:GR}(h:R[i]? = some r):EK (R.take (i+1))=EK (R.take i)++F7 r:=by rw [Ca h,NJ,NM]
theorem UV {R:List GR}{i:Nat}{r:GR}(h:R[i]? = some r):El (R.take (i+1))=El (R.take i)++r.bt:=by rw [Ca h,NK,NN]
theorem UW {R:List GR}{i:Nat}{r:GR}(h:R[i]? = some r):FS 0 (R.take (i+1))=FS 0 (R.take i)++Br 4 ((El (R.take i)).length+r.bt.length):=by rw [Ca h,NL,UR,Nat.zero_add]
theorem GR.Ok.bl{r:GR}{n:Nat}(h:r.Ok n):r.bt.length≤4096:=by
 rcases h.ft with ⟨_,_,h⟩ | ⟨_,h⟩
 ·exact h
 ·rw [h]; exact Nat.zero_le _
theorem NP (a b:Nat):(HZ a b).length=16:=by unfold HZ; simp only [List.length_append,Bu]
abbrev GV:Type:=Nat×Value×List (Value×GR)
end SX
namespace SX
open Go
end SX
namespace SX
open Go
theorem Xu {b:Nat}{o:Obj}{μ:PH}{L:List AK}{m:PH}(h:Sat (one b o::ro μ::L) m) :
  ∃ μ',Le μ μ'∧μ' b=some o∧Sat (ro μ'::L) m∧∀ μ'',Le μ' μ''→∃ μ3,Le μ μ3∧∀ L',Ent (ro μ''::L') (one b o::ro μ3::L'):=by
 have hb:μ b=none:=by
  obtain ⟨m1,m2,h1,⟨m3,m4,h3,h4,hd2,t1,t2⟩,hd,s1,s2⟩:=h
  cases hx:μ b with
  | none=>rfl
  | some x =>
   have:=(hd b).resolve_left (by unfold one at h1; rw [h1]; simp)
   rw [t1 b x (h3 b x hx)] at this; cases this
 obtain ⟨μ',k1,k2,k3⟩:=No h
 refine ⟨μ',k1,k2,k3,fun μ'' hle=>⟨fun k=>if k=b then none else μ'' k,fun k x hk=>?_,fun L' m' hs=>?_⟩⟩
 ·have:k≠b:=by rintro rfl; rw [hb] at hk; cases hk
  simp only [this,if_false]
  exact hle k x (k1 k x hk)
 ·obtain ⟨m1,m2,a1,a2,ad,as1,as2⟩:=hs
  have hm1:m1 b=some o:=a1 b o (hle b o k2)
  have hm2:m2 b=none:=(ad b).resolve_left (by rw [hm1]; simp)
  refine ⟨fun k=>if k=b then some o else none,fun k=>if k=b then none else m' k,by simp [one],⟨fun k=>if k=b then none else m1 k,m2,fun k x hk=>?_,a2,fun k=>?_,fun k x hk=>?_,fun k x hk=>?_⟩,fun k=>?_,fun k x hk=>?_,fun k x hk=>?_⟩
  ·by_cases e:k=b
   ·simp [e] at hk
   ·simp only [e,if_false] at hk ⊢; exact a1 k x hk
  ·by_cases e:k=b
   ·exact .inl (by simp [e])
   ·simp only [e,if_false]; exact ad k
  ·by_cases e:k=b
   ·simp [e] at hk
   ·simp only [e,if_false] at hk ⊢; exact as1 k x hk
  ·have e:k≠b:=by rintro rfl; rw [hm2] at hk; cases hk
   simp only [e,if_false]; exact as2 k x hk
  ·by_cases e:k=b
   ·exact .inr (by simp [e])
   ·exact .inl (by simp [e])
  ·by_cases e:k=b
   ·subst e; simp at hk; subst hk; exact as1 _ _ hm1
   ·simp [e] at hk
  ·by_cases e:k=b
   ·simp [e] at hk
   ·simp only [e,if_false] at hk; exact hk
def A1G (e n:Nat)(v:Value)(l:Nat)(xs:List Value)(μ μ':PH):Prop:=∀ μ'',Le μ' μ''→∃ μ3,Le μ μ3∧∀ L',Ent (ro μ''::L') (own e n v l xs::ro μ3::L')
section
variable {P:Program} {env:CA} {μ:PH} {L:List AK} {rn:Option Nat} {Q:DK} {N:Nat}
theorem H.lend_own{E:Ctx}{w:World}{e n:Nat}{v:Value}{l:Nat}{xs:List Value}(h:H E w (own e n v l xs::ro μ::L)) :
  ∃ μ',Le μ μ'∧Row μ' v n l xs∧H E w (ro μ'::L)∧A1G e n v l xs μ μ':=by
 obtain ⟨h1,h2,h3,h4,h5⟩:=h
 have k6:Sat (own e n v l xs::(E.X++(ro μ::L))) (fun b=>w.heap[b]?):=Sat.perm (BF (.refl _)) _ h5
 rcases Eu k6 with ⟨a1,a2,a3⟩ | ⟨b,cap,ex,a1,a2,a3,a4,a5,a6⟩
 ·subst a1 a2 a3
  exact ⟨μ,Le.refl _,Row.nil _ _,⟨h1,h2,h3,h4,k6.tail⟩,fun μ'' hle=>⟨μ'',hle,fun L'=>own_nil_ent⟩⟩
 ·have p:(one b (.cells (xs++ex).toArray e (0,0))::(E.X++(ro μ::L))).Perm (one b (.cells (xs++ex).toArray e (0,0))::ro μ::(E.X++L)):=List.Perm.cons _ (BF (.refl _))
  obtain ⟨μ',b1,b2,b3,b4⟩:=Xu (Sat.perm p _ a6)
  refine ⟨μ',b1,⟨a4,some ⟨b,0,none⟩,cap,a1,a2,a3,fun h=>(by cases h),fun _=>⟨b,0,rfl,fun j u hj=>⟨_,_,_,b2,?_⟩⟩⟩,⟨h1,h2,h3,h4,Sat.perm (BF (.refl _)).symm _ b3⟩,fun μ'' hle=>?_⟩
  ·have hlt:j<xs.length:=(List.getElem?_eq_some_iff.1 hj).1
   simpa [List.getElem?_append_left hlt] using hj
  ·obtain ⟨μ3,c1,c2⟩:=b4 μ'' hle
   refine ⟨μ3,c1,fun L'=>(c2 L').trans ?_⟩
   rw [a1]
   exact DB a4 a5 a2 a3
theorem P9 {ops:Array Oper}{ol:List Oper}{e n:Nat}{v:Value}{l:Nat}{xs:List Value}{L0:List AK}(hL:Split L0 [own e n v l xs,ro μ] L)
  (h:∀ μ',Le μ μ'→Row μ' v n l xs→A1G e n v l xs μ μ'→G1 P rn ops Q N ol env (ro μ'::L)):G1 P rn ops Q N ol env L0:=fun E D a w hd hf hh=>by
 obtain ⟨μ',h1,h2,h3,h4⟩:=(hh.ent hL.ent).lend_own
 exact h μ' h1 h2 h4 E D a w hd hf h3
theorem Pa {t e n by_:Nat}[h:TSl P t e n by_]{x y z:Operand}{A:Option Addr}{l c:Nat}{k1 k2:IntKind}{lo hi:Int}(a b:Nat)(hx:AO env x=some (.slice A l c))(hy:AO env y=some (.int k1 lo))(hz:AO env z=some (.int k2 hi))(h1:lo=(a:Int))(h2:hi=(b:Int))(hab:a≤b)(hc:b≤c) :
  Pu P env (.slice t x (some y) (some z) none) (.slice (if c=a then A else A.map (·.add (a*n))) (b-a) (c-a)):=fun ρ hρ _ _ _ _ _ w=>by
 obtain ⟨j,he,hj,hn,_⟩:=h.ok
 have h0:(0:Int)≤(a:Int)∧(a:Int)≤(b:Int):=⟨by omega,by omega⟩
 have h00:(0:Int)≤(b:Int)∧(b:Int)≤(c:Int):=⟨by omega,by omega⟩
 by_cases hck:c=a
 ·subst hck
  simp [execOp,hρ x _ hx,hρ y _ hy,hρ z _ hz,h1,h2,Instr.sliceAt,run_underlying he,Instr.slice,Instr.sliceBounds,Instr.sliceBound,asIntOf,h0,h00,Go.sizeOf,typeInfo,hj,hab,hc]
 ·simp [execOp,hρ x _ hx,hρ y _ hy,hρ z _ hz,h1,h2,Instr.sliceAt,run_underlying he,Instr.slice,Instr.sliceBounds,Instr.sliceBound,asIntOf,h0,h00,Go.sizeOf,typeInfo,hj,hck,hn,hab,hc]
theorem Row.mid{t e n by_:Nat}[h:TSl P t e n by_]{v:Value}{l:Nat}{xs:List Value}(hr:Row μ v n l xs)(a b:Nat)(hab:a≤b)(hb:b≤l) :
  ∃ v',Row μ v' n (b-a) ((xs.take (b*n)).drop (a*n))∧∀ (env:CA) (x y z:Operand) (k1 k2:IntKind) (lo hi:Int),AO env x=some v→AO env y=some (.int k1 lo)→AO env z=some (.int k2 hi)→lo=(a:Int)→hi=(b:Int)→Pu P env (.slice t x (some y) (some z) none) v':=by
 obtain ⟨h0,A,cap,rfl,h2,h3,h4,h5⟩:=hr
 have hlt:(xs.take (b*n)).length=b*n:=by rw [List.length_take,h0]; exact Nat.min_eq_left (Nat.mul_le_mul_right n hb)
 have hlen:((xs.take (b*n)).drop (a*n)).length=(b-a)*n:=by rw [List.length_drop,hlt,Nat.sub_mul]
 refine ⟨_,⟨hlen,_,_,rfl,by omega,by omega,fun hA=>?_,fun hl=>?_⟩,fun env x y z k1 k2 lo hi hx hy hz e1 e2=>Pa a b hx hy hz e1 e2 hab (by omega)⟩
 ·split at hA
  ·omega
  ·rw [Option.map_eq_none_iff] at hA; have:=h4 hA; omega
 ·obtain ⟨bb,off,rfl,hr⟩:=h5 (by omega)
  rw [if_neg (by omega)]
  refine ⟨bb,off+a*n,by simp [CJ],fun j u hj=>?_⟩
  rw [Nat.add_assoc]
  rw [List.getElem?_drop,List.getElem?_take] at hj
  split at hj
  ·exact hr _ _ hj
  ·cases hj
end
section
variable {P:Program} {tG:Nat}
end
end SX
namespace SX
open Go
end SX
namespace SX
open Go
section
variable {P:Program} {env:CA}
theorem Mh {t u:TypeId}{x y:Operand}{a b:BitVec 32}(hx:AO env x=some (.int .u32 (a.toNat:Nat)))(hy:AO env y=some (.int .u32 (b.toNat:Nat))):Pu P env (.binOp .add t x y u) (.int .u32 ((a+b).toNat:Nat)):=by
 have h:=OC (P:=P) (t:=t) (u:=u) hx hy
 have e:IntKind.u32.wrap ((a.toNat:Int)+(b.toNat:Int))=((a+b).toNat:Nat):=by
  have e1:((a.toNat:Int)+(b.toNat:Int))=((a.toNat+b.toNat:Nat):Int):=by omega
  rw [e1]
  simp [IntKind.wrap,IntKind.bits,IntKind.signed,BitVec.toNat_add]
 rwa [e] at h
theorem Jm {t u:TypeId}{x y:Operand}{a b:BitVec 32}(hx:AO env x=some (.int .u32 (a.toNat:Nat)))(hy:AO env y=some (.int .u32 (b.toNat:Nat))):Pu P env (.binOp .mul t x y u) (.int .u32 ((a*b).toNat:Nat)):=by
 have h:=Ry (P:=P) (t:=t) (u:=u) hx hy
 have e:IntKind.u32.wrap ((a.toNat:Int)*(b.toNat:Int))=((a*b).toNat:Nat):=by
  have e1:((a.toNat:Int)*(b.toNat:Int))=((a.toNat*b.toNat:Nat):Int):=by rw [Int.natCast_mul]
  rw [e1]
  simp [IntKind.wrap,IntKind.bits,IntKind.signed,BitVec.toNat_mul]
 rwa [e] at h
theorem Jn {k:IntKind}{t u:TypeId}{x y:Operand}{a b:Nat}(hx:AO env x=some (.int k (a:Nat)))(hy:AO env y=some (.int k (b:Nat)))(h0:0<b):Pu P env (.binOp .rem t x y u) (.int k ((a % b:Nat):Int)):=by
 have h:=Rz (P:=P) (t:=t) (u:=u) hx hy (by omega)
 rwa [Int.tmod_eq_emod_of_nonneg (by omega),← Int.natCast_emod] at h
theorem Mi {k:IntKind}{t u:TypeId}{x y:Operand}{a b:Nat}(hx:AO env x=some (.int k (a:Nat)))(hy:AO env y=some (.int k (b:Nat)))(h0:0<b)(hw:k.wrap ((a / b:Nat):Int)=((a / b:Nat):Int)):Pu P env (.binOp .quo t x y u) (.int k ((a / b:Nat):Int)):=by
 have h:=WE (P:=P) (t:=t) (u:=u) hx hy (by omega)
 rwa [Int.tdiv_eq_ediv_of_nonneg (by omega),← Int.natCast_ediv,hw] at h
end

end SX
namespace SX
open Go
def Ec (d:Dk)(s:ByteArray):Option (List UInt8):=(BC d.seen s).map fun k=>(d.fl k).bytes
abbrev EI:Nat:=200000
structure DV (NS:List ByteArray) (m:Nat) (d:Dk):Prop where
 ok:d.Ok
 inn:Within m d
 on:d.off=false
 fa:d.falls=0
 q:d.quota=16777216
 inj:(d.seen.map (·.2)).Nodup
 nm:∀ x∈d.seen,x.1∈NS
 sm:∀ x∈d.seen,(d.fl x.2).bytes.length≤EI
theorem at0{d:Dk}(h:d.falls=0)(f:Dk→Dk):EA d f=(f d,0):=by
 have e:HS d=(d,0):=by unfold HS; rw [if_neg (by omega)]
 unfold EA; rw [e]; rfl
theorem onF{d:Dk}{s:ByteArray}{k:Nat}(h:d.off=false)(hk:BC d.seen s=some k)(f:Nat→Dk×Int):Ff d s f=f k:=by
 unfold Ff
 rw [if_neg (by rw [h]; decide),hk]
theorem Sn {d:Dk}{k:Nat}(hk:k<d.files.length)(f:Fl)(j:Nat):(d.setF k f).fl j=if j=k then f else d.fl j:=by
 unfold Dk.setF Dk.fl
 show ((d.files.set k f)[j]?).getD _=_
 by_cases h:j=k
 ·subst h; rw [if_pos rfl,List.getElem?_set_self hk]; rfl
 ·rw [if_neg h,List.getElem?_set_ne (Ne.symm h)]
theorem JC {d:Dk}{s:ByteArray}{b:List UInt8}(h:Ec d s=some b):∃ k,BC d.seen s=some k∧(d.fl k).bytes=b:=by
 unfold Ec at h
 cases hk:BC d.seen s with
 | none=>rw [hk] at h; cases h
 | some k=>rw [hk] at h; exact ⟨k,rfl,Option.some.inj h⟩
section
variable {NS:List ByteArray} {m:Nat} {d:Dk} (h:DV NS m d)
include h
theorem DV.less{k:Nat}{s:ByteArray}(hk:BC d.seen s=some k):k<d.files.length:=(h.ok.seenOk.good _ (CC hk)).2
theorem DV.same{k:Nat}{s t:ByteArray}(hs:BC d.seen s=some k)(ht:BC d.seen t=some k):s=t:=by
 obtain ⟨i,hi⟩:=List.getElem?_of_mem (CC hs)
 obtain ⟨j,hj⟩:=List.getElem?_of_mem (CC ht)
 have e1:(d.seen.map (·.2))[i]? = some k:=by rw [List.getElem?_map,hi]; rfl
 have e2:(d.seen.map (·.2))[j]? = some k:=by rw [List.getElem?_map,hj]; rfl
 have e:=(List.getElem?_inj (by rw [List.length_map]; exact (List.getElem?_eq_some_iff.1 hi).1) h.inj).1 (e1.trans e2.symm)
 rw [← e,hi] at hj
 exact congrArg Prod.fst (Option.some.inj hj)
theorem DV.cnt(hN:NS.length≤20):d.seen.length≤20:=by
 have:=List.Nodup.length_le_of_subset h.ok.seenOk.nodup (l₂:=NS) fun s hs=>by
  obtain ⟨x,hx,rfl⟩:=List.mem_map.1 hs
  exact h.nm x hx
 rw [List.length_map] at this
 omega
theorem DV.used(hN:NS.length≤20):d.used≤4000000:=by
 have h1:=P1 (fun x:Nm=>(d.fl x.2).bytes.length) EI d.seen h.sm
 have h2:=h.cnt hN
 unfold Dk.used
 have:d.seen.length*EI≤20*EI:=Nat.mul_le_mul_right _ h2
 simp only [EI] at *
 omega
theorem DV.read(s:ByteArray):J0 d s=match Ec d s with | some b=>(b,0) | none=>([],6):=by
 unfold J0 Ec
 rw [if_neg (by rw [h.on]; decide)]
 cases BC d.seen s <;> rfl
theorem DV.put{s:ByteArray}{k:Nat}(hk:BC d.seen s=some k)(f:Fl)(hf:f.bytes.length≤EI)(hs:f.safe≤f.bytes.length):DV NS m (d.setF k f)∧∀ t,Ec (d.setF k f) t=if t=s then some f.bytes else Ec d t:=by
 have hl:=h.less hk
 refine ⟨⟨TO h.ok (by simp only [EI,FR] at *; omega) hs,⟨by unfold Dk.setF; rw [List.length_set]; exact h.inn.1,h.inn.2⟩,h.on,h.fa,h.q,h.inj,h.nm,fun x hx=>?_⟩,fun t=>?_⟩
 ·rw [Sn hl]
  split
  ·exact hf
  ·exact h.sm x hx
 ·unfold Ec
  show (BC d.seen t).map _=_
  by_cases e:t=s
  ·subst e; rw [if_pos rfl,hk]; show some ((d.setF k f).fl k).bytes=_; rw [Sn hl,if_pos rfl]
  ·rw [if_neg e]
   cases ht:BC d.seen t with
   | none=>rfl
   | some j =>
    show some ((d.setF k f).fl j).bytes=some _
    rw [Sn hl,if_neg (fun hj=>e (h.same (by rw [ht,hj]) hk))]
theorem DV.append(hN:NS.length≤20){s:ByteArray}{b t:List UInt8}(hb:Ec d s=some b)(hl:b.length+t.length≤EI):(BR d s t).2=0∧DV NS m (BR d s t).1∧∀ u,Ec (BR d s t).1 u=if u=s then some (b++t) else Ec d u:=by
 obtain ⟨k,hk,rfl⟩:=JC hb
 have hu:=h.used hN
 have hfo:=Dk.fl_ok h.ok k
 have e:BR d s t=(d.setF k ⟨(d.fl k).bytes++t,(d.fl k).safe⟩,0):=by
  unfold BR
  rw [onF h.on hk,if_neg (by rw [h.q]; simp only [EI] at hl; omega),at0 h.fa]
 rw [e]
 obtain ⟨h1,h2⟩:=h.put hk ⟨(d.fl k).bytes++t,(d.fl k).safe⟩ (by show ((d.fl k).bytes++t).length≤_; rw [List.length_append]; exact hl) (by show (d.fl k).safe≤((d.fl k).bytes++t).length; rw [List.length_append]; omega)
 exact ⟨rfl,h1,h2⟩
theorem DV.sync{s:ByteArray}{b:List UInt8}(hb:Ec d s=some b):(Dz d s).2=0∧DV NS m (Dz d s).1∧∀ u,Ec (Dz d s).1 u=Ec d u:=by
 obtain ⟨k,hk,rfl⟩:=JC hb
 have e:Dz d s=(d.setF k ⟨(d.fl k).bytes,(d.fl k).bytes.length⟩,0):=by
  unfold Dz
  rw [onF h.on hk,at0 h.fa]
 rw [e]
 obtain ⟨h1,h2⟩:=h.put hk ⟨(d.fl k).bytes,(d.fl k).bytes.length⟩ (h.sm _ (CC hk)) (Nat.le_refl _)
 refine ⟨rfl,h1,fun u=>?_⟩
 rw [h2]
 split
 ·rename_i hu; rw [hu,hb]
 ·rfl
theorem DV.syncN:(C2 d).2=0∧DV NS m (C2 d).1∧∀ u,Ec (C2 d).1 u=Ec d u:=by
 have hk:=Ng h.ok
 have e:C2 d=({ d with safe:=d.seen,pend:=[]},0):=by
  unfold C2
  rw [if_neg (by rw [h.on]; decide),at0 h.fa]
 rw [e] at hk ⊢
 exact ⟨rfl,⟨hk,⟨h.inn.1,Nat.zero_le _⟩,h.on,h.fa,h.q,h.inj,h.nm,h.sm⟩,fun u=>rfl⟩
theorem DV.chg{c:Cg}(hok:(d.chg c).Ok)(hm:Bt c.come Dd=false→c.come∈NS)(hf:Bt c.come Dd=false→(d.fl c.file).bytes.length≤EI∧∀ t,BC d.seen t=some c.file→t=c.gone∨t=c.come) :
  DV NS (m+1) (d.chg c)∧∀ t,Ec (d.chg c) t=if Bt c.come Dd=false∧c.come=t then some (d.fl c.file).bytes else if t=c.gone∨t=c.come then none else Ec d t:=by
 have hmem:∀ x∈F6 d.seen c,x∈d.seen.filter (F5 c)∨(Bt c.come Dd=false∧x=(c.come,c.file)):=by
  intro x hx
  unfold F6 at hx
  rcases List.mem_append.1 hx with hx | hx
  ·exact .inl hx
  ·split at hx
   ·cases hx
   ·rename_i h0; exact .inr ⟨by simpa using h0,List.mem_singleton.1 hx⟩
 refine ⟨⟨hok,A0P h.inn c,h.on,h.fa,h.q,?_,fun x hx=>?_,fun x hx=>?_⟩,fun t=>?_⟩
 ·show ((F6 d.seen c).map (·.2)).Nodup
  unfold F6
  rw [List.map_append,List.nodup_append]
  refine ⟨h.inj.sublist ((List.filter_sublist (p:=F5 c)).map _),?_,fun a ha b hb e=>?_⟩
  ·split <;> simp
  ·split at hb
   ·cases hb
   ·rename_i h0
    have h0:Bt c.come Dd=false:=by simpa using h0
    obtain ⟨x,hx,rfl⟩:=List.mem_map.1 ha
    have hx':=List.mem_filter.1 hx
    have hfx:=M4 h.ok.seenOk.nodup (s:=x.1) (k:=x.2) hx'.1
    have hbf:b=c.file:=by simpa using hb
    have hk:=hx'.2
    unfold F5 at hk
    rcases (hf h0).2 x.1 (by rw [hfx]; exact congrArg some (e.trans hbf)) with e1 | e1 <;> rw [e1,BQ] at hk <;> simp at hk
 ·rcases hmem x hx with hx | ⟨h0,rfl⟩
  ·exact h.nm x (List.mem_filter.1 hx).1
  ·exact hm h0
 ·rcases hmem x hx with hx | ⟨h0,rfl⟩
  ·exact h.sm x (List.mem_filter.1 hx).1
  ·exact (hf h0).1
 ·unfold Ec
  show (BC (F6 d.seen c) t).map _=_
  rw [M6]
  split
  ·rfl
  ·split <;> rfl
theorem DV.create(hN:NS.length≤20){s:ByteArray}(hg:DG s=true)(hs:s∈NS):(BG d s).2=0∧DV NS (m+1) (BG d s).1∧∀ t,Ec (BG d s).1 t=if t=s then some [] else Ec d t:=by
 have hok:=Mb h.ok s
 have hc:=h.cnt hN
 have e:BG d s=(({ d with files:=d.files++[⟨[],0⟩]}:Dk).chg ⟨Dd,s,d.files.length⟩,0):=by
  unfold BG
  rw [if_neg (by rw [h.on]; decide),if_neg (by rw [hg]; decide),if_neg (by omega),at0 h.fa]
 have hin:=Sh h.inn s
 rw [e] at hok hin ⊢
 have hfl:∀ k,k<d.files.length→({ d with files:=d.files++[⟨[],0⟩]}:Dk).fl k=d.fl k:=fun k hk=>by
  unfold Dk.fl
  show ((d.files++[_])[k]?).getD _=_
  rw [List.getElem?_append_left hk]
 have hnew:({ d with files:=d.files++[⟨[],0⟩]}:Dk).fl d.files.length=⟨[],0⟩:=by
  unfold Dk.fl
  show ((d.files++[_])[d.files.length]?).getD _=_
  rw [List.getElem?_append_right (Nat.le_refl _),Nat.sub_self]; rfl
 have h0:DV NS (m+1) { d with files:=d.files++[⟨[],0⟩]}:=⟨TP h.ok,⟨by show (d.files++[_]).length≤_; rw [List.length_append]; have:=h.inn.1; simp; omega,Nat.le_succ_of_le h.inn.2⟩,h.on,h.fa,h.q,h.inj,h.nm,fun x hx=>by
  rw [hfl _ (h.ok.seenOk.good x hx).2]; exact h.sm x hx⟩
 have hg0:=HV hg
 obtain ⟨h1,h2⟩:=h0.chg (c:=⟨Dd,s,d.files.length⟩) hok (fun _=>hs) fun _=>⟨by dsimp only; rw [hnew]; exact Nat.zero_le _,fun t ht=>by
  have:=h.less (s:=t) ht
  dsimp only at this; omega⟩
 refine ⟨rfl,⟨h1.ok,hin,h1.on,h1.fa,h1.q,h1.inj,h1.nm,h1.sm⟩,fun t=>?_⟩
 rw [h2]
 dsimp only
 by_cases ht:t=s
 ·rw [if_pos ⟨hg0,ht.symm⟩,if_pos ht,hnew]
 ·rw [if_neg (fun k=>ht k.2.symm),if_neg ht]
  by_cases hn:t=Dd
  ·rw [if_pos (.inl hn),hn]
   unfold Ec
   cases hf:BC d.seen Dd with
   | none=>rfl
   | some k=>exact absurd (show DG Dd=true from (h.ok.seenOk.good _ (CC hf)).1) (by decide)
  ·rw [if_neg (fun k=>k.elim hn ht)]
   unfold Ec
   show (BC d.seen t).map _=_
   cases hf:BC d.seen t with
   | none=>rfl
   | some k=>exact congrArg (fun f:Fl=>some f.bytes) (hfl k (h.less hf))
theorem DV.rename{s t:ByteArray}{b:List UInt8}(hb:Ec d s=some b)(hg:DG t=true)(hst:s≠t)(ht:t∈NS):(CH d s t).2=0∧DV NS (m+1) (CH d s t).1∧∀ u,Ec (CH d s t).1 u=if u=t then some b else if u=s then none else Ec d u:=by
 obtain ⟨k,hk,rfl⟩:=JC hb
 have hok:=Sf h.ok s t
 have e:CH d s t=(d.chg ⟨s,t,k⟩,0):=by
  unfold CH
  rw [onF h.on hk,if_neg (by rw [hg]; decide),at0 h.fa,if_neg (fun k=>hst (BS.1 k))]
 rw [e] at hok ⊢
 obtain ⟨h1,h2⟩:=h.chg (c:=⟨s,t,k⟩) hok (fun _=>ht) fun _=>⟨h.sm _ (CC hk),fun u hu=>.inl (h.same hu hk)⟩
 refine ⟨rfl,h1,fun u=>?_⟩
 rw [h2]
 dsimp only
 by_cases hu:u=t
 ·rw [if_pos ⟨HV hg,hu.symm⟩,if_pos hu]
 ·rw [if_neg (fun k=>hu k.2.symm),if_neg hu]
  by_cases hs:u=s
  ·rw [if_pos (.inl hs),if_pos hs]
  ·rw [if_neg (fun k=>k.elim hs hu),if_neg hs]
theorem DV.remove{s:ByteArray}{b:List UInt8}(hb:Ec d s=some b):(DH d s).2=0∧DV NS (m+1) (DH d s).1∧∀ u,Ec (DH d s).1 u=if u=s then none else Ec d u:=by
 obtain ⟨k,hk,rfl⟩:=JC hb
 have hok:=Sg h.ok s
 have e:DH d s=(d.chg ⟨s,Dd,0⟩,0):=by
  unfold DH
  rw [onF h.on hk,at0 h.fa]
 rw [e] at hok ⊢
 obtain ⟨h1,h2⟩:=h.chg (c:=⟨s,Dd,0⟩) hok (fun h0=>by dsimp only at h0; rw [BQ] at h0; cases h0) fun h0=>by dsimp only at h0; rw [BQ] at h0; cases h0
 refine ⟨rfl,h1,fun u=>?_⟩
 rw [h2]
 dsimp only
 rw [if_neg (fun k=>by have:=k.1; rw [BQ] at this; cases this)]
 by_cases hu:u=s
 ·rw [if_pos (.inl hu),if_pos hu]
 ·rw [if_neg hu]
  by_cases hn:u=Dd
  ·rw [if_pos (.inr hn),hn]
   unfold Ec
   cases hf:BC d.seen Dd with
   | none=>rfl
   | some k=>exact absurd (show DG Dd=true from (h.ok.seenOk.good _ (CC hf)).1) (by decide)
  ·rw [if_neg (fun k=>k.elim hu hn)]
end
theorem DV.mono{NS:List ByteArray}{m n:Nat}{d:Dk}(h:DV NS m d)(k:m≤n):DV NS n d:=⟨h.ok,h.inn.mono k,h.on,h.fa,h.q,h.inj,h.nm,h.sm⟩
end SX
namespace SX
open Go
def PF (d:Dk)(tmp:ByteArray)(text:List UInt8)(name:ByteArray):Nat→Dk
 | 0=>d
 | 1=>(BG d tmp).1
 | 2=>(BR (BG d tmp).1 tmp text).1
 | 3=>(Dz (BR (BG d tmp).1 tmp text).1 tmp).1
 | _=>(CH (Dz (BR (BG d tmp).1 tmp text).1 tmp).1 tmp name).1
theorem DV.write{NS:List ByteArray}{m:Nat}{d:Dk}(h:DV NS m d)(hN:NS.length≤20){tmp name:ByteArray}{text:List UInt8}(h1:tmp∈NS)(h2:name∈NS)(g1:DG tmp=true)(g2:DG name=true)(hne:tmp≠name)(hl:text.length≤EI) :
  (BG d tmp).2=0∧(BR (PF d tmp text name 1) tmp text).2=0∧(Dz (PF d tmp text name 2) tmp).2=0∧(CH (PF d tmp text name 3) tmp name).2=0∧(∀ i,DV NS (m+2) (PF d tmp text name i))∧∀ u,Ec (PF d tmp text name 4) u=if u=name then some text else if u=tmp then none else Ec d u:=by
 obtain ⟨a1,a2,a3⟩:=h.create hN g1 h1
 obtain ⟨b1,b2,b3⟩:=a2.append hN (s:=tmp) (b:=[]) (t:=text) (by rw [a3,if_pos rfl]) (by rw [List.length_nil]; omega)
 obtain ⟨c1,c2,c3⟩:=b2.sync (s:=tmp) (b:=[]++text) (by rw [b3,if_pos rfl])
 obtain ⟨e1,e2,e3⟩:=c2.rename (s:=tmp) (t:=name) (b:=[]++text) (by rw [c3,b3,if_pos rfl]) g2 hne h2
 refine ⟨a1,b1,c1,e1,fun i=>?_,fun u=>?_⟩
 ·match i with
  | 0=>exact h.mono (by omega)
  | 1=>exact a2.mono (by omega)
  | 2=>exact b2.mono (by omega)
  | 3=>exact c2.mono (by omega)
  | i+4=>exact e2
 ·show Ec (CH _ tmp name).1 u=_
  rw [e3,c3,b3,a3,List.nil_append]
  by_cases hu:u=tmp <;> simp [hu]
end SX
namespace SX
open Go
class TIface (P:Program) (t:TypeId):Prop where
 und:∃ ms,P.underlying t=some (.interface ms)
section
variable {P:Program} {env:CA}
theorem So {t d:TypeId}{v u:Value}:∀ op X Y w,(eqGuard op t X Y (.iface d v) u).run P w=.ok () w:=fun op X Y w=>by
 cases op <;> rfl
theorem Hh {t u d:TypeId}{v:Value}[h:TIface P t]{x y:Operand}(hx:AO env x=some (.iface d v))(hy:AO env y=some .nilIface):Pu P env (.binOp .eql t x y u) (.bool false):=by
 obtain ⟨e,he⟩:=h.und
 exact Gp hx hy So rfl (fun d w=>by simp [Op.equalIn,run_underlying he])
end
end SX
namespace Hp
section
variable {β:Type} {ah:β→β→Bool}

def Rep (ah:β→β→Bool)(es S:List β):Prop:=es.Perm S∧Heap ah es∧S.Pairwise (fun a b=>ah a b=true)

def ins (ah:β→β→Bool)(x:β):List β→List β
 | []=>[x]
 | y::S=>if ah x y then x::y::S else y::ins ah x S
theorem Mj (x:β):∀ S:List β,(ins ah x S).Perm (x::S)
 | []=>.refl _
 | y::S=>by
  unfold ins
  split
  ·exact .refl _
  ·exact (List.Perm.cons y (Mj x S)).trans (.swap _ _ _)
theorem mem_ins{x y:β}{S:List β}:y∈ins ah x S↔y=x∨y∈S:=by rw [(Mj x S).mem_iff,List.mem_cons]
theorem Mk (o:Ord ah)(ht:∀ a b c,ah a b=true→ah b c=true→ah a c=true){x:β}:∀ {S:List β},S.Pairwise (fun a b=>ah a b=true)→(∀ y∈S,ah x y=false→ah y x=true)→(ins ah x S).Pairwise (fun a b=>ah a b=true)
 | [],_,_=>by simp [ins]
 | y::S,h,hx=>by
  obtain ⟨h1,h2⟩:=List.pairwise_cons.1 h
  unfold ins
  split
  ·rename_i hxy
   refine List.pairwise_cons.2 ⟨fun z hz=>?_,h⟩
   rcases List.mem_cons.1 hz with rfl | hz
   ·exact hxy
   ·exact ht _ _ _ hxy (h1 z hz)
  ·rename_i hxy
   refine List.pairwise_cons.2 ⟨fun z hz=>?_,Mk o ht h2 (fun w hw=>hx w (List.mem_cons_of_mem _ hw))⟩
   rcases mem_ins.1 hz with rfl | hz
   ·exact hx y (List.mem_cons_self) (by simpa using hxy)
   ·exact h1 z hz

theorem Rep.nil:Rep ah [] []:=⟨.refl _,fun i a p _ h=>by simp at h,.nil⟩
theorem Rep.length{es S:List β}(h:Rep ah es S):es.length=S.length:=h.1.length_eq

theorem UX {es:List β}(h:Heap ah es)(x:β):HU ah (es++[x]) es.length:=by
 refine ⟨fun j a p hj hne ha hp=>?_,fun j a p hj hl hjl ha hp=>?_⟩
 ·have hlt:j<(es++[x]).length:=(List.getElem?_eq_some_iff.1 ha).1
  simp at hlt
  rw [List.getElem?_append_left (by omega)] at ha hp
  exact h j a p hj ha hp
 ·have hlt:j<(es++[x]).length:=(List.getElem?_eq_some_iff.1 ha).1
  simp at hlt; omega

theorem Rep.push(o:Ord ah)(ht:∀ a b c,ah a b=true→ah b c=true→ah a c=true){es S:List β}(h:Rep ah es S){x:β}(hx:∀ y∈S,ah x y=false→ah y x=true):Rep ah (up ah es.length (es++[x]) es.length) (ins ah x S):=by
 refine ⟨(Zi _ _ _).trans ?_,Zj o _ _ _ (Nat.le_refl _) (UX h.2.1 x),Mk o ht h.2.2 hx⟩
 refine List.Perm.trans ?_ (Mj x S).symm
 exact List.perm_append_comm.trans (List.Perm.cons x h.1)

theorem Rep.head(o:Ord ah){es S:List β}{s z:β}(h:Rep ah es (s::S))(hz:es[0]? = some z):z=s:=by
 have hs:s∈es:=h.1.mem_iff.2 List.mem_cons_self
 obtain ⟨i,hi⟩:=List.getElem?_of_mem hs
 have h1:=h.2.1.first o hz i s hi
 have hzm:z∈s::S:=h.1.mem_iff.1 (List.mem_of_getElem? hz)
 rcases List.mem_cons.1 hzm with h2 | h2
 ·exact h2
 ·have:=(List.pairwise_cons.1 h.2.2).1 z h2
  rw [h1] at this; cases this

def pop (ah:β→β→Bool)(es:List β):List β:=match es.getLast? with
 | none=>[]
 | some l=>down ah es.length ((es.set 0 l).dropLast) 0

theorem Nh:∀ {es:List β} {z l:β},es[0]? = some z→es.getLast? = some l→(z::(es.set 0 l).dropLast).Perm es
 | [],_,_,h,_=>by simp at h
 | [a],z,l,h,hl=>by simp at h hl; subst h; subst hl; simp
 | a::b::t,z,l,h,hl=>by
  simp at h; subst h
  have hl':(b::t).getLast? = some l:=by simpa using hl
  have hne:b::t≠[]:=by simp
  have e:(b::t)=(b::t).dropLast++[l]:=by
   rw [List.getLast?_eq_some_getLast hne,Option.some.injEq] at hl'
   rw [← hl',List.dropLast_concat_getLast]
  have:((a::b::t).set 0 l).dropLast=l::(b::t).dropLast:=by simp
  rw [this]
  refine List.Perm.cons a ?_
  conv=>rhs; rw [e]
  exact (List.perm_append_comm (l₁:=[l])).trans (.refl _)

theorem Ni {es:List β}(h:Heap ah es)(l:β):HD ah ((es.set 0 l).dropLast) 0:=by
 have get:∀ (j:Nat) (a:β),0<j→((es.set 0 l).dropLast)[j]? = some a→es[j]? = some a:=fun j a hj ha=>by
  rw [List.getElem?_dropLast] at ha
  split at ha
  ·rwa [List.getElem?_set_ne (by omega)] at ha
  ·cases ha
 refine ⟨fun j a p hj hne ha hp=>h j a p hj (get j a hj ha) (get _ p (by omega) hp),fun j a p hj h0=>by omega⟩

theorem Rep.pop(o:Ord ah){es S:List β}{s:β}(h:Rep ah es (s::S)):Rep ah (pop ah es) S:=by
 have hlen:=h.1.length_eq
 simp at hlen
 cases hes:es with
 | nil=>simp [hes] at hlen
 | cons z t =>
  have hz:es[0]? = some z:=by simp [hes]
  have hzs:=h.head o hz
  subst hzs
  cases hl:es.getLast? with
  | none=>simp [hes] at hl
  | some l =>
   have e:Hp.pop ah es=down ah es.length ((es.set 0 l).dropLast) 0:=by unfold Hp.pop; rw [hl]
   rw [← hes,e]
   refine ⟨(Nu _ _ _).trans ?_,UC o _ _ _ (by simp) (Ni h.2.1 l),(List.pairwise_cons.1 h.2.2).2⟩
   exact List.Perm.cons_inv ((Nh hz hl).trans h.1)
end

section
variable {α:Type} (lt:α→α→Bool)
def ahd (a b:α×Nat):Bool:=lt a.1 b.1||(!lt b.1 a.1&&decide (a.2<b.2))
variable {lt}
theorem ahd_ord(h:Ord lt):Ord (ahd lt):=by
 refine ⟨fun a b hab=>?_,fun a b c hba hcb=>?_⟩
 ·unfold ahd at *
  cases h1:lt a.1 b.1 with
  | true=>simp [h.asym _ _ h1]
  | false =>
   simp [h1] at hab ⊢
   refine ⟨hab.1,?_⟩
   omega
 ·unfold ahd at *
  simp only [Bool.or_eq_false_iff,Bool.and_eq_false_iff,Bool.not_eq_false',decide_eq_false_iff_not,Nat.not_lt] at *
  obtain ⟨h1,h2⟩:=hba
  obtain ⟨h3,h4⟩:=hcb
  refine ⟨h.trans _ _ _ h1 h3,?_⟩
  rcases h2 with h2 | h2
  ·-- a before b strictly
   left
   cases hac:lt a.1 c.1 with
   | true=>rfl
   | false =>
    have hx:=h.trans b.1 c.1 a.1 h3 hac
    rw [h2] at hx; cases hx
  ·rcases h4 with h4 | h4
   ·left
    cases hac:lt a.1 c.1 with
    | true=>rfl
    | false =>
     have hy:=h.trans c.1 a.1 b.1 hac h1
     rw [h4] at hy; cases hy
   ·exact .inr (Nat.le_trans h2 h4)
theorem ahd_total{a b:α×Nat}(hne:a.2≠b.2)(h:ahd lt a b=false):ahd lt b a=true:=by
 unfold ahd at *
 cases h1:lt a.1 b.1 <;> cases h2:lt b.1 a.1 <;> simp [h1,h2] at * ; omega
theorem ahd_trans(h:Ord lt)(a b c:α×Nat)(h1:ahd lt a b=true)(h2:ahd lt b c=true):ahd lt a c=true:=by
 have o:=ahd_ord h
 cases h3:ahd lt a c with
 | true=>rfl
 | false =>
  -- c <= a,a <= b: c <= b,against b ahead of c
  have:=o.trans c a b h3 (o.asym _ _ h1)
  rw [h2] at this; cases this
end
end Hp
namespace SX
open Go

def Ft (x:Nat):List Nat→List Nat
 | []=>[x]
 | y::l=>if y<x then x::y::l else y::Ft x l
def EL (l:List Nat):Prop:=l.Pairwise (fun a b=>b<a)
theorem F8 {x k:Nat}:∀ {l:List Nat},k∈Ft x l↔k=x∨k∈l
 | []=>by simp [Ft]
 | y::l=>by
  unfold Ft
  split
  ·simp
  ·rw [List.mem_cons,F8,List.mem_cons]
   constructor
   ·rintro (h | h | h)
    ·exact .inr (.inl h)
    ·exact .inl h
    ·exact .inr (.inr h)
   ·rintro (h | h | h)
    ·exact .inr (.inl h)
    ·exact .inl h
    ·exact .inr (.inr h)
theorem Jo {x:Nat}:∀ {l:List Nat},EL l→x∉l→EL (Ft x l)
 | [],_,_=>by simp [Ft,EL]
 | y::l,h,hx=>by
  obtain ⟨h1,h2⟩:=List.pairwise_cons.1 h
  unfold Ft
  split
  ·rename_i hy
   exact List.pairwise_cons.2 ⟨fun z hz=>by
    rcases List.mem_cons.1 hz with rfl | hz
    ·exact hy
    ·have:=h1 z hz; omega,h⟩
  ·rename_i hy
   refine List.pairwise_cons.2 ⟨fun z hz=>?_,Jo h2 (fun hm=>hx (List.mem_cons_of_mem _ hm))⟩
   rcases F8.1 hz with rfl | hz
   ·have:y≠z:=fun e=>hx (by rw [e]; exact List.mem_cons_self ..)
    omega
   ·exact h1 z hz
abbrev Wk:=(Nat→Bool)×List Nat
def Nj (n:Nat)(s:Wk)(c:Int):Wk:=if (decide (0≤c)&&(decide (c<n)&&!s.1 c.toNat))=true then (fun j=>s.1 j||decide (j=c.toNat),Ft c.toNat s.2) else s
def addAll (n:Nat)(s:Wk)(l:List Int):Wk:=l.foldl (Nj n) s
structure WkI (n m:Nat) (s:Wk):Prop where
 falls:EL s.2
 lt:∀ q∈s.2,q<m
 seen:∀ k,k<m→(s.1 k=true↔k∈s.2)
theorem WkI.add{n m:Nat}{s:Wk}{c:Int}(h:WkI n m s)(hc:0≤c∧c<m)(hm:m≤n) :
  WkI n m (Nj n s c)∧(∀ k,k∈(Nj n s c).2↔k∈s.2∨(k:Int)=c)∧(∀ k,(Nj n s c).1 k=true↔s.1 k=true∨(k:Int)=c):=by
 obtain ⟨j,rfl⟩:∃ j:Nat,c=j:=⟨c.toNat,by omega⟩
 have hj:j<m:=by omega
 unfold Nj
 rw [Int.toNat_natCast,decide_eq_true hc.1,decide_eq_true (show (j:Int)<n by omega),Bool.true_and,Bool.true_and]
 by_cases hs:s.1 j=true
 ·rw [hs]
  have hq:=(h.seen j hj).1 hs
  refine ⟨h,fun k=>⟨.inl,?_⟩,fun k=>⟨.inl,?_⟩⟩
  ·rintro (h | h)
   ·exact h
   ·obtain rfl:k=j:=by omega
    exact hq
  ·rintro (h | h)
   ·exact h
   ·obtain rfl:k=j:=by omega
    exact hs
 ·have hs':s.1 j=false:=by simpa using hs
  rw [hs',if_pos (show (!false)=true from rfl)]
  have hq:j∉s.2:=fun hm=>hs ((h.seen j hj).2 hm)
  refine ⟨⟨Jo h.falls hq,fun q hq=>?_,fun k hk=>?_⟩,fun k=>?_,fun k=>?_⟩
  ·rcases F8.1 hq with rfl | hq
   ·exact hj
   ·exact h.lt q hq
  ·show (s.1 k||decide (k=j))=true↔k∈Ft j s.2
   rw [F8,Bool.or_eq_true,decide_eq_true_eq,h.seen k hk]
   exact Or.comm
  ·show k∈Ft j s.2↔_
   rw [F8,Or.comm]
   exact or_congr Iff.rfl (by omega)
  ·show (s.1 k||decide (k=j))=true↔_
   rw [Bool.or_eq_true,decide_eq_true_eq]
   exact or_congr Iff.rfl (by omega)
theorem WkI.addAll{n m:Nat}:∀ {l:List Int} {s:Wk},WkI n m s→(∀ p∈l,0≤p∧p<m)→m≤n →
  WkI n m (addAll n s l)∧(∀ k,k∈(addAll n s l).2↔k∈s.2∨(k:Int)∈l)∧(∀ k,(addAll n s l).1 k=true↔s.1 k=true∨(k:Int)∈l)
 | [],s,h,_,_=>⟨h,fun k=>by simp [SX.addAll],fun k=>by simp [SX.addAll]⟩
 | c::l,s,h,hl,hm=>by
  obtain ⟨h1,h2,h3⟩:=h.add (hl c (List.mem_cons_self ..)) hm
  obtain ⟨k1,k2,k3⟩:=WkI.addAll h1 (fun p hp=>hl p (List.mem_cons_of_mem _ hp)) hm
  have e:SX.addAll n s (c::l)=SX.addAll n (Nj n s c) l:=rfl
  rw [e]
  refine ⟨k1,fun k=>?_,fun k=>?_⟩
  ·rw [k2,h2,List.mem_cons,or_assoc]
  ·rw [k3,h3,List.mem_cons,or_assoc]
theorem WkI.pop{n m c:Nat}{S:Nat→Bool}{Q:List Nat}(h:WkI n m (S,c::Q)):WkI n c (S,Q):=by
 obtain ⟨h1,h2⟩:=List.pairwise_cons.1 h.falls
 refine ⟨h2,fun q hq=>h1 q hq,fun k hk=>?_⟩
 have hc:=h.lt c (List.mem_cons_self ..)
 refine (h.seen k (by omega)).trans ?_
 show k∈c::Q↔k∈Q
 rw [List.mem_cons]
 exact ⟨fun h=>h.resolve_left (by omega),.inr⟩
theorem WkI.start(n:Nat):WkI n n (fun _=>false,[]):=⟨.nil,fun _ h=>(by cases h),fun _ _=>⟨fun h=>(by cases h),fun h=>(by cases h)⟩⟩

def I0 (l:List Int):Nat→Bool:=fun k=>decide ((k:Int)∈l)
def GG (g:List (List Int))(n:Nat)(l:List Int):Nat→Bool:=X9 g n (I0 l)
theorem UY {g:List (List Int)}(hg:E5 g){l:List Int}(hl:∀ p∈l,p<g.length)(j:Nat):GG g g.length l j=true↔∃ i:Nat,(i:Int)∈l∧Reach g i j:=by
 unfold GG
 rw [OQ hg g.length _ (fun i hi hs=>by have:=hl _ (of_decide_eq_true hs); omega) j]
 exact ⟨fun ⟨i,h1,h2⟩=>⟨i,of_decide_eq_true h1,h2⟩,fun ⟨i,h1,h2⟩=>⟨i,decide_eq_true h1,h2⟩⟩
end SX
namespace SX
open Go
variable {P:Program} {Q:DK} {N:Nat} {env:CA} {L:List AK}

theorem YSp.ent{l:Nat}{args:List Value}{pre pre':List AK}{post post':Value→List AK→Prop}(h:YSp P l args pre post)(h1:Ent pre' pre)(h2:∀ v L,post v L→∃ L',Ent L L'∧post' v L'):YSp P l args pre' post':=fun E w hw=>by
 obtain ⟨f,t,a,b,r1,r2⟩:=h E w (hw.ent h1)
 exact ⟨f,t,a,b,r1,fun ro=>(r2 ro).mono fun e w' ⟨v,L',e1,p,k⟩=>let ⟨L2,e2,p2⟩:=h2 v L' p; ⟨v,L2,e1,p2,k.ent e2⟩⟩

end SX
namespace SX
def HA (n:Nat)(S:Nat→Bool):Nat:=((List.range n).filter S).length
theorem Xv (n:Nat)(S:Nat→Bool):HA n S≤n:=by
 have:=List.length_filter_le S (List.range n)
 rwa [List.length_range] at this
theorem NQ {S:Nat→Bool}{c:Nat}(hs:S c=false):∀ {n:Nat},c<n→HA n (fun j=>S j||decide (j=c))=HA n S+1
 | 0,h=>by omega
 | n+1,h=>by
  have e:∀ T:Nat→Bool,HA (n+1) T=HA n T+if T n=true then 1 else 0:=fun T=>by
   unfold HA
   rw [List.range_succ,List.filter_append,List.length_append]
   cases hT:T n <;> simp [List.filter,hT]
  rw [e,e]
  by_cases hc:c=n
  ·subst hc
   have e2:HA c (fun j=>S j||decide (j=c))=HA c S:=by
    unfold HA
    congr 1
    apply List.filter_congr
    intro j hj
    rw [decide_eq_false (show ¬ j=c by have:=List.mem_range.1 hj; omega),Bool.or_false]
   rw [e2,hs]; simp
  ·rw [NQ hs (by omega),show (S n||decide (n=c))=S n by rw [decide_eq_false (fun e=>hc e.symm),Bool.or_false]]
   omega
theorem Iz:∀ {l:List Nat} {n:Nat},EL l→(∀ k∈l,k<n)→l.length≤n
 | [],_,_,_=>Nat.zero_le _
 | y::l,n,h,hn=>by
  obtain ⟨h1,h2⟩:=List.pairwise_cons.1 h
  have:=Iz h2 h1
  have:=hn y (List.mem_cons_self ..)
  rw [List.length_cons]; omega
structure WkOk (n:Nat) (s:Wk):Prop where
 falls:EL s.2
 lt:∀ k∈s.2,k<n
 sub:∀ k∈s.2,s.1 k=true
def A0R (n:Nat)(S:Nat→Bool)(k:Int):Nat→Bool:=fun j=>S j||(decide (0≤k∧k<n)&&decide (j=k.toNat))
def A0S (n:Nat)(S:Nat→Bool)(k:Int):Bool:=decide (0≤k)&&(decide (k<n)&&!S k.toNat)
end SX
namespace SX
def JD (row:Nat→List Int)(n:Nat):Nat→Wk→List Nat
 | 0,_=>[]
 | f+1,s=>match s.2 with
  | []=>[]
  | c::Q=>c::JD row n f (addAll n (s.1,Q) (row c))
theorem UZ {row:Nat→List Int}{n f c:Nat}{S:Nat→Bool}{Q:List Nat}:JD row n (f+1) (S,c::Q)=c::JD row n f (addAll n (S,Q) (row c)):=rfl
theorem Ml {g:List (List Int)}(hg:E5 g):∀ (f m:Nat) (s:Wk),WkI g.length m s→m≤f→m≤g.length →
  EL (JD (Ch g) g.length f s)∧(∀ j∈JD (Ch g) g.length f s,j<m)∧∀ j,j∈JD (Ch g) g.length f s↔∃ q∈s.2,Reach g q j
 | 0,m,s,h,hf,_=>by
  have hq:s.2=[]:=List.eq_nil_iff_forall_not_mem.2 fun q hq=>by have:=h.lt q hq; omega
  exact ⟨.nil,fun _ h=>(by cases h),fun j=>by rw [hq]; simp [JD]⟩
 | f+1,m,(S,[]),h,hf,_=>⟨.nil,fun _ h=>(by cases h),fun j=>by simp [JD]⟩
 | f+1,m,(S,c::Q),h,hf,hm=>by
  have hc:c<m:=h.lt c (List.mem_cons_self ..)
  have hrow:∀ p∈Ch g c,0≤p∧p<c:=fun p hp=>⟨(Dl hg hp).1,(Dl hg hp).2.1⟩
  obtain ⟨h1,h2,_⟩:=h.pop.addAll hrow (by omega)
  obtain ⟨k1,k2,k3⟩:=Ml hg f c _ h1 (by omega) (by omega)
  rw [UZ]
  refine ⟨List.pairwise_cons.2 ⟨k2,k1⟩,fun j hj=>?_,fun j=>?_⟩
  ·rcases List.mem_cons.1 hj with rfl | hj
   ·exact hc
   ·have:=k2 j hj; omega
  ·rw [List.mem_cons,k3]
   constructor
   ·rintro (rfl | ⟨q,hq,hr⟩)
    ·exact ⟨j,List.mem_cons_self ..,.refl _⟩
    ·rcases (h2 q).1 hq with hq | hq
     ·exact ⟨q,List.mem_cons_of_mem _ hq,hr⟩
     ·exact ⟨c,List.mem_cons_self ..,.step hq hr⟩
   ·rintro ⟨q,hq,hr⟩
    rcases List.mem_cons.1 hq with rfl | hq
    ·cases hr with
     | refl=>exact .inl rfl
     | step hp hr=>exact .inr ⟨_,(h2 _).2 (.inr hp),hr⟩
    ·exact .inr ⟨q,(h2 q).2 (.inl hq),hr⟩
def Mm (n:Nat)(l:List Int):List Int:=l.filter fun p=>decide (0≤p)&&decide (p<n)
theorem V1 {n:Nat}{l:List Int}{p:Int}:p∈Mm n l↔p∈l∧0≤p∧p<n:=by unfold Mm; rw [List.mem_filter]; simp
theorem Jp {n:Nat}:∀ {l:List Int} {s:Wk},addAll n s l=addAll n s (Mm n l)
 | [],_=>rfl
 | c::l,s=>by
  unfold Mm
  rw [List.filter_cons]
  split
  ·exact Jp (l:=l) (s:=Nj n s c)
  ·rename_i h
   have e:Nj n s c=s:=by
    unfold Nj
    rw [if_neg]
    intro h2
    apply h
    simp only [Bool.and_eq_true] at h2 ⊢
    exact ⟨h2.1,h2.2.1⟩
   show addAll n (Nj n s c) l=_
   rw [e]
   exact Jp (l:=l) (s:=s)
theorem Xw {n:Nat}(l:List Int):WkI n n (addAll n (fun _=>false,[]) l)∧∀ k,k∈(addAll n (fun _=>false,[]) l).2↔(k:Int)∈Mm n l:=by
 rw [Jp]
 obtain ⟨h1,h2,_⟩:=(WkI.start n).addAll (l:=Mm n l) (fun p hp=>(V1.1 hp).2) (Nat.le_refl _)
 exact ⟨h1,fun k=>by rw [h2]; simp⟩
def Qs (g:List (List Int))(l:List Int):List Nat:=JD (Ch g) g.length g.length (addAll g.length (fun _=>false,[]) l)
theorem Sp {g:List (List Int)}(hg:E5 g)(l:List Int):EL (Qs g l)∧(∀ j∈Qs g l,j<g.length)∧∀ j,j∈Qs g l↔∃ q:Nat,(q:Int)∈Mm g.length l∧Reach g q j:=by
 obtain ⟨h1,h2⟩:=Xw (n:=g.length) l
 obtain ⟨k1,k2,k3⟩:=Ml hg g.length g.length _ h1 (Nat.le_refl _) (Nat.le_refl _)
 exact ⟨k1,k2,fun j=>by rw [Qs,k3]; exact ⟨fun ⟨q,a,b⟩=>⟨q,(h2 q).1 a,b⟩,fun ⟨q,a,b⟩=>⟨q,(h2 q).2 a,b⟩⟩⟩
theorem NR:∀ {l l':List Nat},EL l→EL l'→(∀ j,j∈l↔j∈l')→l=l'
 | [],[],_,_,_=>rfl
 | [],b::l',_,_,h=>absurd ((h b).2 (List.mem_cons_self ..)) (by simp)
 | a::l,[],_,_,h=>absurd ((h a).1 (List.mem_cons_self ..)) (by simp)
 | a::l,b::l',h1,h2,h=>by
  obtain ⟨a1,a2⟩:=List.pairwise_cons.1 h1
  obtain ⟨b1,b2⟩:=List.pairwise_cons.1 h2
  have hab:a=b:=by
   have x:=(h a).1 (List.mem_cons_self ..)
   have y:=(h b).2 (List.mem_cons_self ..)
   rcases List.mem_cons.1 x with rfl | x
   ·rfl
   rcases List.mem_cons.1 y with rfl | y
   ·rfl
   have:=b1 a x
   have:=a1 b y
   omega
  subst hab
  rw [NR a2 b2 fun j=>?_]
  constructor
  ·intro hj
   rcases List.mem_cons.1 ((h j).1 (List.mem_cons_of_mem _ hj)) with rfl | hj'
   ·have:=a1 j hj; omega
   ·exact hj'
  ·intro hj
   rcases List.mem_cons.1 ((h j).2 (List.mem_cons_of_mem _ hj)) with rfl | hj'
   ·have:=b1 j hj; omega
   ·exact hj'
end SX
namespace SX
end SX
namespace SX

def isV (v:Nat):Prop:=v=0∨v=1∨v=2∨v=3∨v=7
theorem isV.or{a b:Nat}(ha:isV a)(hb:isV b):isV (a ||| b):=by
 rcases ha with rfl | rfl | rfl | rfl | rfl <;> rcases hb with rfl | rfl | rfl | rfl | rfl <;> (unfold isV; decide)
theorem isV.lt{a:Nat}(h:isV a):a<8:=by rcases h with rfl | rfl | rfl | rfl | rfl <;> decide
def IP (v:Nat):Nat:=if v=3 then 7 else v
theorem isV.out{a:Nat}(h:isV a):isV (IP a):=by rcases h with rfl | rfl | rfl | rfl | rfl <;> (unfold isV IP; decide)
theorem TQ {a:Nat}(h:a≠0):IP a≠0:=by unfold IP; split <;> omega
def CV (g:List (List Int))(c:Nat)(P:Nat→Nat):Nat→Nat:=fun j=>if (j:Int)∈Ch g c then P j ||| IP (P c) else P j
def pF (g:List (List Int)):Nat→(Nat→Nat)→(Nat→Nat)
 | 0,P=>P
 | c+1,P=>pF g c (CV g c P)
def Gb (l r:List Int):Nat→Nat:=fun j=>(if (j:Int)∈l then 1 else 0) ||| (if (j:Int)∈r then 2 else 0)
theorem Zx (l r:List Int)(j:Nat):isV (Gb l r j):=by unfold Gb isV; split <;> split <;> decide
theorem Li {g:List (List Int)}{c:Nat}{P:Nat→Nat}(h:∀ j,isV (P j))(j:Nat):isV (CV g c P j):=by
 unfold CV
 split
 ·exact (h j).or (h c).out
 ·exact h j
theorem Sq {g:List (List Int)}{c:Nat}{P:Nat→Nat}(h:P c=0):CV g c P=P:=by
 funext j
 unfold CV
 rw [h]
 split
 ·show P j ||| 0=P j
  exact Nat.or_zero _
 ·rfl
theorem Mn {g:List (List Int)}(hg:E5 g){c:Nat}{P:Nat→Nat}{j:Nat}(h:c≤j):CV g c P j=P j:=by
 unfold CV
 rw [if_neg]
 intro hj
 have:=Dl hg hj
 omega
theorem Xx {g:List (List Int)}(hg:E5 g):∀ {m:Nat} {P:Nat→Nat} {j:Nat},m≤j→pF g m P j=P j
 | 0,_,_,_=>rfl
 | m+1,P,j,h=>by
  show pF g m (CV g m P) j=_
  rw [Xx hg (by omega),Mn hg (by omega)]
theorem A1H{g:List (List Int)}:∀ {m:Nat} {P:Nat→Nat},(∀ j,isV (P j))→∀ j,isV (pF g m P j)
 | 0,_,h=>h
 | m+1,P,h=>by
  show ∀ j,isV (pF g m (CV g m P) j)
  exact A1H (Li h)
theorem TR {g:List (List Int)}{P:Nat→Nat}{c:Nat}:∀ {m:Nat},c≤m→(∀ i,c≤i→i<m→P i=0)→pF g m P=pF g c P
 | 0,h,_=>by
   obtain rfl:c=0:=by omega
   rfl
 | m+1,h,hz=>by
  by_cases e:c=m+1
  ·rw [e]
  ·show pF g m (CV g m P)=_
   rw [Sq (hz m (by omega) (by omega))]
   exact TR (by omega) fun i h1 h2=>hz i h1 (by omega)
theorem A0T{g:List (List Int)}{P:Nat→Nat}{m c:Nat}(hc:c<m)(hz:∀ i,c<i→i<m→P i=0):pF g m P=pF g c (CV g c P):=by
 rw [TR (c:=c+1) (by omega) (fun i h1 h2=>hz i (by omega) h2)]; rfl
theorem Xy {g:List (List Int)}:∀ {m:Nat} {P:Nat→Nat},(∀ j,isV (P j))→(∀ k,k<m→P k=0∨P k=7)→∀ k,k<m→pF g m P k=0∨pF g m P k=7
 | 0,_,_,_,k,h=>by omega
 | m+1,P,hV,hP,k,hk=>by
  show pF g m (CV g m P) k=0∨pF g m (CV g m P) k=7
  have h1:∀ j,(P j=0∨P j=7)→CV g m P j=0∨CV g m P j=7:=fun j hj=>by
   unfold CV
   split
   ·rcases hP m (by omega) with h | h <;> rcases hj with e | e <;> rw [h,e] <;> decide
   ·exact hj
  have h2:∀ (m':Nat) (Q:Nat→Nat),(∀ j,j<m'→Q j=0∨Q j=7)→∀ j,(Q j=0∨Q j=7)→pF g m' Q j=0∨pF g m' Q j=7:=fun m'=>by
   induction m' with
   | zero=>exact fun Q _ j hj=>hj
   | succ m' ih =>
    intro Q hQ j hj
    have h3:∀ j,(Q j=0∨Q j=7)→CV g m' Q j=0∨CV g m' Q j=7:=fun j hj=>by
     unfold CV
     split
     ·rcases hQ m' (by omega) with h | h <;> rcases hj with e | e <;> rw [h,e] <;> decide
     ·exact hj
    exact ih (CV g m' Q) (fun i hi=>h3 i (hQ i (by omega))) j (h3 j hj)
  exact h2 m (CV g m P) (fun j hj=>h1 j (hP j (by omega))) k (h1 k (hP k hk))

def Rt (v:Nat):Bool:=v == 1||v == 3||v == 7
def Ru (v:Nat):Bool:=v == 2||v == 3||v == 7
theorem Sr {a b:Nat}(ha:isV a)(hb:isV b):Rt (a ||| b)=(Rt a||Rt b)∧Ru (a ||| b)=(Ru a||Ru b)∧(a ||| b == 7)=(a == 7||b == 7):=by
 rcases ha with rfl | rfl | rfl | rfl | rfl <;> rcases hb with rfl | rfl | rfl | rfl | rfl <;> decide
theorem Pb {a:Nat}(ha:isV a):Rt (IP a)=Rt a∧Ru (IP a)=Ru a∧(IP a == 7)=(Rt a&&Ru a):=by
 rcases ha with rfl | rfl | rfl | rfl | rfl <;> decide
theorem V2 {a:Nat}(ha:isV a):(a=3)↔(Rt a&&Ru a)=true∧(a == 7)=false:=by
 rcases ha with rfl | rfl | rfl | rfl | rfl <;> decide
theorem A1I{g:List (List Int)}:∀ {m:Nat} {P:Nat→Nat},(∀ j,isV (P j))→(fun j=>Rt (pF g m P j))=X9 g m (fun j=>Rt (P j))
 | 0,_,_=>rfl
 | m+1,P,h=>by
  show (fun j=>Rt (pF g m (CV g m P) j))=X9 g m (DT g m fun j=>Rt (P j))
  rw [A1I (Li h)]
  congr 1
  funext j
  unfold CV DT
  split
  ·rename_i hj
   rw [(Sr (h j) (h m).out).1,(Pb (h m)).1,decide_eq_true hj,Bool.and_true]
  ·rename_i hj
   rw [decide_eq_false hj,Bool.and_false,Bool.or_false]
theorem A1J{g:List (List Int)}:∀ {m:Nat} {P:Nat→Nat},(∀ j,isV (P j))→(fun j=>Ru (pF g m P j))=X9 g m (fun j=>Ru (P j))
 | 0,_,_=>rfl
 | m+1,P,h=>by
  show (fun j=>Ru (pF g m (CV g m P) j))=X9 g m (DT g m fun j=>Ru (P j))
  rw [A1J (Li h)]
  congr 1
  funext j
  unfold CV DT
  split
  ·rename_i hj
   rw [(Sr (h j) (h m).out).2.1,(Pb (h m)).2.1,decide_eq_true hj,Bool.and_true]
  ·rename_i hj
   rw [decide_eq_false hj,Bool.and_false,Bool.or_false]
theorem A1K{g:List (List Int)}(hg:E5 g):∀ {m:Nat} {P:Nat→Nat},(∀ j,isV (P j))→∀ j,(pF g m P j == 7)=true↔(P j == 7)=true∨∃ c,c<m∧(j:Int)∈Ch g c∧(Rt (pF g m P c)&&Ru (pF g m P c))=true
 | 0,_,_,j=>⟨.inl,fun h=>h.resolve_right (by rintro ⟨c,h,_⟩; omega)⟩
 | m+1,P,h,j=>by
  show (pF g m (CV g m P) j == 7)=true↔_
  rw [A1K hg (Li h) j]
  have e0:∀ c,pF g (m+1) P c=pF g m (CV g m P) c:=fun _=>rfl
  have em:pF g m (CV g m P) m=P m:=by rw [Xx hg (Nat.le_refl _),Mn hg (Nat.le_refl _)]
  have e1:(CV g m P j == 7)=true↔(P j == 7)=true∨((j:Int)∈Ch g m∧(Rt (P m)&&Ru (P m))=true):=by
   unfold CV
   split
   ·rename_i hj
    rw [(Sr (h j) (h m).out).2.2,(Pb (h m)).2.2,Bool.or_eq_true]
    exact ⟨fun h=>h.imp id fun h=>⟨hj,h⟩,fun h=>h.imp id fun h=>h.2⟩
   ·rename_i hj
    exact ⟨.inl,fun h=>h.resolve_right fun h=>hj h.1⟩
  rw [e1]
  constructor
  ·rintro ((h1 | ⟨h1,h2⟩) | ⟨c,hc,h1,h2⟩)
   ·exact .inl h1
   ·exact .inr ⟨m,by omega,h1,by rw [e0,em]; exact h2⟩
   ·exact .inr ⟨c,by omega,h1,by rw [e0]; exact h2⟩
  ·rintro (h1 | ⟨c,hc,h1,h2⟩)
   ·exact .inl (.inl h1)
   ·by_cases e:c=m
    ·subst e
     rw [e0,em] at h2
     exact .inl (.inr ⟨h1,h2⟩)
    ·exact .inr ⟨c,by omega,h1,by rw [e0] at h2; exact h2⟩
def HB (g:List (List Int))(l r:List Int):Nat→Bool:=fun j=>GG g g.length l j&&GG g g.length r j
theorem A0U(l r:List Int):(fun j=>Rt (Gb l r j))=I0 l:=funext fun j=>by
 unfold Gb I0
 by_cases h1:(j:Int)∈l <;> by_cases h2:(j:Int)∈r <;> simp [h1,h2,Rt]
theorem A0V(l r:List Int):(fun j=>Ru (Gb l r j))=I0 r:=funext fun j=>by
 unfold Gb I0
 by_cases h1:(j:Int)∈l <;> by_cases h2:(j:Int)∈r <;> simp [h1,h2,Ru]
theorem A0W(l r:List Int)(j:Nat):(Gb l r j == 7)=false:=by
 unfold Gb
 by_cases h1:(j:Int)∈l <;> by_cases h2:(j:Int)∈r <;> simp [h1,h2]
theorem Ss {g:List (List Int)}(hg:E5 g)(l r:List Int)(j:Nat):pF g g.length (Gb l r) j=3↔Db g (HB g l r) g.length j=true:=by
 have hV:=Zx l r
 have eb:∀ c,(Rt (pF g g.length (Gb l r) c)&&Ru (pF g g.length (Gb l r) c))=HB g l r c:=fun c=>by
  have e1:=congrFun (A1I (g:=g) (m:=g.length) hV) c
  have e2:=congrFun (A1J (g:=g) (m:=g.length) hV) c
  rw [A0U] at e1
  rw [A0V] at e2
  unfold HB GG
  rw [← e1,← e2]
 rw [V2 (A1H hV j),eb,Q8]
 refine and_congr Iff.rfl ?_
 rw [← Bool.not_eq_true,A1K hg hV,A0W]
 constructor
 ·intro h y hy h1 h2
  exact h (.inr ⟨y,hy,h2,by rw [eb]; exact h1⟩)
 ·rintro h (h1 | ⟨c,hc,h1,h2⟩)
  ·cases h1
  ·rw [eb] at h2
   exact h c hc h2 h1

abbrev PS:=(Nat→Nat)×List Nat
def CS (s:PS)(c v:Nat):PS:=(fun j=>if j=c then s.1 j ||| v else s.1 j,if s.1 c=0 then Ft c s.2 else s.2)
def G5 (s:PS):Nat:=(s.2.filter fun k=>decide (s.1 k<4)).length
structure PI (n m:Nat) (s:PS):Prop where
 falls:EL s.2
 lt:∀ q∈s.2,q<m
 seen:∀ k,k<m→(s.1 k≠0↔k∈s.2)
 val:∀ k,isV (s.1 k)
 top:∀ k,n≤k→s.1 k=0
theorem PI.add{n m:Nat}{s:PS}{c v:Nat}(h:PI n m s)(hc:c<m)(hm:m≤n)(hv:isV v)(h0:v≠0):PI n m (CS s c v):=by
 have hne:s.1 c ||| v≠0:=by
  have:=h.val c
  rcases this with e | e | e | e | e <;> rcases hv with rfl | rfl | rfl | rfl | rfl <;> rw [e] <;> first | decide | exact absurd rfl h0
 refine ⟨?_,fun q hq=>?_,fun k hk=>?_,fun k=>?_,fun k hk=>?_⟩
 ·show EL (if s.1 c=0 then Ft c s.2 else s.2)
  split
  ·rename_i h1
   exact Jo h.falls fun hq=>(h.seen c hc).2 hq h1
  ·exact h.falls
 ·replace hq:q∈(if s.1 c=0 then Ft c s.2 else s.2):=hq
  split at hq
  ·rcases F8.1 hq with rfl | hq
   ·exact hc
   ·exact h.lt q hq
  ·exact h.lt q hq
 ·show (if k=c then s.1 k ||| v else s.1 k)≠0↔k∈(if s.1 c=0 then Ft c s.2 else s.2)
  by_cases e:k=c
  ·subst e
   rw [if_pos rfl]
   refine ⟨fun _=>?_,fun _=>hne⟩
   split
   ·exact F8.2 (.inl rfl)
   ·rename_i h1; exact (h.seen k hk).1 h1
  ·rw [if_neg e,h.seen k hk]
   split
   ·rw [F8]; exact ⟨.inr,fun h=>h.resolve_left e⟩
   ·rfl
 ·show isV (if k=c then s.1 k ||| v else s.1 k)
  split
  ·exact (h.val k).or hv
  ·exact h.val k
 ·show (if k=c then s.1 k ||| v else s.1 k)=0
  rw [if_neg (by omega)]; exact h.top k hk
theorem NT (p:Nat→Bool)(c:Nat):∀ l:List Nat,((Ft c l).filter p).length=(l.filter p).length+if p c=true then 1 else 0
 | []=>by unfold Ft; rw [List.filter_cons]; split <;> simp
 | y::l=>by
  unfold Ft
  split
  ·rw [List.filter_cons (x:=c)]
   split <;> simp
  ·rw [List.filter_cons,List.filter_cons]
   have:=NT p c l
   split
   ·rw [List.length_cons,this,List.length_cons]; omega
   ·exact this
theorem Qt {l:List Nat}(h:EL l){c:Nat}{p q:Nat→Bool}(hpq:∀ k,k≠c→p k=q k)(hc:c∈l)(hp:p c=false)(hq:q c=true):(l.filter q).length=(l.filter p).length+1:=by
 induction l with
 | nil=>cases hc
 | cons y l ih =>
  obtain ⟨h1,h2⟩:=List.pairwise_cons.1 h
  rw [List.filter_cons,List.filter_cons]
  by_cases e:y=c
  ·subst e
   rw [if_pos hq,if_neg (by rw [hp]; exact Bool.false_ne_true),List.length_cons,List.filter_congr fun k hk=>(hpq k (fun e=>by have:=h1 k hk; omega)).symm]
  ·rw [hpq y e]
   have hc':c∈l:=(List.mem_cons.1 hc).resolve_left (fun h=>e h.symm)
   have:=ih h2 hc'
   split
   ·rw [List.length_cons,List.length_cons,this]
   ·exact this
theorem V3 {l:List Nat}{c:Nat}{p q:Nat→Bool}(hpq:∀ k,k≠c→p k=q k)(h:p c=q c):(l.filter p).length=(l.filter q).length:=by
 refine congrArg List.length (List.filter_congr fun k _=>?_)
 by_cases e:k=c
 ·rw [e]; exact h
 ·exact hpq k e
def Mo (s:PS)(c:Nat):Bool:=decide (s.1 c≠0)&&decide (s.1 c<4)
def pIs (s:PS)(c v:Nat):Bool:=decide (s.1 c ||| v<4)
theorem Zy {n m:Nat}{s:PS}{c v:Nat}(h:PI n m s)(hc:c<m)(_hv:isV v) :
  (pIs s c v=true→Mo s c=false→G5 (CS s c v)=G5 s+1)∧(pIs s c v=false→Mo s c=true→G5 s=G5 (CS s c v)+1)∧(pIs s c v=Mo s c→G5 (CS s c v)=G5 s):=by
 have hP:∀ k,k≠c→decide (s.1 k<4)=decide ((CS s c v).1 k<4):=fun k hk=>by
  show _=decide ((if k=c then s.1 k ||| v else s.1 k)<4)
  rw [if_neg hk]
 have hPc:(CS s c v).1 c=s.1 c ||| v:=if_pos rfl
 have hpc:decide ((CS s c v).1 c<4)=pIs s c v:=by rw [hPc]; rfl
 by_cases h0:s.1 c=0
 ·have hq:(CS s c v).2=Ft c s.2:=if_pos h0
  have hw:Mo s c=false:=by unfold Mo; rw [h0]; rfl
  have hcq:c∉s.2:=fun hm=>(h.seen c hc).2 hm h0
  have e1:G5 (CS s c v)=G5 s+if pIs s c v=true then 1 else 0:=by
   unfold G5
   rw [hq,NT,hpc]
   congr 1
   rw [List.filter_congr fun k hk=>(hP k (fun e=>hcq (e▸hk))).symm]
  rw [hw]
  refine ⟨fun h1 _=>(by rw [e1,if_pos h1]),fun _ h2=>(by cases h2),fun h1=>(by rw [e1,if_neg (by rw [h1]; exact Bool.false_ne_true)]; rfl)⟩
 ·have hq:(CS s c v).2=s.2:=if_neg h0
  have hcq:c∈s.2:=(h.seen c hc).1 h0
  have hw:Mo s c=decide (s.1 c<4):=by unfold Mo; rw [decide_eq_true h0,Bool.true_and]
  have h7:pIs s c v=true→Mo s c=true:=fun h1=>by
   rw [hw]
   unfold pIs at h1
   have h1:=of_decide_eq_true h1
   have hle:s.1 c≤s.1 c ||| v:=Nat.left_le_or
   exact decide_eq_true (by omega)
  refine ⟨fun h1 h2=>(by rw [h7 h1] at h2; cases h2),fun h1 h2=>?_,fun h1=>?_⟩
  ·unfold G5
   rw [hq]
   exact Qt h.falls (p:=fun k=>decide ((CS s c v).1 k<4)) (q:=fun k=>decide (s.1 k<4)) (fun k hk=>(hP k hk).symm) hcq (by rw [hpc]; exact h1) (by rw [← hw]; exact h2)
  ·unfold G5
   rw [hq]
   exact V3 (c:=c) (fun k hk=>(hP k hk).symm) (by rw [hpc,h1,hw])
def addRow (v:Nat)(s:PS)(l:List Int):PS:=l.foldl (fun s p=>CS s p.toNat v) s
theorem I1 {v:Nat}{s:PS}{l:List Int}{i:Nat}{c:Int}(h:l[i]? = some c):addRow v s (l.take (i+1))=CS (addRow v s (l.take i)) c.toNat v:=by
 unfold addRow
 rw [List.take_add_one,h,List.foldl_append]; rfl
theorem PI.addRow{n m v:Nat}(hm:m≤n)(hv:isV v)(h0:v≠0):∀ {l:List Int} {s:PS},PI n m s→(∀ p∈l,0≤p∧p<m)→PI n m (addRow v s l)∧∀ j,(SX.addRow v s l).1 j=if (j:Int)∈l then s.1 j ||| v else s.1 j
 | [],s,h,_=>⟨h,fun j=>by simp [SX.addRow]⟩
 | c::l,s,h,hl=>by
  have hc:=hl c (List.mem_cons_self ..)
  obtain ⟨k,rfl⟩:∃ k:Nat,c=k:=⟨c.toNat,by omega⟩
  have h1:=h.add (c:=k) (v:=v) (by omega) hm hv h0
  obtain ⟨k1,k2⟩:=PI.addRow hm hv h0 h1 (fun p hp=>hl p (List.mem_cons_of_mem _ hp))
  have e:SX.addRow v s ((k:Int)::l)=SX.addRow v (CS s k v) l:=rfl
  rw [e]
  refine ⟨k1,fun j=>?_⟩
  rw [k2]
  show (if (j:Int)∈l then (if j=k then s.1 j ||| v else s.1 j) ||| v else if j=k then s.1 j ||| v else s.1 j)=_
  by_cases e1:j=k
  ·subst e1
   rw [if_pos rfl,if_pos (List.mem_cons_self ..),Nat.or_assoc,Nat.or_self,ite_self]
  ·rw [if_neg e1]
   have:((j:Int)∈(k:Int)::l)↔(j:Int)∈l:=by rw [List.mem_cons]; exact ⟨fun h=>h.resolve_left (by omega),.inr⟩
   simp only [this]
theorem PI.start(n:Nat):PI n n (fun _=>0,[]):=⟨.nil,fun _ h=>(by cases h),fun k _=>⟨fun h=>absurd rfl h,fun h=>(by cases h)⟩,fun _=>.inl rfl,fun _ _=>rfl⟩
theorem PI.pop{n m c:Nat}{P:Nat→Nat}{Q:List Nat}(h:PI n m (P,c::Q)):PI n c (P,Q):=by
 obtain ⟨h1,h2⟩:=List.pairwise_cons.1 h.falls
 refine ⟨h2,fun q hq=>h1 q hq,fun k hk=>?_,h.val,h.top⟩
 have hc:=h.lt c (List.mem_cons_self ..)
 refine (h.seen k (by omega)).trans ?_
 show k∈c::Q↔k∈Q
 rw [List.mem_cons]
 exact ⟨fun h=>h.resolve_left (by omega),.inr⟩
structure PW (g:List (List Int)) (l r:List Int) (m:Nat) (s:PS) (F:Nat→Bool):Prop where
 pi:PI g.length m s
 le:m≤g.length
 fin:pF g g.length (Gb l r)=pF g m s.1
 found:∀ k,F k=(decide (m≤k)&&decide (s.1 k=3))
theorem PW.step{g:List (List Int)}(hg:E5 g){l r:List Int}{m c:Nat}{P:Nat→Nat}{Q:List Nat}{F:Nat→Bool}(h:PW g l r m (P,c::Q) F) :
  PI g.length c (P,Q)∧P c≠0∧c<m∧PW g l r c (addRow (IP (P c)) (P,Q) (Ch g c)) (fun k=>F k||(decide (P c=3)&&decide (k=c))):=by
 have hcm:c<m:=h.pi.lt c (List.mem_cons_self ..)
 have hPc:P c≠0:=(h.pi.seen c hcm).2 (List.mem_cons_self ..)
 have h1:=h.pi.pop
 have hrow:∀ p∈Ch g c,0≤p∧p<c:=fun p hp=>⟨(Dl hg hp).1,(Dl hg hp).2.1⟩
 have hle:=h.le
 obtain ⟨k1,k2⟩:=PI.addRow (v:=IP (P c)) (by omega) (h.pi.val c).out (TQ hPc) h1 hrow
 have hfun:(addRow (IP (P c)) (P,Q) (Ch g c)).1=CV g c P:=funext fun j=>k2 j
 have hz:∀ i,c<i→i<m→P i=0:=fun i h2 h3=>by
  by_cases e:P i=0
  ·exact e
  ·have:=(h.pi.seen i h3).1 e
   rcases List.mem_cons.1 this with rfl | hi
   ·omega
   ·have:=(List.pairwise_cons.1 h.pi.falls).1 i hi; omega
 refine ⟨h1,hPc,hcm,k1,by omega,?_,fun k=>?_⟩
 ·rw [hfun,h.fin]; exact A0T hcm hz
 ·rw [hfun,h.found]
  show (decide (m≤k)&&decide (P k=3)||(decide (P c=3)&&decide (k=c)))=(decide (c≤k)&&decide (CV g c P k=3))
  by_cases e:c≤k
  ·rw [Mn hg e,decide_eq_true e,Bool.true_and]
   by_cases e1:k=c
   ·subst e1
    rw [decide_eq_false (show ¬ m≤k by omega),Bool.false_and,Bool.false_or,decide_eq_true (rfl:k=k),Bool.and_true]
   ·rw [decide_eq_false e1,Bool.and_false,Bool.or_false]
    by_cases e2:m≤k
    ·rw [decide_eq_true e2,Bool.true_and]
    ·rw [hz k (by omega) (by omega)]; simp
  ·rw [decide_eq_false e,decide_eq_false (show ¬ m≤k by omega),decide_eq_false (show ¬ k=c by omega)]; simp
theorem PW.done{g:List (List Int)}(hg:E5 g){l r:List Int}{m:Nat}{s:PS}{F:Nat→Bool}(h:PW g l r m s F)(h0:G5 s=0):∀ k,F k=Db g (HB g l r) g.length k:=by
 intro k
 have hall:∀ q∈s.2,¬ s.1 q<4:=fun q hq hlt=>by
  have:s.2.filter (fun k=>decide (s.1 k<4))=[]:=List.eq_nil_of_length_eq_zero h0
  have hm:q∈s.2.filter fun k=>decide (s.1 k<4):=List.mem_filter.2 ⟨hq,decide_eq_true hlt⟩
  rw [this] at hm; cases hm
 have hst:∀ k,k<m→s.1 k=0∨s.1 k=7:=fun k hk=>by
  by_cases e:s.1 k=0
  ·exact .inl e
  ·have h1:=hall k ((h.pi.seen k hk).1 e)
   rcases h.pi.val k with h2 | h2 | h2 | h2 | h2
   ·exact .inl h2
   ·omega
   ·omega
   ·omega
   ·exact .inr h2
 rw [Bool.eq_iff_iff,← Ss hg,h.fin,h.found]
 by_cases e:m≤k
 ·rw [decide_eq_true e,Bool.true_and,Xx hg e,decide_eq_true_eq]
 ·rw [decide_eq_false e,Bool.false_and]
  have:=Xy (g:=g) h.pi.val hst k (by omega)
  constructor
  ·intro h; cases h
  ·intro h2; rcases this with h1 | h1 <;> rw [h1] at h2 <;> cases h2
theorem Zz {s:PS}(h:0<G5 s):∃ c Q,s.2=c::Q:=by
 cases hs:s.2 with
 | nil=>unfold G5 at h; rw [hs] at h; simp at h
 | cons c Q=>exact ⟨c,Q,rfl⟩
theorem ZA {P:Nat→Nat}{c:Nat}{Q:List Nat}:G5 (P,c::Q)=G5 (P,Q)+if P c<4 then 1 else 0:=by
 unfold G5
 show (List.filter _ (c::Q)).length=_
 rw [List.filter_cons]
 by_cases h:P c<4
 ·rw [if_pos (decide_eq_true h),if_pos h]; rfl
 ·rw [if_neg (by rw [decide_eq_false h]; exact Bool.false_ne_true),if_neg h]; rfl
theorem Xz {n m:Nat}{s:PS}(h:PI n m s):G5 s≤m:=by
 have h1:=Iz h.falls h.lt
 have h2:G5 s≤s.2.length:=List.length_filter_le ..
 omega
theorem XA {n:Nat}{l r:List Int}(hl:∀ p∈l,0≤p∧p<n)(hr:∀ p∈r,0≤p∧p<n):(addRow 2 (addRow 1 (fun _=>0,[]) l) r).1=Gb l r∧PI n n (addRow 2 (addRow 1 (fun _=>0,[]) l) r):=by
 obtain ⟨h1,h2⟩:=PI.addRow (v:=1) (Nat.le_refl n) (by unfold isV; decide) (by decide) (PI.start n) hl
 obtain ⟨h3,h4⟩:=PI.addRow (v:=2) (Nat.le_refl n) (by unfold isV; decide) (by decide) h1 hr
 refine ⟨funext fun j=>?_,h3⟩
 rw [h4,h2]
 unfold Gb
 by_cases e1:(j:Int)∈l <;> by_cases e2:(j:Int)∈r <;> simp [e1,e2]
theorem PW.start{g:List (List Int)}{l r:List Int}(hl:∀ p∈l,0≤p∧p<g.length)(hr:∀ p∈r,0≤p∧p<g.length):PW g l r g.length (addRow 2 (addRow 1 (fun _=>0,[]) l) r) (fun _=>false):=by
 obtain ⟨h1,h2⟩:=XA hl hr
 refine ⟨h2,Nat.le_refl _,by rw [h1],fun k=>?_⟩
 by_cases e:g.length≤k
 ·rw [h2.top k e]; simp
 ·rw [decide_eq_false e]; rfl
end SX
namespace SX
open Go Go.Conc.Locks Go.MuLone
section
variable {P:Program} {K:MuLink}
theorem I2 {t:TypeId}{d:TypeDesc}(h:P.underlying t=some d)(w:World):Sem.run P (underlying t) w=.ok d w:=run_underlying h w
theorem Gc {t:TypeId}{n:Nat}(h:(P.info? t).map (·.size)=some n)(w:World):Sem.run P (Go.sizeOf t) w=.ok n w:=by
 cases hi:P.info? t with
 | none=>rw [hi] at h; cases h
 | some i=>rw [hi] at h; simp only [Option.map_some,Option.some.injEq] at h; simp [Go.sizeOf,typeInfo,hi,h]
def A0x:TypeDesc→Bool
 | .struct _ | .array _ _=>true
 | _=>false
theorem Gd {t:TypeId}{b:Bool}(h:(P.underlying t).map A0x=some b)(w:World):Sem.run P (isAgg t) w=.ok b w:=by
 cases hu:P.underlying t with
 | none=>rw [hu] at h; cases h
 | some d =>
  rw [hu] at h
  obtain rfl:=Option.some.inj h
  unfold isAgg
  cases d <;> simp_all [run_underlying hu,A0x]
theorem Ge {t:TypeId}{z:Value}(h:(P.info? t).bind (·.zero)=some z)(w:World):Sem.run P (zeroValue t) w=.ok z w:=TZv.run ⟨h⟩ w
theorem ZB (H0:MuLib P K){b t:Nat}(i:Nat){cs:List Value}(h:cs[i]? = some (.int .i32 0)):Spec P K.lock [.pointer (some ⟨b,i,none⟩)] [B5 b t cs] (fun r L=>r=.tuple #[]∧L=[B5 b t (cs.set i (.int .i32 1))]):=fun E w hw =>
 (lock_free H0 ⟨b,i,none⟩ w (by rw [hw.cell .here]; exact h) (by have hb:=hw.one_get .here; simp [World.frozen?,hb])).mono fun e w' ⟨he,hw'⟩=>⟨_,_,he,⟨rfl,rfl⟩,by subst hw'; exact hw.setCell _ .here⟩
theorem V4 (H0:MuLib P K){b t:Nat}(i:Nat){cs:List Value}(h:cs[i]? = some (.int .i32 1)):Spec P K.unlock [.pointer (some ⟨b,i,none⟩)] [B5 b t cs] (fun r L=>r=.tuple #[]∧L=[B5 b t (cs.set i (.int .i32 0))]):=fun E w hw =>
 (unlock_held H0 ⟨b,i,none⟩ w (by rw [hw.cell .here]; exact h) (by have hb:=hw.one_get .here; simp [World.frozen?,hb])).mono fun e w' ⟨he,hw'⟩=>⟨_,_,he,⟨rfl,rfl⟩,by subst hw'; exact hw.setCell _ .here⟩
end
end SX
namespace SX
open Go
theorem up_step{g:List (List Int)}(hg:E5 g)(a b:Nat):up g a b=(decide (b=a)||(Ch g a).any fun p=>up g p.toNat b):=by
 rw [Bool.eq_iff_iff,FQ hg,Bool.or_eq_true,decide_eq_true_eq,List.any_eq_true]
 constructor
 ·intro h
  cases h with
  | refl=>exact .inl rfl
  | step hp k=>exact .inr ⟨_,hp,by rw [Int.toNat_natCast]; exact (FQ hg _ _).2 k⟩
 ·rintro (rfl | ⟨p,hp,h⟩)
  ·exact .refl _
  ·obtain ⟨h0,_,_⟩:=Dl hg hp
   exact .step (p:=p.toNat) (by rw [Int.toNat_of_nonneg h0]; exact hp) ((FQ hg _ _).1 h)
def I3 (n:Int):Nat:=(n % 18446744073709551616).toNat
theorem Mp (n:Int):I3 n<18446744073709551616:=by unfold I3; omega
theorem V5 {a b:Int}(ha : -9223372036854775808≤a∧a≤9223372036854775807)(hb : -9223372036854775808≤b∧b≤9223372036854775807)(h:I3 a=I3 b):a=b:=by unfold I3 at h; omega
def EM (n:Int):List UInt8:=Br 8 (I3 n)
theorem GH (n:Int):(EM n).length=8:=Bu _ _
theorem A0y{n:Nat}(h:n<18446744073709551616):OO (Br 8 n)=n:=by
 have e:(BitVec.ofNat 64 n).toNat=n:=by rw [BitVec.toNat_ofNat]; exact Nat.mod_eq_of_lt h
 unfold Br
 rw [TE 8 _ (by rw [e]; exact h),e]
theorem V6 {a b:Int}(ha : -9223372036854775808≤a∧a≤9223372036854775807)(hb : -9223372036854775808≤b∧b≤9223372036854775807)(h:EM a=EM b):a=b:=by
 refine V5 ha hb ?_
 have:=congrArg OO h
 unfold EM at this
 rwa [A0y (Mp a),A0y (Mp b)] at this
theorem NU:∀ {l k:List Int},(∀ x∈l,-9223372036854775808≤x∧x≤9223372036854775807)→(∀ x∈k,-9223372036854775808≤x∧x≤9223372036854775807)→l.flatMap EM=k.flatMap EM→l=k
 | [],[],_,_,_=>rfl
 | [],y::k,_,_,h=>by
  have:=congrArg List.length h
  rw [List.flatMap_cons,List.length_append,GH] at this
  have h0:(([]:List Int).flatMap EM).length=0:=rfl
  omega
 | x::l,[],_,_,h=>by
  have:=congrArg List.length h
  rw [List.flatMap_cons,List.length_append,GH] at this
  have h0:(([]:List Int).flatMap EM).length=0:=rfl
  omega
 | x::l,y::k,h1,h2,h=>by
  rw [List.flatMap_cons,List.flatMap_cons] at h
  obtain ⟨e1,e2⟩:=List.append_inj h (by rw [GH,GH])
  rw [V6 (h1 x (List.mem_cons_self ..)) (h2 y (List.mem_cons_self ..)) e1,NU (fun z hz=>h1 z (List.mem_cons_of_mem _ hz)) (fun z hz=>h2 z (List.mem_cons_of_mem _ hz)) e2]
structure Qn where
 k:Int
 a:Int
 b:Int
 ids:List Int
 lim:Int
def Qn.all (q:Qn):List Int:=q.k::q.a::q.b::q.lim::q.ids
structure Qn.Ok (q:Qn):Prop where
 rg:∀ x∈q.all,-9223372036854775808≤x∧x≤9223372036854775807
 ln:q.ids.length≤1000
def A1L (q:Qn):List UInt8:=q.all.flatMap EM++Br 8 0
def Mq (q:Qn):ByteArray:=str (A1L q)
theorem XB {q r:Qn}(hq:q.Ok)(hr:r.Ok)(h:Mq q=Mq r):q=r:=by
 have h1:=TD h
 unfold A1L at h1
 have hl:(q.all.flatMap EM).length=(r.all.flatMap EM).length:=by
  have:=congrArg List.length h1
  rw [List.length_append,List.length_append,Bu] at this
  omega
 have e:=NU hq.rg hr.rg (List.append_inj h1 hl).1
 obtain ⟨k,a,b,ids,u⟩:=q
 obtain ⟨k',a',b',ids',u'⟩:=r
 unfold Qn.all at e
 injection e with e1 e
 injection e with e2 e
 injection e with e3 e
 injection e with e5 e4
 subst e1; subst e2; subst e3; subst e4; subst e5; rfl
def I4 (a b c:List En)(q:ByteArray):Prop:=q∈a.map (·.1)∨q∈b.map (·.1)∨q∈c.map (·.1)
theorem Mr {a b c:List En}{p:ByteArray}(h:DU a b c=some p):(∀ e r,a=e::r→BE e.1 p=false)∧(∀ e r,b=e::r→BE e.1 p=false)∧(∀ e r,c=e::r→BE e.1 p=false)∧((∃ e r,a=e::r∧e.1=p)∨(∃ e r,b=e::r∧e.1=p)∨(∃ e r,c=e::r∧e.1=p)):=by
 unfold DU at h
 generalize h1:E6 none a=m1 at h
 generalize h2:E6 m1 b=m2 at h
 obtain ⟨c1,c2,c3⟩:=(D0 m2 c).2 p h
 have tr:∀ x y z:ByteArray,BE y x=false→BE z y=false→BE z x=false:=by
  intro x y z k1 k2
  cases hz:BE z x with
  | false=>rfl
  | true =>
   rcases DS z y with k | k | k
   ·rw [k] at k2; cases k2
   ·rw [k] at hz; rw [hz] at k1; cases k1
   ·rw [Da k hz] at k1; cases k1
 have hb:∀ q,m2=some q→(∀ e r,b=e::r→BE e.1 q=false)∧(∀ q',m1=some q'→BE q' q=false):=fun q hq=>by
  rw [← h2] at hq
  obtain ⟨_,b2,b3⟩:=(D0 m1 b).2 q hq
  exact ⟨b3,b2⟩
 have ha:∀ q,m1=some q→(∀ e r,a=e::r→BE e.1 q=false):=fun q hq=>by
  rw [← h1] at hq
  exact ((D0 none a).2 q hq).2.2
 refine ⟨fun e r he=>?_,fun e r he=>?_,c3,?_⟩
 ·cases hm1:m1 with
  | none =>
   rw [hm1] at h1
   have:=((D0 none a).1.1 h1).2
   rw [this] at he; cases he
  | some q1 =>
   cases hm2:m2 with
   | none =>
    rw [hm2] at h2
    have:=((D0 m1 b).1.1 h2).1
    rw [hm1] at this; cases this
   | some q2=>exact tr _ _ _ (c2 q2 hm2) (tr _ _ _ ((hb q2 hm2).2 q1 hm1) (ha q1 hm1 e r he))
 ·cases hm2:m2 with
  | none =>
   rw [hm2] at h2
   have:=((D0 m1 b).1.1 h2).2
   rw [this] at he; cases he
  | some q2=>exact tr _ _ _ (c2 q2 hm2) ((hb q2 hm2).1 e r he)
 ·rcases c1 with k | k
  ·rw [← h2] at k
   rcases ((D0 m1 b).2 p k).1 with k' | k'
   ·rw [← h1] at k'
    rcases ((D0 none a).2 p k').1 with k'' | k''
    ·cases k''
    ·exact .inl k''
   ·exact .inr (.inl k')
  ·exact .inr (.inr k)
theorem St {a b c:List En}(h:DU a b c=none):a=[]∧b=[]∧c=[]:=by
 unfold DU at h
 obtain ⟨h1,h2⟩:=(D0 _ c).1.1 h
 obtain ⟨h3,h4⟩:=(D0 _ b).1.1 h1
 exact ⟨((D0 _ a).1.1 h3).2,h4,h2⟩
theorem Ms (e:En)(r:List En)(p:ByteArray):Dy (e::r) p=if Bt e.1 p=true then (e.2,r) else (0,e::r):=rfl
theorem IA (l:List En)(p:ByteArray):(Dy l p).2.length≤l.length:=by
 cases l with
 | nil=>exact Nat.le_refl _
 | cons e r=>rw [Ms]; split <;> simp
theorem Mt {l:List En}{p:ByteArray}(h:∃ e r,l=e::r∧e.1=p):(Dy l p).2.length+1≤l.length:=by
 obtain ⟨e,r,rfl,he⟩:=h
 have:Bt e.1 p=true:=BS.2 he
 simp [Dy,this]
theorem XC {a b c:List En}{p:ByteArray}(h:DU a b c=some p):(Dy a p).2.length+(Dy b p).2.length+(Dy c p).2.length+1≤a.length+b.length+c.length:=by
 have h1:=IA a p
 have h2:=IA b p
 have h3:=IA c p
 rcases (Mr h).2.2.2 with k | k | k
 ·have:=Mt k; omega
 ·have:=Mt k; omega
 ·have:=Mt k; omega
theorem U32s.at1{l:List En}(h:U32s l)(p:ByteArray):U32 (Dy l p).1:=by
 cases l with
 | nil=>exact HQ
 | cons e r =>
  rw [Ms]
  split
  ·exact h e (.head _)
  ·exact HQ
theorem U32s.at2{l:List En}(h:U32s l)(p:ByteArray):U32s (Dy l p).2:=by
 cases l with
 | nil=>exact h
 | cons e r =>
  rw [Ms]
  split
  ·exact fun x hx=>h x (.tail _ hx)
  ·exact h
abbrev NV (l:List Cf):List Value:=l.flatMap A2a
theorem NW (R:List Rw)(r:Rw):CG (R++[r])=CG R++Hz r:=by unfold CG; rw [List.flatMap_append]; simp
theorem Qu (R:List Rw)(r:Rw):Fs (R++[r])=Fs R++Ql r:=by unfold Fs; rw [List.flatMap_append]; simp
theorem Su {n:Nat}{a b c:List En}{p:ByteArray}(h:DU a b c=some p):Ez (n+1) a b c=(p,(Dy a p).1,(Dy b p).1,(Dy c p).1)::Ez n (Dy a p).2 (Dy b p).2 (Dy c p).2:=by
 rw [Ez,h]
theorem Sv {n:Nat}{a b c:List En}(h:DU a b c=none):Ez n a b c=[]:=by
 cases n with
 | zero=>rfl
 | succ n=>rw [Ez,h]
theorem Sw (n:Nat):∀ a b c:List En,CU a→CU b→CU c→a.length+b.length+c.length≤n →
  ((Ez n a b c).map (·.1)).Pairwise (fun x y=>BE x y=true)∧(∀ r∈Ez n a b c,r=(r.1,lookE a r.1,lookE b r.1,lookE c r.1))∧(∀ q,q∈(Ez n a b c).map (·.1)↔I4 a b c q):=by
 induction n with
 | zero =>
  intro a b c _ _ _ hl
  obtain rfl:=List.eq_nil_of_length_eq_zero (show a.length=0 by omega)
  obtain rfl:=List.eq_nil_of_length_eq_zero (show b.length=0 by omega)
  obtain rfl:=List.eq_nil_of_length_eq_zero (show c.length=0 by omega)
  exact ⟨List.Pairwise.nil,(fun r h=>by cases h),fun q=>by simp [Ez,I4]⟩
 | succ n ih =>
  intro a b c ha hb hc hl
  unfold Ez
  cases hm:DU a b c with
  | none =>
   obtain ⟨rfl,rfl,rfl⟩:=St hm
   exact ⟨List.Pairwise.nil,(fun r h=>by cases h),fun q=>by simp [I4]⟩
  | some p =>
   simp only []
   obtain ⟨la,lb,lc,hex⟩:=Mr hm
   obtain ⟨a1,a2,a3,a4,a5,a6⟩:=OZ ha la
   obtain ⟨b1,b2,b3,b4,b5,b6⟩:=OZ hb lb
   obtain ⟨c1,c2,c3,c4,c5,c6⟩:=OZ hc lc
   have hdrop:∀ (l:List En),(∃ e r,l=e::r∧e.1=p)→(Dy l p).2.length+1≤l.length:=by
    rintro l ⟨e,r,rfl,he⟩
    have:Bt e.1 p=true:=BS.2 he
    simp [Dy,this]
   have hlen:(Dy a p).2.length+(Dy b p).2.length+(Dy c p).2.length≤n:=by
    rcases hex with h | h | h
    ·have:=hdrop _ h; omega
    ·have:=hdrop _ h; omega
    ·have:=hdrop _ h; omega
   obtain ⟨i1,i2,i3⟩:=ih _ _ _ a2 b2 c2 hlen
   have hgt:∀ q,I4 (Dy a p).2 (Dy b p).2 (Dy c p).2 q→BE p q=true:=by
    rintro q (h | h | h)
    ·obtain ⟨e,he,rfl⟩:=List.mem_map.1 h; exact a3 e he
    ·obtain ⟨e,he,rfl⟩:=List.mem_map.1 h; exact b3 e he
    ·obtain ⟨e,he,rfl⟩:=List.mem_map.1 h; exact c3 e he
   refine ⟨?_,fun r hr=>?_,fun q=>?_⟩
   ·rw [List.map_cons,List.pairwise_cons]
    exact ⟨fun q hq=>hgt q ((i3 q).1 hq),i1⟩
   ·rcases List.mem_cons.1 hr with rfl | hr
    ·show (p,_,_,_)=(p,_,_,_)
     rw [a1,b1,c1]
    ·have hne:r.1≠p:=fun h=>by
      have:=hgt r.1 ((i3 r.1).1 (List.mem_map_of_mem hr))
      rw [h,CF] at this; cases this
     have:=i2 r hr
     rw [a5 _ hne,b5 _ hne,c5 _ hne] at this
     exact this
   ·rw [List.map_cons,List.mem_cons,i3]
    show q=p∨_↔_
    have hpp:I4 a b c p:=by
     rcases hex with ⟨e,r,rfl,rfl⟩ | ⟨e,r,rfl,rfl⟩ | ⟨e,r,rfl,rfl⟩
     ·exact .inl (by simp)
     ·exact .inr (.inl (by simp))
     ·exact .inr (.inr (by simp))
    constructor
    ·rintro (rfl | h | h | h)
     ·exact hpp
     ·exact .inl ((a4 q).2 (.inl h))
     ·exact .inr (.inl ((b4 q).2 (.inl h)))
     ·exact .inr (.inr ((c4 q).2 (.inl h)))
    ·rintro (h | h | h)
     ·rcases (a4 q).1 h with k | ⟨k,_⟩
      ·exact .inr (.inl k)
      ·exact .inl k
     ·rcases (b4 q).1 h with k | ⟨k,_⟩
      ·exact .inr (.inr (.inl k))
      ·exact .inl k
     ·rcases (c4 q).1 h with k | ⟨k,_⟩
      ·exact .inr (.inr (.inr k))
      ·exact .inl k
theorem Mu:∀ {x y:List ByteArray},x.Pairwise (fun a b=>BE a b=true)→y.Pairwise (fun a b=>BE a b=true)→(∀ q,q∈x↔q∈y)→x=y
 | [],[],_,_,_=>rfl
 | [],b::y,_,_,h=>by have:=(h b).2 (.head _); cases this
 | a::x,[],_,_,h=>by have:=(h a).1 (.head _); cases this
 | a::x,b::y,hx,hy,h=>by
  obtain ⟨x1,x2⟩:=List.pairwise_cons.1 hx
  obtain ⟨y1,y2⟩:=List.pairwise_cons.1 hy
  have hab:a=b:=by
   rcases List.mem_cons.1 ((h a).1 (.head _)) with k | k
   ·exact k
   ·rcases List.mem_cons.1 ((h b).2 (.head _)) with k' | k'
    ·exact k'.symm
    ·have h1:=y1 a k
     have h2:=x1 b k'
     rw [Jd h1] at h2; cases h2
  subst hab
  congr 1
  refine Mu x2 y2 fun q=>?_
  constructor
  ·intro hq
   rcases List.mem_cons.1 ((h q).1 (.tail _ hq)) with k | k
   ·have:=x1 q hq; rw [k,CF] at this; cases this
   ·exact k
  ·intro hq
   rcases List.mem_cons.1 ((h q).2 (.tail _ hq)) with k | k
   ·have:=y1 q hq; rw [k,CF] at this; cases this
   ·exact k
theorem NX {n:Nat}{a b c:List En}(ha:CU a)(hb:CU b)(hc:CU c)(hn:a.length+b.length+c.length≤n):Ez n a b c=D4 a b c:=by
 obtain ⟨h1,h2,h3⟩:=Sw n a b c ha hb hc hn
 have hp:(Ez n a b c).map (·.1)=Fe a b c:=by
  refine Mu h1 (M0 _) fun q=>?_
  rw [h3,Fe,Qj,List.mem_append,List.mem_append,or_assoc]; rfl
 have e:Ez n a b c=((Ez n a b c).map (·.1)).map fun p=>(p,lookE a p,lookE b p,lookE c p):=by
  rw [List.map_map]
  conv=>lhs; rw [← List.map_id (Ez n a b c)]
  exact List.map_congr_left fun r hr=>h2 r hr
 rw [e,hp]
 unfold D4
 exact List.map_congr_left fun p _=>by rw [FC ha,FC hb,FC hc]
theorem XE {p:ByteArray}{l:List En}(h:U32s l):U32s (Nb p l):=fun e he=>h e (Qe he)
theorem XF {t:List En}(h:U32s t)(p:ByteArray){b:Int}(hb:U32 b):U32s (Ha t p b):=by
 intro e he
 unfold Ha at he
 split at he
 ·exact h e he
 ·rw [List.mem_append,List.mem_append] at he
  rcases he with (he | he) | he
  ·exact h e ((List.takeWhile_sublist _).subset he)
  ·split at he
   ·cases he
   ·rw [List.mem_singleton] at he; subst he; exact hb
  ·exact XE (fun e he=>h e ((List.dropWhile_sublist _).subset he)) e he
theorem V7 (l:List En):∀ t,U32s t→U32s l→U32s (l.foldl (fun t e=>Ha t e.1 e.2) t):=by
 induction l with
 | nil=>intro t h _; exact h
 | cons e l ih =>
  intro t h hl
  rw [List.foldl_cons]
  exact ih _ (XF h _ (hl e (by simp))) (fun x hx=>hl x (by simp [hx]))
theorem Kc {l:List En}(hr:CU l){e:En}(h:e∈l):lookE l e.1=e.2:=by
 obtain ⟨k,hk⟩:=List.mem_iff_getElem?.1 h
 refine Q5 hk (BQ _) fun j x hj hx=>?_
 exact Cc.2 (Gu (Gv hr hj hx hk))
theorem FE {l:List En}{p:ByteArray}(h:p∉l.map (·.1)):lookE l p=0 :=
 H7 fun e he=>Cc.2 fun hp=>h (List.mem_map.2 ⟨e,he,hp⟩)
theorem XG {x y:List En}(hx:CU x)(hy:CU y)(fx:∀ e∈x,e.2≠0)(fy:∀ e∈y,e.2≠0)(h:∀ p,lookE x p=lookE y p):x=y:=by
 have hp:x.map (·.1)=y.map (·.1):=by
  refine Mu (List.pairwise_map.2 hx) (List.pairwise_map.2 hy) fun q=>?_
  have key:∀ {x y:List En},CU x→(∀ e∈x,e.2≠0)→(∀ p,lookE x p=lookE y p)→q∈x.map (·.1)→q∈y.map (·.1):=fun hx fx h hq=>by
   obtain ⟨e,he,rfl⟩:=List.mem_map.1 hq
   by_cases k:e.1∈List.map (fun x=>x.1) ‹List En›
   ·exact k
   ·have h1:=Kc hx he
    rw [h,FE k] at h1
    exact absurd h1.symm (fx e he)
  exact ⟨key hx fx h,key hy fy fun p=>(h p).symm⟩
 have e1:∀ l:List En,CU l→l=(l.map (·.1)).map fun p=>(p,lookE l p):=fun l hl=>by
  rw [List.map_map]
  conv=>lhs; rw [← List.map_id l]
  exact List.map_congr_left fun e he=>by show e=(e.1,lookE l e.1); rw [Kc hl he]
 rw [e1 x hx,e1 y hy,hp]
 exact List.map_congr_left fun p _=>by rw [h]
theorem Hi (a b c:List En)(q:ByteArray):q∈Fe a b c↔I4 a b c q:=by
 rw [Fe,Qj,List.mem_append,List.mem_append,or_assoc]; rfl
theorem Qv {a b c:List En}{q:ByteArray}(h:¬ I4 a b c q):lookE a q=0∧lookE b q=0∧lookE c q=0 :=
 ⟨FE fun k=>h (.inl k),FE fun k=>h (.inr (.inl k)),FE fun k=>h (.inr (.inr k))⟩
def A1M (ps:List ByteArray)(a b c:List En):List Rw:=ps.map fun p=>(p,lookE a p,lookE b p,lookE c p)
theorem JE {a b c:List En}(ha:CU a)(hb:CU b)(hc:CU c):D4 a b c=A1M (Fe a b c) a b c :=
 List.map_congr_left fun p _=>by rw [FC ha,FC hb,FC hc]
theorem Jq {rs:List Rw}(h:rs.Pairwise fun x y=>BE x.1 y.1=true):CU (CG rs):=by
 induction rs with
 | nil=>exact List.Pairwise.nil
 | cons r rs ih =>
  obtain ⟨h1,h2⟩:=List.pairwise_cons.1 h
  show CU (Hz r++CG rs)
  refine List.pairwise_append.2 ⟨?_,ih h2,fun x hx y hy=>?_⟩
  ·unfold Hz; split
   ·exact List.Pairwise.nil
   ·exact List.pairwise_singleton _ _
  ·have e1:x.1=r.1:=by
    unfold Hz at hx; split at hx
    ·cases hx
    ·rw [List.mem_singleton] at hx; rw [hx]
   obtain ⟨r',hr',hy'⟩:=List.mem_flatMap.1 hy
   have e2:y.1=r'.1:=by
    unfold Hz at hy'; split at hy'
    ·cases hy'
    ·rw [List.mem_singleton] at hy'; rw [hy']
   rw [e1,e2]; exact h1 r' hr'
theorem GI {rs:List Rw}{e:En}(h:e∈CG rs):∃ r∈rs,e=(r.1,(D6 r.2.1 r.2.2.1 r.2.2.2).1)∧(D6 r.2.1 r.2.2.1 r.2.2.2).1≠0:=by
 obtain ⟨r,hr,hy⟩:=List.mem_flatMap.1 h
 unfold Hz at hy; split at hy
 ·cases hy
 ·next k=>rw [List.mem_singleton] at hy; exact ⟨r,hr,hy,k⟩
theorem NY {rs:List Rw}:∀ e∈CG rs,e.2≠0:=fun e he=>by
 obtain ⟨r,_,rfl,k⟩:=GI he; exact k
theorem ZC {rs:List Rw}{r:Rw}:r∈Fs rs↔r∈rs∧(D6 r.2.1 r.2.2.1 r.2.2.2).2=true:=by
 constructor
 ·intro h
  obtain ⟨r',hr,hy⟩:=List.mem_flatMap.1 h
  unfold Ql at hy; split at hy
  ·next k=>rw [List.mem_singleton] at hy; subst hy; exact ⟨hr,k⟩
  ·cases hy
 ·rintro ⟨h1,h2⟩
  exact List.mem_flatMap.2 ⟨r,h1,by unfold Ql; rw [if_pos h2]; exact List.mem_singleton.2 rfl⟩
section
variable {a b c:List En}
theorem Pd (a b c:List En):(D4 a b c).Pairwise fun x y=>BE x.1 y.1=true:=by
 unfold D4
 exact List.pairwise_map.2 (M0 _)
theorem XH:D6 0 0 0=(0,false):=rfl
theorem XI (ha:CU a)(hb:CU b)(hc:CU c)(p:ByteArray):lookE (CG (D4 a b c)) p=(D6 (lookE a p) (lookE b p) (lookE c p)).1:=by
 have hR:=Jq (Pd a b c)
 by_cases hp:I4 a b c p
 ·by_cases h0:(D6 (lookE a p) (lookE b p) (lookE c p)).1=0
  ·rw [h0]
   refine FE fun k=>?_
   obtain ⟨e,he,rfl⟩:=List.mem_map.1 k
   obtain ⟨r,hr,he2,hn⟩:=GI he
   rw [JE ha hb hc] at hr
   obtain ⟨q,_,rfl⟩:=List.mem_map.1 hr
   have:q=e.1:=by rw [he2]
   subst this
   exact hn h0
  ·have hm:(p,(D6 (lookE a p) (lookE b p) (lookE c p)).1)∈CG (D4 a b c):=by
    refine List.mem_flatMap.2 ⟨(p,lookE a p,lookE b p,lookE c p),?_,?_⟩
    ·rw [JE ha hb hc]; exact List.mem_map.2 ⟨p,(Hi a b c p).2 hp,rfl⟩
    ·unfold Hz; rw [if_neg h0]; exact List.mem_singleton.2 rfl
   exact Kc hR hm
 ·obtain ⟨h1,h2,h3⟩:=Qv hp
  rw [h1,h2,h3,XH]
  refine FE fun k=>?_
  obtain ⟨e,he,rfl⟩:=List.mem_map.1 k
  obtain ⟨r,hr,he2,hn⟩:=GI he
  rw [JE ha hb hc] at hr
  obtain ⟨q,hq,rfl⟩:=List.mem_map.1 hr
  have:q=e.1:=by rw [he2]
  subst this
  exact hp ((Hi a b c _).1 hq)
theorem A0X{d:List En}(ha:CU a)(hb:CU b)(hc:CU c)(hd:CU d)(fd:∀ e∈d,e.2≠0)(h:∀ p,(D6 (lookE a p) (lookE b p) (lookE c p)).1=lookE d p):CG (D4 a b c)=d :=
 XG (Jq (Pd a b c)) hd NY fd fun p=>by rw [XI ha hb hc,h]
theorem A0Y(ha:CU a)(hb:CU b)(hc:CU c)(h:∀ p,(D6 (lookE a p) (lookE b p) (lookE c p)).2=false):Fs (D4 a b c)=[]:=by
 refine List.eq_nil_iff_forall_not_mem.2 fun r hr=>?_
 obtain ⟨h1,h2⟩:=ZC.1 hr
 rw [JE ha hb hc] at h1
 obtain ⟨q,_,rfl⟩:=List.mem_map.1 h1
 rw [h] at h2; cases h2
theorem TS (b o:Int):D6 b o b=(o,false):=by unfold D6; simp
theorem XJ (hb:GoodT a)(ho:GoodT b):CG (D4 a b a)=b∧Fs (D4 a b a)=[] :=
 ⟨A0X hb.rises ho.rises hb.rises ho.rises ho.full fun p=>by rw [TS],A0Y hb.rises ho.rises hb.rises fun p=>by rw [TS]⟩
end
section
variable {a b c:List En}
theorem XK (ha:GoodT a)(hb:GoodT b)(hc:GoodT c):GoodT (CG (D4 a b c)):=by
 refine ⟨Jq (Pd a b c),fun e he=>?_,NY⟩
 obtain ⟨r,hr,he2,_⟩:=GI he
 rw [JE ha.rises hb.rises hc.rises] at hr
 obtain ⟨q,hq,rfl⟩:=List.mem_map.1 hr
 have:q=e.1:=by rw [he2]
 subst this
 rcases (Hi a b c _).1 hq with k | k | k <;> obtain ⟨d,hd,he⟩:=List.mem_map.1 k
 ·rw [← he]; exact ha.short d hd
 ·rw [← he]; exact hb.short d hd
 ·rw [← he]; exact hc.short d hd
end
end SX
namespace SX
section
variable {τ:Type} (S:List Int→Int→List Int) (T:Int→τ) (M:τ→τ→τ→τ) (z:τ)
def Dm (rec:Nat→List Int→Int→Option (τ×Bool)×Nat):List Int→List Int→τ→Nat→Option τ×Nat
 | [],_,t,left=>(some t,left)
 | c::rest,node,t,left=>match rec left node c with
  | (none,l)=>(none,l)
  | (some (u,_),l)=>Dm rec rest (node++[c]) (M u t (T c)) l
def KX:Nat→Nat→List Int→Int→Option (τ×Bool)×Nat
 | 0,left,_,_=>(none,left)
 | f+1,left,x,y=>if left=0 then (none,0) else match S x y with
  | []=>(some (z,false),left-1)
  | b::l=>match Dm T M (KX f) l [b] (T b) (left-1) with
   | (none,k)=>(none,k)
   | (some t,k)=>(some (t,true),k)
theorem Qw {rec:Nat→List Int→Int→Option (τ×Bool)×Nat}(h:∀ left x y,(rec left x y).2≤left):∀ (rest node:List Int) (t:τ) (left:Nat),(Dm T M rec rest node t left).2≤left
 | [],_,_,_=>Nat.le_refl _
 | c::rest,node,t,left=>by
  unfold Dm
  have h1:=h left node c
  generalize rec left node c=r at h1
  obtain ⟨u,l⟩:=r
  cases u with
  | none=>exact h1
  | some u=>exact Nat.le_trans (Qw h rest (node++[c]) (M u.1 t (T c)) l) h1
theorem Pe:∀ (f left:Nat) (x:List Int) (y:Int),(KX S T M z f left x y).2≤left
 | 0,_,_,_=>Nat.le_refl _
 | f+1,left,x,y=>by
  unfold KX
  split
  ·exact Nat.zero_le _
  ·split
   ·exact Nat.sub_le _ _
   ·rename_i b l hs
    have h1:=Qw T M (Pe f) l [b] (T b) (left-1)
    generalize Dm T M (KX S T M z f) l [b] (T b) (left-1)=r at h1
    obtain ⟨u,k⟩:=r
    cases u <;> exact Nat.le_trans h1 (Nat.sub_le _ _)
theorem I5 {r1 r2:Nat→List Int→Int→Option (τ×Bool)×Nat}(n:Nat)(h:∀ left x y,left≤n→r1 left x y=r2 left x y)(hle:∀ left x y,(r1 left x y).2≤left):∀ (rest node:List Int) (t:τ) (left:Nat),left≤n→Dm T M r1 rest node t left=Dm T M r2 rest node t left
 | [],_,_,_,_=>rfl
 | c::rest,node,t,left,hn=>by
  unfold Dm
  rw [← h left node c hn]
  have h1:=hle left node c
  generalize r1 left node c=r at h1
  obtain ⟨u,l⟩:=r
  cases u with
  | none=>rfl
  | some u=>exact I5 n h hle rest (node++[c]) (M u.1 t (T c)) l (Nat.le_trans h1 hn)
theorem NZ:∀ (f f' left:Nat) (x:List Int) (y:Int),left≤f→left≤f'→KX S T M z f left x y=KX S T M z f' left x y
 | 0,0,_,_,_,_,_=>rfl
 | 0,f'+1,left,x,y,h,_=>by
  obtain rfl:left=0:=by omega
  unfold KX; rw [if_pos rfl]
 | f+1,0,left,x,y,_,h=>by
  obtain rfl:left=0:=by omega
  unfold KX; rw [if_pos rfl]
 | f+1,f'+1,left,x,y,h,h'=>by
  unfold KX
  by_cases h0:left=0
  ·rw [if_pos h0,if_pos h0]
  ·rw [if_neg h0,if_neg h0]
   cases S x y with
   | nil=>rfl
   | cons b l =>
    dsimp only
    rw [I5 T M (left-1) (fun k x y hk=>NZ f f' k x y (by omega) (by omega)) (Pe S T M z f) l [b] (T b) (left-1) (Nat.le_refl _)]
def D7 (left:Nat)(x:List Int)(y:Int):Option (τ×Bool)×Nat:=KX S T M z left left x y
theorem DI (left:Nat)(x:List Int)(y:Int):D7 S T M z left x y=if left=0 then (none,0) else match S x y with
  | []=>(some (z,false),left-1)
  | b::l=>match Dm T M (D7 S T M z) l [b] (T b) (left-1) with
   | (none,k)=>(none,k)
   | (some t,k)=>(some (t,true),k):=by
 unfold D7
 cases left with
 | zero=>unfold KX; rfl
 | succ n =>
  rw [KX,if_neg (by omega),if_neg (by omega)]
  cases S x y with
  | nil=>rfl
  | cons b l =>
   dsimp only
   rw [Nat.add_sub_cancel,I5 T M n (fun k x y hk=>NZ S T M z n k k x y hk (Nat.le_refl _)) (Pe S T M z n) l [b] (T b) n (Nat.le_refl _)]
structure VF (τ:Type) where
 rest:List Int
 node:List Int
 tree:τ
def XL:List Int→VF τ
 | []=>⟨[],[],z⟩
 | b::l=>⟨l,[b],T b⟩
def vup (u:τ)(f:VF τ):VF τ:=match f.rest with | []=>f | c::r=>⟨r,f.node++[c],M u f.tree (T c)⟩
def N9:List (VF τ)→Nat→Option (τ×Bool)×Nat
 | [],left=>(none,left)
 | [f],left=>match Dm T M (D7 S T M z) f.rest f.node f.tree left with | (none,l)=>(none,l) | (some t,l)=>(some (t,!(f.node++f.rest).isEmpty),l)
 | f::up::st,left=>match Dm T M (D7 S T M z) f.rest f.node f.tree left with | (none,l)=>(none,l) | (some t,l)=>N9 (vup T M t up::st) l
termination_by l=>l.length
theorem EB (f:VF τ)(st:List (VF τ))(left:Nat):N9 S T M z (f::st) left=match Dm T M (D7 S T M z) f.rest f.node f.tree left with
  | (none,l)=>(none,l)
  | (some t,l)=>match st with | []=>(some (t,!(f.node++f.rest).isEmpty),l) | up::st=>N9 S T M z (vup T M t up::st) l:=by
 cases st with
 | nil=>rw [N9]
 | cons up st=>rw [N9]
theorem ZD (node:List Int)(t:τ)(up:VF τ)(st:List (VF τ))(left:Nat):N9 S T M z (⟨[],node,t⟩::up::st) left=N9 S T M z (vup T M t up::st) left:=by
 rw [EB]; rfl
theorem ZE (node:List Int)(t:τ)(left:Nat):N9 S T M z [⟨[],node,t⟩] left=(some (t,!node.isEmpty),left):=by
 rw [EB]
 show (some (t,!(node++[]).isEmpty),left)=_
 rw [List.append_nil]
theorem ZF (c:Int)(rest node:List Int)(t:τ)(st:List (VF τ)):(N9 S T M z (⟨c::rest,node,t⟩::st) 0).1=none:=by
 rw [EB,Dm,DI,if_pos rfl]
theorem XM (c:Int)(rest node:List Int)(t:τ)(st:List (VF τ))(left:Nat)(h:left≠0) :
  N9 S T M z (⟨c::rest,node,t⟩::st) left=N9 S T M z (XL T z (S node c)::⟨c::rest,node,t⟩::st) (left-1):=by
 rw [EB,EB S T M z (XL T z (S node c))]
 dsimp only
 rw [Dm,DI,if_neg h]
 cases S node c with
 | nil =>
  show _=N9 S T M z (vup T M z ⟨c::rest,node,t⟩::st) (left-1)
  rw [EB]
  dsimp only [vup]
  rw [List.append_assoc]; rfl
 | cons b l =>
  dsimp only [XL]
  generalize Dm T M (D7 S T M z) l [b] (T b) (left-1)=r
  obtain ⟨u,k⟩:=r
  cases u with
  | none=>rfl
  | some u =>
   show _=N9 S T M z (vup T M u ⟨c::rest,node,t⟩::st) k
   rw [EB]
   dsimp only [vup]
   rw [List.append_assoc]; rfl
theorem V8 (x:List Int)(y:Int)(left:Nat)(h:left≠0):D7 S T M z left x y=N9 S T M z [XL T z (S x y)] (left-1):=by
 rw [DI,if_neg h]
 cases S x y with
 | nil=>rw [EB]; rfl
 | cons b l =>
  rw [EB]
  dsimp only [XL]
  generalize Dm T M (D7 S T M z) l [b] (T b) (left-1)=r
  obtain ⟨u,k⟩:=r
  cases u <;> rfl
end
end SX
namespace SX
open Go

section
variable {P:Program} {env:CA} {L:List AK}
theorem ZG {t t' e n by_:Nat}[ht:TSl P t e n by_]{x y:Operand}{db dl dc sb so sl sc st:Nat}{cs1 cs2:List Value}{R:List AK}(news:List Value)
  (hx:AO env x=some (.slice (some ⟨db,0,none⟩) dl dc)) (hy:AO env y=some (.slice (some ⟨sb,so,none⟩) sl sc)) (hL:Split L [B5 db e cs1,B5 sb st cs2] R)
  (hnl:news.length=Nat.min sl dl*n) (hnews:∀ j u,news[j]? = some u→cs2[so+j]? = some u) (h1:news.all Value.oneCell'=true) (hfit:news.length≤cs1.length) :
  Ef P env L (.call { callee:=.builtin .copy,args:=#[x,y],argTypes:=#[t,t']}) (fun k=>k (.int .i64 (Nat.min sl dl:Nat)) (B5 db e (news++cs1.drop news.length)::B5 sb st cs2::R)):=by
 intro ro dst tt pos af g N E a w next Q k hf hh hk hn
 have h2:=hh.ent hL.ent
 have hd:w.heap[db]? = some (.cells cs1.toArray e (0,0)):=h2.one_get .here
 have hs:w.heap[sb]? = some (.cells cs2.toArray st (0,0)):=h2.one_get (.there .here)
 obtain ⟨i,hu,hi,hin,_⟩:=ht.ok
 have hld:(Builtin.firstCells n (Nat.min sl dl) (.slice (some ⟨sb,so,none⟩) sl sc)).run P w=.ok news.toArray w :=
  run_firstCells_some (P:=P) w n (Nat.min sl dl) ⟨sb,so,none⟩ sl sc news hnl (fun j u hj=>by
   rw [CJ,cell_of_row w sb (so+j) cs2.toArray st (0,0) hs]
   simpa using hnews j u hj)
 have hst:=run_storeCells_at P db 0 e news 0 cs1.toArray w hd (by simpa using hfit) (by simpa using h1)
 simp only [Nat.zero_add,List.take_zero,List.nil_append] at hst
 have hrun:(Builtin.copy_ #[t,t'] tt #[.slice (some ⟨db,0,none⟩) dl dc,.slice (some ⟨sb,so,none⟩) sl sc]).run P w=.ok (.int .i64 (Nat.min sl dl:Nat)) (w.setRow db (news++cs1.drop news.length).toArray):=by
  simp [Builtin.copy_,run_underlying hu,Builtin.lenOf,Go.sizeOf,typeInfo,hi,hin,hld,hst,goInt]
 have hb:(execOp a.eval ⟨dst,.call { callee:=.builtin .copy,args:=#[x,y],argTypes:=#[t,t']},tt,pos,af,g⟩).run P w=.ok (.value (.int .i64 (Nat.min sl dl:Nat))) (w.setRow db (news++cs1.drop news.length).toArray):=by
  simp [execOp,resolve,invoke,builtin,hf.ev x _ hx,hf.ev y _ hy,hrun]
 refine Ce hb (hn _ _ _ hk (h2.upd (b:=db) .here _ rfl rfl rfl (by simp [World.setRow]) ?_ ?_))
 ·exact setRow_heap w db cs1.toArray _ e (0,0) hd
 ·intro k hne
  exact setRow_other w db k _ hne
end
end SX
namespace SX
section
variable {τ:Type} (S:List Int→Int→List Int) (T:Int→τ) (M:τ→τ→τ→τ) (z:τ)
def Sx {α:Type}(f:Nat→Option α×Nat)(L:Nat):Prop:=∀ r l,f L=(some r,l)→l≤L∧∀ L',(L-l≤L'→f L'=(some r,L'-(L-l)))∧(L'<L-l→(f L').1=none)
theorem JF (N:Nat)(h:∀ L,L≤N→∀ x y,Sx (fun k=>D7 S T M z k x y) L):∀ (rest node:List Int) (t:τ) (L:Nat),L≤N→Sx (fun k=>Dm T M (D7 S T M z) rest node t k) L
 | [],node,t,L,_=>fun r l e=>by
  simp only [Dm,Prod.mk.injEq,Option.some.injEq] at e ⊢
  obtain ⟨rfl,rfl⟩:=e
  refine ⟨Nat.le_refl _,fun L'=>⟨fun _=>⟨rfl,by omega⟩,fun k=>by omega⟩⟩
 | c::rest,node,t,L,hL=>fun r l e=>by
  have h1:=h L hL node c
  dsimp only at e
  rw [Dm] at e
  cases hv:D7 S T M z L node c with
  | mk o l1 =>
   rw [hv] at e
   cases o with
   | none=>cases e
   | some u =>
    obtain ⟨u,ub⟩:=u
    obtain ⟨k1,k2⟩:=h1 _ _ hv
    dsimp only at e k2
    have h2:=JF N h rest (node++[c]) (M u t (T c)) l1 (by omega) r l e
    obtain ⟨k3,k4⟩:=h2
    dsimp only at k4
    refine ⟨by omega,fun L'=>⟨fun hl=>?_,fun hl=>?_⟩⟩
    ·dsimp only
     rw [Dm,(k2 L').1 (by omega)]
     dsimp only
     rw [(k4 _).1 (by omega)]
     congr 1
     omega
    ·dsimp only
     rw [Dm]
     by_cases hq:L-l1≤L'
     ·rw [(k2 L').1 hq]
      dsimp only
      exact (k4 _).2 (by omega)
     ·have:=(k2 L').2 (by omega)
      generalize D7 S T M z L' node c=q at this ⊢
      obtain ⟨q1,q2⟩:=q
      dsimp only at this
      subst this; rfl
theorem KF:∀ (N L:Nat),L≤N→∀ (x:List Int) (y:Int),Sx (fun k=>D7 S T M z k x y) L∧∀ r l,D7 S T M z L x y=(some r,l)→l<L
 | N,0,_,x,y=>by
  refine ⟨fun r l e=>?_,fun r l e=>?_⟩
  ·dsimp only at e; rw [DI,if_pos rfl] at e; cases e
  ·rw [DI,if_pos rfl] at e; cases e
 | 0,L+1,h,_,_=>by omega
 | N+1,L+1,h,x,y=>by
  have ih:=fun (K:Nat) (hK:K≤L) (x:List Int) (y:Int)=>(KF N K (by omega) x y).1
  have hloop:=JF S T M z L (fun K hK x y=>ih K hK x y)
  have main:∀ r l,D7 S T M z (L+1) x y=(some r,l)→l<L+1∧∀ L',(L+1-l≤L'→D7 S T M z L' x y=(some r,L'-(L+1-l)))∧(L'<L+1-l→(D7 S T M z L' x y).1=none):=fun r l e=>by
   rw [DI,if_neg (by omega),Nat.add_sub_cancel] at e
   cases hs:S x y with
   | nil =>
    rw [hs] at e
    simp only [Prod.mk.injEq,Option.some.injEq] at e
    obtain ⟨rfl,rfl⟩:=e
    refine ⟨by omega,fun L'=>⟨fun hl=>?_,fun hl=>?_⟩⟩
    ·rw [DI,if_neg (by omega),hs]
     show (some (z,false),L'-1)=_
     congr 1; omega
    ·rw [DI,if_pos (by omega)]
   | cons b l0 =>
    rw [hs] at e
    dsimp only at e
    cases hv:Dm T M (D7 S T M z) l0 [b] (T b) L with
    | mk o k =>
     rw [hv] at e
     cases o with
     | none=>cases e
     | some t =>
      simp only [Prod.mk.injEq,Option.some.injEq] at e
      obtain ⟨rfl,rfl⟩:=e
      obtain ⟨k1,k2⟩:=hloop l0 [b] (T b) L (Nat.le_refl _) t k hv
      refine ⟨by omega,fun L'=>⟨fun hl=>?_,fun hl=>?_⟩⟩
      ·rw [DI,if_neg (by omega),hs]
       dsimp only
       have:=(k2 (L'-1)).1 (by omega)
       dsimp only at this
       rw [this]
       dsimp only
       congr 1; omega
      ·by_cases h0:L'=0
       ·rw [DI,if_pos h0]
       ·rw [DI,if_neg h0,hs]
        dsimp only
        have:=(k2 (L'-1)).2 (by omega)
        dsimp only at this
        generalize Dm T M (D7 S T M z) l0 [b] (T b) (L'-1)=q at this ⊢
        obtain ⟨q1,q2⟩:=q
        dsimp only at this
        subst this; rfl
  exact ⟨fun r l e=>⟨Nat.le_of_lt (main r l e).1,(main r l e).2⟩,fun r l e=>(main r l e).1⟩
theorem Sy {L:Nat}{x:List Int}{y:Int}{r:τ×Bool}{l:Nat}(e:D7 S T M z L x y=(some r,l)):l<L∧∀ L',(L-l≤L'→D7 S T M z L' x y=(some r,L'-(L-l)))∧(L'<L-l→(D7 S T M z L' x y).1=none) :=
 have h:=KF S T M z L L (Nat.le_refl _) x y
 ⟨h.2 r l e,(h.1 r l e).2⟩
end
end SX
namespace SX
open Go Go.ChangeShapes Go.WideShapes Go.ChangeAt Go.RowKit
variable {P:Program} {H0:Type} {enc:TypeId×Value→H0} {W:World}
end SX
namespace SX
open Go Go.ChangeShapes Go.WideShapes Go.ChangeAt Go.RowKit
variable {P:Program} {W:World} {H0:Type} {enc:TypeId×Value→H0}
structure OpA where
 kind:Int
 name:ByteArray
 to:ByteArray
 text:ByteArray
 n:Int
 fn:Int
 kv:Value
 keep:List Int
instance:Inhabited OpA:=⟨⟨0,⟨#[]⟩,⟨#[]⟩,⟨#[]⟩,0,0,.bool false,[]⟩⟩
structure OpOk (μ:PH) (o:OpA):Prop where
 kind:0≤o.kind∧o.kind≤255
 n : -9223372036854775808≤o.n∧o.n≤9223372036854775807
 keep:Row μ o.kv 1 o.keep.length (o.keep.flatMap (Bw .i64))
theorem OpOk.le{μ μ':PH}{o:OpA}(h:OpOk μ o)(k:Le μ μ'):OpOk μ' o:=⟨h.kind,h.n,h.keep.le k⟩
end SX
namespace SX
open Go Go.ChangeShapes Go.WideShapes Go.ChangeAt Go.RowKit
variable {P:Program} {W:World} {H0:Type} {enc:TypeId×Value→H0}
end SX
namespace SX
open Go Go.ChangeShapes Go.WideShapes Go.ChangeAt Go.RowKit
variable {P:Program} {W:World} {H0:Type} {enc:TypeId×Value→H0}
theorem Kd {α:Type}[Inhabited α]{d:DataW H0}{xs:List α}{R:α→DataW H0→Prop}{Q:α→Prop}(hd:(d=.nil∧xs=[])∨∃ (Ds sp:List (DataW H0)),d=.slice Ds sp∧Ds.length=xs.length∧∀ (i:Nat) (a:α) (D:DataW H0),xs[i]? = some a→Ds[i]? = some D→R a D)(h:∀ a D,R a D→Q a):∀ x∈xs,Q x:=fun x hx=>by
 rcases hd with ⟨_,rfl⟩ | ⟨Ds,sp,h1,h2,h3⟩
 ·cases hx
 ·obtain ⟨i,hi⟩:=List.getElem?_of_mem hx
  have hlt:=(List.getElem?_eq_some_iff.1 hi).1
  exact h x _ (h3 i x Ds[i] hi (List.getElem?_eq_getElem (by omega)))
end SX
namespace SX
open Go Go.ChangeShapes Go.WideShapes Go.ChangeAt Go.RowKit
variable {P:Program} {W:World} {H0:Type} {enc:TypeId×Value→H0}
structure OpS where
 kind:Nat
 tv:Value
 t:List En
 cv:Value
 c:Cm
 n:Int
 fn:Int
 kv:Value
 keep:List Int
structure OpS.Ok (μ:PH) (o:OpS):Prop where
 kd:o.kind<256
 tr:Row μ o.tv 2 o.t.length (Ci o.t)
 tu:U32s o.t
 cr:Row μ o.cv 1 o.c.1.length (o.c.1.flatMap (Bw .i64))
 nr : -9223372036854775808≤o.n∧o.n≤9223372036854775807
 kr:Row μ o.kv 1 o.keep.length (o.keep.flatMap (Bw .i64))
theorem OpS.Ok.le{μ μ':PH}{o:OpS}(h:o.Ok μ)(k:Le μ μ'):o.Ok μ':=⟨h.kd,h.tr.le k,h.tu,h.cr.le k,h.nr,h.kr.le k⟩
theorem V9 {q e ts tu:TypeId}{f0 f1:Field}(hq:P.underlying q=some (.slice e))(he:P.underlying e=some (.struct #[f0,f1]))(h0:f0.type=ts∧f0.offset=0)(h1:f1.type=tu∧f1.offset=1)
  (hs:P.underlying ts=some .string) (hu:P.underlying tu=some (.int .u32)) (hc:P.cellsOf e=2) (hcs:P.cellsOf ts=1) (hcu:P.cellsOf tu=1) {fuel:Nat} {cs:List Value} {d:DataW H0} {ps:List MemPlace} (h:DataW.trod enc P W 0 (fun _=>true) true fuel q cs=some (d,ps)) :
  ∃ (v:Value) (xs:List En),cs=[v]∧Row (fun b=>W.heap[b]?) v 2 xs.length (Ci xs)∧U32s xs:=by
 obtain ⟨v2,ys,hcs2,hr2,hd2⟩:=Jf (f:=Je) (by decide) Q4 (fun x _=>U32 x.2) hq hc (fun fuel cs D Pl h=>by
  obtain ⟨y0,y1,n,_,hl,k0,k1⟩:=trod_struct2 he h
  rw [h0.1,h0.2,hcs] at k0
  rw [h1.1,h1.2,hcu] at k1
  obtain ⟨b,hb,_,_⟩:=DataW.trod_string hs k0
  obtain ⟨x,hx,_,hw⟩:=DataW.trod_int hu k1
  rw [hc] at hl
  match cs,hl with
  | [c0,c1],_ =>
   simp at hb hx
   subst hb hx
   exact ⟨(b,x),rfl,A0M hw⟩) h
 exact ⟨v2,ys,hcs2,hr2,Kd hd2 fun _ _ h=>h⟩
end SX
namespace SX
open Go Go.ChangeShapes Go.WideShapes Go.ChangeAt Go.RowKit
variable {P:Program} {W:World} {H0:Type} {enc:TypeId×Value→H0}
structure StA where
 tv:Value
 t:List En
 pv:Value
 ps:List Int
 ix:Int
 nm:Int
 at_:Int
instance:Inhabited StA:=⟨⟨.bool false,[],.bool false,[],0,0,0⟩⟩
def IQ (o:StA):List Value:=[o.tv,o.pv,.int .u8 o.ix,.int .u8 o.nm,.int .u16 o.at_]
theorem JG (o:StA):(IQ o).length=5:=rfl
structure StA.Ok (μ:PH) (o:StA):Prop where
 tr:Row μ o.tv 2 o.t.length (Ci o.t)
 tu:U32s o.t
 pr:Row μ o.pv 1 o.ps.length (o.ps.flatMap (Bw .u8))
 pb:∀ x∈o.ps,0≤x∧x≤255
 ib:0≤o.ix∧o.ix≤255
theorem StA.Ok.le{μ μ':PH}{o:StA}(h:o.Ok μ)(k:Le μ μ'):o.Ok μ':=⟨h.tr.le k,h.tu,h.pr.le k,h.pb,h.ib⟩
theorem XN {q e:TypeId}(hq:P.underlying q=some (.slice e))(he:P.underlying e=some (.int .u8))(hc:P.cellsOf e=1){fuel:Nat}{cs:List Value}{d:DataW H0}{ps:List MemPlace}(h:DataW.trod enc P W 0 (fun _=>true) true fuel q cs=some (d,ps)) :
  ∃ (v:Value) (xs:List Int),cs=[v]∧Row (fun b=>W.heap[b]?) v 1 xs.length (xs.flatMap (Bw .u8))∧∀ x∈xs,0≤x∧x≤255:=by
 obtain ⟨v2,ys,hcs2,hr2,hd2⟩:=Jf (f:=Bw .u8) (by decide) (FP .u8) (fun x _=>0≤x∧x≤255) hq hc (fun fuel cs D Pl h=>by
  obtain ⟨n,rfl,_,hw⟩:=DataW.trod_int he h
  exact ⟨n,rfl,wf_u8 hw⟩) h
 exact ⟨v2,ys,hcs2,hr2,Kd hd2 fun _ _ h=>h⟩
structure StpT (P:Program) (t tT tE ts tu tQ t8 t16:TypeId):Prop where
 ok:∃ f0 f1 f2 f3 f4 e0 e1,P.underlying t=some (.struct #[f0,f1,f2,f3,f4])∧P.underlying tE=some (.struct #[e0,e1]) ∧
  (f0.type=tT∧f0.offset=0)∧(f1.type=tQ∧f1.offset=1)∧(f2.type=t8∧f2.offset=2)∧(f3.type=t8∧f3.offset=3)∧(f4.type=t16∧f4.offset=4)∧(e0.type=ts∧e0.offset=0)∧e1.type=tu∧e1.offset=1
 u8:P.underlying t8=some (.int .u8)
 u16:P.underlying t16=some (.int .u16)
 uT:P.underlying tT=some (.slice tE)
 uQ:P.underlying tQ=some (.slice t8)
 us:P.underlying ts=some .string
 uu:P.underlying tu=some (.int .u32)
 c:P.cellsOf t=5∧P.cellsOf t8=1∧P.cellsOf t16=1∧P.cellsOf tT=1∧P.cellsOf tQ=1∧P.cellsOf tE=2∧P.cellsOf ts=1∧P.cellsOf tu=1
theorem Vb {t tT tE ts tu tQ t8 t16:TypeId}(hT:StpT P t tT tE ts tu tQ t8 t16){fuel:Nat}{cs:List Value}{D:DataW H0}{Pl:List MemPlace}(h:DataW.trod enc P W 0 (fun _=>true) true fuel t cs=some (D,Pl)) :
  ∃ o:StA,cs=IQ o∧o.Ok (fun b=>W.heap[b]?):=by
 obtain ⟨f0,f1,f2,f3,f4,e0,e1,ht,hE,a0,a1,a2,a3,a4,m0,m1⟩:=hT.ok
 obtain ⟨c5,c8,c16,cT,cQ,cE,cs1,cu⟩:=hT.c
 obtain ⟨xs,n,_,hx,hl,hlen,hel⟩:=DataW.trod_struct ht h
 rw [c5] at hl
 match xs,hlen with
 | [y0,y1,y2,y3,y4],_ =>
  have q0:=hel 0 f0 rfl
  have q1:=hel 1 f1 rfl
  have q2:=hel 2 f2 rfl
  have q3:=hel 3 f3 rfl
  have q4:=hel 4 f4 rfl
  rw [a0.1,a0.2,cT] at q0
  rw [a1.1,a1.2,cQ] at q1
  rw [a2.1,a2.2,c8] at q2
  rw [a3.1,a3.2,c8] at q3
  rw [a4.1,a4.2,c16] at q4
  match cs,hl with
  | [c0,c1,c2,c3,c4],_ =>
   obtain ⟨v0,T,r0,hTr,hTu⟩:=V9 hT.uT hE m0 m1 hT.us hT.uu cE cs1 cu q0
   obtain ⟨v1,ks,r1,hk,hb⟩:=XN hT.uQ hT.u8 c8 q1
   obtain ⟨n2,r2,_,w2⟩:=DataW.trod_int hT.u8 q2
   obtain ⟨n3,r3,_,_⟩:=DataW.trod_int hT.u8 q3
   obtain ⟨n4,r4,_,_⟩:=DataW.trod_int hT.u16 q4
   simp at r0 r1 r2 r3 r4
   subst r0 r1 r2 r3 r4
   exact ⟨⟨c0,T,c1,ks,n2,n3,n4⟩,rfl,⟨hTr,hTu,hk,hb,wf_u8 w2⟩⟩
theorem arg_steps{q t tT tE ts tu tQ t8 t16:TypeId}(hT:StpT P t tT tE ts tu tQ t8 t16)(hq:P.underlying q=some (.slice t)){v:Value}{d:DataW H0}{ps:List MemPlace}{r:Go.Reach}{b0:Nat}(hv:Value.okWide P W r b0 q v)(h:DataW.Trod enc P W 0 (fun _=>true) true q v d ps) :
  ∃ xs:List StA,Row (fun b=>W.heap[b]?) v 5 xs.length (xs.flatMap IQ)∧∀ o∈xs,o.Ok (fun b=>W.heap[b]?):=by
 obtain ⟨a0,len,cap,rfl⟩:=okWide_slice hq hv
 obtain ⟨fuel,hf⟩:=h
 obtain ⟨v',xs,hcs,hrow,hd⟩:=Jf (f:=IQ) (by decide) JG (fun o _=>o.Ok (fun b=>W.heap[b]?)) hq hT.c.1 (fun fuel cs D Pl h=>Vb hT h) hf
 simp only [Value.cells,List.cons.injEq,and_true] at hcs
 subst hcs
 exact ⟨xs,hrow,Kd hd fun _ _ h=>h⟩
end SX
namespace SX
open Go Go.Proofs Go.Proofs.Tryz
instance:Body prog 5:=⟨_,func5,rfl,by decide⟩
instance:Body prog 6:=⟨_,func6,rfl,by decide⟩
instance:Body prog 7:=⟨_,func7,rfl,by decide⟩
instance:Body prog 8:=⟨_,func8,rfl,by decide⟩
instance:Body prog 9:=⟨_,func9,rfl,by decide⟩
instance:Body prog 10:=⟨_,func10,rfl,by decide⟩
instance:Body prog 11:=⟨_,func11,rfl,by decide⟩
instance:Body prog 12:=⟨_,func12,rfl,by decide⟩
instance:Body prog 13:=⟨_,func13,rfl,by decide⟩
instance:Body prog 14:=⟨_,func14,rfl,by decide⟩
instance:Body prog 15:=⟨_,func15,rfl,by decide⟩
instance:Body prog 16:=⟨_,func16,rfl,by decide⟩
instance:Body prog 17:=⟨_,func17,rfl,by decide⟩
instance:Body prog 18:=⟨_,func18,rfl,by decide⟩
instance:Body prog 21:=⟨_,func21,rfl,by decide⟩
instance:Body prog 23:=⟨_,func23,rfl,by decide⟩
instance:Body prog 24:=⟨_,func24,rfl,by decide⟩
instance:Body prog 25:=⟨_,func25,rfl,by decide⟩
instance:Body prog 26:=⟨_,func26,rfl,by decide⟩
instance:Body prog 27:=⟨_,func27,rfl,by decide⟩
instance:Body prog 28:=⟨_,func28,rfl,by decide⟩
instance:Body prog 29:=⟨_,func29,rfl,by decide⟩
instance:Body prog 30:=⟨_,func30,rfl,by decide⟩
instance:Body prog 31:=⟨_,func31,rfl,by decide⟩
instance:Body prog 33:=⟨_,func33,rfl,by decide⟩
instance:Body prog 34:=⟨_,func34,rfl,by decide⟩
instance:Body prog 35:=⟨_,func35,rfl,by decide⟩
instance:Body prog 36:=⟨_,func36,rfl,by decide⟩
instance:Body prog 37:=⟨_,func37,rfl,by decide⟩
instance:Body prog 38:=⟨_,func38,rfl,by decide⟩
instance:Body prog 39:=⟨_,func39,rfl,by decide⟩
instance:Body prog 40:=⟨_,func40,rfl,by decide⟩
instance:Body prog 41:=⟨_,func41,rfl,by decide⟩
instance:Body prog 42:=⟨_,func42,rfl,by decide⟩
instance:Body prog 43:=⟨_,func43,rfl,by decide⟩
instance:Body prog 45:=⟨_,func45,rfl,by decide⟩
instance:Body prog 47:=⟨_,func47,rfl,by decide⟩
instance:Body prog 48:=⟨_,func48,rfl,by decide⟩
instance:Body prog 49:=⟨_,func49,rfl,by decide⟩
instance:Body prog 50:=⟨_,func50,rfl,by decide⟩
instance:Body prog 51:=⟨_,func51,rfl,by decide⟩
instance:Body prog 52:=⟨_,func52,rfl,by decide⟩
instance:Body prog 53:=⟨_,func53,rfl,by decide⟩
instance:Body prog 54:=⟨_,func54,rfl,by decide⟩
instance:Body prog 55:=⟨_,func55,rfl,by decide⟩
instance:Body prog 56:=⟨_,func56,rfl,by decide⟩
instance:Body prog 57:=⟨_,func57,rfl,by decide⟩
instance:Body prog 58:=⟨_,func58,rfl,by decide⟩
instance:Body prog 59:=⟨_,func59,rfl,by decide⟩
instance:Body prog 60:=⟨_,func60,rfl,by decide⟩
instance:Body prog 61:=⟨_,func61,rfl,by decide⟩
instance:Body prog 62:=⟨_,func62,rfl,by decide⟩
instance:Body prog 63:=⟨_,func63,rfl,by decide⟩
instance:Body prog 64:=⟨_,func64,rfl,by decide⟩
instance:Body prog 65:=⟨_,func65,rfl,by decide⟩
instance:Body prog 66:=⟨_,func66,rfl,by decide⟩
instance:Body prog 67:=⟨_,func67,rfl,by decide⟩
instance:Body prog 68:=⟨_,func68,rfl,by decide⟩
instance:Body prog 69:=⟨_,func69,rfl,by decide⟩
instance:Body prog 70:=⟨_,func70,rfl,by decide⟩
instance:Body prog 71:=⟨_,func71,rfl,by decide⟩
instance:Body prog 72:=⟨_,func72,rfl,by decide⟩
instance:Body prog 75:=⟨_,func75,rfl,by decide⟩
instance:Body prog 76:=⟨_,func76,rfl,by decide⟩
instance:Body prog 77:=⟨_,func77,rfl,by decide⟩
instance:Body prog 78:=⟨_,func78,rfl,by decide⟩
instance:Body prog 81:=⟨_,func81,rfl,by decide⟩
instance:Body prog 82:=⟨_,func82,rfl,by decide⟩
instance:Body prog 84:=⟨_,func84,rfl,by decide⟩
instance:Body prog 85:=⟨_,func85,rfl,by decide⟩
instance:Body prog 86:=⟨_,func86,rfl,by decide⟩
instance:Body prog 87:=⟨_,func87,rfl,by decide⟩
instance:Body prog 88:=⟨_,func88,rfl,by decide⟩
instance:Body prog 89:=⟨_,func89,rfl,by decide⟩
instance:Body prog 90:=⟨_,func90,rfl,by decide⟩
instance:Body prog 91:=⟨_,func91,rfl,by decide⟩
instance:Body prog 92:=⟨_,func92,rfl,by decide⟩
instance:Body prog 93:=⟨_,func93,rfl,by decide⟩
instance:Body prog 94:=⟨_,func94,rfl,by decide⟩
instance:Body prog 95:=⟨_,func95,rfl,by decide⟩
instance:Body prog 96:=⟨_,func96,rfl,by decide⟩
instance:Body prog 97:=⟨_,func97,rfl,by decide⟩
instance:Body prog 98:=⟨_,func98,rfl,by decide⟩
instance:Body prog 99:=⟨_,func99,rfl,by decide⟩
instance:Body prog 100:=⟨_,func100,rfl,by decide⟩
instance:Body prog 101:=⟨_,func101,rfl,by decide⟩
instance:Body prog 102:=⟨_,func102,rfl,by decide⟩
instance:Body prog 103:=⟨_,func103,rfl,by decide⟩
instance:Body prog 104:=⟨_,func104,rfl,by decide⟩
instance:Body prog 105:=⟨_,func105,rfl,by decide⟩
instance:Body prog 106:=⟨_,func106,rfl,by decide⟩
instance:Body prog 107:=⟨_,func107,rfl,by decide⟩
instance:Body prog 108:=⟨_,func108,rfl,by decide⟩
instance:Body prog 109:=⟨_,func109,rfl,by decide⟩
instance:Body prog 110:=⟨_,func110,rfl,by decide⟩
instance:Body prog 111:=⟨_,func111,rfl,by decide⟩
instance:Body prog 112:=⟨_,func112,rfl,by decide⟩
instance:Body prog 114:=⟨_,func114,rfl,by decide⟩
instance:Body prog 115:=⟨_,func115,rfl,by decide⟩
instance:Body prog 116:=⟨_,func116,rfl,by decide⟩
instance:Body prog 117:=⟨_,func117,rfl,by decide⟩
instance:Body prog 127:=⟨_,func127,rfl,by decide⟩
instance:Body prog 128:=⟨_,func128,rfl,by decide⟩
instance:Body prog 129:=⟨_,func129,rfl,by decide⟩
instance:Body prog 130:=⟨_,func130,rfl,by decide⟩
instance:Body prog 131:=⟨_,func131,rfl,by decide⟩
instance:Body prog 132:=⟨_,func132,rfl,by decide⟩
instance:Body prog 133:=⟨_,func133,rfl,by decide⟩
instance:Body prog 134:=⟨_,func134,rfl,by decide⟩
instance:Body prog 135:=⟨_,func135,rfl,by decide⟩
instance:Body prog 141:=⟨_,func141,rfl,by decide⟩
instance:Body prog 143:=⟨_,func143,rfl,by decide⟩
instance:Body prog 144:=⟨_,func144,rfl,by decide⟩
instance:Body prog 145:=⟨_,func145,rfl,by decide⟩
instance:Body prog 148:=⟨_,func148,rfl,by decide⟩
instance:Body prog 149:=⟨_,func149,rfl,by decide⟩
instance:Body prog 150:=⟨_,func150,rfl,by decide⟩
instance:Body prog 151:=⟨_,func151,rfl,by decide⟩
instance:Body prog 152:=⟨_,func152,rfl,by decide⟩
instance:Body prog 153:=⟨_,func153,rfl,by decide⟩
instance:Body prog 154:=⟨_,func154,rfl,by decide⟩
instance:Body prog 155:=⟨_,func155,rfl,by decide⟩
instance:Body prog 156:=⟨_,func156,rfl,by decide⟩
instance:Body prog 157:=⟨_,func157,rfl,by decide⟩
instance:Body prog 158:=⟨_,func158,rfl,by decide⟩
instance:Body prog 159:=⟨_,func159,rfl,by decide⟩
instance:Body prog 160:=⟨_,func160,rfl,by decide⟩
instance:Body prog 161:=⟨_,func161,rfl,by decide⟩
instance:Body prog 162:=⟨_,func162,rfl,by decide⟩
instance:Body prog 163:=⟨_,func163,rfl,by decide⟩
instance:Body prog 164:=⟨_,func164,rfl,by decide⟩
instance:Body prog 165:=⟨_,func165,rfl,by decide⟩
instance:Body prog 166:=⟨_,func166,rfl,by decide⟩
instance:Body prog 167:=⟨_,func167,rfl,by decide⟩
instance:Body prog 168:=⟨_,func168,rfl,by decide⟩
instance:Body prog 169:=⟨_,func169,rfl,by decide⟩
instance:Body prog 170:=⟨_,func170,rfl,by decide⟩
instance:Body prog 171:=⟨_,func171,rfl,by decide⟩
instance:Body prog 172:=⟨_,func172,rfl,by decide⟩
instance:Body prog 173:=⟨_,func173,rfl,by decide⟩
instance:Body prog 174:=⟨_,func174,rfl,by decide⟩
instance:Body prog 175:=⟨_,func175,rfl,by decide⟩
instance:Body prog 176:=⟨_,func176,rfl,by decide⟩
instance:Body prog 177:=⟨_,func177,rfl,by decide⟩
instance:Body prog 178:=⟨_,func178,rfl,by decide⟩
instance:Body prog 179:=⟨_,func179,rfl,by decide⟩
instance:Body prog 180:=⟨_,func180,rfl,by decide⟩
instance:Body prog 181:=⟨_,func181,rfl,by decide⟩
instance:Body prog 182:=⟨_,func182,rfl,by decide⟩
instance:Body prog 183:=⟨_,func183,rfl,by decide⟩
instance:Body prog 184:=⟨_,func184,rfl,by decide⟩
instance:Body prog 185:=⟨_,func185,rfl,by decide⟩
instance:Body prog 186:=⟨_,func186,rfl,by decide⟩
instance:Body prog 201:=⟨_,func201,rfl,by decide⟩
instance:Body prog 202:=⟨_,func202,rfl,by decide⟩
instance:Body prog 204:=⟨_,func204,rfl,by decide⟩
instance:Body prog 205:=⟨_,func205,rfl,by decide⟩
instance:Body prog 207:=⟨_,func207,rfl,by decide⟩
instance:Body prog 208:=⟨_,func208,rfl,by decide⟩
instance:Body prog 214:=⟨_,func214,rfl,by decide⟩
instance:Body prog 215:=⟨_,func215,rfl,by decide⟩
instance:Body prog 221:=⟨_,func221,rfl,by decide⟩
instance:Body prog 222:=⟨_,func222,rfl,by decide⟩
instance:Body prog 223:=⟨_,func223,rfl,by decide⟩
instance:Body prog 224:=⟨_,func224,rfl,by decide⟩
instance:Body prog 225:=⟨_,func225,rfl,by decide⟩
instance:Body prog 226:=⟨_,func226,rfl,by decide⟩
instance:Body prog 227:=⟨_,func227,rfl,by decide⟩
instance:Body prog 228:=⟨_,func228,rfl,by decide⟩
instance:Body prog 234:=⟨_,func234,rfl,by decide⟩
instance:Body prog 238:=⟨_,func238,rfl,by decide⟩
instance:Body prog 239:=⟨_,func239,rfl,by decide⟩
instance:Body prog 246:=⟨_,func246,rfl,by decide⟩
instance:Body prog 247:=⟨_,func247,rfl,by decide⟩
instance:Body prog 248:=⟨_,func248,rfl,by decide⟩
instance:Body prog 249:=⟨_,func249,rfl,by decide⟩
instance:Body prog 250:=⟨_,func250,rfl,by decide⟩
instance:Body prog 251:=⟨_,func251,rfl,by decide⟩
instance:Body prog 252:=⟨_,func252,rfl,by decide⟩
instance:Body prog 253:=⟨_,func253,rfl,by decide⟩
instance:Body prog 254:=⟨_,func254,rfl,by decide⟩
instance:Body prog 255:=⟨_,func255,rfl,by decide⟩
instance:Body prog 256:=⟨_,func256,rfl,by decide⟩
instance:Body prog 257:=⟨_,func257,rfl,by decide⟩
instance:Body prog 258:=⟨_,func258,rfl,by decide⟩
instance:Body prog 259:=⟨_,func259,rfl,by decide⟩
instance:Body prog 262:=⟨_,func262,rfl,by decide⟩
instance:Body prog 264:=⟨_,func264,rfl,by decide⟩
instance:Body prog 268:=⟨_,func268,rfl,by decide⟩
instance:Body prog 269:=⟨_,func269,rfl,by decide⟩
instance:Body prog 282:=⟨_,func282,rfl,by decide⟩
instance:Body prog 285:=⟨_,func285,rfl,by decide⟩
instance:Body prog 286:=⟨_,func286,rfl,by decide⟩
instance:Body prog 287:=⟨_,func287,rfl,by decide⟩
instance:Body prog 293:=⟨_,func293,rfl,by decide⟩
instance:Body prog 294:=⟨_,func294,rfl,by decide⟩
instance:Body prog 295:=⟨_,func295,rfl,by decide⟩
instance:Body prog 296:=⟨_,func296,rfl,by decide⟩
instance:Body prog 297:=⟨_,func297,rfl,by decide⟩
instance:Body prog 298:=⟨_,func298,rfl,by decide⟩
instance:Body prog 309:=⟨_,func309,rfl,by decide⟩
instance:Body prog 310:=⟨_,func310,rfl,by decide⟩
instance:Body prog 317:=⟨_,func317,rfl,by decide⟩
instance:Body prog 318:=⟨_,func318,rfl,by decide⟩
instance:Body prog 319:=⟨_,func319,rfl,by decide⟩
instance:Body prog 320:=⟨_,func320,rfl,by decide⟩
instance:Body prog 321:=⟨_,func321,rfl,by decide⟩
instance:Body prog 339:=⟨_,func339,rfl,by decide⟩
instance:Body prog 340:=⟨_,func340,rfl,by decide⟩
instance:Body prog 344:=⟨_,func344,rfl,by decide⟩
instance:Body prog 346:=⟨_,func346,rfl,by decide⟩
instance:Body prog 347:=⟨_,func347,rfl,by decide⟩
instance:Body prog 349:=⟨_,func349,rfl,by decide⟩
instance:Body prog 350:=⟨_,func350,rfl,by decide⟩
instance:Body prog 351:=⟨_,func351,rfl,by decide⟩
instance:Body prog 352:=⟨_,func352,rfl,by decide⟩
instance:Body prog 355:=⟨_,func355,rfl,by decide⟩
instance:Body prog 377:=⟨_,func377,rfl,by decide⟩
instance:Body prog 378:=⟨_,func378,rfl,by decide⟩
instance:Body prog 379:=⟨_,func379,rfl,by decide⟩
instance:Body prog 391:=⟨_,func391,rfl,by decide⟩
instance:Body prog 420:=⟨_,func420,rfl,by decide⟩
instance : Meth prog 38 "Commits" 18 := ⟨by intro k v w; kernel_rfl⟩
instance : Meth prog 38 "Content" 129 := ⟨by intro k v w; kernel_rfl⟩
instance : Meth prog 38 "Parents" 130 := ⟨by intro k v w; kernel_rfl⟩
instance : Meth prog 39 "Commit" 297 := ⟨by intro k v w; kernel_rfl⟩
instance : Meth prog 39 "Commits" 43 := ⟨by intro k v w; kernel_rfl⟩
instance : Meth prog 39 "Tree" 226 := ⟨by intro k v w; kernel_rfl⟩
instance : Meth prog 402 "Before" 420 := ⟨by intro k v w; kernel_rfl⟩
instance:TOne prog 3:=⟨by kernel_rfl,by kernel_rfl⟩
instance:TZero prog 3 [(.int .i64 0)]:=⟨by kernel_rfl⟩
instance:TInt prog 3 .i64:=⟨underlying3⟩
instance:TOne prog 4:=⟨by kernel_rfl,by kernel_rfl⟩
instance:TZero prog 4 [(.bool false)]:=⟨by kernel_rfl⟩
instance:TBool prog 4:=⟨underlying4⟩
instance:TOne prog 5:=⟨by kernel_rfl,by kernel_rfl⟩
instance:TZero prog 5 [(.int .u8 0)]:=⟨by kernel_rfl⟩
instance:TInt prog 5 .u8:=⟨underlying5⟩
instance:TOne prog 9:=⟨by kernel_rfl,by kernel_rfl⟩
instance:TZero prog 9 [(.string ⟨#[]⟩)]:=⟨by kernel_rfl⟩
instance:TStr prog 9:=⟨underlying9⟩
instance:TSl prog 22 31 5 56:=⟨underlying22,by kernel_rfl⟩
instance:TOne prog 23:=⟨by kernel_rfl,by kernel_rfl⟩
instance:TPtr prog 23:=⟨_,underlying23⟩
instance:TOne prog 24:=⟨by kernel_rfl,by kernel_rfl⟩
instance:TZero prog 24 [(.pointer none)]:=⟨by kernel_rfl⟩
instance:TPtr prog 24:=⟨_,underlying24⟩
instance:TOne prog 27:=⟨by kernel_rfl,by kernel_rfl⟩
instance:TZero prog 27 [(.slice none 0 0)]:=⟨by kernel_rfl⟩
instance:TSl prog 27 111 2 24:=⟨underlying27,by kernel_rfl⟩
instance:TOne prog 28:=⟨by kernel_rfl,by kernel_rfl⟩
instance:TSl prog 28 5 1 1:=⟨underlying28,by kernel_rfl⟩
instance:TInt prog 29 .u16:=⟨underlying29⟩
instance:TAgg prog 31 5:=⟨by kernel_rfl,by kernel_rfl⟩
instance:TZero prog 31 [(.slice none 0 0),(.slice none 0 0),(.int .u8 0),(.int .u8 0),(.int .u16 0)]:=⟨by kernel_rfl⟩
instance:TFld prog 31 0 0:=⟨by kernel_rfl⟩
instance:TFld prog 31 1 1:=⟨by kernel_rfl⟩
instance:TFld prog 31 2 2:=⟨by kernel_rfl⟩
instance:TOne prog 33:=⟨by kernel_rfl,by kernel_rfl⟩
instance:TOne prog 34:=⟨by kernel_rfl,by kernel_rfl⟩
instance:TZero prog 34 [.nilFunc]:=⟨by kernel_rfl⟩
instance:TOne prog 38:=⟨by kernel_rfl,by kernel_rfl⟩
instance:TPtr prog 38:=⟨_,underlying38⟩
instance:TConc prog 38:=⟨_,underlying38,rfl⟩
instance:TOne prog 39:=⟨by kernel_rfl,by kernel_rfl⟩
instance:TPtr prog 39:=⟨_,underlying39⟩
instance:TConc prog 39:=⟨_,underlying39,rfl⟩
instance:TOne prog 40:=⟨by kernel_rfl,by kernel_rfl⟩
instance:TPtr prog 40:=⟨_,underlying40⟩
instance:TOne prog 41:=⟨by kernel_rfl,by kernel_rfl⟩
instance:TInt prog 41 .u32:=⟨underlying41⟩
instance:TAgg prog 43 4:=⟨by kernel_rfl,by kernel_rfl⟩
instance:TZero prog 43 [(.int .i64 0),(.int .i64 0),(.int .i64 0),(.int .u32 0)]:=⟨by kernel_rfl⟩
instance:TBld prog 43 [(.int .i64 0),(.int .i64 0),(.int .i64 0),(.int .u32 0)] [(0,1),(1,1),(2,1),(3,1)]:=⟨by kernel_rfl,by kernel_rfl⟩
instance:TFld prog 43 0 0:=⟨by kernel_rfl⟩
instance:TFld prog 43 1 1:=⟨by kernel_rfl⟩
instance:TFld prog 43 2 2:=⟨by kernel_rfl⟩
instance:TFld prog 43 3 3:=⟨by kernel_rfl⟩
instance:TOne prog 44:=⟨by kernel_rfl,by kernel_rfl⟩
instance:TBld prog 45 [] []:=⟨by kernel_rfl,by kernel_rfl⟩
instance:TOne prog 51:=⟨by kernel_rfl,by kernel_rfl⟩
instance:TPtr prog 51:=⟨_,underlying51⟩
instance:TBld prog 53 [(.pointer none),(.pointer none),(.pointer none),(.pointer none),(.int .i64 0),(.int .i64 0),(.int .i64 0),(.int .u32 0),(.bool false),(.pointer none),(.pointer none),(.int .i32 0),(.int .u32 0),(.pointer none)] [(0,1),(1,1),(2,1),(3,1),(4,4),(8,1),(9,1),(10,1),(11,2),(13,1)]:=⟨by kernel_rfl,by kernel_rfl⟩
instance:TFld prog 53 0 0:=⟨by kernel_rfl⟩
instance:TFld prog 53 2 2:=⟨by kernel_rfl⟩
instance:TFld prog 53 3 3:=⟨by kernel_rfl⟩
instance:TFld prog 53 4 4:=⟨by kernel_rfl⟩
instance:TFld prog 53 5 8:=⟨by kernel_rfl⟩
instance:TFld prog 53 6 9:=⟨by kernel_rfl⟩
instance:TFld prog 53 7 10:=⟨by kernel_rfl⟩
instance:TFld prog 53 8 11:=⟨by kernel_rfl⟩
instance:TFld prog 53 9 13:=⟨by kernel_rfl⟩
instance:TOne prog 54:=⟨by kernel_rfl,by kernel_rfl⟩
instance:TSl prog 54 60 1 24:=⟨underlying54,by kernel_rfl⟩
instance:TOne prog 55:=⟨by kernel_rfl,by kernel_rfl⟩
instance:TSl prog 55 27 1 24:=⟨underlying55,by kernel_rfl⟩
instance:TSl prog 58 72 1 24:=⟨underlying58,by kernel_rfl⟩
instance:TOne prog 60:=⟨by kernel_rfl,by kernel_rfl⟩
instance:TZero prog 60 [(.slice none 0 0)]:=⟨by kernel_rfl⟩
instance:TSl prog 60 3 1 8:=⟨underlying60,by kernel_rfl⟩
instance:TAgg prog 62 5:=⟨by kernel_rfl,by kernel_rfl⟩
instance:TZero prog 62 [(.int .i64 0),(.bool false),(.int .i64 0),(.slice none 0 0),(.slice none 0 0)]:=⟨by kernel_rfl⟩
instance:TFld prog 62 0 0:=⟨by kernel_rfl⟩
instance:TFld prog 62 1 1:=⟨by kernel_rfl⟩
instance:TFld prog 62 2 2:=⟨by kernel_rfl⟩
instance:TFld prog 62 3 3:=⟨by kernel_rfl⟩
instance:TFld prog 62 4 4:=⟨by kernel_rfl⟩
instance:TAgg prog 65 6:=⟨by kernel_rfl,by kernel_rfl⟩
instance:TBld prog 65 [(.int .i64 0),(.int .i64 0),(.int .i64 0),(.int .i64 0),(.slice none 0 0),(.string ⟨#[]⟩)] [(0,1),(1,1),(2,1),(3,1),(4,1),(5,1)]:=⟨by kernel_rfl,by kernel_rfl⟩
instance:TFld prog 65 0 0:=⟨by kernel_rfl⟩
instance:TFld prog 65 1 1:=⟨by kernel_rfl⟩
instance:TFld prog 65 2 2:=⟨by kernel_rfl⟩
instance:TFld prog 65 3 3:=⟨by kernel_rfl⟩
instance:TFld prog 65 4 4:=⟨by kernel_rfl⟩
instance:TFld prog 65 5 5:=⟨by kernel_rfl⟩
instance:TSl prog 69 119 4 32:=⟨underlying69,by kernel_rfl⟩
instance:TOne prog 72:=⟨by kernel_rfl,by kernel_rfl⟩
instance:TZero prog 72 [(.slice none 0 0)]:=⟨by kernel_rfl⟩
instance:TSl prog 72 4 1 1:=⟨underlying72,by kernel_rfl⟩
instance:TAgg prog 88 2:=⟨by kernel_rfl,by kernel_rfl⟩
instance:TZero prog 88 [(.slice none 0 0),(.int .i64 0)]:=⟨by kernel_rfl⟩
instance:TBld prog 88 [(.slice none 0 0),(.int .i64 0)] [(0,1),(1,1)]:=⟨by kernel_rfl,by kernel_rfl⟩
instance:TFld prog 88 0 0:=⟨by kernel_rfl⟩
instance:TFld prog 88 1 1:=⟨by kernel_rfl⟩
instance:TOne prog 92:=⟨by kernel_rfl,by kernel_rfl⟩
instance:TZero prog 92 [(.pointer none)]:=⟨by kernel_rfl⟩
instance:TPtr prog 92:=⟨_,underlying92⟩
instance:TBld prog 96 [(.int .i64 0),(.slice none 0 0),(.int .i64 0)] [(0,1),(1,1),(2,1)]:=⟨by kernel_rfl,by kernel_rfl⟩
instance:TFld prog 96 1 1:=⟨by kernel_rfl⟩
instance:TFld prog 96 2 2:=⟨by kernel_rfl⟩
instance:TOne prog 97:=⟨by kernel_rfl,by kernel_rfl⟩
instance:TMap prog 97 9 92:=⟨underlying97⟩
instance:TZv prog 92 (.pointer none):=⟨by kernel_rfl⟩
instance:TConc prog 97:=⟨_,underlying97,rfl⟩
instance:TOne prog 98:=⟨by kernel_rfl,by kernel_rfl⟩
instance:TSl prog 98 279 3 40:=⟨underlying98,by kernel_rfl⟩
instance:TBld prog 100 [(.int .i64 0),(.int .i64 0),(.map none),(.map none),(.slice none 0 0),(.int .i64 0),(.bool false)] [(0,1),(1,1),(2,1),(3,1),(4,1),(5,1),(6,1)]:=⟨by kernel_rfl,by kernel_rfl⟩
instance:TFld prog 100 0 0:=⟨by kernel_rfl⟩
instance:TFld prog 100 1 1:=⟨by kernel_rfl⟩
instance:TFld prog 100 2 2:=⟨by kernel_rfl⟩
instance:TFld prog 100 3 3:=⟨by kernel_rfl⟩
instance:TFld prog 100 4 4:=⟨by kernel_rfl⟩
instance:TFld prog 100 5 5:=⟨by kernel_rfl⟩
instance:TFld prog 100 6 6:=⟨by kernel_rfl⟩
instance:TBld prog 102 [(.pointer none),(.pointer none)] [(0,1),(1,1)]:=⟨by kernel_rfl,by kernel_rfl⟩
instance:TFld prog 102 0 0:=⟨by kernel_rfl⟩
instance:TFld prog 102 1 1:=⟨by kernel_rfl⟩
instance:TBld prog 107 [(.slice none 0 0),(.slice none 0 0),(.int .i64 0),(.int .i64 0)] [(0,1),(1,1),(2,1),(3,1)]:=⟨by kernel_rfl,by kernel_rfl⟩
instance:TFld prog 107 0 0:=⟨by kernel_rfl⟩
instance:TFld prog 107 1 1:=⟨by kernel_rfl⟩
instance:TFld prog 107 2 2:=⟨by kernel_rfl⟩
instance:TFld prog 107 3 3:=⟨by kernel_rfl⟩
instance:TAgg prog 111 2:=⟨by kernel_rfl,by kernel_rfl⟩
instance:TZero prog 111 [(.string ⟨#[]⟩),(.int .u32 0)]:=⟨by kernel_rfl⟩
instance:TBld prog 111 [(.string ⟨#[]⟩),(.int .u32 0)] [(0,1),(1,1)]:=⟨by kernel_rfl,by kernel_rfl⟩
instance:TEqN prog 111 [true,false]:=⟨by kernel_rfl,by kernel_rfl,by kernel_rfl,by kernel_rfl⟩
instance:TFld prog 111 0 0:=⟨by kernel_rfl⟩
instance:TFld prog 111 1 1:=⟨by kernel_rfl⟩
instance:TZero prog 119 [(.string ⟨#[]⟩),(.int .u32 0),(.int .u32 0),(.int .u32 0)]:=⟨by kernel_rfl⟩
instance:TBld prog 119 [(.string ⟨#[]⟩),(.int .u32 0),(.int .u32 0),(.int .u32 0)] [(0,1),(1,1),(2,1),(3,1)]:=⟨by kernel_rfl,by kernel_rfl⟩
instance:TOne prog 127:=⟨by kernel_rfl,by kernel_rfl⟩
instance:TOne prog 132:=⟨by kernel_rfl,by kernel_rfl⟩
instance:TSl prog 132 161 3 24:=⟨underlying132,by kernel_rfl⟩
instance:TOne prog 133:=⟨by kernel_rfl,by kernel_rfl⟩
instance:TSl prog 133 141 6 64:=⟨underlying133,by kernel_rfl⟩
instance:TBld prog 135 [(.pointer none),(.slice none 0 0),(.slice none 0 0)] [(0,1),(1,1),(2,1)]:=⟨by kernel_rfl,by kernel_rfl⟩
instance:TFld prog 135 0 0:=⟨by kernel_rfl⟩
instance:TFld prog 135 1 1:=⟨by kernel_rfl⟩
instance:TFld prog 135 2 2:=⟨by kernel_rfl⟩
instance:TOne prog 137:=⟨by kernel_rfl,by kernel_rfl⟩
instance:TSl prog 137 211 5 64:=⟨underlying137,by kernel_rfl⟩
instance:TAgg prog 141 6:=⟨by kernel_rfl,by kernel_rfl⟩
instance:TZero prog 141 [(.int .i64 0),(.int .i64 0),(.int .i64 0),(.int .i64 0),(.int .u32 0),(.slice none 0 0)]:=⟨by kernel_rfl⟩
instance:TBld prog 141 [(.int .i64 0),(.int .i64 0),(.int .i64 0),(.int .i64 0),(.int .u32 0),(.slice none 0 0)] [(0,1),(1,4),(5,1)]:=⟨by kernel_rfl,by kernel_rfl⟩
instance:TFld prog 141 0 0:=⟨by kernel_rfl⟩
instance:TFld prog 141 1 1:=⟨by kernel_rfl⟩
instance:TFld prog 141 2 5:=⟨by kernel_rfl⟩
instance:TOne prog 154:=⟨by kernel_rfl,by kernel_rfl⟩
instance:TSl prog 154 88 2 32:=⟨underlying154,by kernel_rfl⟩
instance:TBld prog 156 [(.pointer none),(.slice none 0 0),(.slice none 0 0),(.bool false)] [(0,1),(1,1),(2,1),(3,1)]:=⟨by kernel_rfl,by kernel_rfl⟩
instance:TFld prog 156 0 0:=⟨by kernel_rfl⟩
instance:TFld prog 156 1 1:=⟨by kernel_rfl⟩
instance:TFld prog 156 2 2:=⟨by kernel_rfl⟩
instance:TFld prog 156 3 3:=⟨by kernel_rfl⟩
instance:TAgg prog 161 3:=⟨by kernel_rfl,by kernel_rfl⟩
instance:TZero prog 161 [(.int .i64 0),(.int .i64 0),(.int .u32 0)]:=⟨by kernel_rfl⟩
instance:TBld prog 161 [(.int .i64 0),(.int .i64 0),(.int .u32 0)] [(0,1),(1,1),(2,1)]:=⟨by kernel_rfl,by kernel_rfl⟩
instance:TFld prog 161 0 0:=⟨by kernel_rfl⟩
instance:TFld prog 161 1 1:=⟨by kernel_rfl⟩
instance:TFld prog 161 2 2:=⟨by kernel_rfl⟩
instance:TFn prog 172:=⟨_,_,_,underlying172⟩
instance:TAgg prog 174 2:=⟨by kernel_rfl,by kernel_rfl⟩
instance:TZero prog 174 [(.int .i64 0),(.int .i64 0)]:=⟨by kernel_rfl⟩
instance:TBld prog 174 [(.int .i64 0),(.int .i64 0)] [(0,1),(1,1)]:=⟨by kernel_rfl,by kernel_rfl⟩
instance:TFld prog 174 0 0:=⟨by kernel_rfl⟩
instance:TFld prog 174 1 1:=⟨by kernel_rfl⟩
instance:TOne prog 184:=⟨by kernel_rfl,by kernel_rfl⟩
instance:TMap prog 184 9 185:=⟨underlying184⟩
instance:TZv prog 185 (.pointer none):=⟨by kernel_rfl⟩
instance:TOne prog 185:=⟨by kernel_rfl,by kernel_rfl⟩
instance:TPtr prog 185:=⟨_,underlying185⟩
instance:TBld prog 187 [(.int .i64 0),(.map none),(.pointer none),(.pointer none)] [(0,1),(1,1),(2,1),(3,1)]:=⟨by kernel_rfl,by kernel_rfl⟩
instance:TFld prog 187 0 0:=⟨by kernel_rfl⟩
instance:TFld prog 187 1 1:=⟨by kernel_rfl⟩
instance:TFld prog 187 2 2:=⟨by kernel_rfl⟩
instance:TFld prog 187 3 3:=⟨by kernel_rfl⟩
instance:TSl prog 196 9 1 16:=⟨underlying196,by kernel_rfl⟩
instance:TAgg prog 206 2:=⟨by kernel_rfl,by kernel_rfl⟩
instance:TZero prog 206 [(.int .i64 0),(.string ⟨#[]⟩)]:=⟨by kernel_rfl⟩
instance:TBld prog 206 [(.int .i64 0),(.string ⟨#[]⟩)] [(0,1),(1,1)]:=⟨by kernel_rfl,by kernel_rfl⟩
instance:TFld prog 206 0 0:=⟨by kernel_rfl⟩
instance:TFld prog 206 1 1:=⟨by kernel_rfl⟩
instance:TAgg prog 211 5:=⟨by kernel_rfl,by kernel_rfl⟩
instance:TZero prog 211 [(.slice none 0 0),(.int .i64 0),(.int .i64 0),(.int .i64 0),(.string ⟨#[]⟩)]:=⟨by kernel_rfl⟩
instance:TBld prog 211 [(.slice none 0 0),(.int .i64 0),(.int .i64 0),(.int .i64 0),(.string ⟨#[]⟩)] [(0,1),(1,1),(2,1),(3,2)]:=⟨by kernel_rfl,by kernel_rfl⟩
instance:TFld prog 211 0 0:=⟨by kernel_rfl⟩
instance:TFld prog 211 1 1:=⟨by kernel_rfl⟩
instance:TFld prog 211 2 2:=⟨by kernel_rfl⟩
instance:TFld prog 211 3 3:=⟨by kernel_rfl⟩
instance:TPtr prog 212:=⟨_,underlying212⟩
instance:TOne prog 215:=⟨by kernel_rfl,by kernel_rfl⟩
instance:TZero prog 215 [(.int .u64 0)]:=⟨by kernel_rfl⟩
instance:TInt prog 215 .u64:=⟨underlying215⟩
instance:TBld prog 233 [(.string ⟨#[]⟩),(.int .i64 0),(.bool false),(.int .i64 0),(.slice none 0 0),(.slice none 0 0),(.pointer none),(.pointer none)] [(0,1),(1,5),(6,1),(7,1)]:=⟨by kernel_rfl,by kernel_rfl⟩
instance:TFld prog 233 0 0:=⟨by kernel_rfl⟩
instance:TFld prog 233 1 1:=⟨by kernel_rfl⟩
instance:TFld prog 233 2 6:=⟨by kernel_rfl⟩
instance:TFld prog 233 3 7:=⟨by kernel_rfl⟩
instance:TBld prog 250 [(.int .i64 0),.nilFunc,(.bool false)] [(0,1),(1,1),(2,1)]:=⟨by kernel_rfl,by kernel_rfl⟩
instance:TBld prog 258 [(.int .i64 0),(.string ⟨#[]⟩)] [(0,1),(1,1)]:=⟨by kernel_rfl,by kernel_rfl⟩
instance:TFld prog 258 0 0:=⟨by kernel_rfl⟩
instance:TFld prog 258 1 1:=⟨by kernel_rfl⟩
instance:TAgg prog 267 2:=⟨by kernel_rfl,by kernel_rfl⟩
instance:TZero prog 267 [(.int .u32 0),(.string ⟨#[]⟩)]:=⟨by kernel_rfl⟩
instance:TBld prog 267 [(.int .u32 0),(.string ⟨#[]⟩)] [(0,1),(1,1)]:=⟨by kernel_rfl,by kernel_rfl⟩
instance:TFld prog 267 0 0:=⟨by kernel_rfl⟩
instance:TFld prog 267 1 1:=⟨by kernel_rfl⟩
instance:TSl prog 268 267 2 24:=⟨underlying268,by kernel_rfl⟩
instance:TOne prog 269:=⟨by kernel_rfl,by kernel_rfl⟩
instance:TMap prog 269 3 3:=⟨underlying269⟩
instance:TZv prog 3 (.int .i64 0):=⟨by kernel_rfl⟩
instance:TAgg prog 270 256:=⟨by kernel_rfl,by kernel_rfl⟩
instance:TArr prog 270 256 41 1:=⟨underlying270,by kernel_rfl⟩
instance:TSl prog 274 34 1 8:=⟨underlying274,by kernel_rfl⟩
instance:TAgg prog 279 3:=⟨by kernel_rfl,by kernel_rfl⟩
instance:TZero prog 279 [(.string ⟨#[]⟩),(.string ⟨#[]⟩),(.pointer none)]:=⟨by kernel_rfl⟩
instance:TBld prog 279 [(.string ⟨#[]⟩),(.string ⟨#[]⟩),(.pointer none)] [(0,1),(1,1),(2,1)]:=⟨by kernel_rfl,by kernel_rfl⟩
instance:TFld prog 279 0 0:=⟨by kernel_rfl⟩
instance:TFld prog 279 1 1:=⟨by kernel_rfl⟩
instance:TFld prog 279 2 2:=⟨by kernel_rfl⟩
instance:TSl prog 288 291 3 24:=⟨underlying288,by kernel_rfl⟩
instance:TAgg prog 291 3:=⟨by kernel_rfl,by kernel_rfl⟩
instance:TZero prog 291 [(.string ⟨#[]⟩),(.int .u32 0),(.int .u32 0)]:=⟨by kernel_rfl⟩
instance:TFld prog 291 0 0:=⟨by kernel_rfl⟩
instance:TFld prog 291 1 1:=⟨by kernel_rfl⟩
instance:TFld prog 291 2 2:=⟨by kernel_rfl⟩
instance:TBld prog 294 [(.slice none 0 0)] [(0,1)]:=⟨by kernel_rfl,by kernel_rfl⟩
instance:TFld prog 294 0 0:=⟨by kernel_rfl⟩
instance:TOne prog 304:=⟨by kernel_rfl,by kernel_rfl⟩
instance:TPtr prog 310:=⟨_,underlying310⟩
instance:TOne prog 332:=⟨by kernel_rfl,by kernel_rfl⟩
instance:TOne prog 335:=⟨by kernel_rfl,by kernel_rfl⟩
instance:TSl prog 335 340 3 72:=⟨underlying335,by kernel_rfl⟩
instance:TBld prog 337 [.nilIface,(.slice none 0 0),(.int .i64 0),(.int .i64 0)] [(0,1),(1,1),(2,1),(3,1)]:=⟨by kernel_rfl,by kernel_rfl⟩
instance:TFld prog 337 0 0:=⟨by kernel_rfl⟩
instance:TFld prog 337 1 1:=⟨by kernel_rfl⟩
instance:TFld prog 337 2 2:=⟨by kernel_rfl⟩
instance:TFld prog 337 3 3:=⟨by kernel_rfl⟩
instance:TAgg prog 340 3:=⟨by kernel_rfl,by kernel_rfl⟩
instance:TZero prog 340 [(.slice none 0 0),(.slice none 0 0),(.slice none 0 0)]:=⟨by kernel_rfl⟩
instance:TBld prog 340 [(.slice none 0 0),(.slice none 0 0),(.slice none 0 0)] [(0,1),(1,1),(2,1)]:=⟨by kernel_rfl,by kernel_rfl⟩
instance:TFld prog 340 0 0:=⟨by kernel_rfl⟩
instance:TFld prog 340 1 1:=⟨by kernel_rfl⟩
instance:TFld prog 340 2 2:=⟨by kernel_rfl⟩
instance:TInt prog 372 .u64:=⟨underlying372⟩
instance:TMap prog 379 9 45:=⟨underlying379⟩
instance:TOne prog 394:=⟨by kernel_rfl,by kernel_rfl⟩
instance:TSl prog 394 215 1 8:=⟨underlying394,by kernel_rfl⟩
instance:TBld prog 396 [(.int .i64 0),(.slice none 0 0)] [(0,1),(1,1)]:=⟨by kernel_rfl,by kernel_rfl⟩
instance:TFld prog 396 0 0:=⟨by kernel_rfl⟩
instance:TFld prog 396 1 1:=⟨by kernel_rfl⟩
instance:TOne prog 400:=⟨by kernel_rfl,by kernel_rfl⟩
instance:TPtr prog 400:=⟨_,underlying400⟩
instance:TOne prog 402:=⟨by kernel_rfl,by kernel_rfl⟩
instance:TConc prog 402:=⟨_,underlying402,rfl⟩
instance:TBld prog 404 [.nilIface,(.int .i64 0),(.map none),(.pointer none),(.int .i64 0)] [(0,1),(1,1),(2,1),(3,1),(4,1)]:=⟨by kernel_rfl,by kernel_rfl⟩
instance:TFld prog 404 0 0:=⟨by kernel_rfl⟩
instance:TFld prog 404 1 1:=⟨by kernel_rfl⟩
instance:TFld prog 404 2 2:=⟨by kernel_rfl⟩
instance:TFld prog 404 3 3:=⟨by kernel_rfl⟩
instance:TFld prog 404 4 4:=⟨by kernel_rfl⟩
instance:TSl prog 458 402 1 8:=⟨underlying458,by kernel_rfl⟩
instance:TOne prog 459:=⟨by kernel_rfl,by kernel_rfl⟩
instance:TSl prog 459 498 2 16:=⟨underlying459,by kernel_rfl⟩
instance:TBld prog 461 [(.slice none 0 0),(.int .u64 0)] [(0,1),(1,1)]:=⟨by kernel_rfl,by kernel_rfl⟩
instance:TFld prog 461 0 0:=⟨by kernel_rfl⟩
instance:TFld prog 461 1 1:=⟨by kernel_rfl⟩
instance:TArr prog 496 64 5 1:=⟨underlying496,by kernel_rfl⟩
instance:TAgg prog 498 2:=⟨by kernel_rfl,by kernel_rfl⟩
instance:TZero prog 498 [(.int .i64 0),(.int .u64 0)]:=⟨by kernel_rfl⟩
instance:TBld prog 498 [(.int .i64 0),(.int .u64 0)] [(0,1),(1,1)]:=⟨by kernel_rfl,by kernel_rfl⟩
instance:TFld prog 498 0 0:=⟨by kernel_rfl⟩
instance:TFld prog 498 1 1:=⟨by kernel_rfl⟩
theorem ZH {L:List AK}:Ent L (ro (fun _=>none)::L):=fun m h=>⟨fun _=>none,m,(fun k x hk=>by cases hk),h,(fun _=>.inl rfl),(fun _ _ h=>by cases h),(fun _ _ h=>h)⟩
theorem EC {n:Nat}(h:n<256):IntKind.u8.wrap (n:Int)=n:=by simp [IntKind.wrap,IntKind.bits,IntKind.signed]; omega
theorem Ke {n:Nat}(h:n<65536):IntKind.u16.wrap (n:Int)=n:=by simp [IntKind.wrap,IntKind.bits,IntKind.signed]; omega
theorem FF {n:Nat}(h:n<4294967296):IntKind.u32.wrap (n:Int)=n:=by simp [IntKind.wrap,IntKind.bits,IntKind.signed]; omega
theorem Vc (c:HH):Spec prog 258 [.int .u32 (c.toNat:Nat)] [] (fun v L=>v=.int .u32 ((Ga c).toNat:Nat)∧L=[]):=by
 refine Spec.of 11 func258 rfl rfl rfl ?_
 refine Ad (Au [0] rfl rfl (Aj (Ad (Ah rfl (Af (Jb (b:=1#32) rfl rfl) (Af (Bx rfl rfl) (AI [0,5] rfl ?_)))))))
 refine Aq rfl (fun h5=>?_) (fun h5=>?_)
 ·have h5':¬ (c &&& 1#32)=0#32:=by
   intro e; rw [e] at h5; simp at h5
  refine Ad (Ah rfl ?_)
  refine Af (DQ 1 rfl rfl (by decide)) ?_
  refine Af (Du (b:=PY) rfl rfl) (Au [2] rfl rfl (Av (AZ ?_)))
  exact Aw [] (.tmp rfl .nil) ⟨by unfold Ga; rw [if_neg h5']; rfl,rfl⟩ AG
 ·have h5':(c &&& 1#32)=0#32:=by
   have:=of_decide_eq_true ((Bool.not_eq_false' _).mp h5)
   exact BitVec.eq_of_toNat_eq (Int.ofNat.inj this)
  refine Ar (Ai (Ad (Ah rfl ?_)))
  refine Af (DQ 1 rfl rfl (by decide)) ?_
  refine Au [2] rfl rfl (Av ?_)
  exact Aw [] (.tmp rfl .nil) ⟨by unfold Ga; rw [if_pos h5']; rfl,rfl⟩ AG
theorem ZI (c:HH):(c &&& 1#32)=0#32∨(c &&& 1#32)=1#32:=by
 have:(c &&& 1#32).toNat<2:=by
  rw [BitVec.toNat_and]; exact Nat.lt_of_le_of_lt Nat.and_le_right (by decide)
 rcases Nat.lt_or_ge (c &&& 1#32).toNat 1 with h | h
 ·exact .inl (BitVec.eq_of_toNat_eq (by show _=0; omega))
 ·exact .inr (BitVec.eq_of_toNat_eq (by show _=1; omega))
theorem Sz (c:HH):Spec prog 298 [.int .u32 (c.toNat:Nat)] [] (fun v L=>v=.int .u32 ((Ga c).toNat:Nat)∧L=[]):=by
 refine Spec.of 11 func298 rfl rfl rfl ?_
 refine Ad (Au [0] rfl rfl (Aj (Ad (Ah rfl (Af (Jb (b:=1#32) rfl rfl) (Af (Bo rfl rfl) (AI [0,5] rfl ?_)))))))
 refine Aq rfl (fun h5=>?_) (fun h5=>?_)
 ·have h5':¬ (c &&& 1#32)=0#32:=by
   intro e; rw [e] at h5; simp at h5
  refine Ad (Ah rfl ?_)
  refine Af (DQ 1 rfl rfl (by decide)) ?_
  refine Af (Du (b:=PY) rfl rfl) (Au [2] rfl rfl (Av (AZ ?_)))
  exact Aw [] (.tmp rfl .nil) ⟨by unfold Ga; rw [if_neg h5']; rfl,rfl⟩ AG
 ·have h5':(c &&& 1#32)=0#32:=by
   refine (ZI c).resolve_right fun e=>?_
   rw [e] at h5; simp at h5
  refine Ar (Ai (Ad (Ah rfl ?_)))
  refine Af (DQ 1 rfl rfl (by decide)) ?_
  refine Au [2] rfl rfl (Av ?_)
  exact Aw [] (.tmp rfl .nil) ⟨by unfold Ga; rw [if_pos h5']; rfl,rfl⟩ AG
theorem Mv (k:Nat)(c:HH):DR (k+1) c=Ga (DR k c):=by
 induction k generalizing c with
 | zero=>rfl
 | succ k ih=>rw [DR,ih]; rfl
set_option maxHeartbeats 1000000 in
theorem Pf (c:HH)(s:ByteArray)(hs:s.size≤1073741824):Spec prog 228 [.int .u32 (c.toNat:Nat),.string s] [] (fun v L=>v=.int .u32 ((~~~ OM (~~~ c) s.data.toList).toNat:Nat)∧L=[]):=by
 have hl:s.data.toList.length=s.size:=by rw [Array.length_toList]; rfl
 refine Spec.of 30 func228 rfl rfl rfl ?_
 refine Ad (Au [0,1] rfl rfl (Ad (Ah rfl (Af (Jc rfl) (Au [1,5] rfl rfl (Aj (Ad (Au [1,5,6] rfl rfl (AB ?_)))))))))
 refine B4 (ι:=Nat×HH) (fun k env L=>Sub env [(1,.string s),(5,.int .u32 (k.2.toNat:Nat)),(6,.int .i64 (k.1:Nat))]∧L=[]∧k.1≤s.size∧k.2=OM (~~~ c) (s.data.toList.take k.1)) (fun k=>s.size-k.1) (0,~~~ c) ⟨⟨rfl,rfl,rfl,trivial⟩,rfl,Nat.zero_le _,rfl⟩ ?_
 rintro ⟨i,d⟩ env L ⟨hsub,rfl,hi,hd⟩
 simp only [] at hi hd hsub
 refine B7 _ hsub ?_
 clear hsub env
 dsimp only
 refine Aj (Ad (Ah rfl (Ah rfl (Af (D8 rfl) (Af (Be rfl rfl) (AI [1,5,6,13] rfl ?_))))))
 refine Aq rfl (fun h13=>?_) (fun h13=>?_)
 ·have h13':i<s.size:=by have:=of_decide_eq_true h13; omega
  obtain ⟨b,hb⟩:∃ b,s.data.toList[i]? = some b:=⟨_,List.getElem?_eq_getElem AC⟩
  have hb32:((b.toNat:Nat):Int)=((BitVec.ofNat 32 b.toNat).toNat:Int):=by
   have:=b.toNat_lt; rw [BitVec.toNat_ofNat,Nat.mod_eq_of_lt AC]
  refine Ar (Ai (Aj (AB (Ad (Ah rfl (Ah rfl (Ah rfl (Af (H6 rfl rfl rfl hb) ?_))))))))
  refine Af (BP (k':=.u32) (n:=((BitVec.ofNat 32 b.toNat).toNat:Int)) (by rw [← hb32]; rfl) (F4 _)) ?_
  refine Af (Du rfl rfl) (Au [1,5,6] rfl rfl (Ad (Au [1,5,6,7] rfl rfl (AB ?_))))
  refine B4 (ι:=Nat) (fun k env L=>Sub env [(1,.string s),(5,.int .u32 ((DR k (d ^^^ BitVec.ofNat 32 b.toNat)).toNat:Nat)),(6,.int .i64 (i:Nat)),(7,.int .i64 (k:Nat))]∧L=[]∧k≤8) (fun k=>8-k) 0 ⟨⟨rfl,rfl,rfl,rfl,trivial⟩,rfl,Nat.zero_le _⟩ ?_
  rintro k env L ⟨hsub,rfl,hk⟩
  refine B7 _ hsub ?_
  clear hsub env
  refine Aj (Ad (Ah rfl (Af (Be rfl rfl) (AI [1,5,6,7,23] rfl ?_))))
  refine Aq rfl (fun h23=>?_) (fun h23=>?_)
  ·have h23':k<8:=by have:=of_decide_eq_true h23; omega
   refine Ar (Ai (Aj (AB (Am (Ah rfl ?_)))))
   refine AE (AF (Sz _) rfl rfl AG) ?_
   rintro v27 L1 ⟨rfl,rfl⟩
   refine As (B2 rfl (Bi [1,5,6,7] rfl (AJ (AV (Ai (Am (Ah rfl (Af (AQ ((k+1:Nat):Int) rfl rfl AC AC AC) (B2 rfl (Bi [1,5,6,7] rfl (AJ ?_)))))))))))
   refine Ai ⟨k+1,⟨⟨rfl,by rw [Mv]; rfl,rfl,rfl,trivial⟩,rfl,h23'⟩,by omega⟩
  ·have h23':=of_decide_eq_false h23
   obtain rfl:k=8:=by omega
   refine B3 (AU (AU (AY rfl (AV (Ai (Am (Ah rfl (Af (AQ ((i+1:Nat):Int) rfl rfl AC AC AC) (B2 rfl (Bi [1,5,6] rfl (AJ ?_)))))))))))
   refine Ai ⟨(i+1,DR 8 (d ^^^ BitVec.ofNat 32 b.toNat)),⟨⟨rfl,rfl,rfl,trivial⟩,rfl,h13',?_⟩,by show s.size-(i+1)<s.size-i; omega⟩
   show DR 8 (d ^^^ BitVec.ofNat 32 b.toNat)=OM (~~~ c) (s.data.toList.take (i+1))
   rw [List.take_add_one,hb,OM,List.foldl_append,hd]; rfl
 ·have h13':=of_decide_eq_false h13
  obtain rfl:i=s.size:=by omega
  rw [← hl,List.take_length] at hd
  subst hd
  refine B3 (AU (AU (AY rfl (Ai (Ad (Ah rfl (Af (Jc rfl) (Au [4] rfl rfl (Av ?_)))))))))
  exact Aw [] (.tmp rfl .nil) ⟨rfl,rfl⟩ AG
instance:TZero prog 270 (List.replicate 256 (.int .u32 0)):=⟨by kernel_rfl⟩
def JH (k:Nat):List Value:=(List.range 256).map fun i=>if i<k then .int .u32 ((RL i).toNat:Nat) else .int .u32 0
def tabC:List Value:=(List.range 256).map fun i=>.int .u32 ((RL i).toNat:Nat)
theorem GJ (k:Nat):(JH k).length=256:=by unfold JH; rw [List.length_map,List.length_range]
theorem XO:JH 256=tabC:=by
 unfold JH tabC
 refine List.map_congr_left fun i hi=>?_
 rw [if_pos (List.mem_range.1 hi)]
theorem Vd:JH 0=List.replicate 256 (.int .u32 0):=by
 unfold JH
 apply List.ext_getElem?
 intro i
 rw [List.getElem?_map,List.getElem?_replicate]
 by_cases h:i<256
 ·rw [List.getElem?_range h,if_pos h]; simp
 ·rw [List.getElem?_eq_none (by simp; omega),if_neg h]; rfl
theorem Qx (k i:Nat)(hi:i<256):(JH k)[i]? = some (if i<k then .int .u32 ((RL i).toNat:Nat) else .int .u32 0):=by
 unfold JH; rw [List.getElem?_map,List.getElem?_range hi]; rfl
theorem XP {k:Nat}(hk:k<256):(JH k).set k (.int .u32 ((RL k).toNat:Nat))=JH (k+1):=by
 apply List.ext_getElem?
 intro i
 rw [List.getElem?_set,GJ]
 by_cases hi:i<256
 ·rw [Qx _ _ hi,Qx _ _ hi]
  by_cases h:k=i
  ·subst h; rw [if_pos rfl,if_pos hk,if_pos AC]
  ·rw [if_neg h]
   by_cases h2:i<k
   ·rw [if_pos h2,if_pos AC]
   ·rw [if_neg h2,if_neg AC]
 ·rw [if_neg AC,List.getElem?_eq_none (by rw [GJ]; omega),List.getElem?_eq_none (by rw [GJ]; omega)]
theorem ZJ {L:List AK}:Ent L (ro (fun _=>none)::L):=fun m h=>⟨fun _=>none,m,(fun k x hk=>by cases hk),h,(fun _=>.inl rfl),(fun _ _ h=>by cases h),(fun _ _ h=>h)⟩
theorem XR {i:Nat}(hi:i<256):tabC[i]? = some (.int .u32 ((RL i).toNat:Nat)):=by
 unfold tabC; rw [List.getElem?_map,List.getElem?_range hi]; rfl
theorem F9:tabC.length=256:=by unfold tabC; rw [List.length_map,List.length_range]
theorem Qy:tabC.all Value.oneCell'=true:=by
 rw [List.all_eq_true]; intro v hv; unfold tabC at hv; obtain ⟨i,_,rfl⟩:=List.mem_map.1 hv; rfl
theorem XT {n:Nat}(h:n<4294967296):((n:Nat):Int)=((BitVec.ofNat 32 n).toNat:Int):=by rw [BitVec.toNat_ofNat,Nat.mod_eq_of_lt AC]
set_option maxHeartbeats 1000000 in
theorem Ve:Spec prog 166 [] [] (fun v L=>v=.agg tabC.toArray∧L=[]):=by
 refine Spec.of 19 func166 rfl rfl rfl ?_
 refine Ad (AE (Bd) (fun b0=>?_))
 refine AI [0] rfl (Ad (AE (Bd) (fun b1=>?_)))
 refine AI [0,1] rfl (Aj (Ad (Ah rfl (Bi [0,1,4] rfl ?_))))
 rw [← Vd]
 refine Dj (AB ?_)
 refine B4 (ι:=Nat) (fun k env L=>Sub env [(0,.pointer (some ⟨b0,0,none⟩)),(1,.pointer (some ⟨b1,0,none⟩)),(4,.int .i64 (k:Nat))]∧L=[B5 b1 270 (JH k),B5 b0 270 (JH 0)]∧k≤256) (fun k=>256-k) 0 ⟨⟨rfl,rfl,rfl,trivial⟩,rfl,Nat.zero_le _⟩ ?_
 rintro k env L ⟨hsub,rfl,hk⟩
 refine B7 _ hsub ?_
 clear hsub env
 refine Ad (Af (Be rfl rfl) (AI [0,1,4,5] rfl (Aj ?_)))
 refine Aq rfl (fun h5=>?_) (fun h5=>?_)
 ·have h5':k<256:=by have:=of_decide_eq_true h5; omega
  refine Ar (Ai (Aj (AB (Ad (Ah rfl (Au [0,1,2,4] rfl rfl (Ad (Ah rfl ?_))))))))
  refine Af (BP (k':=.u32) (n:=((BitVec.ofNat 32 k).toNat:Int)) (by rw [← XT AC]; rfl) (F4 _)) ?_
  refine Au [0,1,2,3,4] rfl rfl (Aj (Ad (Ah rfl (AI [0,1,2,3,4,9] rfl (AB ?_)))))
  refine B4 (ι:=Nat) (fun j env L=>Sub env [(0,.pointer (some ⟨b0,0,none⟩)),(1,.pointer (some ⟨b1,0,none⟩)),(2,.int .i64 (k:Nat)),(3,.int .u32 ((DR j (BitVec.ofNat 32 k)).toNat:Nat)),(4,.int .i64 (k:Nat)),(9,.int .i64 (j:Nat))]∧L=[B5 b1 270 (JH k),B5 b0 270 (JH 0)]∧j≤8) (fun j=>8-j) 0 ⟨⟨rfl,rfl,rfl,rfl,rfl,rfl,trivial⟩,rfl,Nat.zero_le _⟩ ?_
  rintro j env L ⟨hsub,rfl,hj⟩
  refine B7 _ hsub ?_
  clear hsub env
  refine Ad (Af (Be rfl rfl) (AI [0,1,2,3,4,9,10] rfl (Aj ?_)))
  refine Aq rfl (fun h10=>?_) (fun h10=>?_)
  ·have h10':j<8:=by have:=of_decide_eq_true h10; omega
   refine Ar (Ai (Aj (AB (Am (Ah rfl ?_)))))
   refine AE (AF (Vc _) rfl rfl AG) ?_
   rintro v12 L1 ⟨rfl,rfl⟩
   refine As (B2 rfl (Bi [0,1,2,3,4,9] rfl (AJ (AV (Ai (Am (Af (AQ ((j+1:Nat):Int) rfl rfl AC AC AC) (Ah rfl (Bi [0,1,2,3,4,9] rfl (AJ ?_))))))))))
   refine Ai ⟨j+1,⟨⟨rfl,rfl,rfl,by rw [Mv]; rfl,rfl,rfl,trivial⟩,rfl,h10'⟩,by omega⟩
  ·have h10':=of_decide_eq_false h10
   obtain rfl:j=8:=by omega
   refine B3 (AU (AU (AY rfl (Ai (Am (Ah rfl (Ah rfl ?_)))))))
   refine Af (ES k rfl rfl AC AC (by rw [Int.toNat_natCast]; omega)) ?_
   refine Bh (CB rfl rfl rfl (by rw [GJ]; omega)) ?_
   refine Bi [0,1,4] rfl (AJ (AV (Ai (Am (Af (AQ ((k+1:Nat):Int) rfl rfl AC AC AC) (Ah rfl (Bi [0,1,4] rfl (AJ ?_))))))))
   exact Ai ⟨k+1,⟨⟨rfl,rfl,rfl,trivial⟩,by rw [← XP h5']; rfl,h5'⟩,by omega⟩
 ·have h5':=of_decide_eq_false h5
  obtain rfl:k=256:=by omega
  rw [XO]
  refine B3 (AU (AU (AY rfl (Ai (Ad (AM (CX rfl (BT F9)) ?_))))))
  refine Bh (DO rfl rfl (cs':=tabC) (by unfold F2; rw [List.take_zero,List.nil_append,List.drop_eq_nil_of_le (by rw [GJ,F9]; decide),List.append_nil]) (by rw [GJ,F9]; decide) F9 Qy) ?_
  refine AI [0] rfl (Av ?_)
  exact Aw [] (.cell rfl (BT F9) .nil) ⟨rfl,rfl⟩ AG
set_option maxHeartbeats 1000000 in
theorem Vf (c:HH)(t:Nat)(s:ByteArray)(hs:s.size≤1073741824):Spec prog 167 [.pointer (some ⟨t,0,none⟩),.int .u32 (c.toNat:Nat),.string s] [B5 t 270 tabC] (fun v L=>v=.int .u32 ((OM c s.data.toList).toNat:Nat)∧L=[B5 t 270 tabC]):=by
 have hl:s.data.toList.length=s.size:=by rw [Array.length_toList]; rfl
 refine Spec.of 29 func167 rfl rfl rfl ?_
 refine Ad (Au [0,1,2] rfl rfl (Aj (Ad (Ah rfl ?_))))
 refine AE (Jx (e:=5) rfl (by simp only [maxLen]; omega)) ?_
 rintro g cap cs fr hc1 hc2 hcs
 skip
 refine Af (BD rfl) (Ah rfl (AI [0,1,10,11,12] rfl (AB (AX ZJ ?_))))
 refine LL (b:=g) (μ:=fun _=>none) AG fun μ _ hg=>?_
 have hrow:=Iu hc1 hc2 hcs hg
 refine B4 (ι:=Nat) (fun i env L=>Sub env [(0,.pointer (some ⟨t,0,none⟩)),(1,.int .u32 (((s.data.toList.take i).foldl PZ c).toNat:Nat)),(10,.slice (some ⟨g,0,none⟩) s.size cap),(11,.int .i64 (s.size:Nat)),(12,.int .i64 (i:Nat))]∧L=[ro μ,B5 t 270 tabC]∧i≤s.size) (fun i=>s.size-i) 0 ⟨⟨rfl,rfl,rfl,rfl,rfl,trivial⟩,rfl,Nat.zero_le _⟩ ?_
 rintro i env L ⟨hsub,rfl,hi⟩
 refine B7 _ hsub ?_
 clear hsub env
 generalize hd:(s.data.toList.take i).foldl PZ c=d
 refine Ad (Af (Be rfl rfl) (AI [0,1,10,11,12,13] rfl (Aj ?_)))
 refine Aq rfl (fun h13=>?_) (fun h13=>?_)
 ·have h13':i<s.size:=by have:=of_decide_eq_true h13; omega
  obtain ⟨b,hb⟩:∃ b,s.data.toList[i]? = some b:=⟨_,List.getElem?_eq_getElem AC⟩
  obtain ⟨g',off,cap',hv,_,_,hr⟩:=hrow.pos AC
  have hre:=hr.elem (f:=bc1) (n:=1) (fun _=>rfl) hb
  injection hv with e1 e2 e3
  injection e1 with e1
  injection e1 with e4 e5
  subst e4 e5
  have hidx:(d.setWidth 8 ^^^ b.toBitVec).toNat<256:=(d.setWidth 8 ^^^ b.toBitVec).isLt
  refine Ar (Ai (Aj (AB (Ad ?_))))
  refine Af (AA (0+i*1) rfl rfl AC AC (by rw [Int.toNat_natCast])) ?_
  refine AM (BJ rfl hre.cell) (Au [0,1,8,10,11,12] rfl rfl (Am (Ah rfl (Ah rfl ?_))))
  refine Af (OL d (by decide) rfl rfl) ?_
  refine Ah rfl (Af (Uv (b:=b.toBitVec) rfl rfl) (Af (Al rfl) ?_))
  refine Af (ES (d.setWidth 8 ^^^ b.toBitVec).toNat rfl rfl AC AC (by rw [Int.toNat_natCast]; omega)) ?_
  refine AM (Ak rfl (XR hidx)) (Ah rfl ?_)
  refine Af (DQ 8 rfl rfl (by decide)) ?_
  refine Af (Du rfl rfl) (B2 rfl (Bi [0,1,10,11,12] rfl (AJ (AV (Ai (Am (Af (AQ ((i+1:Nat):Int) rfl rfl AC AC AC) (Ah rfl (Bi [0,1,10,11,12] rfl (AJ ?_))))))))))
  refine Ai ⟨i+1,⟨⟨rfl,?_,rfl,rfl,rfl,trivial⟩,rfl,h13'⟩,by omega⟩
  rw [List.take_add_one,hb,List.foldl_append,hd]; rfl
 ·have h13':=of_decide_eq_false h13
  obtain rfl:i=s.size:=by omega
  rw [← hl,List.take_length,X1] at hd
  refine B3 (AU (AU (AY rfl (Ai (Ad (Ah rfl (Au [6] rfl rfl (Av ?_))))))))
  exact Aw [B5 t 270 tabC] (.tmp rfl .nil) ⟨by rw [hd]; rfl,rfl⟩ AG
set_option maxHeartbeats 1000000 in
theorem GK (g cap:Nat)(s:ByteArray)(hs:s.size≤1073741824):Spec prog 95 [.slice (some ⟨g,0,none⟩) 1 cap] [B5 g 9 [.string s]] (fun v L=>v=.int .u32 ((UA s.data.toList).toNat:Nat)∧L=[]):=by
 refine Spec.of 20 func95 rfl rfl rfl ?_
 refine Ad (Au [0] rfl rfl (Ad ?_))
 refine AE (AF Ve rfl rfl AG) ?_
 rintro v7 L1 ⟨rfl,rfl⟩
 refine As (AE (Bd) (fun b3=>?_))
 refine Bh (DO rfl rfl (cs':=tabC) (by unfold F2; rw [List.take_zero,List.nil_append,List.drop_eq_nil_of_le (by rw [List.length_replicate,F9]; decide),List.append_nil]) (by rw [List.length_replicate,F9]; decide) F9 Qy) ?_
 refine AI [0,3] rfl (Ad (Au [0,3,4] rfl rfl (Aj (Ad (Ah rfl (Af (BD rfl) (Ah rfl (AI [3,4,8,9,10] rfl (AB ?_)))))))))
 refine B4 (ι:=Nat) (fun i env L=>Sub env [(3,.pointer (some ⟨b3,0,none⟩)),(4,.int .u32 ((if i=0 then (~~~ 0#32) else OM (~~~ 0#32) s.data.toList).toNat:Nat)),(8,.slice (some ⟨g,0,none⟩) 1 cap),(9,.int .i64 1),(10,.int .i64 (i:Nat))]∧L=[B5 b3 270 tabC,B5 g 9 [.string s]]∧i≤1) (fun i=>1-i) 0 ⟨⟨rfl,rfl,rfl,rfl,rfl,trivial⟩,rfl,Nat.zero_le _⟩ ?_
 rintro i env L ⟨hsub,rfl,hi⟩
 refine B7 _ hsub ?_
 clear hsub env
 refine Ad (Af (Be rfl rfl) (AI [3,4,8,9,10,11] rfl (Aj ?_)))
 refine Aq rfl (fun h11=>?_) (fun h11=>?_)
 ·have h11':i<1:=by have:=of_decide_eq_true h11; omega
  obtain rfl:i=0:=by omega
  refine Ar (Ai (Aj (AB (Ad ?_))))
  refine Af (AA 0 rfl rfl AC AC (by decide)) ?_
  refine AM (Ak rfl rfl) (Au [3,4,6,8,9,10] rfl rfl (Am (Ah rfl (Ah rfl ?_))))
  refine AE (AF (Vf (~~~ 0#32) b3 s hs) rfl rfl AG) ?_
  rintro v16 L1 ⟨rfl,rfl⟩
  refine As (B2 rfl (Bi [3,4,8,9,10] rfl (AJ (AV (Ai (Am (Af (AQ ((1:Nat):Int) rfl rfl AC AC AC) (Ah rfl (Bi [3,4,8,9,10] rfl (AJ ?_))))))))))
  exact Ai ⟨1,⟨⟨rfl,rfl,rfl,rfl,rfl,trivial⟩,rfl,Nat.le_refl _⟩,by decide⟩
 ·have h11':=of_decide_eq_false h11
  obtain rfl:i=1:=by omega
  refine B3 (AU (AU (AY rfl (Ai (Ad (Ah rfl (Af (Jc rfl) (Au [2] rfl rfl (Av ?_)))))))))
  exact Aw [] (.tmp rfl .nil) ⟨rfl,rfl⟩ AG
set_option maxHeartbeats 1000000 in
theorem Vg (g cap:Nat)(s:ByteArray)(hs:s.size≤1073741824):Spec prog 135 [.slice (some ⟨g,0,none⟩) 1 cap] [B5 g 9 [.string s]] (fun v L=>v=.int .u32 ((UA s.data.toList).toNat:Nat)∧L=[]):=by
 refine Spec.of 18 func135 rfl rfl rfl ?_
 refine Ad (Au [0] rfl rfl (Ad (Au [0,3] rfl rfl (Aj (Ad (Au [0,3,4] rfl rfl (AB ?_)))))))
 refine B4 (ι:=Nat) (fun i env L=>Sub env [(0,.slice (some ⟨g,0,none⟩) 1 cap),(3,.int .u32 ((if i=0 then 0#32 else UA s.data.toList).toNat:Nat)),(4,.int .i64 (i:Nat))]∧L=[B5 g 9 [.string s]]∧i≤1) (fun i=>1-i) 0 ⟨⟨rfl,rfl,rfl,trivial⟩,rfl,Nat.zero_le _⟩ ?_
 rintro i env L ⟨hsub,rfl,hi⟩
 refine B7 _ hsub ?_
 clear hsub env
 refine Aj (Ad (Ah rfl (Ah rfl (Af (BD rfl) (Af (Be rfl rfl) (AI [0,3,4,8] rfl ?_))))))
 refine Aq rfl (fun h8=>?_) (fun h8=>?_)
 ·have h8':i<1:=by have:=of_decide_eq_true h8; omega
  obtain rfl:i=0:=by omega
  refine Ar (Ai (Aj (AB (Am (Ah rfl (Ah rfl (Ah rfl ?_)))))))
  refine Af (AA 0 rfl rfl AC AC (by decide)) ?_
  refine AM (Ak rfl rfl) ?_
  refine AE (AF (Pf 0#32 s hs) rfl rfl AG) ?_
  rintro v16 L1 ⟨rfl,rfl⟩
  refine As (B2 rfl (Bi [0,3,4] rfl (AJ (AV (Ai (Am (Ah rfl (Af (AQ ((1:Nat):Int) rfl rfl AC AC AC) (B2 rfl (Bi [0,3,4] rfl (AJ ?_)))))))))))
  exact Ai ⟨1,⟨⟨rfl,rfl,rfl,trivial⟩,rfl,Nat.le_refl _⟩,by decide⟩
 ·have h8':=of_decide_eq_false h8
  obtain rfl:i=1:=by omega
  refine B3 (AU (AU (AY rfl (Ai (Ad (Ah rfl (Au [2] rfl rfl (Av ?_))))))))
  exact Aw [] (.tmp rfl .nil) ⟨rfl,rfl⟩ AG
theorem Pg (a b:List UInt8):Dx (a++b)=Dx a++Dx b:=List.flatMap_append
set_option maxHeartbeats 1000000 in
theorem Mw (p:Nat)(v:Value)(x:BitVec 64)(n:Nat)(bs:List UInt8)(hn:n≤8)(hb:bs.length≤1073741824) :
  Spec prog 186 [.pointer (some ⟨p,0,none⟩),.int .u64 (x.toNat:Nat),.int .i64 (n:Nat)] [B5 p 294 [v],own 5 1 v bs.length (Dx bs)] (fun r L=>r=.tuple #[]∧∃ v',L=[B5 p 294 [v'],own 5 1 v' (bs++DC x n).length (Dx (bs++DC x n))]):=by
 refine Spec.of 28 func186 rfl rfl rfl ?_
 refine Aj (Ad (Ah rfl (Af (Bm rfl rfl) (AI [0,1,2,7] rfl (Dw rfl (Ar (Ai (Ad (Ah rfl (Af (BH ((n:Int)-1) rfl rfl AC AC AC) (Au [0,1,2] rfl rfl (AB ?_))))))))))))
 refine B4 (ι:=Nat×Value) (fun k env L=>Sub env [(0,.pointer (some ⟨p,0,none⟩)),(1,.int .u64 (x.toNat:Nat)),(2,.int .i64 ((k.1:Int)-1))]∧Ent L [B5 p 294 [k.2],own 5 1 k.2 (bs++(DC x n).take (n-k.1)).length (Dx (bs++(DC x n).take (n-k.1)))]∧k.1≤n) (fun k=>k.1) (n,v) ⟨⟨rfl,rfl,rfl,trivial⟩,by show Ent _ [B5 p 294 [v],own 5 1 v (bs++(DC x n).take (n-n)).length (Dx (bs++(DC x n).take (n-n)))]; rw [Nat.sub_self,List.take_zero,List.append_nil]; exact Ent.refl _,Nat.le_refl _⟩ ?_
 rintro ⟨r,v1⟩ env L ⟨hsub,hE,hr⟩
 simp only [] at hsub hE hr
 refine B7 _ hsub (AX hE ?_)
 clear hsub hE env L
 dsimp only
 have hlen:(bs++(DC x n).take (n-r)).length=bs.length+(n-r):=by rw [List.length_append,List.length_take,CN]; omega
 refine Aj (Ad (Ah rfl (Af (Cs rfl rfl) (AI [0,1,2,11] rfl ?_))))
 refine Aq rfl (fun h11=>?_) (fun h11=>?_)
 ·have h11':1≤r:=by have:=of_decide_eq_true h11; omega
  refine Ar (Ai (Aj (AB ?_)))
  refine Bb [4] _ [] (by simp only [List.append_nil]; exact Ent.refl _) AP ?_
  refine AD 0 rfl (AH rfl) (AD 1 rfl (AH rfl) (AD 2 rfl (Al rfl) (AD 3 rfl (Ae rfl) (Bl 4 rfl (Ak rfl rfl) rfl (AD 5 rfl (AH rfl) (AD 6 rfl (AH rfl) (AD 7 rfl (Fz ((8*(r-1):Nat):Int) rfl rfl AC AC AC) (AD 8 rfl (Gt (8*(r-1)) rfl rfl AC) ?_))))))))
  refine AD 9 rfl (OL (x >>> (8*(r-1))) (by decide) rfl rfl) ?_
  refine CQ 10 rfl AP (Bs (qs:=[(0,_)]) rfl rfl rfl) fun b24=>?_
  refine ⟨_,Split.ent AG,?_⟩
  refine BX 11 rfl AP AP (Bj (m:=1) rfl rfl AG (by rw [hlen]; simp only [maxLen]; omega) (by rw [hlen]; omega)) ?_
  rintro v25 hv25
  obtain ⟨g25,c25,rfl⟩:=hv25 (by decide)
  refine AD 12 rfl (Al rfl) (AD 13 rfl (Ae rfl) (Cy 14 rfl AP AP (Ba rfl rfl rfl) (BZ [0,1,2] rfl (Bv AP (AV (Ai (Am (Ah rfl (Af (BH (((r-1:Nat):Int)-1) rfl rfl AC AC AC) (B2 rfl (Bi [0,1,2] rfl (AJ ?_))))))))))))
  have hge:=HN x (n:=n) (i:=n-r) AC
  have e1:n-(r-1)=n-r+1:=by omega
  have e2:n-1-(n-r)=r-1:=by omega
  rw [e2] at hge
  have e3:bs++(DC x n).take (n-(r-1))=(bs++(DC x n).take (n-r))++[UInt8.ofBitVec ((x >>> (8*(r-1))).setWidth 8)]:=by
   rw [e1,List.take_add_one,hge,List.append_assoc]; rfl
  refine Ai ⟨(r-1,(.slice (some ⟨g25,0,none⟩) ((bs++(DC x n).take (n-r)).length+1) c25)),⟨⟨rfl,rfl,rfl,trivial⟩,?_,by show r-1≤n; omega⟩,by show r-1<r; omega⟩
  show Ent _ [B5 p 294 [(.slice (some ⟨g25,0,none⟩) ((bs++(DC x n).take (n-r)).length+1) c25)],own 5 1 (.slice (some ⟨g25,0,none⟩) ((bs++(DC x n).take (n-r)).length+1) c25) (bs++(DC x n).take (n-(r-1))).length (Dx (bs++(DC x n).take (n-(r-1))))]
  have e4:((bs++(DC x n).take (n-r))++[UInt8.ofBitVec ((x >>> (8*(r-1))).setWidth 8)]).length=(bs++(DC x n).take (n-r)).length+1:=by generalize bs++(DC x n).take (n-r)=q; rw [List.length_append]; rfl
  have e5:Dx ((bs++(DC x n).take (n-r))++[UInt8.ofBitVec ((x >>> (8*(r-1))).setWidth 8)])=Dx (bs++(DC x n).take (n-r))++[.int .u8 (((x >>> (8*(r-1))).setWidth 8).toNat:Nat)]:=by generalize bs++(DC x n).take (n-r)=q; rw [Pg]; rfl
  rw [e3,e4,e5]
  exact Split.ent' AG
 ·have h11':=of_decide_eq_false h11
  obtain rfl:r=0:=by omega
  rw [Nat.sub_zero,List.take_of_length_le (by rw [CN]; exact Nat.le_refl _)]
  refine B3 (AU (AU (AY rfl ?_)))
  exact Aw [B5 p 294 [v1],own 5 1 v1 (bs++DC x n).length (Dx (bs++DC x n))] .nil ⟨rfl,v1,rfl⟩ AG
theorem Ph (b:HH):((b.toNat:Nat):Int)=((b.setWidth 64).toNat:Int):=by
 rw [BitVec.toNat_setWidth,Nat.mod_eq_of_lt (by have:=b.isLt; omega)]
theorem Mx (p:Nat)(v:Value)(b:HH)(bs:List UInt8)(hb:bs.length≤1073741824) :
  Spec prog 152 [.pointer (some ⟨p,0,none⟩),.int .u32 (b.toNat:Nat)] [B5 p 294 [v],own 5 1 v bs.length (Dx bs)] (fun r L=>r=.tuple #[]∧∃ v',L=[B5 p 294 [v'],own 5 1 v' (bs++Fo b).length (Dx (bs++Fo b))]):=by
 refine Spec.of 8 func152 rfl rfl rfl ?_
 refine Am (Ah rfl (Ah rfl ?_))
 refine Af (BP (k':=.u64) (n:=((b.setWidth 64).toNat:Int)) (by rw [← Ph]; rfl) (Gs _)) ?_
 refine AE (AF (Mw p v (b.setWidth 64) 4 bs (by decide) hb) rfl rfl AG) ?_
 rintro v7 L1 ⟨rfl,v',rfl⟩
 refine As (C3 _ .nil (AJ ?_))
 exact Aw [B5 p 294 [v'],own 5 1 v' (bs++Fo b).length (Dx (bs++Fo b))] .nil ⟨rfl,v',rfl⟩ AG
theorem O0:Spec prog 109 [] [] (fun r L=>∃ p,r=.pointer (some ⟨p,0,none⟩)∧L=[B5 p 294 [.slice none 0 0]]):=by
 refine Spec.of 3 func109 rfl rfl rfl ?_
 refine Ad (B2 rfl (C3 _ .nil (Dj (Ad (Af (Bz (qs:=[]) rfl) (AE (Bp rfl rfl) (fun b2=>?_)))))))
 refine Au [0] rfl rfl (Av ?_)
 exact Aw [B5 b2 294 [.slice none 0 0]] (.tmp rfl .nil) ⟨b2,rfl,rfl⟩ AG
theorem SA (p:Nat)(v:Value)(bs:List UInt8)(h0:bs≠[]):Spec prog 112 [.pointer (some ⟨p,0,none⟩)] [own 5 1 v bs.length (Dx bs),B5 p 294 [v]] (fun r L=>r=.string ⟨bs.toArray⟩∧L=[]):=by
 refine Spec.own_cases (fun hv l0 x0=>?_) (fun g cap ex hv o1 o2 o3 o4=>?_)
 ·exact absurd (List.eq_nil_of_length_eq_zero l0) h0
 subst hv
 refine Spec.of 10 func112 rfl rfl rfl ?_
 refine Ad (Au [0] rfl rfl (Aj (Ad (Ah rfl (Af (Bm rfl rfl) (AI [0,4] rfl (Dw rfl (Ar (Ai (Ad (Ah rfl (Af (Al rfl) (Af (Ae rfl) (AM (Ak rfl rfl) ?_))))))))))))))
 refine AM (LM bs rfl (by exact .here)) ?_
 refine Au [2] rfl rfl (Av ?_)
 exact Aw [] (.tmp rfl .nil) ⟨rfl,rfl⟩ AG
set_option maxHeartbeats 1000000 in
theorem I6 (x:BitVec 64)(n:Nat)(h0:0<n)(hn:n≤8):Spec prog 134 [.int .u64 (x.toNat:Nat),.int .i64 (n:Nat)] [] (fun r L=>r=.string ⟨(DC x n).toArray⟩∧L=[]):=by
 refine Spec.of 27 func134 rfl rfl rfl ?_
 refine Ad (Au [0,1] rfl rfl (Ad (Ah rfl ?_)))
 refine AE (FK n rfl rfl rfl AC (by simp only [maxLen]; omega)) ?_
 rintro g8
 skip
 refine Au [0,1,5] rfl rfl (Aj (Ad (Au [0,1,5,6] rfl rfl (AB ?_))))
 refine B4 (ι:=Nat) (fun i env L=>Sub env [(0,.int .u64 (x.toNat:Nat)),(1,.int .i64 (n:Nat)),(5,.slice (some ⟨g8,0,none⟩) n n),(6,.int .i64 (i:Nat))]∧L=[B5 g8 5 (Dx ((DC x n).take i)++List.replicate (n-i) (.int .u8 0))]∧i≤n) (fun i=>n-i) 0 ⟨⟨rfl,rfl,rfl,rfl,trivial⟩,rfl,Nat.zero_le _⟩ ?_
 rintro i env L ⟨hsub,rfl,hi⟩
 refine B7 _ hsub ?_
 clear hsub env
 have hlen:(Dx ((DC x n).take i)).length=i:=by rw [L9,List.length_take,CN]; omega
 refine Aj (Ad (Ah rfl (Ah rfl (Af (Be rfl rfl) (AI [0,1,5,6,11] rfl ?_)))))
 refine Aq rfl (fun h11=>?_) (fun h11=>?_)
 ·have h11':i<n:=by have:=of_decide_eq_true h11; omega
  refine Ar (Ai (Aj (AB (Am (Ah rfl (Ah rfl (Ah rfl (Ah rfl (Af (BH ((n-1:Nat):Int) rfl rfl AC AC AC) (Ah rfl (Af (BH ((n-1-i:Nat):Int) rfl rfl AC AC AC) (Af (Fz ((8*(n-1-i):Nat):Int) rfl rfl AC AC AC) (Af (Gt (8*(n-1-i)) rfl rfl AC) ?_)))))))))))))
  refine Af (OL (x >>> (8*(n-1-i))) (by decide) rfl rfl) ?_
  refine Af (AA i rfl rfl AC AC (by rw [Int.toNat_natCast]; omega)) ?_
  refine Bh (CB rfl rfl rfl (by rw [List.length_append,hlen,List.length_replicate]; omega)) ?_
  refine Bi [0,1,5,6] rfl (AJ (AV (Ai (Am (Ah rfl (Af (AQ ((i+1:Nat):Int) rfl rfl AC AC AC) (B2 rfl (Bi [0,1,5,6] rfl (AJ ?_)))))))))
  refine Ai ⟨i+1,⟨⟨rfl,rfl,rfl,rfl,trivial⟩,?_,h11'⟩,by omega⟩
  have e:(Dx ((DC x n).take i)++List.replicate (n-i) (Value.int .u8 0)).set i (Value.int .u8 (((x >>> (8*(n-1-i))).setWidth 8).toNat:Nat))=Dx ((DC x n).take (i+1))++List.replicate (n-(i+1)) (Value.int .u8 0):=by
   rw [List.take_add_one,HN x h11',Pg,List.set_append_right _ _ (by rw [hlen]; exact Nat.le_refl _),hlen,Nat.sub_self]
   have:n-i=(n-(i+1))+1:=by omega
   rw [this,List.replicate_succ,List.set_cons_zero,List.append_assoc]; rfl
  rw [← e]
 ·have h11':=of_decide_eq_false h11
  obtain rfl:i=n:=by omega
  rw [List.take_of_length_le (by rw [CN]; exact Nat.le_refl _)]
  have hbl:=CN x i
  refine B3 (AU (AU (AY rfl (Ai (Ad (Ah rfl ?_))))))
  refine AM (LM (DC x i) (by rw [hbl]; rfl) .here) ?_
  refine Au [4] rfl rfl (Av ?_)
  exact Aw [] (.tmp rfl .nil) ⟨rfl,rfl⟩ AG
theorem ZK (b:HH)(l:List UInt8):l++Fo b≠[]:=by
 intro e
 have:=congrArg List.length e
 rw [List.length_append,E4] at this
 simp at this
set_option maxHeartbeats 1000000 in
theorem Vh (b o t:HH):Spec prog 295 [.int .u32 (b.toNat:Nat),.int .u32 (o.toNat:Nat),.int .u32 (t.toNat:Nat)] [] (fun r L=>r=.int .u32 ((TB b o t).toNat:Nat)∧L=[]):=by
 refine Spec.of 23 func295 rfl rfl rfl ?_
 refine Ad (Au [0,1,2] rfl rfl (Ad ?_))
 refine AE (AF O0 rfl rfl AG) ?_
 rintro v8 L1 ⟨p,rfl,rfl⟩
 refine As (Au [0,1,2,7] rfl rfl (Aj (AX (show Ent _ (own 5 1 (.slice none 0 0) ([]:List UInt8).length (Dx [])::_) from own_nil_ent) (Am (Ah rfl (Ah rfl ?_))))))
 refine AE (AF (Mx p (.slice none 0 0) b [] (by decide)) rfl rfl AG) ?_
 rintro v11 L1 ⟨rfl,w1,rfl⟩
 refine As (AI [1,2,7] rfl (Ad (Ah rfl (Ah rfl ?_))))
 refine AE (AF (Mx p w1 o ([]++Fo b) (by rw [List.nil_append,E4]; decide)) rfl rfl AG) ?_
 rintro v14 L1 ⟨rfl,w2,rfl⟩
 refine As (AI [2,7] rfl (Ad (Ah rfl (Ah rfl ?_))))
 refine AE (AF (Mx p w2 t ([]++Fo b++Fo o) (by rw [List.nil_append,List.length_append,E4,E4]; decide)) rfl rfl AG) ?_
 rintro v17 L1 ⟨rfl,w3,rfl⟩
 refine As (AI [7] rfl (Ad (Ah rfl ?_)))
 refine AE (AF (SA p w3 ([]++Fo b++Fo o++Fo t) (ZK _ _)) rfl rfl AG) ?_
 rintro v19 L1 ⟨rfl,rfl⟩
 refine As (AE (Bs (qs:=[(0,_)]) rfl rfl rfl) (fun b20=>?_))
 refine AE (AF (GK b20 1 ⟨([]++Fo b++Fo o++Fo t).toArray⟩ (by show ([]++Fo b++Fo o++Fo t).toArray.size≤_; rw [List.size_toArray,List.nil_append,List.length_append,List.length_append,E4,E4,E4]; decide)) rfl rfl AG) ?_
 rintro v21 L1 ⟨rfl,rfl⟩
 refine As (Af (K1 (b:=2147483648#32) rfl rfl) (Au [6] rfl rfl (Av ?_)))
 exact Aw [] (.tmp rfl .nil) ⟨rfl,rfl⟩ AG
theorem Pi (a b:List UInt8):(⟨a.toArray⟩:ByteArray)++⟨b.toArray⟩=⟨(a++b).toArray⟩:=by
 apply ByteArray.ext
 rw [ByteArray.data_append]
 simp
theorem I7 (l:List UInt8):(⟨l.toArray⟩:ByteArray).size=l.length:=by show l.toArray.size=_; rw [List.size_toArray]
set_option maxHeartbeats 1000000 in
theorem SB (b o t:HH):Spec prog 71 [.int .u32 (b.toNat:Nat),.int .u32 (o.toNat:Nat),.int .u32 (t.toNat:Nat)] [] (fun r L=>r=.int .u32 ((TB b o t).toNat:Nat)∧L=[]):=by
 refine Spec.of 24 func71 rfl rfl rfl ?_
 refine Ad (Au [0,1,2] rfl rfl (Ad (Ah rfl ?_)))
 refine Af (BP (k':=.u64) (n:=((b.setWidth 64).toNat:Int)) (by rw [← Ph]; rfl) (Gs _)) ?_
 refine AE (AF (I6 (b.setWidth 64) 4 (by decide) (by decide)) rfl rfl AG) ?_
 rintro v10 L1 ⟨rfl,rfl⟩
 refine As (Ah rfl ?_)
 refine Af (BP (k':=.u64) (n:=((o.setWidth 64).toNat:Int)) (by rw [← Ph]; rfl) (Gs _)) ?_
 refine AE (AF (I6 (o.setWidth 64) 4 (by decide) (by decide)) rfl rfl AG) ?_
 rintro v13 L1 ⟨rfl,rfl⟩
 refine As ?_
 refine Af (J9 rfl rfl (by rw [I7,I7,CN,CN]; decide)) ?_
 refine Ah rfl ?_
 refine Af (BP (k':=.u64) (n:=((t.setWidth 64).toNat:Int)) (by rw [← Ph]; rfl) (Gs _)) ?_
 refine AE (AF (I6 (t.setWidth 64) 4 (by decide) (by decide)) rfl rfl AG) ?_
 rintro v17 L1 ⟨rfl,rfl⟩
 refine As ?_
 refine Af (J9 rfl rfl (by rw [Pi,I7,I7,List.length_append,CN,CN,CN]; decide)) ?_
 refine Au [7] rfl rfl (Aj ?_)
 rw [Pi,Pi]
 refine Am (Ah rfl (AE (Bs (qs:=[(0,_)]) rfl rfl rfl) (fun b20=>?_)))
 refine AE (AF (Vg b20 1 ⟨(Fo b++Fo o++Fo t).toArray⟩ (by rw [I7,List.length_append,List.length_append,E4,E4,E4]; decide)) rfl rfl AG) ?_
 rintro v21 L1 ⟨rfl,rfl⟩
 refine As (Af (Jb (b:=2147483647#32) rfl rfl) (Af (K1 (a:=2147483648#32) rfl rfl) (Au [6] rfl rfl (Av ?_))))
 refine Aw [] (.tmp rfl .nil) ⟨?_,rfl⟩ AG
 rw [X2]; rfl
def Ep (p:Nat)(bs:List UInt8):AK:=exA fun v:Value=>[B5 p 294 [v],own 5 1 v bs.length (Dx bs)]
theorem GL {p:Nat}{v:Value}{bs:List UInt8}{L:List AK}:Ent (B5 p 294 [v]::own 5 1 v bs.length (Dx bs)::L) (Ep p bs::L) :=
 Fd (F:=fun v:Value=>[B5 p 294 [v],own 5 1 v bs.length (Dx bs)]) v AG
instance zvU8T:TZv prog 5 (.int .u8 0):=⟨by kernel_rfl⟩
theorem Dn:Spec prog 109 [] [] (fun r L=>∃ p,r=.pointer (some ⟨p,0,none⟩)∧L=[Ep p []]) :=
 Spec.ent3 O0 fun r L ⟨p,h1,h2⟩=>⟨[Ep p []],by
  rw [h2]
  exact (show Ent [B5 p 294 [.slice none 0 0]] (own 5 1 (.slice none 0 0) 0 []::[B5 p 294 [.slice none 0 0]]) from own_nil_ent).trans (Ent.swap.trans (GL (p:=p) (v:=.slice none 0 0) (bs:=[]))),p,h1,rfl⟩
theorem Gf (p n k:Nat)(bs:List UInt8)(hk:k≤8)(hn:n<18446744073709551616)(hb:bs.length≤1073741824):Spec prog 186 [.pointer (some ⟨p,0,none⟩),.int .u64 (n:Nat),.int .i64 (k:Nat)] [Ep p bs] (fun r L=>r=.tuple #[]∧L=[Ep p (bs++Br k n)]):=by
 refine Spec.exA' fun v=>?_
 simp only [List.cons_append,List.nil_append]
 have e:(BitVec.ofNat 64 n).toNat=n:=by rw [BitVec.toNat_ofNat]; exact Nat.mod_eq_of_lt hn
 have h:=Mw p v (BitVec.ofNat 64 n) k bs hk hb
 rw [e] at h
 exact Spec.ent3 h fun r L ⟨h1,v',h2⟩=>⟨[Ep p (bs++Br k n)],by rw [h2]; exact GL,h1,rfl⟩
theorem ED (p n:Nat)(bs:List UInt8)(hn:n<256)(hb:bs.length≤1073741824):Spec prog 151 [.pointer (some ⟨p,0,none⟩),.int .u8 (n:Nat)] [Ep p bs] (fun r L=>r=.tuple #[]∧L=[Ep p (bs++Br 1 n)]):=by
 refine Spec.of 8 func151 rfl rfl rfl ?_
 refine Am (Ah rfl (Ah rfl (Af (F3 rfl AC AC) ?_)))
 refine AE (AF (Gf p n 1 bs (by decide) AC hb) rfl rfl AG) ?_
 rintro v7 L1 ⟨rfl,rfl⟩
 refine As (C3 _ .nil (AJ ?_))
 exact Aw [Ep p (bs++Br 1 n)] .nil ⟨rfl,rfl⟩ AG
theorem Kf (p n:Nat)(bs:List UInt8)(hn:n<65536)(hb:bs.length≤1073741824):Spec prog 149 [.pointer (some ⟨p,0,none⟩),.int .u16 (n:Nat)] [Ep p bs] (fun r L=>r=.tuple #[]∧L=[Ep p (bs++Br 2 n)]):=by
 refine Spec.of 8 func149 rfl rfl rfl ?_
 refine Am (Ah rfl (Ah rfl (Af (F3 rfl AC AC) ?_)))
 refine AE (AF (Gf p n 2 bs (by decide) AC hb) rfl rfl AG) ?_
 rintro v7 L1 ⟨rfl,rfl⟩
 refine As (C3 _ .nil (AJ ?_))
 exact Aw [Ep p (bs++Br 2 n)] .nil ⟨rfl,rfl⟩ AG
theorem Cb (p n:Nat)(bs:List UInt8)(hn:n<4294967296)(hb:bs.length≤1073741824):Spec prog 152 [.pointer (some ⟨p,0,none⟩),.int .u32 (n:Nat)] [Ep p bs] (fun r L=>r=.tuple #[]∧L=[Ep p (bs++Br 4 n)]):=by
 refine Spec.of 8 func152 rfl rfl rfl ?_
 refine Am (Ah rfl (Ah rfl (Af (F3 rfl AC AC) ?_)))
 refine AE (AF (Gf p n 4 bs (by decide) AC hb) rfl rfl AG) ?_
 rintro v7 L1 ⟨rfl,rfl⟩
 refine As (C3 _ .nil (AJ ?_))
 exact Aw [Ep p (bs++Br 4 n)] .nil ⟨rfl,rfl⟩ AG
theorem EV (p:Nat)(bs s:List UInt8)(hb:bs.length≤1073741824)(hs:s.length≤1073741824):Spec prog 111 [.pointer (some ⟨p,0,none⟩),.string (str s)] [Ep p bs] (fun r L=>r=.tuple #[]∧L=[Ep p (bs++s)]):=by
 refine Spec.exA' fun v=>?_
 simp only [List.cons_append,List.nil_append]
 refine Spec.ent3 (post:=fun r L=>r=.tuple #[]∧∃ v',L=[B5 p 294 [v'],own 5 1 v' (bs++s).length (Dx (bs++s))]) ?_ (fun r L ⟨h1,v',h2⟩=>⟨[Ep p (bs++s)],by rw [h2]; exact GL,h1,rfl⟩)
 refine Spec.of 15 func111 rfl rfl rfl ?_
 refine Ad (Ah rfl (Af (Ct rfl rfl) (AI [0,1,5] rfl (Tv rfl (Am (Ah rfl (Ah rfl (Af (Al rfl) (Af (Ae rfl) (AM (Ak rfl rfl) (Ah rfl ?_)))))))))))
 refine AE (IW rfl rfl AG (by rw [Di]; omega)) ?_
 rintro v12 c12
 have e1:bs.length+(str s).size=(bs++s).length:=by rw [Di,List.length_append]
 have e2:Dx bs++Dx (str s).data.toList=Dx (bs++s):=by rw [Pg]
 rw [e1,e2]
 refine Af (Al rfl) (Af (Ae rfl) (Bh (Ba rfl rfl rfl) (C3 _ .nil (AJ ?_))))
 exact Aw [B5 p 294 [.slice v12 (bs++s).length c12],own 5 1 (.slice v12 (bs++s).length c12) (bs++s).length (Dx (bs++s))] .nil ⟨rfl,_,rfl⟩ AG
theorem DX (p:Nat)(bs:List UInt8)(_:bs≠[]):Spec prog 112 [.pointer (some ⟨p,0,none⟩)] [Ep p bs] (fun r L=>r=.string (str bs)∧L=[Ep p bs]):=by
 refine Spec.exA' fun v=>?_
 simp only [List.cons_append,List.nil_append]
 refine Spec.ent3 (post:=fun r L=>r=.string (str bs)∧L=[B5 p 294 [v],own 5 1 v bs.length (Dx bs)]) ?_ (fun r L ⟨h1,h2⟩=>⟨[Ep p bs],by rw [h2]; exact GL,h1,rfl⟩)
 refine Spec.of 10 func112 rfl rfl rfl ?_
 refine Ad (Au [0] rfl rfl (Aj (Ad (Ah rfl (Af (Bm rfl rfl) (AI [0,4] rfl (Dw rfl (Ar (Ai (Ad (Ah rfl (Af (Al rfl) (Af (Ae rfl) (AM (Ak rfl rfl) ?_))))))))))))))
 refine AM (H9 bs rfl JU) ?_
 refine Au [2] rfl rfl (Av ?_)
 exact Aw [B5 p 294 [v],own 5 1 v bs.length (Dx bs)] (.tmp rfl .nil) ⟨rfl,rfl⟩ AG
end SX
namespace Go.Proofs
open Go.Shelf
def Tryz.lays125_ren:Go.Shelf.Ren:=⟨fun | 125=>264 | 128=>332 | 129=>333 | n=>n,fun | 46=>372 | 3=>3 | 51=>41 | 53=>215 | 4=>4 | 5=>5 | 9=>9 | n=>n,fun | n=>n⟩
theorem Tryz.lays125:Go.Proofs.Lays.n125 Tryz.prog Tryz.lays125_ren:={
 mixed:=by kernel_rfl
 f125:=Tryz.func264.trans (congrArg some (by kernel_rfl))
 f128:=Tryz.func332.trans (congrArg some (by kernel_rfl))
 f129:=Tryz.func333.trans (congrArg some (by kernel_rfl))
 t3:=Tryz.underlying3
 a3:=Tryz.isAgg3
 z3:=Tryz.sizeOf3
 v3:=Tryz.zeroValue3
 t4:=Tryz.underlying4
 a4:=Tryz.isAgg4
 z4:=Tryz.sizeOf4
 v4:=Tryz.zeroValue4
 t5:=Tryz.underlying5
 a5:=Tryz.isAgg5
 z5:=Tryz.sizeOf5
 v5:=Tryz.zeroValue5
 t9:=Tryz.underlying9
 a9:=Tryz.isAgg9
 z9:=Tryz.sizeOf9
 v9:=Tryz.zeroValue9
 t46:=Tryz.underlying372
 a46:=Tryz.isAgg372
 z46:=Tryz.sizeOf372
 v46:=Tryz.zeroValue372
 t51:=Tryz.underlying41
 a51:=Tryz.isAgg41
 z51:=Tryz.sizeOf41
 v51:=Tryz.zeroValue41
 t53:=Tryz.underlying215
 a53:=Tryz.isAgg215
 z53:=Tryz.sizeOf215
 v53:=Tryz.zeroValue215}
theorem Tryz.bits_Len(x:Int)(w:World)(h0:0≤x)(h1:x≤18446744073709551615) :
  Calls Tryz.prog 264 #[.int .u64 x] w fun e w'=>e=.returned (.int .i64 (Lib.bitLen x.toNat))∧w'=w:=Any.bits_Len Tryz.lays125 x w h0 h1
def Tryz.lays106_ren:Go.Shelf.Ren:=⟨fun | 106=>339 | 213=>376 | 265=>390 | n=>n,fun | 9=>9 | 3=>3 | n=>n,fun | n=>n⟩
theorem Tryz.lays106:Go.Proofs.Lays.n106 Tryz.prog Tryz.lays106_ren:={
 mixed:=by kernel_rfl
 f106:=Tryz.func339.trans (congrArg some (by kernel_rfl))
 f213:=Tryz.func376.trans (congrArg some (by kernel_rfl))
 f265:=Tryz.func390.trans (congrArg some (by kernel_rfl))
 t3:=Tryz.underlying3
 a3:=Tryz.isAgg3
 z3:=Tryz.sizeOf3
 v3:=Tryz.zeroValue3
 t9:=Tryz.underlying9
 a9:=Tryz.isAgg9
 z9:=Tryz.sizeOf9
 v9:=Tryz.zeroValue9}
open Go.RowKit in
theorem Tryz.strings_Compare(a b:ByteArray)(w:World) :
  Calls Tryz.prog 339 #[.string a,.string b] w fun e w'=>e=.returned (.int .i64 (Lib.compareBytes a.data.toList b.data.toList))∧w'=w:=Any.strings_Compare Tryz.lays106 a b w
def Tryz.lays103_ren:Go.Shelf.Ren:=⟨fun | 103=>180 | 210=>265 | 206=>229 | n=>n,fun | 9=>9 | 4=>4 | 24=>112 | 3=>3 | n=>n,fun | n=>n⟩
theorem Tryz.lays103:Go.Proofs.Lays.n103 Tryz.prog Tryz.lays103_ren:={
 mixed:=by kernel_rfl
 f103:=Tryz.func180.trans (congrArg some (by kernel_rfl))
 f206:=Tryz.func229.trans (congrArg some (by kernel_rfl))
 f210:=Tryz.func265.trans (congrArg some (by kernel_rfl))
 t3:=Tryz.underlying3
 a3:=Tryz.isAgg3
 z3:=Tryz.sizeOf3
 v3:=Tryz.zeroValue3
 t4:=Tryz.underlying4
 a4:=Tryz.isAgg4
 z4:=Tryz.sizeOf4
 v4:=Tryz.zeroValue4
 t9:=Tryz.underlying9
 a9:=Tryz.isAgg9
 z9:=Tryz.sizeOf9
 v9:=Tryz.zeroValue9
 t24:=Tryz.underlying112
 a24:=Tryz.isAgg112
 z24:=Tryz.sizeOf112
 v24:=Tryz.zeroValue112}
open Go.RowKit in
theorem Tryz.strings_CutPrefix(s p:ByteArray)(w:World) :
  Calls Tryz.prog 180 #[.string s,.string p] w fun e w'=>e=.returned (.tuple #[.string ⟨(Lib.trimPrefix s.data.toList p.data.toList).toArray⟩,.bool (Lib.hasPrefix s.data.toList p.data.toList)])∧w'=w:=Any.strings_CutPrefix Tryz.lays103 s p w
def Tryz.lays172_ren:Go.Shelf.Ren:=⟨fun | 172=>181 | 244=>266 | 245=>267 | 247=>334 | 279=>335 | 280=>336 | 281=>337 | 282=>338 | 287=>373 | 316=>374 | 171=>173 | 205=>375 | 321=>388 | 322=>389 | 243=>260 | 246=>322 | 283=>363 | 284=>364 | 285=>365 | 286=>366 | 129=>333 | 317=>383 | 318=>384 | 319=>385 | 320=>386 | 337=>393 | 338=>344 | n=>n,fun | 9=>9 | 3=>3 | 75=>283 | 76=>284 | 4=>4 | 5=>5 | 167=>449 | 37=>28 | 0=>0 | 85=>450 | 2=>2 | 168=>452 | 53=>215 | 175=>489 | 46=>372 | 210=>493 | 127=>509 | 145=>512 | 143=>510 | 21=>21 | 171=>479 | 173=>481 | 212=>503 | 51=>41 | 20=>20 | 213=>504 | 232=>515 | 233=>496 | 80=>217 | n=>n,fun | 15=>0 | 16=>1 | 17=>3 | 18=>5 | 19=>2 | n=>n⟩
theorem Tryz.lays172:Go.Proofs.Lays.n172 Tryz.prog Tryz.lays172_ren:={
 mixed:=by kernel_rfl
 f129:=Tryz.func333.trans (congrArg some (by kernel_rfl))
 f171:=Tryz.func173.trans (congrArg some (by kernel_rfl))
 f172:=Tryz.func181.trans (congrArg some (by kernel_rfl))
 f205:=Tryz.func375.trans (congrArg some (by kernel_rfl))
 f243:=Tryz.func260.trans (congrArg some (by kernel_rfl))
 f244:=Tryz.func266.trans (congrArg some (by kernel_rfl))
 f245:=Tryz.func267.trans (congrArg some (by kernel_rfl))
 f246:=Tryz.func322.trans (congrArg some (by kernel_rfl))
 f247:=Tryz.func334.trans (congrArg some (by kernel_rfl))
 f279:=Tryz.func335.trans (congrArg some (by kernel_rfl))
 f280:=Tryz.func336.trans (congrArg some (by kernel_rfl))
 f281:=Tryz.func337.trans (congrArg some (by kernel_rfl))
 f282:=Tryz.func338.trans (congrArg some (by kernel_rfl))
 f283:=Tryz.func363.trans (congrArg some (by kernel_rfl))
 f284:=Tryz.func364.trans (congrArg some (by kernel_rfl))
 f285:=Tryz.func365.trans (congrArg some (by kernel_rfl))
 f286:=Tryz.func366.trans (congrArg some (by kernel_rfl))
 f287:=Tryz.func373.trans (congrArg some (by kernel_rfl))
 f316:=Tryz.func374.trans (congrArg some (by kernel_rfl))
 f317:=Tryz.func383.trans (congrArg some (by kernel_rfl))
 f318:=Tryz.func384.trans (congrArg some (by kernel_rfl))
 f319:=Tryz.func385.trans (congrArg some (by kernel_rfl))
 f320:=Tryz.func386.trans (congrArg some (by kernel_rfl))
 f321:=Tryz.func388.trans (congrArg some (by kernel_rfl))
 f322:=Tryz.func389.trans (congrArg some (by kernel_rfl))
 f337:=Tryz.func393.trans (congrArg some (by kernel_rfl))
 f338:=Tryz.func344.trans (congrArg some (by kernel_rfl))
 t0:=Tryz.underlying0
 a0:=Tryz.isAgg0
 z0:=Tryz.sizeOf0
 v0:=Tryz.zeroValue0
 t2:=Tryz.underlying2
 a2:=Tryz.isAgg2
 z2:=Tryz.sizeOf2
 v2:=Tryz.zeroValue2
 t3:=Tryz.underlying3
 a3:=Tryz.isAgg3
 z3:=Tryz.sizeOf3
 v3:=Tryz.zeroValue3
 t4:=Tryz.underlying4
 a4:=Tryz.isAgg4
 z4:=Tryz.sizeOf4
 v4:=Tryz.zeroValue4
 t5:=Tryz.underlying5
 a5:=Tryz.isAgg5
 z5:=Tryz.sizeOf5
 v5:=Tryz.zeroValue5
 t9:=Tryz.underlying9
 a9:=Tryz.isAgg9
 z9:=Tryz.sizeOf9
 v9:=Tryz.zeroValue9
 t20:=Tryz.underlying20
 a20:=Tryz.isAgg20
 z20:=Tryz.sizeOf20
 v20:=Tryz.zeroValue20
 t21:=Tryz.underlying21
 a21:=Tryz.isAgg21
 z21:=Tryz.sizeOf21
 v21:=Tryz.zeroValue21
 t37:=Tryz.underlying28
 a37:=Tryz.isAgg28
 z37:=Tryz.sizeOf28
 v37:=Tryz.zeroValue28
 t46:=Tryz.underlying372
 a46:=Tryz.isAgg372
 z46:=Tryz.sizeOf372
 v46:=Tryz.zeroValue372
 t51:=Tryz.underlying41
 a51:=Tryz.isAgg41
 z51:=Tryz.sizeOf41
 v51:=Tryz.zeroValue41
 t53:=Tryz.underlying215
 a53:=Tryz.isAgg215
 z53:=Tryz.sizeOf215
 v53:=Tryz.zeroValue215
 t75:=Tryz.underlying283
 a75:=Tryz.isAgg283
 z75:=Tryz.sizeOf283
 v75:=Tryz.zeroValue283
 t76:=Tryz.underlying284
 a76:=Tryz.isAgg284
 z76:=Tryz.sizeOf284
 v76:=Tryz.zeroValue284
 t85:=Tryz.underlying450
 a85:=Tryz.isAgg450
 z85:=Tryz.sizeOf450
 v85:=Tryz.zeroValue450
 t127:=Tryz.underlying509
 a127:=Tryz.isAgg509
 z127:=Tryz.sizeOf509
 v127:=Tryz.zeroValue509
 t143:=Tryz.underlying510
 a143:=Tryz.isAgg510
 z143:=Tryz.sizeOf510
 v143:=Tryz.zeroValue510
 t145:=Tryz.underlying512
 a145:=Tryz.isAgg512
 z145:=Tryz.sizeOf512
 v145:=Tryz.zeroValue512
 t167:=Tryz.underlying449
 a167:=Tryz.isAgg449
 z167:=Tryz.sizeOf449
 v167:=Tryz.zeroValue449
 t168:=Tryz.underlying452
 a168:=Tryz.isAgg452
 z168:=Tryz.sizeOf452
 v168:=Tryz.zeroValue452
 t171:=Tryz.underlying479
 a171:=Tryz.isAgg479
 z171:=Tryz.sizeOf479
 v171:=Tryz.zeroValue479
 t173:=Tryz.underlying481
 a173:=Tryz.isAgg481
 z173:=Tryz.sizeOf481
 v173:=Tryz.zeroValue481
 t175:=Tryz.underlying489
 a175:=Tryz.isAgg489
 z175:=Tryz.sizeOf489
 v175:=Tryz.zeroValue489
 t210:=Tryz.underlying493
 a210:=Tryz.isAgg493
 z210:=Tryz.sizeOf493
 v210:=Tryz.zeroValue493
 t212:=Tryz.underlying503
 a212:=Tryz.isAgg503
 z212:=Tryz.sizeOf503
 v212:=Tryz.zeroValue503
 t213:=Tryz.underlying504
 a213:=Tryz.isAgg504
 z213:=Tryz.sizeOf504
 t232:=Tryz.underlying515
 a232:=Tryz.isAgg515
 z232:=Tryz.sizeOf515
 v232:=Tryz.zeroValue515
 t233:=Tryz.underlying496
 a233:=Tryz.isAgg496
 z233:=Tryz.sizeOf496
 v233:=Tryz.zeroValue496
 g15:=by kernel_rfl
 g16:=by kernel_rfl
 g17:=by kernel_rfl
 g18:=by kernel_rfl
 g19:=by kernel_rfl}
open Go.RowKit in
theorem Tryz.strconv_Atoi(s:ByteArray)(n:Int)(hl:s.size≤18)(h:Lib.atoi s.data.toList=some n)(w:World) :
  Calls Tryz.prog 181 #[.string s] w fun e w'=>e=.returned (.tuple #[.int .i64 n,.nilIface])∧∃ t,w'=Lib.bytesWorld w 5 t:=Any.strconv_Atoi Tryz.lays172 s n hl h w
def Tryz.lays171_ren:Go.Shelf.Ren:=⟨fun | 171=>173 | 243=>260 | 246=>322 | 283=>363 | 284=>364 | 285=>365 | 286=>366 | 129=>333 | 317=>383 | 318=>384 | 319=>385 | 320=>386 | 337=>393 | 338=>344 | n=>n,fun | 3=>3 | 9=>9 | 2=>2 | 4=>4 | 171=>479 | 0=>0 | 53=>215 | 37=>28 | 5=>5 | 173=>481 | 212=>503 | 51=>41 | 20=>20 | 213=>504 | 46=>372 | 232=>515 | 233=>496 | n=>n,fun | 17=>3 | 18=>5 | 19=>2 | n=>n⟩
theorem Tryz.lays171:Go.Proofs.Lays.n171 Tryz.prog Tryz.lays171_ren:={
 mixed:=by kernel_rfl
 f129:=Tryz.func333.trans (congrArg some (by kernel_rfl))
 f171:=Tryz.func173.trans (congrArg some (by kernel_rfl))
 f243:=Tryz.func260.trans (congrArg some (by kernel_rfl))
 f246:=Tryz.func322.trans (congrArg some (by kernel_rfl))
 f283:=Tryz.func363.trans (congrArg some (by kernel_rfl))
 f284:=Tryz.func364.trans (congrArg some (by kernel_rfl))
 f285:=Tryz.func365.trans (congrArg some (by kernel_rfl))
 f286:=Tryz.func366.trans (congrArg some (by kernel_rfl))
 f317:=Tryz.func383.trans (congrArg some (by kernel_rfl))
 f318:=Tryz.func384.trans (congrArg some (by kernel_rfl))
 f319:=Tryz.func385.trans (congrArg some (by kernel_rfl))
 f320:=Tryz.func386.trans (congrArg some (by kernel_rfl))
 f337:=Tryz.func393.trans (congrArg some (by kernel_rfl))
 f338:=Tryz.func344.trans (congrArg some (by kernel_rfl))
 t0:=Tryz.underlying0
 a0:=Tryz.isAgg0
 z0:=Tryz.sizeOf0
 v0:=Tryz.zeroValue0
 t2:=Tryz.underlying2
 a2:=Tryz.isAgg2
 z2:=Tryz.sizeOf2
 v2:=Tryz.zeroValue2
 t3:=Tryz.underlying3
 a3:=Tryz.isAgg3
 z3:=Tryz.sizeOf3
 v3:=Tryz.zeroValue3
 t4:=Tryz.underlying4
 a4:=Tryz.isAgg4
 z4:=Tryz.sizeOf4
 v4:=Tryz.zeroValue4
 t5:=Tryz.underlying5
 a5:=Tryz.isAgg5
 z5:=Tryz.sizeOf5
 v5:=Tryz.zeroValue5
 t9:=Tryz.underlying9
 a9:=Tryz.isAgg9
 z9:=Tryz.sizeOf9
 v9:=Tryz.zeroValue9
 t20:=Tryz.underlying20
 a20:=Tryz.isAgg20
 z20:=Tryz.sizeOf20
 v20:=Tryz.zeroValue20
 t37:=Tryz.underlying28
 a37:=Tryz.isAgg28
 z37:=Tryz.sizeOf28
 v37:=Tryz.zeroValue28
 t46:=Tryz.underlying372
 a46:=Tryz.isAgg372
 z46:=Tryz.sizeOf372
 v46:=Tryz.zeroValue372
 t51:=Tryz.underlying41
 a51:=Tryz.isAgg41
 z51:=Tryz.sizeOf41
 v51:=Tryz.zeroValue41
 t53:=Tryz.underlying215
 a53:=Tryz.isAgg215
 z53:=Tryz.sizeOf215
 v53:=Tryz.zeroValue215
 t171:=Tryz.underlying479
 a171:=Tryz.isAgg479
 z171:=Tryz.sizeOf479
 v171:=Tryz.zeroValue479
 t173:=Tryz.underlying481
 a173:=Tryz.isAgg481
 z173:=Tryz.sizeOf481
 v173:=Tryz.zeroValue481
 t212:=Tryz.underlying503
 a212:=Tryz.isAgg503
 z212:=Tryz.sizeOf503
 v212:=Tryz.zeroValue503
 t213:=Tryz.underlying504
 a213:=Tryz.isAgg504
 z213:=Tryz.sizeOf504
 t232:=Tryz.underlying515
 a232:=Tryz.isAgg515
 z232:=Tryz.sizeOf515
 v232:=Tryz.zeroValue515
 t233:=Tryz.underlying496
 a233:=Tryz.isAgg496
 z233:=Tryz.sizeOf496
 v233:=Tryz.zeroValue496
 g17:=by kernel_rfl
 g18:=by kernel_rfl
 g19:=by kernel_rfl}
open Go.RowKit Go.Sort Go.Lib in
theorem Tryz.strconv_Itoa_small(i:Nat)(hi:i<100)(w:World) :
  Calls Tryz.prog 173 #[.int .i64 i] w fun e w'=>e=.returned (.string ⟨(Lib.decDigits i).toArray⟩)∧w'=w:=Any.strconv_Itoa_small Tryz.lays171 i hi w
def Tryz.laysC172_ren:Go.Shelf.Ren:=⟨fun | 172=>181 | 244=>266 | 245=>267 | 247=>334 | 279=>335 | 280=>336 | 281=>337 | 282=>338 | 287=>373 | 316=>374 | 171=>173 | 205=>375 | 321=>388 | 322=>389 | 243=>260 | 246=>322 | 283=>363 | 284=>364 | 285=>365 | 286=>366 | 129=>333 | 317=>383 | 318=>384 | 319=>385 | 320=>386 | 337=>393 | 338=>344 | n=>n,fun | 9=>9 | 3=>3 | 75=>283 | 76=>284 | 4=>4 | 5=>5 | 167=>449 | 37=>28 | 0=>0 | 85=>450 | 2=>2 | 168=>452 | 53=>215 | 175=>489 | 46=>372 | 210=>493 | 127=>509 | 145=>512 | 143=>510 | 21=>21 | 171=>479 | 173=>481 | 212=>503 | 51=>41 | 20=>20 | 213=>504 | 232=>515 | 233=>496 | 80=>217 | n=>n,fun | 15=>0 | 16=>1 | 17=>3 | 18=>5 | 19=>2 | n=>n⟩
theorem Tryz.laysC172:Go.Proofs.LaysC.n172 Tryz.prog Tryz.laysC172_ren:={
 mixed:=by kernel_rfl
 f129:=Tryz.func333.trans (congrArg some (by kernel_rfl))
 f171:=Tryz.func173.trans (congrArg some (by kernel_rfl))
 f172:=Tryz.func181.trans (congrArg some (by kernel_rfl))
 f205:=Tryz.func375.trans (congrArg some (by kernel_rfl))
 f243:=Tryz.func260.trans (congrArg some (by kernel_rfl))
 f244:=Tryz.func266.trans (congrArg some (by kernel_rfl))
 f245:=Tryz.func267.trans (congrArg some (by kernel_rfl))
 f246:=Tryz.func322.trans (congrArg some (by kernel_rfl))
 f247:=Tryz.func334.trans (congrArg some (by kernel_rfl))
 f279:=Tryz.func335.trans (congrArg some (by kernel_rfl))
 f280:=Tryz.func336.trans (congrArg some (by kernel_rfl))
 f281:=Tryz.func337.trans (congrArg some (by kernel_rfl))
 f282:=Tryz.func338.trans (congrArg some (by kernel_rfl))
 f283:=Tryz.func363.trans (congrArg some (by kernel_rfl))
 f284:=Tryz.func364.trans (congrArg some (by kernel_rfl))
 f285:=Tryz.func365.trans (congrArg some (by kernel_rfl))
 f286:=Tryz.func366.trans (congrArg some (by kernel_rfl))
 f287:=Tryz.func373.trans (congrArg some (by kernel_rfl))
 f316:=Tryz.func374.trans (congrArg some (by kernel_rfl))
 f317:=Tryz.func383.trans (congrArg some (by kernel_rfl))
 f318:=Tryz.func384.trans (congrArg some (by kernel_rfl))
 f319:=Tryz.func385.trans (congrArg some (by kernel_rfl))
 f320:=Tryz.func386.trans (congrArg some (by kernel_rfl))
 f321:=Tryz.func388.trans (congrArg some (by kernel_rfl))
 f322:=Tryz.func389.trans (congrArg some (by kernel_rfl))
 f337:=Tryz.func393.trans (congrArg some (by kernel_rfl))
 f338:=Tryz.func344.trans (congrArg some (by kernel_rfl))
 t0:=Tryz.underlying0
 a0:=Tryz.isAgg0
 z0:=Tryz.sizeOf0
 v0:=Tryz.zeroValue0
 t2:=Tryz.underlying2
 a2:=Tryz.isAgg2
 z2:=Tryz.sizeOf2
 v2:=Tryz.zeroValue2
 t3:=Tryz.underlying3
 a3:=Tryz.isAgg3
 z3:=Tryz.sizeOf3
 v3:=Tryz.zeroValue3
 t4:=Tryz.underlying4
 a4:=Tryz.isAgg4
 z4:=Tryz.sizeOf4
 v4:=Tryz.zeroValue4
 t5:=Tryz.underlying5
 a5:=Tryz.isAgg5
 z5:=Tryz.sizeOf5
 v5:=Tryz.zeroValue5
 t9:=Tryz.underlying9
 a9:=Tryz.isAgg9
 z9:=Tryz.sizeOf9
 v9:=Tryz.zeroValue9
 t20:=Tryz.underlying20
 a20:=Tryz.isAgg20
 z20:=Tryz.sizeOf20
 v20:=Tryz.zeroValue20
 t21:=Tryz.underlying21
 a21:=Tryz.isAgg21
 z21:=Tryz.sizeOf21
 v21:=Tryz.zeroValue21
 t37:=Tryz.underlying28
 a37:=Tryz.isAgg28
 z37:=Tryz.sizeOf28
 v37:=Tryz.zeroValue28
 t46:=Tryz.underlying372
 a46:=Tryz.isAgg372
 z46:=Tryz.sizeOf372
 v46:=Tryz.zeroValue372
 t51:=Tryz.underlying41
 a51:=Tryz.isAgg41
 z51:=Tryz.sizeOf41
 v51:=Tryz.zeroValue41
 t53:=Tryz.underlying215
 a53:=Tryz.isAgg215
 z53:=Tryz.sizeOf215
 v53:=Tryz.zeroValue215
 t75:=Tryz.underlying283
 a75:=Tryz.isAgg283
 z75:=Tryz.sizeOf283
 v75:=Tryz.zeroValue283
 t76:=Tryz.underlying284
 a76:=Tryz.isAgg284
 z76:=Tryz.sizeOf284
 v76:=Tryz.zeroValue284
 t85:=Tryz.underlying450
 a85:=Tryz.isAgg450
 z85:=Tryz.sizeOf450
 v85:=Tryz.zeroValue450
 t127:=Tryz.underlying509
 a127:=Tryz.isAgg509
 z127:=Tryz.sizeOf509
 v127:=Tryz.zeroValue509
 t143:=Tryz.underlying510
 a143:=Tryz.isAgg510
 z143:=Tryz.sizeOf510
 v143:=Tryz.zeroValue510
 t145:=Tryz.underlying512
 a145:=Tryz.isAgg512
 z145:=Tryz.sizeOf512
 v145:=Tryz.zeroValue512
 t167:=Tryz.underlying449
 a167:=Tryz.isAgg449
 z167:=Tryz.sizeOf449
 v167:=Tryz.zeroValue449
 t168:=Tryz.underlying452
 a168:=Tryz.isAgg452
 z168:=Tryz.sizeOf452
 v168:=Tryz.zeroValue452
 t171:=Tryz.underlying479
 a171:=Tryz.isAgg479
 z171:=Tryz.sizeOf479
 v171:=Tryz.zeroValue479
 t173:=Tryz.underlying481
 a173:=Tryz.isAgg481
 z173:=Tryz.sizeOf481
 v173:=Tryz.zeroValue481
 t175:=Tryz.underlying489
 a175:=Tryz.isAgg489
 z175:=Tryz.sizeOf489
 v175:=Tryz.zeroValue489
 t210:=Tryz.underlying493
 a210:=Tryz.isAgg493
 z210:=Tryz.sizeOf493
 v210:=Tryz.zeroValue493
 t212:=Tryz.underlying503
 a212:=Tryz.isAgg503
 z212:=Tryz.sizeOf503
 v212:=Tryz.zeroValue503
 t213:=Tryz.underlying504
 a213:=Tryz.isAgg504
 z213:=Tryz.sizeOf504
 t232:=Tryz.underlying515
 a232:=Tryz.isAgg515
 z232:=Tryz.sizeOf515
 v232:=Tryz.zeroValue515
 t233:=Tryz.underlying496
 a233:=Tryz.isAgg496
 z233:=Tryz.sizeOf496
 v233:=Tryz.zeroValue496
 g15:=by kernel_rfl
 g16:=by kernel_rfl
 g17:=by kernel_rfl
 g18:=by kernel_rfl
 g19:=by kernel_rfl
 t80:=Tryz.underlying217
 a80:=Tryz.isAgg217
 z80:=Tryz.sizeOf217
 v80:=Tryz.zeroValue217
 i0:=by kernel_rfl
 i2:=by kernel_rfl
 i3:=by kernel_rfl
 i4:=by kernel_rfl
 i5:=by kernel_rfl
 i9:=by kernel_rfl
 i20:=by kernel_rfl
 i21:=by kernel_rfl
 i37:=by kernel_rfl
 i46:=by kernel_rfl
 i51:=by kernel_rfl
 i53:=by kernel_rfl
 i75:=by kernel_rfl
 i76:=by kernel_rfl
 i80:=by kernel_rfl
 i85:=by kernel_rfl
 i127:=by kernel_rfl
 i143:=by kernel_rfl
 i145:=by kernel_rfl
 i167:=by kernel_rfl
 i168:=by kernel_rfl
 i171:=by kernel_rfl
 i173:=by kernel_rfl
 i175:=by kernel_rfl
 i210:=by kernel_rfl
 i212:=by kernel_rfl
 i232:=by kernel_rfl
 i233:=by kernel_rfl
 m15:=by kernel_rfl
 m16:=by kernel_rfl
 m17:=by kernel_rfl
 m18:=by kernel_rfl
 m19:=by kernel_rfl
 c0:=by kernel_rfl
 c2:=by kernel_rfl
 c3:=by kernel_rfl
 c4:=by kernel_rfl
 c5:=by kernel_rfl
 c9:=by kernel_rfl
 c20:=by kernel_rfl
 c21:=by kernel_rfl
 c37:=by kernel_rfl
 c46:=by kernel_rfl
 c51:=by kernel_rfl
 c53:=by kernel_rfl
 c75:=by kernel_rfl
 c76:=by kernel_rfl
 c80:=by kernel_rfl
 c85:=by kernel_rfl
 c127:=by kernel_rfl
 c143:=by kernel_rfl
 c145:=by kernel_rfl
 c167:=by kernel_rfl
 c168:=by kernel_rfl
 c171:=by kernel_rfl
 c173:=by kernel_rfl
 c175:=by kernel_rfl
 c210:=by kernel_rfl
 c212:=by kernel_rfl
 c213:=by kernel_rfl
 c232:=by kernel_rfl
 c233:=by kernel_rfl}
open Go.RowKit in
theorem Tryz.strconv_Atoi_err(s:ByteArray)(hl:s.size≤18)(h:Lib.atoi s.data.toList=none)(ev:Value)(w:World)(hv:w.cell? ⟨0,0,none⟩=some ev)(hev:ev=.nilIface∨∃ te pe,ev=.iface te pe) :
  Calls Tryz.prog 181 #[.string s] w fun e w'=>∃ N,e=.returned (.tuple #[.int .i64 0,.iface 452 (.pointer (some ⟨N,0,none⟩))])∧w.heap.size≤N∧w'.heap[N]? = some (.cells #[.string ⟨#[65,116,111,105]⟩,.string s,ev] 493 (0,0))∧Below w.heap.size w w':=Any.strconv_Atoi_err Tryz.laysC172 s hl h ev w hv hev
def Tryz.lays190_ren:Go.Shelf.Ren:=⟨fun | 190=>179 | 125=>264 | 258=>263 | 128=>332 | 129=>333 | 302=>323 | 303=>324 | 304=>325 | 305=>326 | 306=>327 | 307=>328 | 308=>329 | 309=>330 | 310=>331 | 333=>367 | 329=>368 | 330=>369 | 334=>370 | 335=>371 | 336=>372 | 344=>387 | n=>n,fun | 31=>196 | 9=>9 | 3=>3 | 46=>372 | 0=>0 | 51=>41 | 53=>215 | 4=>4 | 183=>442 | 182=>441 | 131=>198 | 5=>5 | 218=>483 | 222=>487 | 228=>505 | 229=>506 | n=>n,fun | n=>n⟩
theorem Tryz.lays190:Go.Proofs.Lays.n190 Tryz.prog Tryz.lays190_ren:={
 mixed:=by kernel_rfl
 f125:=Tryz.func264.trans (congrArg some (by kernel_rfl))
 f128:=Tryz.func332.trans (congrArg some (by kernel_rfl))
 f129:=Tryz.func333.trans (congrArg some (by kernel_rfl))
 f190:=Tryz.func179.trans (congrArg some (by kernel_rfl))
 f258:=Tryz.func263.trans (congrArg some (by kernel_rfl))
 f302:=Tryz.func323.trans (congrArg some (by kernel_rfl))
 f303:=Tryz.func324.trans (congrArg some (by kernel_rfl))
 f304:=Tryz.func325.trans (congrArg some (by kernel_rfl))
 f305:=Tryz.func326.trans (congrArg some (by kernel_rfl))
 f306:=Tryz.func327.trans (congrArg some (by kernel_rfl))
 f307:=Tryz.func328.trans (congrArg some (by kernel_rfl))
 f308:=Tryz.func329.trans (congrArg some (by kernel_rfl))
 f309:=Tryz.func330.trans (congrArg some (by kernel_rfl))
 f310:=Tryz.func331.trans (congrArg some (by kernel_rfl))
 f329:=Tryz.func368.trans (congrArg some (by kernel_rfl))
 f330:=Tryz.func369.trans (congrArg some (by kernel_rfl))
 f333:=Tryz.func367.trans (congrArg some (by kernel_rfl))
 f334:=Tryz.func370.trans (congrArg some (by kernel_rfl))
 f335:=Tryz.func371.trans (congrArg some (by kernel_rfl))
 f336:=Tryz.func372.trans (congrArg some (by kernel_rfl))
 f344:=Tryz.func387.trans (congrArg some (by kernel_rfl))
 t0:=Tryz.underlying0
 a0:=Tryz.isAgg0
 z0:=Tryz.sizeOf0
 v0:=Tryz.zeroValue0
 t3:=Tryz.underlying3
 a3:=Tryz.isAgg3
 z3:=Tryz.sizeOf3
 v3:=Tryz.zeroValue3
 t4:=Tryz.underlying4
 a4:=Tryz.isAgg4
 z4:=Tryz.sizeOf4
 v4:=Tryz.zeroValue4
 t5:=Tryz.underlying5
 a5:=Tryz.isAgg5
 z5:=Tryz.sizeOf5
 v5:=Tryz.zeroValue5
 t9:=Tryz.underlying9
 a9:=Tryz.isAgg9
 z9:=Tryz.sizeOf9
 v9:=Tryz.zeroValue9
 t31:=Tryz.underlying196
 a31:=Tryz.isAgg196
 z31:=Tryz.sizeOf196
 v31:=Tryz.zeroValue196
 t46:=Tryz.underlying372
 a46:=Tryz.isAgg372
 z46:=Tryz.sizeOf372
 v46:=Tryz.zeroValue372
 t51:=Tryz.underlying41
 a51:=Tryz.isAgg41
 z51:=Tryz.sizeOf41
 v51:=Tryz.zeroValue41
 t53:=Tryz.underlying215
 a53:=Tryz.isAgg215
 z53:=Tryz.sizeOf215
 v53:=Tryz.zeroValue215
 t131:=Tryz.underlying198
 a131:=Tryz.isAgg198
 z131:=Tryz.sizeOf198
 v131:=Tryz.zeroValue198
 t182:=Tryz.underlying441
 a182:=Tryz.isAgg441
 z182:=Tryz.sizeOf441
 v182:=Tryz.zeroValue441
 t183:=Tryz.underlying442
 a183:=Tryz.isAgg442
 z183:=Tryz.sizeOf442
 v183:=Tryz.zeroValue442
 t218:=Tryz.underlying483
 a218:=Tryz.isAgg483
 z218:=Tryz.sizeOf483
 v218:=Tryz.zeroValue483
 t222:=Tryz.underlying487
 a222:=Tryz.isAgg487
 z222:=Tryz.sizeOf487
 v222:=Tryz.zeroValue487
 t228:=Tryz.underlying505
 a228:=Tryz.isAgg505
 z228:=Tryz.sizeOf505
 v228:=Tryz.zeroValue505
 t229:=Tryz.underlying506
 a229:=Tryz.isAgg506
 z229:=Tryz.sizeOf506
 v229:=Tryz.zeroValue506}
open Go.Sort Go.RowKit in
theorem Tryz.slices_Sort_string(B5 off cap:Nat)(ss:List (List UInt8))(w:World)(hH:Holds encStr w B5 off ss.toArray)(hblk:B5<w.heap.size)(hsz:ss.length<4611686018427387904) :
  Calls Tryz.prog 179 #[.slice (some ⟨B5,off,none⟩) ss.length cap] w fun e w' =>
   e=.returned (.tuple #[])∧∃ n os,w'=grow (putRow encStr (Sort.ahead w n) B5 off (ss.mergeSort fun x y=>decide (x≤y)).toArray) os:=Any.slices_Sort_string Tryz.lays190 B5 off cap ss w hH hblk hsz
def Tryz.lays194_ren:Go.Shelf.Ren:=⟨fun | 194=>349 | n=>n,fun | 31=>196 | 9=>9 | 3=>3 | 4=>4 | 0=>0 | n=>n,fun | n=>n⟩
theorem Tryz.lays194:Go.Proofs.Lays.n194 Tryz.prog Tryz.lays194_ren:={
 mixed:=by kernel_rfl
 f194:=Tryz.func349.trans (congrArg some (by kernel_rfl))
 t0:=Tryz.underlying0
 a0:=Tryz.isAgg0
 z0:=Tryz.sizeOf0
 v0:=Tryz.zeroValue0
 t3:=Tryz.underlying3
 a3:=Tryz.isAgg3
 z3:=Tryz.sizeOf3
 v3:=Tryz.zeroValue3
 t4:=Tryz.underlying4
 a4:=Tryz.isAgg4
 z4:=Tryz.sizeOf4
 v4:=Tryz.zeroValue4
 t9:=Tryz.underlying9
 a9:=Tryz.isAgg9
 z9:=Tryz.sizeOf9
 v9:=Tryz.zeroValue9
 t31:=Tryz.underlying196
 a31:=Tryz.isAgg196
 z31:=Tryz.sizeOf196
 v31:=Tryz.zeroValue196}
open Go.RowKit Go.Lib Go.Sort in
theorem Tryz.slices_Compact_string(B5 off cap:Nat)(zs:List (List UInt8))(w:World)(hH:Holds encStr w B5 off zs.toArray)(hsz:zs.length≤9223372036854775807)(hcap:zs.length≤cap) :
  Calls Tryz.prog 349 #[.slice (some ⟨B5,off,none⟩) zs.length cap] w fun e w'=>e=.returned (.slice (some ⟨B5,off,none⟩) (Lib.compact zs).length cap)∧∃ q,w'=putRow encStr (Sort.ahead w q) B5 off (Lib.compact zs++List.replicate (zs.length-(Lib.compact zs).length) []).toArray:=Any.slices_Compact_string Tryz.lays194 B5 off cap zs w hH hsz hcap
open Go.RowKit Go.Lib Go.Sort in
theorem Tryz.slices_Compact_string_empty(a:Option Addr)(cap:Nat)(w:World) :
  Calls Tryz.prog 349 #[.slice a 0 cap] w fun e w'=>e=.returned (.slice a 0 cap)∧w'=w:=Any.slices_Compact_string_empty Tryz.lays194 a cap w
open Go.RowKit Go.Sort in
theorem Tryz.slices_Sort_string_none(p:Option Addr)(cap:Nat)(w:World) :
  Calls Tryz.prog 179 #[.slice p 0 cap] w fun e w'=>e=.returned (.tuple #[])∧w'=w:=Any.slices_Sort_string_none Tryz.lays190 p cap w
end Go.Proofs
namespace SX
open Go Go.Proofs Go.Proofs.Tryz
theorem Spec.ofCalls{f:FuncId}{args:List Value}{v:Value}(h:∀ w,Calls prog f args.toArray w fun e w'=>e=.returned v∧w'=w):Spec prog f args [] (fun r L=>r=v∧L=[]):=fun _ w hw =>
 (h w).mono fun _ _ ⟨e1,e2⟩=>⟨v,[],e1,⟨rfl,rfl⟩,e2▸hw⟩
theorem XU (a b:ByteArray):Spec prog 339 [.string a,.string b] [] (fun v L=>v=.int .i64 (RM a b)∧L=[]):=Spec.ofCalls fun w=>strings_Compare a b w
theorem I8 (e:En)(p:ByteArray):Spec prog 268 [.agg (Je e).toArray,.string p] [] (fun v L=>v=.int .i64 (RM e.1 p)∧L=[]):=by
 refine Spec.of 9 func268 rfl rfl rfl ?_
 refine Ad (AE (Bp rfl rfl) (fun b2=>?_))
 refine Au [1,2] rfl rfl (Ad (Af (Ae rfl) (AM (Ak rfl rfl) (Ah rfl ?_))))
 refine AE (AF (XU _ _) rfl rfl AG) ?_
 rintro v L1 ⟨rfl,rfl⟩
 refine As (Au [4] rfl rfl (Av ?_))
 exact Aw [] (.tmp rfl .nil) ⟨rfl,rfl⟩ AG
theorem ZL {t u:TypeId}{x y:Operand}{ky:IntKind}{n:Nat}{env:CA}(hx:AO env x=some (.int .u64 (n:Nat)))(hy:AO env y=some (.int ky ((1:Nat):Int)))(hn:n<18446744073709551616):Pu prog env (.binOp .shr t x y u) (.int .u64 ((n / 2:Nat):Int)):=by
 have hw:=WS n hn
 have:=Gt (P:=prog) (t:=t) (u:=u) (a:=BitVec.ofNat 64 n) (n:=1) (by rw [hw]; exact hx) hy (by decide)
 rw [BitVec.toNat_ushiftRight,BitVec.toNat_ofNat,Nat.mod_eq_of_lt (by simpa using hn),Nat.shiftRight_eq_div_pow] at this
 exact this
theorem Dc {μ:PH}{v:Value}{l:List En}(h:Row μ v 2 l.length (Ci l)){i:Nat}{e:En}(hi:l[i]? = some e):∃ b off cap,v=.slice (some ⟨b,off,none⟩) l.length cap∧RowAt μ b (off+i*2) (Je e)∧CellAt μ b (off+i*2) (.string e.1)∧CellAt μ b (off+i*2+1) (.int .u32 e.2):=by
 have hl:=(List.getElem?_eq_some_iff.1 hi).1
 obtain ⟨b,off,cap,hv,_,_,hr⟩:=h.pos AC
 have hr':=hr.elem Q4 hi
 exact ⟨b,off,cap,hv,hr',by have:=hr' 0 _ rfl; rwa [Nat.add_zero] at this,hr' 1 _ rfl⟩
set_option maxHeartbeats 1000000 in
theorem XV (μ:PH)(v:Value)(l:List En)(p:ByteArray)(h:Row μ v 2 l.length (Ci l))(hsz:l.length≤1048576):Spec prog 350 [v,.string p,.func (.func 268) #[] #[]] [ro μ] (fun r L=>r=.tuple #[.int .i64 (UD l p:Nat),.bool (match l[UD l p]? with | some e=>Bt e.1 p | none=>false)]∧L=[ro μ]):=by
 have hsm:=h.small
 refine Spec.of 49 func350 rfl rfl rfl ?_
 refine Ad (B2 rfl (Au [0,1,2] rfl rfl (Ad (Ah rfl (Af (AW h rfl) (Au [0,1,2,8] rfl rfl (Ad (Ah rfl (B2 rfl (Au [0,1,2,8,9,10] rfl rfl (Aj (AB ?_))))))))))))
 refine B4 (ι:=Nat×Nat) (fun k env L=>env=[(0,v),(1,.string p),(2,.func (.func 268) #[] #[]),(8,.int .i64 (l.length:Nat)),(9,.int .i64 (k.1:Nat)),(10,.int .i64 (k.2:Nat))]∧L=[ro μ]∧k.1≤k.2∧k.2≤l.length∧TC l p k.1 k.2=UD l p) (fun k=>k.2-k.1) (0,l.length) ⟨rfl,rfl,Nat.zero_le _,Nat.le_refl _,rfl⟩ ?_
 rintro ⟨i,j⟩ env L ⟨rfl,rfl,hij,hj,hbs⟩
 simp only [] at hij hj hbs
 dsimp only
 refine Aj (Ad (Ah rfl (Ah rfl (Af (Be rfl rfl) (AI [0,1,2,8,9,10,17] rfl ?_)))))
 refine Aq rfl (fun h17=>?_) (fun h17=>?_)
 ·have h17':i<j:=by have:=of_decide_eq_true h17; omega
  have hm:(i+j) / 2<l.length:=by omega
  obtain ⟨e,he⟩:∃ e,l[(i+j) / 2]? = some e:=⟨_,List.getElem?_eq_getElem hm⟩
  obtain ⟨gb,off,cap,hv,hra,hc0,hc1⟩:=Dc h he
  refine Ar (Ai (AB (Ad (Ah rfl (Ah rfl (Af (AQ ((i+j:Nat):Int) rfl rfl AC AC AC) (Af (F3 rfl AC AC) (Af (ZL rfl rfl AC) (Af (DP rfl AC AC) (Au [0,1,2,8,9,10,11] rfl rfl (Ad (Ah rfl (Ah rfl (Ah rfl ?_))))))))))))))
  refine Af (AA (off+(i+j) / 2*2) (congrArg some hv) rfl AC AC (by rw [Int.toNat_natCast])) ?_
  refine AM (Cu rfl rfl hra) (Ah rfl ?_)
  refine AE (AF (I8 e p) rfl rfl AG) ?_
  rintro v30 L1 ⟨rfl,rfl⟩
  refine As (Af (Be rfl rfl) (AI [0,1,2,8,9,10,11,31] rfl ?_))
  refine Aq rfl (fun h31=>?_) (fun h31=>?_)
  ·refine Am (Ah rfl (Af (AQ (((i+j) / 2+1:Nat):Int) rfl rfl AC AC AC) (B2 rfl (Bi [0,1,2,8,9,10] rfl (AJ (AV ?_))))))
   have h31':BE e.1 p=true:=(Q3 _ _).1 (of_decide_eq_true h31)
   refine Ai ⟨((i+j) / 2+1,j),⟨rfl,rfl,by show (i+j) / 2+1≤j; omega,hj,by rw [← hbs]; exact (X4 l p h17' he h31').symm⟩,by show j-((i+j) / 2+1)<j-i; omega⟩
  ·refine Am (Ah rfl (B2 rfl (Bi [0,1,2,8,9,10] rfl (AJ (AV ?_)))))
   have h31':BE e.1 p=false:=by
    cases hh:BE e.1 p with
    | false=>rfl
    | true=>exact absurd ((Q3 _ _).2 hh) (of_decide_eq_false h31)
   refine Ai ⟨(i,(i+j) / 2),⟨rfl,rfl,by show i≤(i+j) / 2; omega,by show (i+j) / 2≤l.length; omega,by rw [← hbs]; exact (X5 l p h17' he h31').symm⟩,by show (i+j) / 2-i<j-i; omega⟩
 ·have h17':=of_decide_eq_false h17
  obtain rfl:i=j:=by omega
  rw [LN l p AC] at hbs
  refine B3 (AU (AU (AY rfl (Ai (Ad (Ah rfl (Ah rfl (Ah rfl (Af (Be rfl rfl) (Ah rfl ?_))))))))))
  refine B9 39 rfl (fun h39=>?_) (fun h39=>?_)
  ·have h39':=of_decide_eq_true h39
   obtain ⟨e,he⟩:∃ e,l[i]? = some e:=⟨_,List.getElem?_eq_getElem AC⟩
   obtain ⟨gb,off,cap,hv,hra,hc0,hc1⟩:=Dc h he
   refine AS rfl rfl (Ah rfl (AS rfl rfl (Ah rfl (AS rfl rfl (Ah rfl (AS rfl rfl ?_))))))
   refine Af (AA (off+i*2) (congrArg some hv) rfl AC AC (by rw [Int.toNat_natCast])) ?_
   refine AS rfl rfl (AM (Cu rfl rfl hra) (AS rfl rfl (Ah rfl (AS rfl rfl ?_))))
   refine AE (AF (I8 e p) rfl rfl AG) ?_
   rintro v46 L1 ⟨rfl,rfl⟩
   refine As (AS rfl rfl (Af (Bo rfl rfl) (Af (Bc rfl rfl) (B2 rfl (Au [6,7] rfl rfl (Av ?_))))))
   refine Aw [ro μ] (.tmp rfl (.tmp rfl .nil)) ⟨?_,rfl⟩ AG
   rw [← hbs,he]
   simp only []
   rw [← RO]; rfl
  ·refine B1 rfl rfl rfl (B1 rfl rfl rfl (B1 rfl rfl rfl (B1 rfl rfl rfl (B1 rfl rfl rfl (B1 rfl rfl rfl (B1 rfl rfl rfl (B1 rfl rfl rfl (Af (B0 rfl rfl) (B2 rfl (Au [6,7] rfl rfl (Av ?_)))))))))))
   have h39':=of_decide_eq_false h39
   refine Aw [ro μ] (.tmp rfl (.tmp rfl .nil)) ⟨?_,rfl⟩ AG
   rw [← hbs,List.getElem?_eq_none AC]; rfl
set_option maxHeartbeats 1000000 in
theorem Kg (μ:PH)(v:Value)(l:List En)(p:ByteArray)(h:Row μ v 2 l.length (Ci l))(hsz:l.length≤1048576):Spec prog 294 [v,.string p] [ro μ] (fun r L=>r=.int .u32 (lookB l p)∧L=[ro μ]):=by
 have hsm:=h.small
 refine Spec.of 19 func294 rfl rfl rfl ?_
 refine Ad (Au [0,1] rfl rfl (Aj (Ad (Ah rfl (Ah rfl ?_)))))
 refine AE (AF (XV μ v l p h hsz) rfl rfl AG) ?_
 rintro v10 L1 ⟨rfl,rfl⟩
 refine As (Ah rfl (Af (Ax rfl) (Af (Ax rfl) (B2 rfl (Au [0,5,6] rfl rfl (Ad (Ah rfl (AI [0,5,13] rfl ?_))))))))
 refine Aq rfl (fun h13=>?_) (fun h13=>?_)
 ·obtain ⟨e,he,heq⟩:∃ e,l[UD l p]? = some e∧Bt e.1 p=true:=by
   cases hh:l[UD l p]? with
   | none=>rw [hh] at h13; cases h13
   | some e=>rw [hh] at h13; exact ⟨e,rfl,h13⟩
  have hlt:=(List.getElem?_eq_some_iff.1 he).1
  obtain ⟨gb,off,cap,hv,hra,hc0,hc1⟩:=Dc h he
  refine Ad (Ah rfl (Ah rfl ?_))
  refine Af (AA (off+UD l p*2) (congrArg some hv) rfl AC AC (by rw [Int.toNat_natCast])) ?_
  refine Af (Bk rfl) (AM (BJ rfl hc1) (Au [4] rfl rfl (Av (AZ ?_))))
  refine Aw [ro μ] (.tmp rfl .nil) ⟨?_,rfl⟩ AG
  unfold lookB
  rw [he]
  show _=Value.int .u32 (if Bt e.1 p=true then e.2 else 0)
  rw [heq]; rfl
 ·refine Ar (Ai (Ad (Au [4] rfl rfl (Av ?_))))
  refine Aw [ro μ] (.tmp rfl .nil) ⟨?_,rfl⟩ AG
  unfold lookB
  cases hh:l[UD l p]? with
  | none=>rfl
  | some e =>
   have h13':Bt e.1 p=false:=by rw [hh] at h13; exact h13
   show _=Value.int .u32 (if Bt e.1 p=true then e.2 else 0)
   rw [h13']; rfl
set_option maxHeartbeats 1000000 in
theorem IB (μ:PH)(va vb:Value)(la lb:List En)(ha:Row μ va 2 la.length (la.flatMap Je))(hb:Row μ vb 2 lb.length (lb.flatMap Je)):Spec prog 15 [va,vb] [ro μ] (fun r L=>r=.bool (decide (la=lb))∧L=[ro μ]):=by
 have hsa:=ha.small
 have hsb:=hb.small
 refine Spec.of 26 func15 rfl rfl rfl ?_
 refine Ad (Au [0,1] rfl rfl (Aj (Ad (Ah rfl (Af (AW ha rfl) (Ah rfl (Af (AW hb rfl) (Af (Bx rfl rfl) (AI [0,1,10] rfl ?_)))))))))
 refine Aq rfl (fun h10=>?_) (fun h10=>?_)
 ·refine Ad (Au [4] rfl rfl (Av (AZ ?_)))
  refine Aw [ro μ] (.tmp rfl .nil) ⟨?_,rfl⟩ AG
  have:la≠lb:=by rintro rfl; simp at h10
  rw [decide_eq_false this]; rfl
 ·have hlen:la.length=lb.length:=by simp at h10; omega
  refine Ar (Ai (Aj (Ad (Au [0,1,5] rfl rfl (AB ?_)))))
  refine B4 (ι:=Nat) (fun i env L=>env=[(0,va),(1,vb),(5,.int .i64 (i:Nat))]∧L=[ro μ]∧i≤la.length∧la.take i=lb.take i) (fun i=>la.length-i) 0 ⟨rfl,rfl,Nat.zero_le _,rfl⟩ ?_
  rintro i env L ⟨rfl,rfl,hi,htk⟩
  refine Aj (Ad (Ah rfl (Ah rfl (Af (AW ha rfl) (Af (Be rfl rfl) (AI [0,1,5,14] rfl ?_))))))
  refine Aq rfl (fun h14=>?_) (fun h14=>?_)
  ·have h14':i<la.length:=by have:=of_decide_eq_true h14; omega
   obtain ⟨e1,he1⟩:∃ e,la[i]? = some e:=⟨_,List.getElem?_eq_getElem h14'⟩
   obtain ⟨e2,he2⟩:∃ e,lb[i]? = some e:=⟨_,List.getElem?_eq_getElem AC⟩
   obtain ⟨b1,o1,c1,hv1,_,_,hr1⟩:=ha.pos AC
   obtain ⟨b2,o2,c2,hv2,_,_,hr2⟩:=hb.pos AC
   have hq1:=hr1.elem (f:=Je) (n:=2) (fun _=>rfl) he1
   have hq2:=hr2.elem (f:=Je) (n:=2) (fun _=>rfl) he2
   refine Ar (Ai (Aj (AB (Aj ?_))))
   refine Bb [3,7] _ [] (by simp only [List.append_nil]; exact Ent.refl _) AP ?_
   refine AD 0 rfl (AH rfl) (AD 1 rfl (AH rfl) ?_)
   refine AD 2 rfl (AA (o1+i*2) (congrArg some hv1) rfl AC AC (by rw [Int.toNat_natCast])) ?_
   refine Bl 3 rfl (Cu rfl rfl hq1) rfl (AD 4 rfl (AH rfl) (AD 5 rfl (AH rfl) ?_))
   refine AD 6 rfl (AA (o2+i*2) (congrArg some hv2) rfl AC AC (by rw [Int.toNat_natCast])) ?_
   refine Bl 7 rfl (Cu rfl rfl hq2) rfl (AD 8 rfl (Us (vs:=Je e1) (us:=Je e2) rfl rfl (.str (.int .nil))) (BZ [0,1,5,25] rfl (De AP (Ai ?_))))
   refine Aq rfl (fun h25=>?_) (fun h25=>?_)
   ·refine Ad (Au [4] rfl rfl (Av (Bg (AZ (AZ (Bg (AZ ?_)))))))
    refine Aw [ro μ] (.tmp rfl .nil) ⟨?_,rfl⟩ AG
    have:la≠lb:=by
     rintro rfl
     rw [he1] at he2; cases he2
     simp [BQ] at h25
    rw [decide_eq_false this]; rfl
   ·refine Ar (AV (Ai (Am (Ah rfl (Af (AQ ((i+1:Nat):Int) rfl rfl AC AC AC) (B2 rfl (Bi [0,1,5] rfl (AJ ?_))))))))
    have he:e1=e2:=by
     simp only [Bool.not_eq_false',Bool.and_eq_true,decide_eq_true_eq,BS,and_true] at h25
     obtain ⟨q1,q2⟩:=h25
     exact Prod.ext q1 q2
    exact Ai ⟨i+1,⟨rfl,rfl,h14',by rw [List.take_add_one,List.take_add_one,htk,he1,he2,he]⟩,by omega⟩
  ·have h14':=of_decide_eq_false h14
   obtain rfl:i=la.length:=by omega
   refine B3 (AU (AU (AY rfl (Ai (Ad (Au [4] rfl rfl (Av ?_)))))))
   refine Aw [ro μ] (.tmp rfl .nil) ⟨?_,rfl⟩ AG
   rw [List.take_length,hlen,List.take_length] at htk
   rw [decide_eq_true htk]; rfl
theorem XW {t:List En}{i:Nat}{e:En}(h:t[i]? = some e):Ci (t.take (i+1))=Ci (t.take i)++Je e:=by
 rw [List.take_add_one,h,Ci,Ci,List.flatMap_append]; rfl
theorem Lj (a b:List En):Ci (a++b)=Ci a++Ci b:=List.flatMap_append
theorem XX (t:List En)(i:Nat):Ci (t.drop i)=(Ci t).drop (i*2):=by
 induction t generalizing i with
 | nil=>simp [Ci]
 | cons e t ih =>
  cases i with
  | zero=>rfl
  | succ i =>
   rw [List.drop_succ_cons,ih,Nat.succ_mul,Nat.add_comm (i*2) 2,Ci,Ci,List.flatMap_cons,← List.drop_drop]; rfl
set_option maxHeartbeats 2000000 in
theorem XY (μ:PH)(v:Value)(t:List En)(p:ByteArray)(b:Int)(h:Row μ v 2 t.length (Ci t))(hsz:t.length≤1048576)(hps:p.size≤9223372036854775807) :
  Spec prog 88 [v,.string p,.int .u32 b] [ro μ] (fun r L=>L=[own 111 2 r (Ha t p b).length (Ci (Ha t p b)),ro μ]):=by
 refine Spec.of 69 func88 rfl rfl rfl ?_
 refine Ad (Au [0,1,2] rfl rfl (Ad (Ah rfl (Af (AW h rfl) (Af (AQ ((t.length+1:Nat):Int) rfl rfl AC AC AC) ?_)))))
 refine AE (WQ (e:=111) (n:=2) rfl rfl AC AC (by simp only [maxLen]; omega)) ?_
 rintro v12
 skip
 refine Au [0,1,2,7] rfl rfl (Aj (Ad (Ah rfl (Af (D8 rfl) (Af (BO rfl rfl) (AI [0,1,2,7,15] rfl ?_))))))
 refine Aq rfl (fun h15=>?_) (fun h15=>?_)
 ·refine Ad (Ah rfl (Ah rfl ?_))
  refine AE (D9 h rfl rfl AG (ON _) (by simp only [maxLen]; omega) AC) ?_
  rintro v18 -
  rw [Nat.zero_add,List.nil_append]
  refine Au [6] rfl rfl (Av (AZ ?_))
  have h15':255<p.size:=by have:=of_decide_eq_true h15; omega
  have e:Ha t p b=t:=by unfold Ha; rw [if_pos h15']
  exact Aw [own 111 2 v18 t.length (Ci t),ro μ] (.tmp rfl .nil) (by rw [e]; rfl) AG
 ·have h15':¬ 255<p.size:=by have:=of_decide_eq_false h15; omega
  refine Ar (Ai (Ad (Au [0,1,2,7,8] rfl rfl ?_)))
  refine Co (fun env L=>∃ i v7,Sub env [(0,v),(1,.string p),(2,.int .u32 b),(7,v7),(8,.int .i64 (i:Nat))]∧L=[own 111 2 v7 i (Ci (t.take i)),ro μ]∧i≤t.length∧t.takeWhile (LU p)=t.take i∧t.dropWhile (LU p)=t.drop i) ?_ ?_
  ·refine AB ?_
   refine B4 (ι:=Nat×Value) (fun k env L=>env=[(0,v),(1,.string p),(2,.int .u32 b),(7,k.2),(8,.int .i64 (k.1:Nat))]∧L=[own 111 2 k.2 k.1 (Ci (t.take k.1)),ro μ]∧k.1≤t.length∧(t.take k.1).all (LU p)=true) (fun k=>t.length-k.1) (0,v12) ⟨rfl,rfl,Nat.zero_le _,rfl⟩ ?_
   rintro ⟨i,v7⟩ env L ⟨rfl,rfl,hi,hall⟩
   simp only [] at hi hall
   dsimp only
   refine Aj (Ad (Ah rfl (Ah rfl (Af (AW h rfl) (Af (Be rfl rfl) (Ah rfl ?_))))))
   refine B9 23 rfl (fun h23=>?_) (fun h23=>?_)
   ·have h23':i<t.length:=by have:=of_decide_eq_true h23; omega
    obtain ⟨e,he⟩:∃ e,t[i]? = some e:=⟨_,List.getElem?_eq_getElem h23'⟩
    obtain ⟨gb,off,cap,hv,hra,hc0,hc1⟩:=Dc h he
    refine AS rfl rfl (Ah rfl (AS rfl rfl (Ah rfl (AS rfl rfl ?_))))
    refine Af (AA (off+i*2) (congrArg some hv) rfl AC AC (by rw [Int.toNat_natCast])) ?_
    refine AS rfl rfl (Af (Bk rfl) (AS rfl rfl (AM (BJ rfl hc0) (AS rfl rfl (Ah rfl (AS rfl rfl (Af (J8 rfl rfl) (Af (Bc rfl rfl) (AI [0,1,2,7,8,31] rfl ?_)))))))))
    refine Aq rfl (fun h31=>?_) (fun h31=>?_)
    ·refine Ar (Ai (AB (Ad (Ah rfl (Ah rfl (Ah rfl ?_))))))
     refine Af (AA (off+i*2) (congrArg some hv) rfl AC AC (by rw [Int.toNat_natCast])) ?_
     refine AM (Cu rfl rfl hra) (AE (Bs (qs:=[(0,_)]) rfl rfl rfl) (fun b37=>?_))
     refine AE (Bj (l:=i) (m:=1) rfl rfl AG (by simp only [maxLen]; omega) AC) ?_
     rintro v38 -
     skip
     refine Au [0,1,2,7,8] rfl rfl (Am (Ah rfl (Af (AQ ((i+1:Nat):Int) rfl rfl AC AC AC) (B2 rfl (Bi [0,1,2,7,8] rfl (AJ (AV ?_)))))))
     refine Ai ⟨(i+1,v38),⟨rfl,by rw [XW he],h23',?_⟩,by show t.length-(i+1)<t.length-i; omega⟩
     show (t.take (i+1)).all (LU p)=true
     rw [List.take_add_one,he,List.all_append,hall]
     simp [LU,h31]
    ·refine B3 (AU (AU (AY rfl ?_)))
     obtain ⟨k1,k2⟩:=Qd (p:=p) hi hall (fun e' he'=>by rw [he] at he'; cases he'; exact h31)
     exact Ai ⟨i,v7,⟨rfl,rfl,rfl,rfl,rfl,trivial⟩,rfl,hi,k1,k2⟩
   ·refine B1 rfl rfl rfl (B1 rfl rfl rfl (B1 rfl rfl rfl (B1 rfl rfl rfl (B1 rfl rfl rfl (B1 rfl rfl rfl (B1 rfl rfl rfl (Af (B0 rfl rfl) (AI [0,1,2,7,8,31] rfl ?_))))))))
    refine Aq rfl (fun h31=>by cases h31) (fun h31=>?_)
    refine B3 (AU (AU (AY rfl ?_)))
    have h23':=of_decide_eq_false h23
    obtain ⟨k1,k2⟩:=Qd (p:=p) hi hall (fun e' he'=>by have:=(List.getElem?_eq_some_iff.1 he').1; omega)
    exact Ai ⟨i,v7,⟨rfl,rfl,rfl,rfl,rfl,trivial⟩,rfl,hi,k1,k2⟩
  rintro env L ⟨i,v7,hsub,rfl,hi,k1,k2⟩
  refine B7 _ hsub ?_
  clear hsub env
  refine Co (fun env L=>∃ v7,Sub env [(0,v),(1,.string p),(7,v7),(8,.int .i64 (i:Nat))]∧L=[own 111 2 v7 (t.take i++(if b=0 then [] else [(p,b)])).length (Ci (t.take i++(if b=0 then [] else [(p,b)]))),ro μ]) ?_ ?_
  ·refine Ad (Ah rfl (Af (Bx rfl rfl) (AI [0,1,2,7,8,42] rfl ?_)))
   refine Aq rfl (fun h42=>?_) (fun h42=>?_)
   ·refine Am (Ah rfl (Ah rfl (Ah rfl (Af (Bz (qs:=[(0,_),(1,_)]) rfl) (AE (Bs (qs:=[(0,_)]) rfl rfl rfl) (fun b47=>?_))))))
    refine AE (Bj (l:=i) (m:=1) rfl rfl AG (by simp only [maxLen]; omega) AC) ?_
    rintro v48 -
    skip
    refine B2 rfl (Bi [0,1,7,8] rfl (AJ ?_))
    have hb:b≠0:=by simpa using h42
    refine Ai ⟨v48,⟨rfl,rfl,rfl,rfl,trivial⟩,?_⟩
    rw [if_neg hb,Lj,List.length_append,List.length_take,Nat.min_eq_left hi]; rfl
   ·refine Ar ?_
    have hb:b=0:=by simpa using h42
    refine Ai ⟨v7,⟨rfl,rfl,rfl,rfl,trivial⟩,?_⟩
    rw [if_pos hb,List.append_nil,List.length_take,Nat.min_eq_left hi]
  rintro env L ⟨v7,hsub,rfl⟩
  refine B7 _ hsub ?_
  clear hsub env
  have hmid:(t.take i++(if b=0 then [] else [(p,b)])).length≤t.length+1:=by
   rw [List.length_append,List.length_take]; split <;> simp <;> omega
  generalize hpre:t.take i++(if b=0 then [] else [(p,b)])=pre at hmid
  refine Co (fun env L=>∃ j,Sub env [(0,v),(7,v7),(8,.int .i64 (j:Nat))]∧L=[own 111 2 v7 pre.length (Ci pre),ro μ]∧j≤t.length∧Nb p (t.drop i)=t.drop j) ?_ ?_
  ·refine Ad (Ah rfl (Ah rfl (Af (AW h rfl) (Af (Be rfl rfl) (Ah rfl ?_)))))
   refine B9 53 rfl (fun h53=>?_) (fun h53=>?_)
   ·have h53':i<t.length:=by have:=of_decide_eq_true h53; omega
    obtain ⟨e,he⟩:∃ e,t[i]? = some e:=⟨_,List.getElem?_eq_getElem h53'⟩
    obtain ⟨gb,off,cap,hv,hra,hc0,hc1⟩:=Dc h he
    have hdr:t.drop i=e::t.drop (i+1):=by
     rw [List.drop_eq_getElem_cons h53']; congr 1; rw [List.getElem?_eq_getElem h53'] at he; exact Option.some.inj he
    refine AS rfl rfl (Ah rfl (AS rfl rfl (Ah rfl (AS rfl rfl ?_))))
    refine Af (AA (off+i*2) (congrArg some hv) rfl AC AC (by rw [Int.toNat_natCast])) ?_
    refine AS rfl rfl (Af (Bk rfl) (AS rfl rfl (AM (BJ rfl hc0) (AS rfl rfl (Ah rfl (AS rfl rfl (Af (FM rfl rfl) (Af (Bc rfl rfl) (AI [0,7,8,61] rfl ?_)))))))))
    refine Aq rfl (fun h61=>?_) (fun h61=>?_)
    ·refine Am (Ah rfl (Af (AQ ((i+1:Nat):Int) rfl rfl AC AC AC) (B2 rfl (Bi [0,7,8] rfl (AJ ?_)))))
     refine Ai ⟨i+1,⟨rfl,rfl,rfl,trivial⟩,rfl,h53',?_⟩
     rw [hdr,FD,if_pos h61]
    ·refine Ar ?_
     refine Ai ⟨i,⟨rfl,rfl,rfl,trivial⟩,rfl,hi,?_⟩
     rw [hdr,FD,if_neg (by rw [h61]; exact Bool.false_ne_true)]
   ·refine B1 rfl rfl rfl (B1 rfl rfl rfl (B1 rfl rfl rfl (B1 rfl rfl rfl (B1 rfl rfl rfl (B1 rfl rfl rfl (B1 rfl rfl rfl (Af (B0 rfl rfl) (AI [0,7,8,61] rfl ?_))))))))
    refine Aq rfl (fun h61=>by cases h61) (fun h61=>?_)
    refine Ar ?_
    have h53':=of_decide_eq_false h53
    refine Ai ⟨i,⟨rfl,rfl,rfl,trivial⟩,rfl,hi,?_⟩
    rw [List.drop_eq_nil_of_le AC]; rfl
  rintro env L ⟨j,hsub,rfl,hj,hcut⟩
  refine B7 _ hsub ?_
  clear hsub env
  obtain ⟨vlo,hlo1,hlo2⟩:=Row.lo (P:=prog) (t:=27) h j hj
  have hdl:t.length-j=(t.drop j).length:=by rw [List.length_drop]
  rw [← XX] at hlo1
  have hput:Ha t p b=pre++t.drop j:=by
   unfold Ha
   rw [if_neg h15',k1,k2,hpre,hcut]
  refine Ad (Ah rfl (Ah rfl (Ah rfl (Af (hlo2 _ _ _ .i64 _ rfl rfl rfl) ?_))))
  refine AE (D9 hlo1 rfl rfl AG (ON _) (by simp only [maxLen]; omega) AC) ?_
  rintro v68 -
  skip
  refine Au [6] rfl rfl (Av ?_)
  refine Aw [own 111 2 v68 (pre.length+(t.length-j)) (Ci pre++Ci (t.drop j)),ro μ] (.tmp rfl .nil) ?_ AG
  rw [hput,List.length_append,Lj,hdl]; rfl
def Dg (t:List En)(i:Nat):Int :=
 match t[i]? with
 | none=>0
 | some e=>if 255<e.1.size then 5 else if e.2=0 then 1 else
  match (if i=0 then none else t[i-1]?) with
  | none=>0
  | some d=>if Bt e.1 d.1 then 11 else if BE e.1 d.1 then 10 else 0
def EE (t:List En):Int:=((List.range t.length).map (Dg t)).find? (·≠0) |>.getD 0
theorem IC {t:List En}{i:Nat}(hi:i<t.length)(h1:∀ j<i,Dg t j=0)(h2:Dg t i≠0):EE t=Dg t i:=by
 unfold EE
 have:((List.range t.length).map (Dg t)).find? (·≠0)=some (Dg t i):=by
  rw [List.find?_eq_some_iff_getElem]
  refine ⟨by simpa using h2,i,by simpa using hi,by simp,fun j hj=>?_⟩
  simp [h1 j hj]
 rw [this]; rfl
theorem O1 {t:List En}(h1:∀ j<t.length,Dg t j=0):EE t=0:=by
 unfold EE
 have:((List.range t.length).map (Dg t)).find? (·≠0)=none:=by
  rw [List.find?_eq_none]
  intro x hx
  obtain ⟨j,hj,rfl⟩:=List.mem_map.1 hx
  simp [h1 j (List.mem_range.1 hj)]
 rw [this]; rfl
theorem XZ {l:List UInt8}{i:Nat}{b:UInt8}(h:l[i]? = some b):(str l).data.toList[i]? = some b:=h
set_option maxHeartbeats 1000000 in
theorem SC (a b:List UInt8)(ha:a.length≤1073741824)(_:b.length≤1073741824):Spec prog 150 [.string (str a),.string (str b)] [] (fun v L=>v=.int .i64 (PE a b:Nat)∧L=[]):=by
 refine Spec.of 25 func150 rfl rfl rfl ?_
 refine Ad (Au [0,1] rfl rfl (Ad (Au [0,1,5] rfl rfl (Aj (AB ?_)))))
 refine B4 (ι:=Nat) (fun i env L=>Sub env [(0,.string (str a)),(1,.string (str b)),(5,.int .i64 (i:Nat))]∧L=[]∧i≤a.length∧i≤b.length∧a.take i=b.take i) (fun i=>a.length-i) 0 ⟨⟨rfl,rfl,rfl,trivial⟩,rfl,Nat.zero_le _,Nat.zero_le _,rfl⟩ ?_
 rintro i env L ⟨hsub,rfl,hi,hj,he⟩
 refine B7 _ hsub ?_
 clear hsub env
 refine Aj (Aj ?_)
 refine Bb [] _ [] (by simp only [List.append_nil]; exact Ent.refl _) AP ?_
 refine AD 0 rfl (AH rfl) (AD 1 rfl (AH rfl) (AD 2 rfl (HO rfl) (AD 3 rfl (AH rfl) (AD 4 rfl (HO rfl) (AD 5 rfl (DE rfl rfl) (AD 6 rfl (Be rfl rfl) (AD 7 rfl (AH rfl) ?_)))))))
 refine E9 13 rfl (fun h13=>?_) (fun h13=>?_)
 ·have h13':i<a.length∧i<b.length:=by have:=of_decide_eq_true h13; omega
  obtain ⟨x,hx⟩:∃ x,a[i]? = some x:=⟨_,List.getElem?_eq_getElem h13'.1⟩
  obtain ⟨y,hy⟩:∃ y,b[i]? = some y:=⟨_,List.getElem?_eq_getElem h13'.2⟩
  refine Bn 8 rfl rfl rfl (AH rfl) AP AP AP (Bn 9 rfl rfl rfl (AH rfl) AP AP AP (Bn 10 rfl rfl rfl (H6 (j:=i) rfl rfl rfl (XZ hx)) AP AP AP (Bn 11 rfl rfl rfl (AH rfl) AP AP AP (Bn 12 rfl rfl rfl (AH rfl) AP AP AP (Bn 13 rfl rfl rfl (H6 (j:=i) rfl rfl rfl (XZ hy)) AP AP AP (Bn 14 rfl rfl rfl (Bo rfl rfl) AP AP AP (AD 15 rfl (Bc rfl rfl) (BZ [0,1,5,21] rfl (De AP (Ai ?_))))))))))
  refine Aq rfl (fun h21=>?_) (fun h21=>?_)
  ·refine Ar (Ai (AB (Am (Ah rfl (Af (AQ ((i+1:Nat):Int) rfl rfl AC AC AC) (B2 rfl (Bi [0,1,5] rfl (AJ (AV ?_)))))))))
   have hxy:x=y:=by have:=of_decide_eq_true h21; exact UInt8.toNat_inj.1 AC
   refine Ai ⟨i+1,⟨⟨rfl,rfl,rfl,trivial⟩,rfl,h13'.1,h13'.2,?_⟩,by omega⟩
   rw [List.take_add_one,List.take_add_one,hx,hy,he,hxy]
  ·refine B3 (AU (AU (AY rfl (Ai (Ad (Ah rfl (Au [4] rfl rfl (Av ?_))))))))
   have hne:a[i]?≠b[i]?:=fun e=>by
    rw [hx,hy] at e
    cases e
    rw [decide_eq_true rfl] at h21; cases h21
   rw [RZ hi hj he (.inr (.inr hne))]
   exact Aw [] (.tmp rfl .nil) ⟨rfl,rfl⟩ AG
 ·refine C1 8 rfl rfl rfl rfl AP AP AP (C1 9 rfl rfl rfl rfl AP AP AP (C1 10 rfl rfl rfl rfl AP AP AP (C1 11 rfl rfl rfl rfl AP AP AP (C1 12 rfl rfl rfl rfl AP AP AP (C1 13 rfl rfl rfl rfl AP AP AP (C1 14 rfl rfl rfl rfl AP AP AP (AD 15 rfl (B0 rfl rfl) (BZ [0,1,5,21] rfl (De AP (Ai ?_))))))))))
  refine Aq rfl (fun h21=>by cases h21) (fun h21=>?_)
  refine B3 (AU (AU (AY rfl (Ai (Ad (Ah rfl (Au [4] rfl rfl (Av ?_))))))))
  have h13':i=a.length∨i=b.length:=by have:=of_decide_eq_false h13; omega
  rw [RZ hi hj he (h13'.imp id .inl)]
  exact Aw [] (.tmp rfl .nil) ⟨rfl,rfl⟩ AG
end SX
