/- A part of the proof: walks of the program's functions, and the rules by which they go. -/
import Derived.Test.YtbomiailappgpaaGreatDoorB7bb7a395
import Derived.Test.YtbomiailappgpaaGreatDoorB47b6cacc
import Derived.Tactics
import Derived.Tactics2
import Derived.Lib.AtoiErrMem
import Derived.Test.YtbomiailappgpaaGreatDoorBa288ffc6
namespace SX
open Go Go.Proofs Go.Proofs.Tryz
theorem Wa (μ:PH)(v:Value)(l:List Ck)(h:Row μ v 2 l.length (l.flatMap FR))(ha:AscC l)(hl:l.length≤12)(q:Int):Spec prog 320 [v,.int .i64 0,.int .i64 (l.length:Nat),.int .i64 q,.func (.func 256) #[] #[]] [ro μ] (fun r L=>r=.tuple #[]∧L=[ro μ]):=by
 refine Spec.of 148 func320 rfl rfl rfl ?_
 refine A0 (As [0,1,2,3,4,10] rfl rfl (A0 (As [0,1,2,3,4,10,11] rfl rfl (Au ?_))))
 refine B0 (ι:=Nat) (fun _ env L=>Sub env [(0,v),(1,.int .i64 0),(2,.int .i64 (l.length:Nat)),(3,.int .i64 q),(4,.func (.func 256) #[] #[]),(10,.bool true),(11,.bool true)]∧Ent L [ro μ]) (fun _=>0) 0 ⟨⟨rfl,rfl,rfl,rfl,rfl,rfl,rfl,trivial⟩,Ent.refl _⟩ ?_
 rintro _ env L ⟨hsub,hE⟩
 refine B3 _ hsub (AP hE ?_)
 clear hsub hE env L
 refine Au (A0 (Ad rfl (Ad rfl (Ac (H4 rfl rfl Ax Ax) (As [0,1,2,3,4,10,11,12] rfl rfl (Ae (A0 (Ad rfl (Ac (Ff rfl rfl) (AE [0,1,2,3,4,10,11,12,25] rfl ?_))))))))))
 refine Ak rfl (fun h25=>?_) (fun h25=>by have:=of_decide_eq_false h25; omega)
 refine A0 (Ad rfl (Ad rfl (Ad rfl (Ad rfl ?_))))
 refine Aw (AA (W9 μ v l h ha) rfl rfl AC) ?_
 rintro v30 L1 ⟨rfl,rfl⟩
 refine Aj (C7 _ .nil (Dp (Ar (AN (B6 (AN (B6 ?_)))))))
 exact Aq [ro μ] .nil ⟨rfl,rfl⟩ AC
theorem Wb (n:Nat)(hn:n<1000):Spec prog 264 [.int .u64 (n:Nat)] [] (fun r L=>r=.int .i64 (Lib.bitLen n)∧L=[]):=Spec.ofCalls fun w=>bits_Len (n:Int) w Ax Ax
theorem T8 (μ:PH)(v:Value)(l:List Ck)(h:Row μ v 2 l.length (l.flatMap FR))(ha:AscC l)(hl:l.length≤12):Spec prog 255 [v,.func (.func 256) #[] #[]] [ro μ] (fun r L=>r=.tuple #[]∧L=[ro μ]):=by
 refine Spec.of 14 func255 rfl rfl rfl ?_
 refine A0 (Ad rfl (Ac (B2 h rfl) (As [0,1,4] rfl rfl (Al (Ad rfl (Ad rfl (Ad rfl (Ac (FH rfl Ax Ax) ?_))))))))
 refine Aw (AA (Wb l.length Ax) rfl rfl AC) ?_
 rintro v11 L1 ⟨rfl,rfl⟩
 refine Aj (Ad rfl ?_)
 refine Aw (AA (Wa μ v l h ha hl _) rfl rfl AC) ?_
 rintro v13 L1 ⟨rfl,rfl⟩
 refine Aj (C7 _ .nil (AH ?_))
 exact Co [ro μ] .nil ⟨rfl,rfl⟩ AC
theorem Rk (μ:PH)(v:Value)(t:List Ck)(hv:Row μ v 2 t.length (t.flatMap FR))(hl:t.length≤1048576):Spec prog 254 [v] [ro μ] (fun r L=>∃ A c,r=.slice A t.length c∧L=[own 267 2 (.slice A t.length c) t.length (t.flatMap FR),ro μ]):=by
 obtain ⟨A,cap,rfl⟩:=hv.sl
 refine Spec.of 8 func254 rfl rfl rfl ?_
 refine A0 (As [0] rfl rfl (Ae (A0 (Ad rfl (Ac (DG rfl rfl) (AE [0,4] rfl ?_))))))
 refine Ak rfl (fun h4=>?_) (fun h4=>?_)
 ·refine A0 (As [2] rfl rfl (Ar (AN ?_)))
  have hA:A=none:=by cases A <;> simp_all
  subst hA
  have h0:t=[]:=by
   cases t with
   | nil=>rfl
   | cons x l=>obtain ⟨b,o,c,h,_⟩:=hv.pos (by simp); cases h
  subst h0
  exact B8 [own 267 2 (.slice none 0 0) 0 [],ro μ] (.tmp rfl .nil) ⟨none,0,rfl,rfl⟩ own_nil_ent
 ·refine Am (Af (A0 (Aw (Bg (qs:=[]) rfl rfl rfl) (fun b5=>?_))))
  refine Ad rfl (BK (G6 (n:=2)) ?_)
  refine Aw (D8 hv rfl rfl AC (MQ (fun _=>rfl) _) (by simp only [maxLen]; omega) Ax) ?_
  rintro v7 -
  rw [Nat.zero_add,List.nil_append]
  refine Cv (fun m h=>Bz h) fun ⟨A7,c7,hv7⟩=>?_
  subst hv7
  refine As [2] rfl rfl (Ar ?_)
  exact Aq [own 267 2 (.slice A7 t.length c7) t.length (t.flatMap FR),ro μ] (.tmp rfl .nil) ⟨A7,c7,rfl,rfl⟩ AC
theorem DO (p:Nat)(bs:List UInt8):Spec prog 112 [.pointer (some ⟨p,0,none⟩)] [EL p bs] (fun r L=>r=.string (str bs)∧L=[EL p bs]):=by
 refine Spec.exA' fun v=>?_
 simp only [List.cons_append,List.nil_append]
 refine Spec.ent3 (post:=fun r L=>r=.string (str bs)∧L=[B1 p 294 [v],own 5 1 v bs.length (Dd bs)]) ?_ (fun r L ⟨h1,h2⟩=>⟨[EL p bs],by rw [h2]; exact Ho,h1,rfl⟩)
 refine Spec.of 10 func112 rfl rfl rfl ?_
 refine A0 (As [0] rfl rfl (Ae (A0 (Ad rfl (Ac (Bd rfl rfl) (AE [0,4] rfl (Dz rfl (Am (Af (A0 (Ad rfl (Ac (Ah rfl) (Ac (Ab rfl) (AJ (Ag rfl rfl) ?_))))))))))))))
 refine AJ (HE bs rfl K3) ?_
 refine As [2] rfl rfl (Ar ?_)
 exact Aq [B1 p 294 [v],own 5 1 v bs.length (Dd bs)] (.tmp rfl .nil) ⟨rfl,rfl⟩ AC
abbrev Gr:List UInt8:=[80,68,71,67,1]
def T9 (x:Ck):List UInt8:=Bf 4 x.1++Bf 4 x.2.length
def KS (l:List Ck):List UInt8:=Gr++Bf 1 l.length++l.flatMap T9++l.flatMap (·.2)
def Fd (l:List Ck):List UInt8:=KS l++Bf 4 (E2 (KS l))
theorem Uk (l:List Ck):(l.flatMap T9).length=8*l.length:=by
 induction l with
 | nil=>rfl
 | cons x l ih=>rw [List.flatMap_cons,List.length_append,ih,List.length_cons]; show (Bf 4 _++Bf 4 _).length+_=_; rw [List.length_append,Br,Br]; omega
def Q6 (l:List Ck):Nat:=(l.map (·.2.length)).sum
theorem Ul (l:List Ck):(l.flatMap (·.2)).length=Q6 l:=by rw [List.length_flatMap]; rfl
theorem Q7 (l:List Ck):(KS l).length=6+8*l.length+Q6 l:=by
 unfold KS
 rw [List.length_append,List.length_append,List.length_append,Br,Uk,Ul]
 show 5+1+_+_=_
 omega
theorem Hr (l:List Ck)(i:Nat):Q6 (l.take i)≤Q6 l:=by
 have:Q6 l=Q6 (l.take i)+Q6 (l.drop i):=by
  unfold Q6
  rw [← List.sum_append,← List.map_append,List.take_append_drop]
 omega
theorem IC {l:List Ck}{i:Nat}{x:Ck}(h:l[i]? = some x):Q6 (l.take (i+1))=Q6 (l.take i)+x.2.length:=by
 unfold Q6
 rw [List.take_add_one,h,List.map_append,List.sum_append]
 simp
theorem A0c{μ:PH}{A:Option Addr}{cap:Nat}{l:List Ck}(h:Row μ (.slice A l.length cap) 2 l.length (l.flatMap FR)){i:Nat}(hi:i≤l.length):Row μ (.slice A i cap) 2 (l.take i).length ((l.take i).flatMap FR):=by
 obtain ⟨e0,A',c',e1,e2,e3,e4,e5⟩:=h
 cases e1
 have hl:(l.take i).length=i:=by rw [List.length_take]; omega
 rw [hl]
 refine ⟨by rw [Ca (f:=FR) (k:=2) (fun _=>rfl),hl],A,cap,rfl,by omega,e3,e4,fun h0=>?_⟩
 obtain ⟨b,off,rfl,hr⟩:=e5 Ax
 refine ⟨b,off,rfl,fun j u hj=>?_⟩
 have hs:l.flatMap FR=(l.take i).flatMap FR++(l.drop i).flatMap FR:=by rw [← List.flatMap_append,List.take_append_drop]
 have hjl:=(List.getElem?_eq_some_iff.1 hj).1
 exact hr j u (by rw [hs,List.getElem?_append_left hjl]; exact hj)
structure CkOk (l:List Ck):Prop where
 asc:AscC l
 len:l.length≤12
 ids:∀ x∈l,1≤x.1∧x.1<4294967296
 size:Q6 l≤1000000
set_option maxHeartbeats 4000000 in
theorem Wc (μ:PH)(v:Value)(l:List Ck)(h:Row μ v 2 l.length (l.flatMap FR))(hok:CkOk l):Spec prog 164 [v] [ro μ] (fun r L=>∃ μ',Le μ μ'∧r=.tuple #[.string (str (Fd l)),.int .i64 0]∧L=[ro μ']):=by
 obtain ⟨A,cap,hv0⟩:=h.sl
 subst hv0
 have hcap:l.length≤cap:=by obtain ⟨_,_,_,he,hh,_⟩:=h; cases he; exact hh
 have hl12:=hok.len
 have hsz:=hok.size
 have hbl:=Q7 l
 refine Spec.of 93 func164 rfl rfl rfl ?_
 refine A0 (AX rfl (As [0] rfl rfl (Ae (A0 (Ad rfl (Ac (BI rfl) (Ac (BA rfl rfl) (AE [0,15] rfl ?_))))))))
 refine Ak rfl (fun h15=>by have:=of_decide_eq_true h15; omega) (fun h15=>?_)
 refine Am (Af (A0 (Ad rfl (Ac (BI rfl) (Ac (G5 ((8*l.length:Nat):Int) rfl rfl Ax Ax Ax) (Ac (AO ((10+8*l.length:Nat):Int) rfl rfl Ax Ax Ax) (As [0,4] rfl rfl (Ae (A0 (Ad rfl (Ac (BI rfl) (Ad rfl (AE [0,4,20,21,22] rfl (Au ?_))))))))))))))
 refine B0 (ι:=Nat) (fun i env L=>Sub env [(0,.slice A l.length cap),(4,.int .i64 ((10+8*l.length+Q6 (l.take i):Nat):Int)),(20,.slice A l.length cap),(21,.int .i64 (l.length:Nat)),(22,.int .i64 (i:Nat))]∧Ent L [ro μ]∧i≤l.length) (fun i=>l.length-i) 0 ⟨⟨rfl,rfl,rfl,rfl,rfl,trivial⟩,Ent.refl _,Nat.zero_le _⟩ ?_
 rintro i env L ⟨hsub,hE,hi⟩
 refine B3 _ hsub (AP hE ?_)
 clear hsub hE env L
 refine A0 (Ac (Bb rfl rfl) (AE [0,4,20,21,22,23] rfl (Ae ?_)))
 refine Ak rfl (fun h23=>?_) (fun h23=>?_)
 ·have h23':i<l.length:=by have:=of_decide_eq_true h23; omega
  obtain ⟨x,hx⟩:∃ x,l[i]? = some x:=⟨_,List.getElem?_eq_getElem h23'⟩
  obtain ⟨b,off,c2,hv,hr⟩:=JU h hx
  obtain ⟨o1,o2⟩:=hok.ids x (List.mem_of_getElem? hx)
  have hno:=hok.asc.no hx
  have hst:=Hr l (i+1)
  have hss:=IC hx
  refine Am (Af (Ae (Au (A0 (Ad rfl ?_)))))
  refine Ac (AB (off+i*2) (congrArg some hv) rfl Ax Ax (by rw [Int.toNat_natCast])) ?_
  refine AJ (CZ (vs:=FR x) rfl rfl hr) (Aw (AZ) (fun b6=>?_))
  refine AX rfl (B5 (AU rfl rfl rfl rfl) (AE [0,4,5,6,20,21,22] rfl (Ae (Au (A0 (Ac (Ab rfl) (AJ (Ag rfl rfl) (Ac (Bp rfl rfl) (As [0,4,5,6,20,21,22,27] rfl rfl ?_)))))))))
  refine Ak rfl (fun h27=>by have:=of_decide_eq_true h27; omega) (fun h27=>?_)
  refine A0 (Ad rfl (Ad rfl (Ac (DB i rfl rfl rfl Ax) (Ac (C9 (vs:=[]) (us:=[_]) rfl rfl) ?_))))
  refine Aw (AA (YN μ (.slice A i cap) (l.take i) [B1 b6 267 (FR x)] 253 [] [pv b6] (fun y=>decide (y.1=x.1)) (A0c h Ax) (fun y _=>W6 x y b6 (ro μ) [])) rfl rfl AC) ?_
  rintro v36 L1 ⟨rfl,rfl⟩
  rw [hno]
  refine Aj (As [0,4,6,20,21,22,31] rfl rfl (Dz rfl (Am (AR (Af (Al (Ad rfl (Ac (Ab rfl) (AJ (Ag rfl rfl) (Ac (Dw rfl) ?_))))))))))
  refine Ac (AO ((10+8*l.length+Q6 (l.take (i+1)):Nat):Int) rfl rfl (by rw [CO]; omega) Ax Ax) ?_
  refine AX rfl (Be [0,4,20,21,22] rfl (AH (AR (Af (Al (Ac (AO ((i+1:Nat):Int) rfl rfl Ax Ax Ax) (Ad rfl (Be [0,4,20,21,22] rfl (AH ?_)))))))))
  exact Af ⟨i+1,⟨⟨rfl,rfl,rfl,rfl,rfl,trivial⟩,Split.ent' AC,h23'⟩,by omega⟩
 ·have h23':=of_decide_eq_false h23
  obtain rfl:i=l.length:=by omega
  rw [List.take_length]
  refine AY (AS (AS (AV rfl (Af (Ae (A0 (Ad rfl (Ac (BA rfl rfl) (AE [0,44] rfl ?_)))))))))
  refine Ak rfl (fun h44=>by have:=of_decide_eq_true h44; omega) (fun h44=>?_)
  refine Am (Af (A0 (Ad rfl ?_)))
  refine Aw (AA (Rk μ _ l h Ax) rfl rfl AC) ?_
  rintro v46 L1 ⟨A2,c2,rfl,rfl⟩
  refine Aj (As [7] rfl rfl (Ae ?_))
  refine BC AC fun μ' hle h2=>?_
  refine Al (Ad rfl ?_)
  refine Aw (AA (T8 μ' _ l h2 hok.asc hl12) rfl rfl AC) ?_
  rintro v48 L1 ⟨rfl,rfl⟩
  refine Aj (AE [7] rfl (A0 ?_))
  refine Aw (AA Dy rfl rfl AC) ?_
  rintro v49 L1 ⟨p,rfl,rfl⟩
  refine Aj (As [7,8] rfl rfl (A0 (Ad rfl ?_)))
  refine Aw (AA (Fu p [] Gr (by decide) (by decide)) rfl rfl AC) ?_
  rintro v51 L1 ⟨rfl,rfl⟩
  refine Aj (AE [7,8] rfl (A0 (Ad rfl (Ad rfl (Ac (BI rfl) (Ac (C6 rfl (E5 Ax)) ?_))))))
  refine Aw (AA (EV p l.length ([]++Gr) Ax (by decide)) rfl rfl AC) ?_
  rintro v56 L1 ⟨rfl,rfl⟩
  refine Aj (AE [7,8] rfl (Ae (A0 (Ad rfl (Ac (BI rfl) (Ad rfl (AE [7,8,57,58,59] rfl (Au ?_))))))))
  rw [List.nil_append]
  refine B0 (ι:=Nat) (fun i env L=>Sub env [(7,.slice A2 l.length c2),(8,pv p),(57,.slice A2 l.length c2),(58,.int .i64 (l.length:Nat)),(59,.int .i64 (i:Nat))]∧Ent L [EL p (Gr++Bf 1 l.length++(l.take i).flatMap T9),ro μ']∧i≤l.length) (fun i=>l.length-i) 0 ⟨⟨rfl,rfl,rfl,rfl,rfl,trivial⟩,by rw [List.take_zero,List.flatMap_nil,List.append_nil]; exact Split.ent' AC,Nat.zero_le _⟩ ?_
  rintro i env L ⟨hsub,hE,hi⟩
  refine B3 _ hsub (AP hE ?_)
  clear hsub hE env L
  have hbl2:(Gr++Bf 1 l.length++(l.take i).flatMap T9).length≤200:=by
   rw [List.length_append,List.length_append,Br,Uk,List.length_take]
   show 5+1+_≤200
   omega
  generalize hB:Gr++Bf 1 l.length++(l.take i).flatMap T9=B at *
  refine A0 (Ac (Bb rfl rfl) (AE [7,8,57,58,59,60] rfl (Ae ?_)))
  refine Ak rfl (fun h60=>?_) (fun h60=>?_)
  ·have h60':i<l.length:=by have:=of_decide_eq_true h60; omega
   obtain ⟨x,hx⟩:∃ x,l[i]? = some x:=⟨_,List.getElem?_eq_getElem h60'⟩
   obtain ⟨b,off,c3,hv,hr⟩:=JU h2 hx
   obtain ⟨o1,o2⟩:=hok.ids x (List.mem_of_getElem? hx)
   have hst:=Hr l (i+1)
   have hss:=IC hx
   refine Am (Af (Ae (Au (A0 ?_))))
   refine Ac (AB (off+i*2) (congrArg some hv) rfl Ax Ax (by rw [Int.toNat_natCast])) ?_
   refine AJ (CZ (vs:=FR x) rfl rfl hr) (Aw (AZ) (fun b10=>?_))
   refine B5 (AU rfl rfl rfl rfl) (AE [7,8,10,57,58,59] rfl (A0 (Ad rfl (Ac (Ab rfl) (AJ (Ag rfl rfl) ?_)))))
   refine Aw (AA (Ch p x.1 B Ax Ax) rfl rfl AC) ?_
   rintro v66 L1 ⟨rfl,rfl⟩
   refine Aj (AE [7,8,10,57,58,59] rfl (Al (Ad rfl (Ac (Ab rfl) (AJ (Ag rfl rfl) (Ac (Dw rfl) ?_))))))
   refine Ac (C6 rfl (Ft (by rw [CO]; omega))) ?_
   refine Aw (AA (Ch p x.2.length (B++Bf 4 x.1) Ax (by rw [List.length_append,Br]; omega)) rfl rfl AC) ?_
   rintro v72 L1 ⟨rfl,rfl⟩
   refine Aj (Be [7,8,57,58,59] rfl (AH (AR (Af (Al (Ac (AO ((i+1:Nat):Int) rfl rfl Ax Ax Ax) (Ad rfl (Be [7,8,57,58,59] rfl (AH ?_)))))))))
   refine Af ⟨i+1,⟨⟨rfl,rfl,rfl,rfl,rfl,trivial⟩,?_,h60'⟩,by omega⟩
   have e:Gr++Bf 1 l.length++(l.take (i+1)).flatMap T9=B++Bf 4 x.1++Bf 4 x.2.length:=by
    rw [List.take_add_one,hx,List.flatMap_append,← List.append_assoc,hB]
    simp only [Option.toList_some,List.flatMap_cons,List.flatMap_nil,List.append_nil,List.append_assoc]
    rfl
   rw [e]
   exact Split.ent' AC
  ·have h60':=of_decide_eq_false h60
   obtain rfl:i=l.length:=by omega
   rw [List.take_length] at hB
   refine AY (AS (AS (AV rfl (Af (Ae (A0 (Ad rfl (Ac (BI rfl) (Ad rfl (AE [8,74,75,76] rfl (Au ?_)))))))))))
   refine B0 (ι:=Nat) (fun i env L=>Sub env [(8,pv p),(74,.slice A2 l.length c2),(75,.int .i64 (l.length:Nat)),(76,.int .i64 (i:Nat))]∧Ent L [EL p (B++(l.take i).flatMap (·.2)),ro μ']∧i≤l.length) (fun i=>l.length-i) 0 ⟨⟨rfl,rfl,rfl,rfl,trivial⟩,by rw [List.take_zero,List.flatMap_nil,List.append_nil]; exact Split.ent' AC,Nat.zero_le _⟩ ?_
   rintro i env L ⟨hsub,hE,hi⟩
   refine B3 _ hsub (AP hE ?_)
   clear hsub hE env L
   have hst:=Hr l i
   have hdl:(B++(l.take i).flatMap (·.2)).length≤200+Q6 (l.take i):=by rw [List.length_append,Ul]; omega
   refine A0 (Ac (Bb rfl rfl) (AE [8,74,75,76,77] rfl (Ae ?_)))
   refine Ak rfl (fun h77=>?_) (fun h77=>?_)
   ·have h77':i<l.length:=by have:=of_decide_eq_true h77; omega
    obtain ⟨x,hx⟩:∃ x,l[i]? = some x:=⟨_,List.getElem?_eq_getElem h77'⟩
    obtain ⟨b,off,c3,hv,hr⟩:=JU h2 hx
    have hst1:=Hr l (i+1)
    have hss:=IC hx
    refine Am (Af (Ae (Au (A0 ?_))))
    refine Ac (AB (off+i*2) (congrArg some hv) rfl Ax Ax (by rw [Int.toNat_natCast])) ?_
    refine AJ (CZ (vs:=FR x) rfl rfl hr) (Aw (AZ) (fun b12=>?_))
    refine B5 (AU rfl rfl rfl rfl) (AE [8,12,74,75,76] rfl (Al (Ad rfl (Ac (Ab rfl) (AJ (Ag rfl rfl) ?_)))))
    refine Aw (AA (Fu p (B++(l.take i).flatMap (·.2)) x.2 Ax Ax) rfl rfl AC) ?_
    rintro v83 L1 ⟨rfl,rfl⟩
    refine Aj (Be [8,74,75,76] rfl (AH (AR (Af (Al (Ac (AO ((i+1:Nat):Int) rfl rfl Ax Ax Ax) (Ad rfl (Be [8,74,75,76] rfl (AH ?_)))))))))
    refine Af ⟨i+1,⟨⟨rfl,rfl,rfl,rfl,trivial⟩,?_,h77'⟩,by omega⟩
    have e:B++(l.take (i+1)).flatMap (·.2)=B++(l.take i).flatMap (·.2)++x.2:=by
     rw [List.take_add_one,hx,List.flatMap_append,← List.append_assoc]
     simp only [Option.toList_some,List.flatMap_cons,List.flatMap_nil,List.append_nil]
    rw [e]
    exact Split.ent' AC
   ·have h77':=of_decide_eq_false h77
    obtain rfl:i=l.length:=by omega
    rw [List.take_length,← hB,show Gr++Bf 1 l.length++l.flatMap T9++l.flatMap (·.2)=KS l from rfl]
    refine AY (AS (AS (AV rfl (Af (A0 (Ad rfl (Ad rfl ?_)))))))
    refine Aw (AA (DO p (KS l)) rfl rfl AC) ?_
    rintro v87 L1 ⟨rfl,rfl⟩
    refine Aj (Aw (Bg (qs:=[(0,_)]) rfl rfl rfl) (fun b88=>?_))
    refine Aw (AA (EU b88 1 (str (KS l)) (by rw [CO]; omega)) rfl rfl AC) ?_
    rintro v89 L1 ⟨rfl,rfl⟩
    refine Aj ?_
    refine Aw (AA (Ch p (E2 (KS l)) (KS l) (GH _) Ax) rfl rfl AC) ?_
    rintro v90 L1 ⟨rfl,rfl⟩
    refine Aj (AE [8] rfl (Ae ?_))
    rw [show KS l++Bf 4 (E2 (KS l))=Fd l from rfl]
    refine Al (Ad rfl ?_)
    refine Aw (AA (DO p (Fd l)) rfl rfl AC) ?_
    rintro v92 L1 ⟨rfl,rfl⟩
    refine Aj (AX rfl (As [2,3] rfl rfl (Ar ?_)))
    exact Aq [ro μ'] (.tmp rfl (.tmp rfl .nil)) ⟨μ',hle,rfl,rfl⟩ AC
def rdL (p:Nat)(a:List UInt8)(x : { x:List UInt8×Nat // x.1.drop x.2=a∧x.2≤x.1.length∧x.1.length≤1073741824}):List AF:=[EK p x.1.1 (x.1.2,0)]
def Ib (p:Nat)(a:List UInt8):AF:=exA (rdL p a)
theorem G9 {p:Nat}{s a:List UInt8}{k:Nat}{L:List AF}(h:s.drop k=a)(h1:k≤s.length)(h2:s.length≤1073741824):Ent (EK p s (k,0)::L) (Ib p a::L):=Du (F:=rdL p a) ⟨(s,k),h,h1,h2⟩
theorem Fx (s:List UInt8)(hs:s.length≤1073741824):Spec prog 137 [.string (str s)] [] (fun v L=>∃ p,v=pv p∧L=[Ib p s]) :=
 Spec.ent3 (J3 s) fun v L ⟨p,h1,h2⟩=>⟨[Ib p s],by rw [h2]; exact G9 rfl (Nat.zero_le _) hs,p,h1,rfl⟩
theorem Q8 {s a rest:List UInt8}{k n:Nat}(h:s.drop k=a++rest)(hn:a.length=n)(hk:k≤s.length):Di s n (k,0)=a∧Cq s n (k,0)=(k+n,0)∧s.drop (k+n)=rest∧k+n≤s.length:=by
 have hl:s.length=k+(n+rest.length):=by
  have:=congrArg List.length h
  rw [List.length_drop,List.length_append,hn] at this
  omega
 have h0:¬ s.length<k+n:=by omega
 refine ⟨?_,?_,?_,by omega⟩
 ·unfold Di
  rw [if_neg (by rintro (h | h); exact h rfl; exact h0 h),h]
  show (a++rest).take n=a
  rw [← hn,List.take_left]
 ·unfold Cq
  rw [if_neg (fun h=>h rfl),if_neg h0]
 ·rw [← List.drop_drop,h,← hn,List.drop_left]
theorem Hs (p n:Nat)(rest:List UInt8)(hn:n<256 ^ 1):Spec prog 139 [pv p] [Ib p (Bf 1 n++rest)] (fun v L=>v=.tuple #[.int .u8 (n:Nat),.int .i64 0]∧L=[Ib p rest]):=by
 refine Spec.exA' fun ⟨⟨s,k⟩,h1,h2,h3⟩=>?_
 obtain ⟨q1,q2,q3,q4⟩:=Q8 h1 (Br 1 n) h2
 refine Spec.ent3 (G8 p s (k,0) h3 h2) fun v L ⟨e1,e2⟩=>⟨[Ib p rest],?_,?_,rfl⟩
 ·rw [e2,q2]; exact G9 q3 q4 h3
 ·rw [e1,q1,q2,Ps (by decide) hn]
theorem Ns (p n:Nat)(rest:List UInt8)(hn:n<256 ^ 2):Spec prog 306 [pv p] [Ib p (Bf 2 n++rest)] (fun v L=>v=.tuple #[.int .u16 (n:Nat),.int .i64 0]∧L=[Ib p rest]):=by
 refine Spec.exA' fun ⟨⟨s,k⟩,h1,h2,h3⟩=>?_
 obtain ⟨q1,q2,q3,q4⟩:=Q8 h1 (Br 2 n) h2
 refine Spec.ent3 (N6 p s (k,0) h3 h2) fun v L ⟨e1,e2⟩=>⟨[Ib p rest],?_,?_,rfl⟩
 ·rw [e2,q2]; exact G9 q3 q4 h3
 ·rw [e1,q1,q2,Ps (by decide) hn]
theorem CB (p n:Nat)(rest:List UInt8)(hn:n<256 ^ 4):Spec prog 138 [pv p] [Ib p (Bf 4 n++rest)] (fun v L=>v=.tuple #[.int .u32 (n:Nat),.int .i64 0]∧L=[Ib p rest]):=by
 refine Spec.exA' fun ⟨⟨s,k⟩,h1,h2,h3⟩=>?_
 obtain ⟨q1,q2,q3,q4⟩:=Q8 h1 (Br 4 n) h2
 refine Spec.ent3 (E6 p s (k,0) h3 h2) fun v L ⟨e1,e2⟩=>⟨[Ib p rest],?_,?_,rfl⟩
 ·rw [e2,q2]; exact G9 q3 q4 h3
 ·rw [e1,q1,q2,Ps (by decide) hn]
theorem Nt (p n:Nat)(a rest:List UInt8)(ha:a.length=n)(hn:n≤4294967296):Spec prog 299 [pv p,.int .i64 (n:Nat)] [Ib p (a++rest)] (fun v L=>v=.tuple #[.string (str a),.int .i64 0]∧L=[Ib p rest]):=by
 refine Spec.exA' fun ⟨⟨s,k⟩,h1,h2,h3⟩=>?_
 obtain ⟨q1,q2,q3,q4⟩:=Q8 h1 ha h2
 refine Spec.ent3 (Gj p s (k,0) n h3 h2 hn) fun v L ⟨e1,e2⟩=>⟨[Ib p rest],?_,?_,rfl⟩
 ·rw [e2,q2]; exact G9 q3 q4 h3
 ·rw [e1,q1,q2]
theorem Nu (p:Nat):Spec prog 140 [pv p] [Ib p []] (fun v L=>v=.int .i64 0∧L=[Ib p []]):=by
 refine Spec.exA' fun ⟨⟨s,k⟩,h1,h2,h3⟩=>?_
 have e:Hb s (k,0)=0:=by
  have hl:=congrArg List.length h1
  rw [List.length_drop,List.length_nil] at hl
  dsimp only at hl
  unfold Hb
  rw [if_neg (fun h=>h rfl),if_neg Ax]
 refine Spec.ent3 (JN p s (k,0) h3 h2) fun v L ⟨e1,e2⟩=>⟨[Ib p []],?_,by rw [e1,e],rfl⟩
 rw [e2,e]; exact G9 h1 h2 h3
def Q9 (l:List Ck)(j:Nat):List Ck:=l.take j++(l.drop j).map fun x=>(x.1,[])
theorem YO (l:List Ck):Q9 l l.length=l:=by unfold Q9; rw [List.take_length,List.drop_length,List.map_nil,List.append_nil]
theorem Wd (l:List Ck):Q9 l 0=l.map fun x=>(x.1,[]):=rfl
theorem YP (l:List Ck)(j:Nat):(Q9 l j).length=l.length:=by unfold Q9; simp only [List.length_append,List.length_take,List.length_map,List.length_drop]; omega
theorem YQ {l:List Ck}{j:Nat}{x:Ck}(h:l[j]? = some x):((Q9 l j).flatMap FR).set (j*2+1) (.string (str x.2))=(Q9 l (j+1)).flatMap FR:=by
 have hj:=(List.getElem?_eq_some_iff.1 h).1
 have hd:l.drop j=x::l.drop (j+1):=by rw [List.drop_eq_getElem_cons hj]; congr 1; exact (List.getElem?_eq_some_iff.1 h).2
 have hl:((l.take j).flatMap FR).length=j*2:=by rw [Ca (f:=FR) (k:=2) (fun _=>rfl),List.length_take]; omega
 unfold Q9
 rw [hd,List.map_cons,List.flatMap_append,List.flatMap_append,List.take_add_one,h,List.flatMap_append,List.set_append_right _ _ Ax,hl,List.append_assoc]
 congr 1
 rw [show j*2+1-j*2=1 by omega]
 rfl
structure KI where
 i:Nat
 v:Option Addr×Nat
 z:Option Addr×Nat
set_option maxHeartbeats 4000000 in
theorem We (p:Nat)(l:List Ck)(hok:CkOk l):Spec prog 300 [pv p] [Ib p (Bf 1 l.length++(l.flatMap T9++l.flatMap (·.2)))] (fun r L=>∃ A c,r=.tuple #[.slice A l.length c,.int .i64 0]∧L=[own 267 2 (.slice A l.length c) l.length (l.flatMap FR)]):=by
 have hl12:=hok.len
 have hsz:=hok.size
 refine Spec.of 72 func300 rfl rfl rfl ?_
 refine A0 (AX rfl (As [0] rfl rfl (A0 (Ad rfl ?_))))
 refine Aw (AA (Hs p l.length _ Ax) rfl rfl AC) ?_
 rintro v17 L1 ⟨rfl,rfl⟩
 refine Aj (Ad rfl (Ac (Ai rfl) (Ac (Ai rfl) (AX rfl (As [0,4] rfl rfl (Ae (A0 (Ad rfl (Ac (BA rfl rfl) (AE [0,4,21] rfl ?_))))))))))
 refine Ak rfl (fun h21=>by have:=of_decide_eq_true h21; omega) (fun h21=>?_)
 refine Am (Af (A0 (As [0,4,6] rfl rfl (A0 (As [0,4,6,7] rfl rfl (A0 (As [0,4,6,7,8] rfl rfl (Ae (A0 (Ad rfl (Ad rfl (AE [0,6,7,8,22,23] rfl (Au (AP (own_nil_ent (e:=267) (n:=2)) (AP (own_nil_ent (e:=3) (n:=1)) ?_)))))))))))))))
 refine B0 (ι:=KI) (fun x env L=>∃ la:Nat,Sub env [(0,pv p),(6,.slice x.v.1 x.i x.v.2),(7,.slice x.z.1 x.i x.z.2),(8,.int .u32 (la:Nat)),(22,.int .u8 (l.length:Nat)),(23,.int .u8 (x.i:Nat))]∧Ent L [Ib p ((l.drop x.i).flatMap T9++l.flatMap (·.2)),own 267 2 (.slice x.v.1 x.i x.v.2) x.i (((l.take x.i).map fun x=>(x.1,([]:List UInt8))).flatMap FR),own 3 1 (.slice x.z.1 x.i x.z.2) x.i (((l.take x.i).map fun x=>((x.2.length:Nat):Int)).flatMap (Bj .i64))]∧x.i≤l.length∧(x.i=0→la=0)∧∀ y,l[x.i]? = some y→la<y.1) (fun x=>l.length-x.i) ⟨0,(none,0),(none,0)⟩ ⟨0,⟨rfl,rfl,rfl,rfl,rfl,rfl,trivial⟩,by show Ent _ [Ib p ((l.drop 0).flatMap T9++l.flatMap (·.2)),own 267 2 (.slice none 0 0) 0 [],own 3 1 (.slice none 0 0) 0 []]; rw [List.drop_zero]; exact Split.ent' AC,Nat.zero_le _,fun _=>rfl,fun y hy=>(hok.ids y (List.mem_of_getElem? hy)).1⟩ ?_
 rintro ⟨i,⟨A,c⟩,⟨B,d⟩⟩ env L ⟨la,hsub,hE,hi,hla0,hla⟩
 dsimp only at hsub hE hi hla0 hla
 refine B3 _ hsub (AP hE ?_)
 clear hsub hE env L
 refine A0 (Ac (Bb rfl rfl) (AE [0,6,7,8,22,23,24] rfl (Ae ?_)))
 refine Ak rfl (fun h24=>?_) (fun h24=>?_)
 ·have h24':i<l.length:=by have:=of_decide_eq_true h24; omega
  obtain ⟨x,hx⟩:∃ x,l[i]? = some x:=⟨_,List.getElem?_eq_getElem h24'⟩
  obtain ⟨o1,o2⟩:=hok.ids x (List.mem_of_getElem? hx)
  have hst:=Hr l (i+1)
  have hss:=IC hx
  have hlax:=hla x hx
  have hd:l.drop i=x::l.drop (i+1):=by rw [List.drop_eq_getElem_cons h24']; congr 1; exact (List.getElem?_eq_some_iff.1 hx).2
  rw [hd,List.flatMap_cons,show T9 x=Bf 4 x.1++Bf 4 x.2.length from rfl,List.append_assoc,List.append_assoc]
  refine Am (Af (Ae (Au (A0 (Ad rfl ?_)))))
  refine Aw (AA (CB p x.1 _ Ax) rfl rfl AC) ?_
  rintro v27 L1 ⟨rfl,rfl⟩
  refine Aj (Ad rfl (Ac (Ai rfl) (Ac (Ai rfl) (AX rfl (As [0,6,7,8,9,22,23] rfl rfl (A0 (Ad rfl ?_)))))))
  refine Aw (AA (CB p x.2.length _ Ax) rfl rfl AC) ?_
  rintro v32 L1 ⟨rfl,rfl⟩
  refine Aj (Ad rfl (Ac (Ai rfl) (Ac (Ai rfl) (AX rfl (As [0,6,7,8,9,11,22,23] rfl rfl (Ae (A0 (Ad rfl (Ad rfl (Ac (Ff rfl rfl) (AE [0,6,7,9,11,22,23,37] rfl ?_)))))))))))
  refine Ak rfl (fun h37=>by have:=of_decide_eq_true h37; omega) (fun h37=>?_)
  refine Am (Af (A0 (Ad rfl (As [0,6,7,8,9,11,22,23] rfl rfl (A0 (Ad rfl (Ad rfl (Ac (Bo (qs:=[(0,_)]) rfl) (Aw (Bg (qs:=[(0,_)]) rfl rfl rfl) (fun b42=>?_))))))))))
  refine Aw (B9 (l:=i) (m:=1) (news:=[.int .u32 (x.1:Nat),.string ⟨#[]⟩]) rfl rfl AC (by simp only [maxLen]; omega) Ax) ?_
  rintro v43 -
  refine Cv (fun m h=>Bz h) fun ⟨A43,c43,hv43⟩=>?_
  subst hv43
  refine As [0,6,7,8,11,22,23] rfl rfl (Al (Ad rfl (Ad rfl (Ac (Bw rfl Ax Ax) (Aw (Bg (qs:=[(0,_)]) rfl rfl rfl) (fun b47=>?_))))))
  refine Aw (B9 (l:=i) (m:=1) rfl rfl AC (by simp only [maxLen]; omega) Ax) ?_
  rintro v48 -
  refine Cv (fun m h=>Bz h) fun ⟨A48,c48,hv48⟩=>?_
  subst hv48
  refine AX rfl (Be [0,6,7,8,22,23] rfl (AH (AR (Af (Al (Ac (KM (i+1) rfl rfl Ax Ax) (Ad rfl (Be [0,6,7,8,22,23] rfl (AH ?_)))))))))
  refine Af ⟨⟨i+1,(A43,c43),(A48,c48)⟩,⟨x.1,⟨rfl,rfl,rfl,rfl,rfl,rfl,trivial⟩,?_,h24',fun h=>absurd h (by show ¬ i+1=0; omega),fun y hy=>hok.asc.lt hx hy (Nat.lt_succ_self i)⟩,by show l.length-(i+1)<l.length-i; omega⟩
  dsimp only
  rw [List.take_add_one,hx,List.map_append,List.map_append,List.flatMap_append,List.flatMap_append]
  show Ent _ [Ib p ((l.drop (i+1)).flatMap T9++l.flatMap (·.2)),own 267 2 (.slice A43 (i+1) c43) (i+1) (((l.take i).map fun x=>(x.1,([]:List UInt8))).flatMap FR++[.int .u32 (x.1:Nat),.string ⟨#[]⟩]),own 3 1 (.slice A48 (i+1) c48) (i+1) (((l.take i).map fun x=>((x.2.length:Nat):Int)).flatMap (Bj .i64)++[.int .i64 (x.2.length:Nat)])]
  exact Split.ent' AC
 ·have h24':=of_decide_eq_false h24
  obtain rfl:i=l.length:=by omega
  rw [List.drop_length,List.flatMap_nil,List.nil_append,List.take_length]
  refine AP (Split.ent' (K:=[own 3 1 (.slice B l.length d) l.length ((l.map fun x=>((x.2.length:Nat):Int)).flatMap (Bj .i64)),own 267 2 (.slice A l.length c) l.length ((l.map fun x=>(x.1,([]:List UInt8))).flatMap FR),Ib p (l.flatMap (·.2))]) AC) ?_
  refine CG (fun m h=>Iu h) fun hcB=>?_
  refine AP Ent.swap ?_
  refine CG (fun m h=>Iu h) fun hcA=>?_
  refine AY (AS (AS (AV rfl (Af (Ae (A0 (Ad rfl (Ac (BI rfl) (Ad rfl (AE [0,6,50,51,52] rfl (Au ?_)))))))))))
  refine B0 (ι:=Nat) (fun i env L=>Sub env [(0,pv p),(6,.slice A l.length c),(50,.slice B l.length d),(51,.int .i64 (l.length:Nat)),(52,.int .i64 (i:Nat))]∧Ent L [own 267 2 (.slice A l.length c) l.length ((Q9 l i).flatMap FR),own 3 1 (.slice B l.length d) l.length ((l.map fun x=>((x.2.length:Nat):Int)).flatMap (Bj .i64)),Ib p ((l.drop i).flatMap (·.2))]∧i≤l.length) (fun i=>l.length-i) 0 ⟨⟨rfl,rfl,rfl,rfl,rfl,trivial⟩,by rw [Wd,List.drop_zero]; exact Split.ent' AC,Nat.zero_le _⟩ ?_
  rintro i env L ⟨hsub,hE,hi⟩
  refine B3 _ hsub (AP hE ?_)
  clear hsub hE env L
  refine A0 (Ac (Bb rfl rfl) (AE [0,6,50,51,52,53] rfl (Ae ?_)))
  refine Ak rfl (fun h53=>?_) (fun h53=>?_)
  ·have h53':i<l.length:=by have:=of_decide_eq_true h53; omega
   obtain ⟨x,hx⟩:∃ x,l[i]? = some x:=⟨_,List.getElem?_eq_getElem h53'⟩
   obtain ⟨o1,o2⟩:=hok.ids x (List.mem_of_getElem? hx)
   have hst:=Hr l (i+1)
   have hss:=IC hx
   have hd:l.drop i=x::l.drop (i+1):=by rw [List.drop_eq_getElem_cons h53']; congr 1; exact (List.getElem?_eq_some_iff.1 hx).2
   obtain ⟨bA,rfl⟩:∃ b:Nat,A=some ⟨b,0,none⟩:=by
    obtain ⟨A',c',e,e1,e2,e3,e4⟩:=hcA
    cases e
    cases A with
    | none=>have:=e3 rfl; omega
    | some a=>obtain ⟨b,rfl⟩:=e4 a rfl; exact ⟨b,rfl⟩
   obtain ⟨bB,rfl⟩:∃ b:Nat,B=some ⟨b,0,none⟩:=by
    obtain ⟨A',c',e,e1,e2,e3,e4⟩:=hcB
    cases e
    cases B with
    | none=>have:=e3 rfl; omega
    | some a=>obtain ⟨b,rfl⟩:=e4 a rfl; exact ⟨b,rfl⟩
   have hget:((l.map fun x=>((x.2.length:Nat):Int)).flatMap (Bj .i64))[i*1]? = some (.int .i64 (x.2.length:Nat)):=by
    have:=LU (f:=Bj .i64) (n:=1) (fun _=>rfl) (l:=l.map fun x=>((x.2.length:Nat):Int)) (i:=i) (a:=((x.2.length:Nat):Int)) (by rw [List.getElem?_map,hx]; rfl) 0 (.int .i64 (x.2.length:Nat)) rfl
    exact this
   rw [hd,List.flatMap_cons]
   refine Am (Af (Ae (Au (A0 (Ad rfl ?_)))))
   refine Ac (AB (0+i*1) rfl rfl Ax Ax (by rw [Int.toNat_natCast])) ?_
   refine AJ (PL (i:=0+i*1) (v:=.int .i64 (x.2.length:Nat)) rfl K3 (by rw [Nat.zero_add]; exact hget)) ?_
   refine AX rfl (As [0,6,13,14,50,51,52] rfl rfl (Al (Ad rfl (Ad rfl (Ad rfl (Ad rfl ?_))))))
   refine Aw (AA (Nt p x.2.length x.2 _ rfl Ax) rfl rfl AC) ?_
   rintro v62 L1 ⟨rfl,rfl⟩
   refine Aj (Ad rfl (Ac (Ai rfl) (Ac (Ai rfl) ?_)))
   refine Ac (AB (0+i*2) rfl rfl Ax Ax (by rw [Int.toNat_natCast])) ?_
   refine Ac (Bt rfl) ?_
   refine B5 (PM (i:=0+i*2+1) rfl rfl AC (by rw [Ca (f:=FR) (k:=2) (fun _=>rfl),YP]; omega) rfl) ?_
   refine Be [0,6,50,51,52] rfl (AH (AR (Af (Al (Ac (AO ((i+1:Nat):Int) rfl rfl Ax Ax Ax) (Ad rfl (Be [0,6,50,51,52] rfl (AH ?_))))))))
   refine Af ⟨i+1,⟨⟨rfl,rfl,rfl,rfl,rfl,trivial⟩,?_,h53'⟩,by omega⟩
   rw [← YQ hx]
   rw [show 0+i*2+1=i*2+1 by omega]
   exact Split.ent' AC
  ·have h53':=of_decide_eq_false h53
   obtain rfl:i=l.length:=by omega
   rw [List.drop_length,YO,List.flatMap_nil]
   refine AY (AS (AS (AV rfl (Af (Ae (A0 (Ad rfl ?_)))))))
   refine Aw (AA (Nu p) rfl rfl AC) ?_
   rintro v69 L1 ⟨rfl,rfl⟩
   refine Aj (Ac (Bm rfl rfl) (AE [6,70] rfl (Dz rfl (Am (Af (A0 (Ad rfl (AX rfl (As [2,3] rfl rfl (Ar ?_))))))))))
   exact Aq [own 267 2 (.slice A l.length c) l.length (l.flatMap FR)] (.tmp rfl (.tmp rfl .nil)) ⟨A,c,rfl,rfl⟩ AC
theorem Ta (l:List Ck):(Fd l).drop (KS l).length=Bf 4 (E2 (KS l)):=by unfold Fd; rw [List.drop_left]
theorem Tb (l:List Ck):(Fd l).take (KS l).length=KS l:=by unfold Fd; rw [List.take_left]
theorem Wg (l:List Ck):(Fd l).length=(KS l).length+4:=by unfold Fd; rw [List.length_append,Br]
theorem KT (l:List Ck):KS l=Gr++(Bf 1 l.length++(l.flatMap T9++l.flatMap (·.2))):=by unfold KS; simp only [List.append_assoc]
set_option maxHeartbeats 4000000 in
theorem Rl (l:List Ck)(hok:CkOk l):Spec prog 235 [.string (str (Fd l))] [] (fun r L=>∃ A c,r=.tuple #[.slice A l.length c,.int .i64 0]∧L=[own 267 2 (.slice A l.length c) l.length (l.flatMap FR)]):=by
 have hl12:=hok.len
 have hsz:=hok.size
 have hbl:=Q7 l
 have hel:=Wg l
 have hm5:(Fd l).take 5=Gr:=by unfold Fd; rw [KT]; rfl
 have hmid:((Fd l).drop 5).take ((KS l).length-5)=Bf 1 l.length++(l.flatMap T9++l.flatMap (·.2)):=by
  have e:(Fd l).drop 5=Bf 1 l.length++(l.flatMap T9++l.flatMap (·.2))++Bf 4 (E2 (KS l)):=by unfold Fd; rw [KT]; rfl
  rw [e]
  refine List.take_left' ?_
  rw [KT]; rfl
 refine Spec.of 44 func235 rfl rfl rfl ?_
 refine A0 (AX rfl (As [0] rfl rfl (Ae (Au (A0 (Ad rfl (Ac (D0 rfl) (Ac (BA rfl rfl) (As [0,7] rfl rfl ?_)))))))))
 refine Ak rfl (fun h7=>by have:=of_decide_eq_true h7; omega) (fun h7=>?_)
 refine A0 (Ad rfl (Ac (D0 rfl) (Ac (Bb rfl rfl) (As [0,11] rfl rfl ?_))))
 refine Ak rfl (fun h11=>by have:=of_decide_eq_true h11; omega) (fun h11=>?_)
 refine A0 (Ad rfl (Ac (Ik 5 rfl rfl rfl Ax) (Ac (Et (a:=str ((Fd l).take 5)) (b:=str Gr) rfl rfl) (As [0,15] rfl rfl ?_))))
 refine Ak rfl (fun h15=>by rw [hm5,BZ] at h15; cases h15) (fun h15=>?_)
 refine Am (AR (Af (A0 (Ad rfl (Ac (D0 rfl) (Ac (BY (((KS l).length:Nat):Int) rfl rfl Ax Ax Ax) (As [0,4] rfl rfl (Ae (A0 (Ad rfl (Ad rfl (Ac (Il (KS l).length rfl rfl rfl Ax) ?_))))))))))))
 rw [Ta]
 refine Aw (AA (Fx (Bf 4 (E2 (KS l))) (by rw [Br]; decide)) rfl rfl AC) ?_
 rintro v26 L1 ⟨p,rfl,rfl⟩
 refine Aj ?_
 refine Aw (AA ((CB p (E2 (KS l)) [] (GH _)).pre (by rw [List.append_nil]; exact Ent.refl _)) rfl rfl AC) ?_
 rintro v27 L1 ⟨rfl,rfl⟩
 refine Aj (Ad rfl (Ac (Ai rfl) (Ac (Ai rfl) (AX rfl (As [0,4,5] rfl rfl (A0 (Ad rfl (Ad rfl (Ad rfl (Ac (Ik (KS l).length rfl rfl rfl Ax) ?_))))))))))
 rw [Tb]
 refine Aw (Bg (qs:=[(0,_)]) rfl rfl rfl) fun b34=>?_
 refine Aw (AA (EU b34 1 (str (KS l)) (by rw [CO]; omega)) rfl rfl AC) ?_
 rintro v35 L1 ⟨rfl,rfl⟩
 refine Aj (Ac (Bm rfl rfl) (AE [0,4,36] rfl ?_))
 refine Ak rfl (fun h36=>by simp [E2] at h36) (fun h36=>?_)
 refine Am (Af (A0 (Ad rfl (Ad rfl (Ac (Kt 5 (KS l).length rfl rfl rfl rfl rfl Ax Ax) ?_)))))
 rw [hmid]
 refine Aw (AA (Fx _ (by rw [← hmid,List.length_take,List.length_drop]; omega)) rfl rfl AC) ?_
 rintro v40 L1 ⟨q,rfl,rfl⟩
 refine Aj ?_
 refine Aw (AA (We q l hok) rfl rfl AC) ?_
 rintro v41 L1 ⟨A,c,rfl,rfl⟩
 refine Aj (Ac (Ai rfl) (Ac (Ai rfl) (AX rfl (As [2,3] rfl rfl (Ar ?_)))))
 exact Aq [own 267 2 (.slice A l.length c) l.length (l.flatMap FR)] (.tmp rfl (.tmp rfl .nil)) ⟨A,c,rfl,rfl⟩ AC
theorem Lw (μ:PH)(v:Value)(l:List Ck)(h:Row μ v 2 l.length (l.flatMap FR))(k:Nat)(x:Ck)(hx:l[k]? = some x)(hok:AscC l):Spec prog 302 [v,.int .u32 (x.1:Nat)] [ro μ] (fun r L=>r=.tuple #[.string (str x.2),.bool true]∧L=[ro μ]):=by
 have hsm:=h.small
 refine Spec.of 21 func302 rfl rfl rfl ?_
 refine A0 (AX rfl (As [0,1] rfl rfl (Ae (A0 (Ad rfl (Ac (B2 h rfl) (Ad rfl (AE [1,8,9,10] rfl (Au ?_)))))))))
 have hkl:=(List.getElem?_eq_some_iff.1 hx).1
 refine B0 (ι:=Nat) (fun i env L=>Sub env [(1,.int .u32 (x.1:Nat)),(8,v),(9,.int .i64 (l.length:Nat)),(10,.int .i64 (i:Nat))]∧Ent L [ro μ]∧i≤k) (fun i=>l.length-i) 0 ⟨⟨rfl,rfl,rfl,rfl,trivial⟩,Ent.refl _,Nat.zero_le _⟩ ?_
 rintro i env L ⟨hsub,hE,hi⟩
 refine B3 _ hsub (AP hE ?_)
 clear hsub hE env L
 refine A0 (Ac (Bb rfl rfl) (AE [1,8,9,10,11] rfl (Ae ?_)))
 refine Ak rfl (fun h11=>?_) (fun h11=>by have:=of_decide_eq_false h11; omega)
 obtain ⟨y,hy⟩:∃ y,l[i]? = some y:=⟨_,List.getElem?_eq_getElem Ax⟩
 obtain ⟨b,off,cap,hv,hr⟩:=JU h hy
 refine Am (Af (Ae (Au (A0 ?_))))
 refine Ac (AB (off+i*2) (congrArg some hv) rfl Ax Ax (by rw [Int.toNat_natCast])) ?_
 refine AJ (CZ (vs:=FR y) rfl rfl hr) (Aw (AZ) (fun b7=>?_))
 refine B5 (AU rfl rfl rfl rfl) (AE [1,7,8,9,10] rfl (A0 (Ac (Ab rfl) (AJ (Ag rfl rfl) (Ad rfl (Ac (Bp rfl rfl) (AE [1,7,8,9,10,17] rfl ?_)))))))
 refine Ak rfl (fun h17=>?_) (fun h17=>?_)
 ·have h17':y.1=x.1:=by have:=of_decide_eq_true h17; omega
  have hik:i=k:=by
   rcases Nat.lt_or_ge i k with h1 | h1
   ·have:=hok.lt hy hx h1; omega
   ·omega
  subst hik
  obtain rfl:y=x:=by rw [hx] at hy; exact (Option.some.inj hy).symm
  refine A0 (Ac (Ab rfl) (AJ (Ag rfl rfl) (AX rfl (As [4,5] rfl rfl (Ar (B6 (AN (AN (B6 (AN ?_))))))))))
  exact Aq [ro μ] (.tmp rfl (.tmp rfl .nil)) ⟨rfl,rfl⟩ AC
 ·have h17':i≠k:=fun e=>by
   subst e
   obtain rfl:y=x:=by rw [hx] at hy; exact (Option.some.inj hy).symm
   exact absurd rfl (of_decide_eq_false h17)
  refine Am (AR (Af (Al (Ac (AO ((i+1:Nat):Int) rfl rfl Ax Ax Ax) (Ad rfl (Be [1,8,9,10] rfl (AH ?_)))))))
  exact Af ⟨i+1,⟨⟨rfl,rfl,rfl,rfl,trivial⟩,Split.ent' AC,by omega⟩,by omega⟩
theorem Tc (s:Int)(bt:List UInt8)(h:(s=1∧bt≠[]∧bt.length≤4096)∨(s=2∧bt=[])):Spec prog 318 [.agg #[.int .i64 s,.string (str bt)]] [] (fun r L=>r=.bool true∧L=[]):=by
 refine Spec.of 22 func318 rfl rfl rfl ?_
 refine A0 (Aw (Bi rfl rfl) (fun b1=>?_))
 refine As [1] rfl rfl (Ae (A0 (Ac (Ab rfl) (AJ (Ag rfl rfl) (AE [1,4] rfl (Au (Ae (A0 (Ac (Bp rfl rfl) (As [1,4,5] rfl rfl ?_))))))))))
 refine Ak rfl (fun h5=>by rcases h with ⟨rfl,_⟩ | ⟨rfl,_⟩ <;> cases h5) (fun h5=>?_)
 refine Al (Ac (Bp rfl rfl) (As [1,4,5] rfl rfl ?_))
 refine Ak rfl (fun h5=>?_) (fun h5=>?_)
 ·refine A0 (Ac (Ab rfl) (AJ (Ag rfl rfl) (Ac (Jz rfl rfl) (As [2] rfl rfl (Ar (B6 (AN ?_)))))))
  have h5':s=2:=of_decide_eq_true h5
  rcases h with ⟨rfl,_⟩ | ⟨_,rfl⟩
  ·cases h5'
  ·exact Aq [] (.tmp rfl .nil) ⟨by rw [show Bx (str []) ⟨#[]⟩=true from BZ _]; rfl,rfl⟩ AC
 ·refine A0 (Ac (Bp rfl rfl) (As [1,11] rfl rfl ?_))
  refine Ak rfl (fun h11=>?_) (fun h11=>by rcases h with ⟨rfl,_⟩ | ⟨rfl,_⟩ <;> first | exact absurd h11 (by decide) | exact absurd h5 (by decide))
  refine A0 (Ac (Ab rfl) (AJ (Ag rfl rfl) (Ac (Et rfl rfl) (Ad rfl ?_))))
  refine B7 16 rfl (fun h16=>?_) (fun h16=>by rcases h with ⟨_,h2,_⟩ | ⟨rfl,_⟩; exact absurd h16 (by rw [show Bx (str bt) ⟨#[]⟩=false from by rw [show (⟨#[]⟩:ByteArray)=str [] from rfl,A11]; exact decide_eq_false h2]; decide); exact absurd h5 (by decide))
  refine AQ rfl rfl (Ac (Ab rfl) (AQ rfl rfl (AJ (Ag rfl rfl) (AQ rfl rfl (Ac (Dw rfl) (AQ rfl rfl (Ac (Ff rfl rfl) (Ac (B4 rfl rfl) (As [2] rfl rfl (Ar (B6 (AN ?_))))))))))))
  rcases h with ⟨_,_,h3⟩ | ⟨rfl,_⟩
  ·exact Aq [] (.tmp rfl .nil) ⟨congrArg Value.bool (decide_eq_true (by rw [CO]; omega)),rfl⟩ AC
  ·cases h5
abbrev setC:List Value:=[.int .i64 3,.int .i64 10,.int .i64 2,.int .u32 7]
theorem Gs:Spec prog 75 [.agg setC.toArray] [] (fun r L=>r=.int .i64 0∧L=[]):=by
 refine Spec.of 31 func75 rfl rfl rfl ?_
 refine A0 (Aw (Bi rfl rfl) (fun b1=>?_))
 refine As [1] rfl rfl (Ae (A0 (Ac (Ab rfl) (AJ (Ag rfl rfl) (Ac (Bb rfl rfl) (Ad rfl ?_))))))
 refine B7 6 rfl (fun h6=>by cases h6) (fun h6=>?_)
 refine AQ rfl rfl (Ac (Ab rfl) (AQ rfl rfl (AJ (Ag rfl rfl) (AQ rfl rfl (Ac (BA rfl rfl) (Ac (AT rfl rfl) (Ad rfl ?_)))))))
 refine B7 11 rfl (fun h11=>by cases h11) (fun h11=>?_)
 refine AQ rfl rfl (Ac (Ab rfl) (AQ rfl rfl (AJ (Ag rfl rfl) (AQ rfl rfl (Ac (Bb rfl rfl) (Ac (AT rfl rfl) (Ad rfl ?_)))))))
 refine B7 16 rfl (fun h16=>by cases h16) (fun h16=>?_)
 refine AQ rfl rfl (Ac (Ab rfl) (AQ rfl rfl (AJ (Ag rfl rfl) (AQ rfl rfl (Ac (BA rfl rfl) (Ac (AT rfl rfl) (Ad rfl ?_)))))))
 refine B7 21 rfl (fun h21=>by cases h21) (fun h21=>?_)
 refine AQ rfl rfl (Ac (Ab rfl) (AQ rfl rfl (AJ (Ag rfl rfl) (AQ rfl rfl (Ac (Bb rfl rfl) (Ac (AT rfl rfl) (Ad rfl ?_)))))))
 refine B7 26 rfl (fun h26=>by cases h26) (fun h26=>?_)
 refine AQ rfl rfl (Ac (Ab rfl) (AQ rfl rfl (AJ (Ag rfl rfl) (AQ rfl rfl (Ac (BA rfl rfl) (Ac (AT rfl rfl) (AE [30] rfl (Dz rfl (Am (Af (A0 (As [2] rfl rfl (Ar ?_)))))))))))))
 exact Aq [] (.tmp rfl .nil) ⟨rfl,rfl⟩ AC
set_option maxHeartbeats 2000000 in
theorem Td (μ:PH)(A:Option Addr)(cap:Nat)(r:GR)(n:Nat)(hr:Row μ (.slice A r.ps.length cap) 1 r.ps.length (r.ps.flatMap (Bj .i64)))(h:r.Ok n):Spec prog 251 [.agg (grl A cap r).toArray,.int .i64 (n:Nat)] [ro μ] (fun r L=>r=.bool true∧L=[ro μ]):=by
 have hpl:=h.pl
 have htr:=h.tr
 have hgn:=h.gn
 refine Spec.of 58 func251 rfl rfl rfl ?_
 refine A0 (Aw (Bi rfl rfl) (fun b2=>?_))
 refine As [1,2] rfl rfl (Ae (A0 (Ac (Ab rfl) (AJ (Ag rfl rfl) (Ac (B2 hr rfl) (Ac (BA rfl rfl) (Ad rfl ?_)))))))
 refine B7 11 rfl (fun h11=>by have:=of_decide_eq_true h11; omega) (fun h11=>?_)
 refine AQ rfl rfl (Ac (Ab rfl) (AQ rfl rfl (AJ (Ag rfl rfl) (AQ rfl rfl (Ac (Bb rfl rfl) (Ac (AT rfl rfl) (Ad rfl ?_)))))))
 refine B7 16 rfl (fun h16=>by have:=of_decide_eq_true h16; omega) (fun h16=>?_)
 refine AQ rfl rfl (Ac (Ab rfl) (AQ rfl rfl (AJ (Ag rfl rfl) (AQ rfl rfl (Ac (CA rfl rfl) (Ac (AT rfl rfl) (Ad rfl ?_)))))))
 refine B7 21 rfl (fun h21=>by have:=of_decide_eq_true h21; omega) (fun h21=>?_)
 refine AQ rfl rfl (Ac (Ab rfl) (AQ rfl rfl (AJ (Ag rfl rfl) (AQ rfl rfl (Ac (Bb rfl rfl) (Ac (AT rfl rfl) (Ad rfl ?_)))))))
 refine B7 26 rfl (fun h26=>by have:=of_decide_eq_true h26; omega) (fun h26=>?_)
 refine AQ rfl rfl (Ac (Ab rfl) (AQ rfl rfl (AJ (Ag rfl rfl) (AQ rfl rfl (Ac (BA rfl rfl) (Ac (AT rfl rfl) (AE [1,2,30] rfl ?_)))))))
 refine Ak rfl (fun h30=>by have:=of_decide_eq_true h30; omega) (fun h30=>?_)
 refine Am (Af (Ae (A0 (Ac (Ab rfl) (AJ (Ag rfl rfl) (Ac (B2 hr rfl) (Ad rfl (AE [1,2,32,33,34] rfl (Au ?_)))))))))
 refine B0 (ι:=Nat) (fun i env L=>Sub env [(1,.int .i64 (n:Nat)),(2,pv b2),(32,.slice A r.ps.length cap),(33,.int .i64 (r.ps.length:Nat)),(34,.int .i64 (i:Nat))]∧Ent L [B1 b2 211 [.slice A r.ps.length cap,.int .i64 r.tr,.int .i64 r.gn,.int .i64 r.st,.string (str r.bt)],ro μ]∧i≤r.ps.length) (fun i=>r.ps.length-i) 0 ⟨⟨rfl,rfl,rfl,rfl,rfl,trivial⟩,Split.ent' AC,Nat.zero_le _⟩ ?_
 rintro i env L ⟨hsub,hE,hi⟩
 refine B3 _ hsub (AP hE ?_)
 clear hsub hE env L
 refine A0 (Ac (Bb rfl rfl) (AE [1,2,32,33,34,35] rfl (Ae ?_)))
 refine Ak rfl (fun h35=>?_) (fun h35=>?_)
 ·have h35':i<r.ps.length:=by have:=of_decide_eq_true h35; omega
  obtain ⟨p,hp⟩:∃ p,r.ps[i]? = some p:=⟨_,List.getElem?_eq_getElem h35'⟩
  obtain ⟨b,off,c2,hv,hc⟩:=HN hr hp
  have hpr:=h.pr p (List.mem_of_getElem? hp)
  have hno:(r.ps.take i).contains p=false:=by
   rw [← Bool.not_eq_true,List.contains_iff_mem]
   intro hm
   obtain ⟨j,hj⟩:=List.getElem?_of_mem hm
   have hjl:=(List.getElem?_eq_some_iff.1 hj).1
   rw [List.length_take] at hjl
   rw [List.getElem?_take_of_lt Ax] at hj
   have:=(List.getElem?_inj Ax h.pn).1 (hj.trans hp.symm)
   omega
  refine Am (Af (Ae (Au (A0 (Ad rfl ?_)))))
  refine Ac (AB (off+i*1) (congrArg some hv) rfl Ax Ax (by rw [Int.toNat_natCast])) ?_
  refine AJ (C3 rfl hc) (AX rfl (As [1,2,5,6,32,33,34] rfl rfl (A0 (Ad rfl (Ac (Bb rfl rfl) (Ad rfl ?_))))))
  refine B7 41 rfl (fun h41=>by have:=of_decide_eq_true h41; omega) (fun h41=>?_)
  refine AQ rfl rfl (Ad rfl (AQ rfl rfl (Ad rfl (AQ rfl rfl (Ac (CA rfl rfl) (Ac (AT rfl rfl) (Ad rfl ?_)))))))
  refine B7 46 rfl (fun h46=>by have:=of_decide_eq_true h46; omega) (fun h46=>?_)
  refine AQ rfl rfl (Ac (Ab rfl) (AQ rfl rfl (AJ (Ag rfl rfl) (AQ rfl rfl (Ad rfl (AQ rfl rfl ?_))))))
  refine Ac (DB i rfl rfl rfl (by obtain ⟨_,_,_,he,hh,_⟩:=hr; cases he; omega)) ?_
  refine AQ rfl rfl (Ad rfl (AQ rfl rfl ?_))
  refine Aw (AA (R1 μ (.slice A i cap) (r.ps.take i) p (hr.tk (f:=Bj .i64) (fun _=>rfl) Ax)) rfl rfl AC) ?_
  rintro v52 L1 ⟨rfl,rfl⟩
  rw [hno]
  refine Aj (Ac (AT rfl rfl) (AE [1,2,32,33,34,53] rfl (Dz rfl (Am (AR (Af (Al (Ac (AO ((i+1:Nat):Int) rfl rfl Ax Ax Ax) (Ad rfl (Be [1,2,32,33,34] rfl (AH ?_)))))))))))
  exact Af ⟨i+1,⟨⟨rfl,rfl,rfl,rfl,rfl,trivial⟩,Split.ent' AC,h35'⟩,by omega⟩
 ·refine AY (AS (AS (AV rfl (Af (A0 (Ac (Ab rfl) (AJ (BG (vs:=[.int .i64 r.st,.string (str r.bt)]) rfl rfl rfl) ?_)))))))
  refine Aw (AA (Tc r.st r.bt h.ft) rfl rfl AC) ?_
  rintro v57 L1 ⟨rfl,rfl⟩
  refine Aj (As [4] rfl rfl (Ar ?_))
  exact Aq [ro μ] (.tmp rfl .nil) ⟨rfl,rfl⟩ AC
abbrev LF (base:Nat)(v:Value):List Value:=[.int .i64 (base:Nat),.int .i64 3,.int .i64 10,.int .i64 2,.int .u32 7,v]
set_option maxHeartbeats 2000000 in
theorem Wh (μ:PH)(base:Nat)(v:Value)(R:List (Value×GR))(hg:GRows μ v R)(h:GsOk base (DZ R)):Spec prog 161 [.agg (LF base v).toArray] [ro μ] (fun r L=>r=.int .i64 0∧L=[ro μ]):=by
 have hlen:=h.len
 have hall:=h.all
 rw [List.length_map] at hlen hall
 refine Spec.of 41 func161 rfl rfl rfl ?_
 refine A0 (Aw (Bi rfl rfl) (fun b1=>?_))
 refine As [1] rfl rfl (Ae (A0 (Ac (Ab rfl) (AJ (Ag rfl rfl) (Ac (Bb rfl rfl) (Ad rfl ?_))))))
 refine B7 8 rfl (fun h8=>by have:=of_decide_eq_true h8; omega) (fun h8=>?_)
 refine AQ rfl rfl (Ac (Ab rfl) (AQ rfl rfl (AJ (Ag rfl rfl) (AQ rfl rfl (Ac (BA rfl rfl) (Ac (AT rfl rfl) (Ad rfl ?_)))))))
 refine B7 13 rfl (fun h13=>by have:=of_decide_eq_true h13; omega) (fun h13=>?_)
 refine AQ rfl rfl (Ac (Ab rfl) (AQ rfl rfl (AJ (Ag rfl rfl) (AQ rfl rfl (Ac (B2 hg.row rfl) (AQ rfl rfl (Ac (Ab rfl) (AQ rfl rfl (AJ (Ag rfl rfl) (AQ rfl rfl (Ac (BY ((65536-base:Nat):Int) rfl rfl Ax Ax Ax) (AQ rfl rfl (Ac (BA rfl rfl) (Ac (AT rfl rfl) (AE [1,21] rfl ?_)))))))))))))))
 refine Ak rfl (fun h21=>by have:=of_decide_eq_true h21; omega) (fun h21=>?_)
 refine Am (Af (Ae (A0 (Ac (Ab rfl) (AJ (Ag rfl rfl) (Ac (B2 hg.row rfl) (Ad rfl (AE [1,23,24,25] rfl (Au ?_)))))))))
 refine B0 (ι:=Nat) (fun i env L=>Sub env [(1,pv b1),(23,v),(24,.int .i64 (R.length:Nat)),(25,.int .i64 (i:Nat))]∧Ent L [B1 b1 141 [.int .i64 (base:Nat),.int .i64 3,.int .i64 10,.int .i64 2,.int .u32 7,v],ro μ]∧i≤R.length) (fun i=>R.length-i) 0 ⟨⟨rfl,rfl,rfl,rfl,trivial⟩,Split.ent' AC,Nat.zero_le _⟩ ?_
 rintro i env L ⟨hsub,hE,hi⟩
 refine B3 _ hsub (AP hE ?_)
 clear hsub hE env L
 refine A0 (Ac (Bb rfl rfl) (AE [1,23,24,25,26] rfl (Ae ?_)))
 refine Ak rfl (fun h26=>?_) (fun h26=>?_)
 ·have h26':i<R.length:=by have:=of_decide_eq_true h26; omega
  obtain ⟨x,hx⟩:∃ x,R[i]? = some x:=⟨_,List.getElem?_eq_getElem h26'⟩
  obtain ⟨b,off,c2,A,c,hv,hr,hp,_⟩:=PN hg hx
  refine Am (Af (Ae (Au (A0 (Ad rfl ?_)))))
  refine Ac (AB (off+i*5) (congrArg some hv) rfl Ax Ax (by rw [Int.toNat_natCast])) ?_
  refine AJ (CZ (vs:=[.slice A x.2.ps.length c,.int .i64 x.2.tr,.int .i64 x.2.gn,.int .i64 x.2.st,.string (str x.2.bt)]) rfl rfl hr) (Aw (AZ) (fun b4=>?_))
  refine AX rfl (B5 (AU rfl rfl rfl rfl) (AE [1,3,4,23,24,25] rfl (A0 (AJ (BP rfl rfl) (Ac (Ab rfl) (AJ (Ag rfl rfl) (Ad rfl (Ac (AO ((base+i:Nat):Int) rfl rfl Ax Ax Ax) ?_))))))))
  refine Aw (AA (Td μ A c x.2 (base+i) hp (h.row i x.2 (Sw hx))) rfl rfl AC) ?_
  rintro v35 L1 ⟨rfl,rfl⟩
  refine Aj (Ac (BO rfl) (AE [1,23,24,25,36] rfl (Dz rfl (Am (AR (Af (Al (Ac (AO ((i+1:Nat):Int) rfl rfl Ax Ax Ax) (Ad rfl (Be [1,23,24,25] rfl (AH ?_)))))))))))
  exact Af ⟨i+1,⟨⟨rfl,rfl,rfl,rfl,trivial⟩,Split.ent' AC,h26'⟩,by omega⟩
 ·refine AY (AS (AS (AV rfl (Af (A0 (Ac (Ab rfl) (AJ (BG (vs:=[.int .i64 3,.int .i64 10,.int .i64 2,.int .u32 7]) rfl rfl rfl) ?_)))))))
  refine Aw (AA Gs rfl rfl AC) ?_
  rintro v40 L1 ⟨rfl,rfl⟩
  refine Aj (As [2] rfl rfl (Ar ?_))
  exact Aq [ro μ] (.tmp rfl .nil) ⟨rfl,rfl⟩ AC
theorem KU (p:Nat)(bs:List UInt8):Spec prog 163 [pv p] [EL p bs] (fun r L=>r=.int .i64 (bs.length:Nat)∧L=[EL p bs]):=by
 refine Spec.exA' fun v=>?_
 simp only [List.cons_append,List.nil_append]
 refine Spec.ent3 (post:=fun r L=>r=.int .i64 (bs.length:Nat)∧L=[B1 p 294 [v],own 5 1 v bs.length (Dd bs)]) ?_ (fun r L ⟨h1,h2⟩=>⟨[EL p bs],by rw [h2]; exact Ho,h1,rfl⟩)
 refine Spec.pre (pre:=[own 5 1 v bs.length (Dd bs),B1 p 294 [v]]) ?_ Ent.swap
 refine Spec.fact' (fun m h=>Bz h) fun hf=>?_
 refine Spec.of 10 func163 rfl rfl rfl ?_
 refine A0 (As [0] rfl rfl (Ae (A0 (Ad rfl (Ac (Bd rfl rfl) (AE [0,4] rfl (Dz rfl (Am (Af (A0 (Ad rfl (Ac (Ah rfl) (Ac (Ab rfl) (AJ (Ag rfl rfl) (Ac (Es hf rfl) (As [2] rfl rfl (Ar ?_)))))))))))))))))
 exact Aq [B1 p 294 [v],own 5 1 v bs.length (Dd bs)] (.tmp rfl .nil) ⟨rfl,rfl⟩ AC
set_option maxHeartbeats 4000000 in
theorem Wi (μ:PH)(p q:Nat)(X E:List UInt8)(A:Option Addr)(cap:Nat)(r:GR)(n:Nat)(hr:Row μ (.slice A r.ps.length cap) 1 r.ps.length (r.ps.flatMap (Bj .i64)))(h:r.Ok n)(hn:n≤65536)(hE:E.length≤4000)(hX:X.length≤4000):Spec prog 162 [pv p,pv q,.agg (grl A cap r).toArray] [EL p X,EL q E,ro μ] (fun v L=>v=.tuple #[]∧L=[EL p (X++Hi E.length r),EL q (E++EE r),ro μ]):=by
 have hpl:=h.pl
 have htr:=h.tr
 have hgn:=h.gn
 have hst:0≤r.st∧r.st<256:=by rcases h.ft with ⟨e,_⟩ | ⟨e,_⟩ <;> omega
 have hpr:∀ (i:Nat) (x:Int),r.ps[i]? = some x→x=(x.toNat:Int)∧x.toNat<65536:=fun i x hx=>by have:=h.pr x (List.mem_of_getElem? hx); omega
 refine Spec.of 86 func162 rfl rfl rfl ?_
 refine A0 (Aw (Bi rfl rfl) (fun b5=>?_))
 refine AE [0,1,5] rfl (A0 (AX rfl (As [0,1,5,6,7] rfl rfl ?_)))
 refine Cb (fun env L=>Sub env [(0,pv p),(5,pv b5),(6,.int .u32 4294967295),(7,.int .u32 (DT E.length r:Nat))]∧Ent L [EL p X,EL q (E++EE r),B1 b5 211 [.slice A r.ps.length cap,.int .i64 r.tr,.int .i64 r.gn,.int .i64 r.st,.string (str r.bt)],ro μ]) ?_ ?_
 ·refine A0 (Ac (Ab rfl) (AJ (Ag rfl rfl) (Ac (B2 hr rfl) (As [0,1,5,6,7,8] rfl rfl (Au (A0 (Ad rfl (Ac (BA rfl rfl) (As [0,1,5,6,7,8,14] rfl rfl ?_)))))))))
  refine Ak rfl (fun h14=>?_) (fun h14=>?_)
  ·refine A0 (Ad rfl ?_)
   refine Aw (AA (KU q E) rfl rfl AC) ?_
   rintro v18 L1 ⟨rfl,rfl⟩
   refine Aj (Ac (EB ((E.length / 4:Nat):Int) rfl rfl Ax Ax Ax Ax) (Ac (CT (E.length / 4) rfl rfl (DR Ax)) (Ac (JH (2147483648+E.length / 4) rfl rfl Ax Ax) (As [0,1,5,6,7,8] rfl rfl (Ae (Ae ?_))))))
   have h14':2<r.ps.length:=by have:=of_decide_eq_true h14; omega
   obtain ⟨vm,hrm,hpu⟩:=Row.mid (P:=prog) (t:=60) hr 1 (r.ps.length-1) Ax Ax
   rw [Sy,← Kc] at hrm
   refine Al (Ac (Ab rfl) (AJ (Ag rfl rfl) (Ad rfl (Ac (BY ((r.ps.length-1:Nat):Int) rfl rfl Ax Ax Ax) (Ac (hpu _ _ _ _ _ _ _ _ rfl rfl rfl rfl rfl) (Ac (B2 hrm rfl) (Ad rfl (AE [0,1,5,6,7,8,26,27,28] rfl (Au ?_)))))))))
   refine B0 (ι:=Nat) (fun i env L=>Sub env [(0,pv p),(1,pv q),(5,pv b5),(6,.int .u32 4294967295),(7,.int .u32 (2147483648+E.length / 4:Nat)),(8,.int .i64 (r.ps.length:Nat)),(26,vm),(27,.int .i64 ((E4 r).length:Nat)),(28,.int .i64 (i:Nat))]∧Ent L [EL q (E++Ek ((E4 r).take i)),EL p X,B1 b5 211 [.slice A r.ps.length cap,.int .i64 r.tr,.int .i64 r.gn,.int .i64 r.st,.string (str r.bt)],ro μ]∧i≤(E4 r).length) (fun i=>(E4 r).length-i) 0 ⟨⟨rfl,rfl,rfl,rfl,rfl,rfl,rfl,rfl,rfl,trivial⟩,by rw [List.take_zero,show Ek []=[] from rfl,List.append_nil]; exact Split.ent' AC,Nat.zero_le _⟩ ?_
   rintro i env L ⟨hsub,hE',hi⟩
   refine B3 _ hsub (AP hE' ?_)
   clear hsub hE' env L
   have hml:=Kc r
   have hbl:(E++Ek ((E4 r).take i)).length≤5000:=by rw [List.length_append,Oz,List.length_take]; omega
   refine A0 (Ac (Bb rfl rfl) (AE [0,1,5,6,7,8,26,27,28,29] rfl (Ae ?_)))
   refine Ak rfl (fun h29=>?_) (fun h29=>?_)
   ·have h29':i<(E4 r).length:=by have:=of_decide_eq_true h29; omega
    obtain ⟨y,hy⟩:∃ y,(E4 r)[i]? = some y:=⟨_,List.getElem?_eq_getElem h29'⟩
    obtain ⟨b,off,c2,hv,hc⟩:=HN hrm hy
    obtain ⟨hy1,hy2⟩:=hpr (1+i) y (by unfold E4 at hy; rw [List.getElem?_take_of_lt Ax,List.getElem?_drop] at hy; exact hy)
    refine Am (Af (Ae (Au (A0 ?_))))
    refine Ac (AB (off+i*1) (congrArg some hv) rfl Ax Ax (by rw [Int.toNat_natCast])) ?_
    refine AJ (C3 rfl hc) (As [0,1,5,6,7,8,10,26,27,28] rfl rfl (Al (Ad rfl (Ad rfl (Ac (CT y.toNat rfl hy1 (DR Ax)) ?_)))))
    refine Aw (AA (Ch q y.toNat (E++Ek ((E4 r).take i)) Ax Ax) rfl rfl AC) ?_
    rintro v35 L1 ⟨rfl,rfl⟩
    refine Aj (Be [0,1,5,6,7,8,26,27,28] rfl (AH (AR (Af (Al (Ac (AO ((i+1:Nat):Int) rfl rfl Ax Ax Ax) (Ad rfl (Be [0,1,5,6,7,8,26,27,28] rfl (AH ?_)))))))))
    refine Af ⟨i+1,⟨⟨rfl,rfl,rfl,rfl,rfl,rfl,rfl,rfl,rfl,trivial⟩,?_,h29'⟩,by omega⟩
    rw [BE hy,V4,← List.append_assoc,show Ek [y]=Bf 4 y.toNat from List.append_nil _]
    exact Split.ent' AC
   ·have h29':=of_decide_eq_false h29
    obtain rfl:i=(E4 r).length:=by omega
    rw [List.take_length] at hbl ⊢
    obtain ⟨y,hy⟩:∃ y,r.ps[r.ps.length-1]? = some y:=⟨_,List.getElem?_eq_getElem Ax⟩
    obtain ⟨b,off,c2,hv,hc⟩:=HN hr hy
    obtain ⟨hy1,hy2⟩:=hpr _ y hy
    have hyl:Fs r=y.toNat:=by unfold Fs; rw [List.getD_eq_getElem?_getD,hy]; rfl
    refine AY (AS (AS (AV rfl (Af (Al (Ad rfl (Ac (Ab rfl) (AJ (Ag rfl rfl) (Ad rfl (Ac (BY ((r.ps.length-1:Nat):Int) rfl rfl Ax Ax Ax) ?_))))))))))
    refine Ac (AB (off+(r.ps.length-1)*1) (congrArg some hv) rfl Ax Ax (by rw [Int.toNat_natCast])) ?_
    refine AJ (C3 rfl hc) (Ac (CT y.toNat rfl hy1 (DR Ax)) (Ac (JH (y.toNat+2147483648) rfl rfl Ax Ax) ?_))
    refine Aw (AA (Ch q (y.toNat+2147483648) (E++Ek (E4 r)) Ax Ax) rfl rfl AC) ?_
    rintro v46 L1 ⟨rfl,rfl⟩
    refine Aj (Be [0,5,6,7] rfl (AH (AR ?_)))
    have e1:EE r=Ek (E4 r)++Bf 4 (y.toNat+2147483648):=by unfold EE; rw [if_pos h14',hyl]
    have e2:DT E.length r=2147483648+E.length / 4:=by unfold DT; rw [if_pos h14']
    rw [e1,e2,← List.append_assoc]
    exact Af ⟨⟨rfl,rfl,rfl,rfl,trivial⟩,Split.ent' AC⟩
  ·have h14':¬ 2<r.ps.length:=by have:=of_decide_eq_false h14; omega
   have e1:EE r=[]:=by unfold EE; rw [if_neg h14']
   rw [e1,List.append_nil]
   refine A0 (Ad rfl (Ac (Bp rfl rfl) (As [0,5,6,7,47] rfl rfl ?_)))
   refine Ak rfl (fun h47=>?_) (fun h47=>?_)
   ·have h47':r.ps.length=2:=by have:=of_decide_eq_true h47; omega
    obtain ⟨y,hy⟩:∃ y,r.ps[1]? = some y:=⟨_,List.getElem?_eq_getElem Ax⟩
    obtain ⟨b,off,c2,hv,hc⟩:=HN hr hy
    obtain ⟨hy1,hy2⟩:=hpr _ y hy
    refine Al (Ac (Ab rfl) (AJ (Ag rfl rfl) (Ac (AB (off+1*1) (congrArg some hv) rfl Ax Ax rfl) (AJ (C3 rfl hc) (Ac (CT y.toNat rfl hy1 (DR Ax)) (AX rfl (Be [0,5,6,7] rfl (AH (AR ?_)))))))))
    have e2:DT E.length r=y.toNat:=by unfold DT; rw [if_neg h14',hy]
    rw [e2]
    exact Af ⟨⟨rfl,rfl,rfl,rfl,trivial⟩,Split.ent' AC⟩
   ·refine Am (AR ?_)
    have e2:DT E.length r=4294967295:=by unfold DT; rw [if_neg h14',List.getElem?_eq_none (by have:=of_decide_eq_false h47; omega)]
    rw [e2]
    exact Af ⟨⟨rfl,rfl,rfl,rfl,trivial⟩,Split.ent' AC⟩
 rintro env L ⟨hsub,hE'⟩
 refine B3 _ hsub (AP hE' ?_)
 clear hsub hE' env L
 refine Cb (fun env L=>Sub env [(0,pv p),(5,pv b5),(6,.int .u32 (FN r:Nat)),(7,.int .u32 (DT E.length r:Nat))]∧Ent L [EL p X,EL q (E++EE r),B1 b5 211 [.slice A r.ps.length cap,.int .i64 r.tr,.int .i64 r.gn,.int .i64 r.st,.string (str r.bt)],ro μ]) ?_ ?_
 ·refine A0 (Ac (Ab rfl) (AJ (Ag rfl rfl) (Ac (B2 hr rfl) (Ac (BA rfl rfl) (AE [0,5,6,7,58] rfl ?_)))))
  refine Ak rfl (fun h58=>?_) (fun h58=>?_)
  ·obtain ⟨y,hy⟩:∃ y,r.ps[0]? = some y:=⟨_,List.getElem?_eq_getElem (by have:=of_decide_eq_true h58; omega)⟩
   obtain ⟨b,off,c2,hv,hc⟩:=HN hr hy
   obtain ⟨hy1,hy2⟩:=hpr _ y hy
   refine Al (Ac (Ab rfl) (AJ (Ag rfl rfl) ?_))
   refine Ac (AB (off+0*1) (congrArg some hv) rfl Ax (by have:=of_decide_eq_true h58; omega) rfl) ?_
   refine AJ (C3 rfl hc) (Ac (CT y.toNat rfl hy1 (DR Ax)) (AX rfl (Be [0,5,6,7] rfl (AH ?_))))
   have e2:FN r=y.toNat:=by
    unfold FN
    cases hps:r.ps with
    | nil=>rw [hps] at hy; cases hy
    | cons z l=>rw [hps] at hy; cases hy; rfl
   rw [e2]
   exact Af ⟨⟨rfl,rfl,rfl,rfl,trivial⟩,Split.ent' AC⟩
  ·refine Am ?_
   have e2:FN r=4294967295:=by
    unfold FN
    cases hps:r.ps with
    | nil=>rfl
    | cons z l=>rw [hps] at h58; exact absurd h58 (by simp)
   rw [e2]
   exact Af ⟨⟨rfl,rfl,rfl,rfl,trivial⟩,Split.ent' AC⟩
 rintro env L ⟨hsub,hE'⟩
 refine B3 _ hsub (AP hE' ?_)
 clear hsub hE' env L
 have hf:FN r<4294967296:=by
  unfold FN
  cases hps:r.ps with
  | nil=>show 4294967295<4294967296; decide
  | cons z l=>have:=hpr 0 z (by rw [hps]; rfl); show z.toNat<_; omega
 have hs:DT E.length r<4294967296:=by
  unfold DT
  split
  ·omega
  ·cases hps:r.ps[1]? with
   | none=>show 4294967295<4294967296; decide
   | some z=>have:=hpr 1 z hps; show z.toNat<_; omega
 refine A0 (Ad rfl (Ac (Ab rfl) (AJ (Ag rfl rfl) (Ac (CT r.tr.toNat rfl Ax (DR Ax)) ?_))))
 refine Aw (AA (Ch p r.tr.toNat X Ax Ax) rfl rfl AC) ?_
 rintro v68 L1 ⟨rfl,rfl⟩
 refine Aj (AE [0,5,6,7] rfl (A0 (Ad rfl (Ad rfl ?_))))
 refine Aw (AA (Ch p (FN r) (X++Bf 4 r.tr.toNat) hf (by rw [List.length_append,Br]; omega)) rfl rfl AC) ?_
 rintro v71 L1 ⟨rfl,rfl⟩
 refine Aj (AE [0,5,7] rfl (A0 (Ad rfl (Ad rfl ?_))))
 refine Aw (AA (Ch p (DT E.length r) (X++Bf 4 r.tr.toNat++Bf 4 (FN r)) hs (by simp only [List.length_append,Br]; omega)) rfl rfl AC) ?_
 rintro v74 L1 ⟨rfl,rfl⟩
 refine Aj (AE [0,5] rfl (A0 (Ad rfl (Ac (Ab rfl) (AJ (Ag rfl rfl) (Ac (CT r.gn.toNat rfl Ax (J4 Ax)) ?_))))))
 refine Aw (AA (KK p r.gn.toNat (X++Bf 4 r.tr.toNat++Bf 4 (FN r)++Bf 4 (DT E.length r)) Ax (by simp only [List.length_append,Br]; omega)) rfl rfl AC) ?_
 rintro v79 L1 ⟨rfl,rfl⟩
 refine Aj (AE [0,5] rfl (Al (Ad rfl (Ac (Ab rfl) (Ac (Bt rfl) (AJ (Ag rfl rfl) (Ac (CT r.st.toNat rfl Ax (E5 Ax)) ?_)))))))
 refine Aw (AA (EV p r.st.toNat (X++Bf 4 r.tr.toNat++Bf 4 (FN r)++Bf 4 (DT E.length r)++Bf 2 r.gn.toNat) Ax (by simp only [List.length_append,Br]; omega)) rfl rfl AC) ?_
 rintro v85 L1 ⟨rfl,rfl⟩
 refine Aj (C7 _ .nil (AH ?_))
 have e:X++Hi E.length r=X++Bf 4 r.tr.toNat++Bf 4 (FN r)++Bf 4 (DT E.length r)++Bf 2 r.gn.toNat++Bf 1 r.st.toNat:=by unfold Hi; simp only [List.append_assoc]
 rw [e]
 exact Co [EL p (X++Bf 4 r.tr.toNat++Bf 4 (FN r)++Bf 4 (DT E.length r)++Bf 2 r.gn.toNat++Bf 1 r.st.toNat),EL q (E++EE r),ro μ] .nil ⟨rfl,rfl⟩ AC
def F9 (base:Nat)(R:List GR):List Ck:=[(1,GY base R.length),(2,Dx 0 R),(3,D7 R),(4,EF 0 R),(5,D5 R)]
def EM (base:Nat)(R:List GR):List UInt8:=Fd (F9 base R)
theorem Qa {base:Nat}{R:List GR}(h:GsOk base R):CkOk (F9 base R):=by
 have h1:=Iv h R.length
 rw [List.take_length] at h1
 have h2:=h.len
 refine ⟨?_,by show 5≤12; decide,?_,?_⟩
 ·simp [AscC,F9]
 ·intro x hx
  simp only [F9,List.mem_cons,List.not_mem_nil,or_false] at hx
  rcases hx with rfl | rfl | rfl | rfl | rfl <;> exact ⟨(by dsimp only; decide),(by dsimp only; decide)⟩
 ·simp only [Q6,F9,List.map_cons,List.map_nil,List.sum_cons,List.sum_nil,OF,HK,J1]
  omega
theorem Nv {base:Nat}{R:List GR}(h:GsOk base R):(EM base R).length≤70000:=by
 have h1:=Iv h R.length
 rw [List.take_length] at h1
 have h2:=h.len
 have:=Q7 (F9 base R)
 unfold EM Fd
 rw [List.length_append,Br,this]
 simp only [Q6,F9,List.map_cons,List.map_nil,List.sum_cons,List.sum_nil,OF,HK,J1,List.length_cons,List.length_nil]
 omega
set_option maxHeartbeats 4000000 in
theorem OU (μ:PH)(base:Nat)(v:Value)(R:List (Value×GR))(hg:GRows μ v R)(h:GsOk base (DZ R)):Spec prog 92 [.agg (LF base v).toArray] [ro μ] (fun r L=>∃ μ',Le μ μ'∧r=.tuple #[.string (str (EM base (DZ R))),.int .i64 0]∧L=[ro μ']):=by
 have hlen:=h.len
 have hall:=h.all
 rw [List.length_map] at hlen hall
 refine Spec.of 97 func92 rfl rfl rfl ?_
 refine A0 (Aw (Bi rfl rfl) (fun b1=>?_))
 refine AX rfl (As [1] rfl rfl (Ae (A0 (AJ (BP rfl rfl) ?_))))
 refine Aw (AA (Wh μ base v R hg h) rfl rfl AC) ?_
 rintro v12 L1 ⟨rfl,rfl⟩
 refine Aj (Ac (Bm rfl rfl) (AE [1,13] rfl (Dz rfl (Am (Af (A0 ?_))))))
 refine Aw (AA Dy rfl rfl AC) ?_
 rintro v14 L1 ⟨p1,rfl,rfl⟩
 refine Aj ?_
 refine Aw (AA Dy rfl rfl AC) ?_
 rintro v15 L1 ⟨p2,rfl,rfl⟩
 refine Aj ?_
 refine Aw (AA Dy rfl rfl AC) ?_
 rintro v16 L1 ⟨p3,rfl,rfl⟩
 refine Aj ?_
 refine Aw (AA Dy rfl rfl AC) ?_
 rintro v17 L1 ⟨p4,rfl,rfl⟩
 refine Aj ?_
 refine Aw (AA Dy rfl rfl AC) ?_
 rintro v18 L1 ⟨p5,rfl,rfl⟩
 refine Aj (AX rfl (AX rfl (AX rfl (AX rfl (As [1,4,5,6,7,8] rfl rfl (A0 (Ad rfl (Ac (Ab rfl) (AJ (Ag rfl rfl) (Ac (CT base rfl rfl (DR Ax)) ?_))))))))))
 refine Aw (AA (Ch p1 base [] Ax (by decide)) rfl rfl AC) ?_
 rintro v23 L1 ⟨rfl,rfl⟩
 refine Aj (AE [1,4,5,6,7,8] rfl (A0 (Ad rfl (Ac (Ab rfl) (AJ (Ag rfl rfl) (Ac (B2 hg.row rfl) (Ac (CT R.length rfl rfl (DR Ax)) ?_)))))))
 refine Aw (AA (Ch p1 R.length ([]++Bf 4 base) Ax (by rw [List.nil_append,Br]; decide)) rfl rfl AC) ?_
 rintro v29 L1 ⟨rfl,rfl⟩
 refine Aj (AE [1,4,5,6,7,8] rfl (A0 (Ad rfl (Ac (Ab rfl) (Ac (Bt rfl) (AJ (Ag rfl rfl) (Ac (CT 3 rfl rfl (E5 Ax)) ?_)))))))
 refine Aw (AA (EV p1 3 ([]++Bf 4 base++Bf 4 R.length) (by decide) (by simp only [List.length_append,Br,List.length_nil]; decide)) rfl rfl AC) ?_
 rintro v35 L1 ⟨rfl,rfl⟩
 refine Aj (AE [1,4,5,6,7,8] rfl (A0 (Ad rfl (Ac (Ab rfl) (Ac (Bt rfl) (AJ (Ag rfl rfl) (Ac (CT 10 rfl rfl (E5 Ax)) ?_)))))))
 refine Aw (AA (EV p1 10 ([]++Bf 4 base++Bf 4 R.length++Bf 1 3) (by decide) (by simp only [List.length_append,Br,List.length_nil]; decide)) rfl rfl AC) ?_
 rintro v41 L1 ⟨rfl,rfl⟩
 refine Aj (AE [1,4,5,6,7,8] rfl (A0 (Ad rfl (Ac (Ab rfl) (Ac (Bt rfl) (AJ (Ag rfl rfl) (Ac (CT 2 rfl rfl (J4 Ax)) ?_)))))))
 refine Aw (AA (KK p1 2 ([]++Bf 4 base++Bf 4 R.length++Bf 1 3++Bf 1 10) (by decide) (by simp only [List.length_append,Br,List.length_nil]; decide)) rfl rfl AC) ?_
 rintro v47 L1 ⟨rfl,rfl⟩
 refine Aj (AE [1,4,5,6,7,8] rfl (A0 (Ad rfl (Ac (Ab rfl) (Ac (Bt rfl) (AJ (Ag rfl rfl) ?_))))))
 refine Aw (AA (Ch p1 7 ([]++Bf 4 base++Bf 4 R.length++Bf 1 3++Bf 1 10++Bf 2 2) (by decide) (by simp only [List.length_append,Br,List.length_nil]; decide)) rfl rfl AC) ?_
 rintro v52 L1 ⟨rfl,rfl⟩
 refine Aj (AE [1,4,5,6,7,8] rfl (Ae (Ae ?_)))
 rw [show []++Bf 4 base++Bf 4 R.length++Bf 1 3++Bf 1 10++Bf 2 2++Bf 4 7=GY base R.length by unfold GY; simp only [List.nil_append,List.append_assoc]]
 refine Al (Ac (Ab rfl) (AJ (Ag rfl rfl) (Ac (B2 hg.row rfl) (Ad rfl (AE [4,5,6,7,8,54,55,56] rfl (Au ?_))))))
 refine B0 (ι:=Nat) (fun i env L=>Sub env [(4,pv p1),(5,pv p2),(6,pv p3),(7,pv p4),(8,pv p5),(54,v),(55,.int .i64 (R.length:Nat)),(56,.int .i64 (i:Nat))]∧Ent L [EL p1 (GY base R.length),EL p2 (Dx 0 ((DZ R).take i)),EL p3 (D7 ((DZ R).take i)),EL p4 (EF 0 ((DZ R).take i)),EL p5 (D5 ((DZ R).take i)),ro μ]∧i≤R.length) (fun i=>R.length-i) 0 ⟨⟨rfl,rfl,rfl,rfl,rfl,rfl,rfl,rfl,trivial⟩,by show Ent _ [EL p1 (GY base R.length),EL p2 [],EL p3 [],EL p4 [],EL p5 [],ro μ]; exact Split.ent' AC,Nat.zero_le _⟩ ?_
 rintro i env L ⟨hsub,hE,hi⟩
 refine B3 _ hsub (AP hE ?_)
 clear hsub hE env L
 obtain ⟨hl1,hl2,hl3⟩:=Iv h i
 refine A0 (Ac (Bb rfl rfl) (AE [4,5,6,7,8,54,55,56,57] rfl (Ae ?_)))
 refine Ak rfl (fun h57=>?_) (fun h57=>?_)
 ·have h57':i<R.length:=by have:=of_decide_eq_true h57; omega
  obtain ⟨x,hx⟩:∃ x,R[i]? = some x:=⟨_,List.getElem?_eq_getElem h57'⟩
  have hxp:=Sw hx
  obtain ⟨b,off,c2,A,c,hv,hr,hp,_⟩:=PN hg hx
  have hok:=h.row i x.2 hxp
  have hbl:=hok.bl
  have htl:((DZ R).take i).length=i:=by rw [List.length_take,List.length_map]; omega
  refine Am (Af (Ae (Au (A0 ?_))))
  refine Ac (AB (off+i*5) (congrArg some hv) rfl Ax Ax (by rw [Int.toNat_natCast])) ?_
  refine AJ (CZ (vs:=[.slice A x.2.ps.length c,.int .i64 x.2.tr,.int .i64 x.2.gn,.int .i64 x.2.st,.string (str x.2.bt)]) rfl rfl hr) (Aw (AZ) (fun b10=>?_))
  refine B5 (AU rfl rfl rfl rfl) (AE [4,5,6,7,8,10,54,55,56] rfl (A0 (Ad rfl (Ad rfl (AJ (BP rfl rfl) ?_)))))
  refine Aw (AA (Wi μ p2 p3 (Dx 0 ((DZ R).take i)) (D7 ((DZ R).take i)) A c x.2 (base+i) hp hok Ax Ax (by rw [HK,htl]; omega)) rfl rfl AC) ?_
  rintro v63 L1 ⟨rfl,rfl⟩
  refine Aj (AE [4,5,6,7,8,10,54,55,56] rfl (A0 (Ad rfl (Ac (Ab rfl) (Ac (Bt rfl) (AJ (Ag rfl rfl) ?_))))))
  refine Aw (AA (Fu p5 (D5 ((DZ R).take i)) x.2.bt Ax Ax) rfl rfl AC) ?_
  rintro v68 L1 ⟨rfl,rfl⟩
  refine Aj (AE [4,5,6,7,8,54,55,56] rfl (A0 (Ad rfl (Ad rfl ?_))))
  refine Aw (AA (KU p5 (D5 ((DZ R).take i)++x.2.bt)) rfl rfl AC) ?_
  rintro v71 L1 ⟨rfl,rfl⟩
  refine Aj ?_
  refine Ac (CT ((D5 ((DZ R).take i)).length+x.2.bt.length) rfl (by rw [List.length_append]) (DR Ax)) ?_
  refine Aw (AA (Ch p4 ((D5 ((DZ R).take i)).length+x.2.bt.length) (EF 0 ((DZ R).take i)) Ax (by rw [J1,htl]; omega)) rfl rfl AC) ?_
  rintro v73 L1 ⟨rfl,rfl⟩
  refine Aj (AE [4,5,6,7,8,54,55,56] rfl (A0 (Ad rfl ?_)))
  refine Aw (AA (KU p5 (D5 ((DZ R).take i)++x.2.bt)) rfl rfl AC) ?_
  rintro v75 L1 ⟨rfl,rfl⟩
  refine Aj (Ac (BA rfl rfl) (AE [4,5,6,7,8,54,55,56,76] rfl ?_))
  refine Ak rfl (fun h76=>by have:=of_decide_eq_true h76; rw [List.length_append] at this; omega) (fun h76=>?_)
  refine Am (AR (Af (Al (Ac (AO ((i+1:Nat):Int) rfl rfl Ax Ax Ax) (Ad rfl (Be [4,5,6,7,8,54,55,56] rfl (AH ?_)))))))
  refine Af ⟨i+1,⟨⟨rfl,rfl,rfl,rfl,rfl,rfl,rfl,rfl,trivial⟩,?_,h57'⟩,by omega⟩
  rw [Sz hxp,OE hxp,KF hxp,V5 hxp]
  exact Split.ent' AC
 ·have h57':=of_decide_eq_false h57
  obtain rfl:i=R.length:=by omega
  have hta:(DZ R).take R.length=DZ R:=List.take_of_length_le (by rw [List.length_map]; exact Nat.le_refl _)
  rw [hta]
  refine AY (AS (AS (AV rfl (Af (A0 (Ad rfl ?_))))))
  refine Aw (AA (DO p1 (GY base R.length)) rfl rfl AC) ?_
  rintro v79 L1 ⟨rfl,rfl⟩
  refine Aj (Ac (Bo (qs:=[(0,_),(1,_)]) rfl) (Ad rfl ?_))
  refine Aw (AA (DO p2 (Dx 0 (DZ R))) rfl rfl AC) ?_
  rintro v82 L1 ⟨rfl,rfl⟩
  refine Aj (Ac (Bo (qs:=[(0,_),(1,_)]) rfl) (Ad rfl ?_))
  refine Aw (AA (DO p3 (D7 (DZ R))) rfl rfl AC) ?_
  rintro v85 L1 ⟨rfl,rfl⟩
  refine Aj (Ac (Bo (qs:=[(0,_),(1,_)]) rfl) (Ad rfl ?_))
  refine Aw (AA (DO p4 (EF 0 (DZ R))) rfl rfl AC) ?_
  rintro v88 L1 ⟨rfl,rfl⟩
  refine Aj (Ac (Bo (qs:=[(0,_),(1,_)]) rfl) (Ad rfl ?_))
  refine Aw (AA (DO p5 (D5 (DZ R))) rfl rfl AC) ?_
  rintro v91 L1 ⟨rfl,rfl⟩
  refine Aj (Ac (Bo (qs:=[(0,_),(1,_)]) rfl) (Aw (Bg (qs:=[(0,_),(1,_),(2,_),(3,_),(4,_)]) rfl rfl rfl) (fun b93=>?_)))
  refine Fh (b:=b93) (μ:=μ) AC fun μ1 h1 k1=>?_
  have hrow:Row μ1 (.slice (some ⟨b93,0,none⟩) 5 5) 2 (F9 base (DZ R)).length ((F9 base (DZ R)).flatMap FR):=by
   have:=Ew (n:=2) (l:=5) k1 rfl (by decide)
   have e:(F9 base (DZ R)).flatMap FR=_:=rfl
   unfold F9
   rw [List.length_map]
   exact this
  refine Aw (AA (Wc μ1 _ (F9 base (DZ R)) hrow (Qa h)) rfl rfl AC) ?_
  rintro v94 L1 ⟨μ2,h2,rfl,rfl⟩
  refine Aj (Ac (Ai rfl) (Ac (Ai rfl) (AX rfl (As [2,3] rfl rfl (Ar ?_)))))
  exact Aq [ro μ2] (.tmp rfl (.tmp rfl .nil)) ⟨μ2,h1.trans h2,rfl,rfl⟩ AC
theorem DF (n:Int):Spec prog 303 [.int .u32 n,.int .i64 0] [] (fun r L=>r=.int .u32 n∧L=[]):=by
 refine Spec.of 10 func303 rfl rfl rfl ?_
 refine A0 (As [0,1] rfl rfl (Ae (A0 (Ad rfl (Ac (Bm rfl rfl) (AE [0,6] rfl (Dz rfl (Am (Af (A0 (Ad rfl (As [4] rfl rfl (Ar ?_)))))))))))))
 exact Aq [] (.tmp rfl .nil) ⟨rfl,rfl⟩ AC
theorem Ly (n:Int):Spec prog 305 [.int .u16 n,.int .i64 0] [] (fun r L=>r=.int .u16 n∧L=[]):=by
 refine Spec.of 10 func305 rfl rfl rfl ?_
 refine A0 (As [0,1] rfl rfl (Ae (A0 (Ad rfl (Ac (Bm rfl rfl) (AE [0,6] rfl (Dz rfl (Am (Af (A0 (Ad rfl (As [4] rfl rfl (Ar ?_)))))))))))))
 exact Aq [] (.tmp rfl .nil) ⟨rfl,rfl⟩ AC
theorem JV (n:Int):Spec prog 304 [.int .u8 n,.int .i64 0] [] (fun r L=>r=.int .u8 n∧L=[]):=by
 refine Spec.of 10 func304 rfl rfl rfl ?_
 refine A0 (As [0,1] rfl rfl (Ae (A0 (Ad rfl (Ac (Bm rfl rfl) (AE [0,6] rfl (Dz rfl (Am (Af (A0 (Ad rfl (As [4] rfl rfl (Ar ?_)))))))))))))
 exact Aq [] (.tmp rfl .nil) ⟨rfl,rfl⟩ AC
theorem Te (s:ByteArray):Spec prog 308 [.string s,.int .i64 0] [] (fun r L=>r=.string s∧L=[]):=by
 refine Spec.of 10 func308 rfl rfl rfl ?_
 refine A0 (As [0,1] rfl rfl (Ae (A0 (Ad rfl (Ac (Bm rfl rfl) (AE [0,6] rfl (Dz rfl (Am (Af (A0 (Ad rfl (As [4] rfl rfl (Ar ?_)))))))))))))
 exact Aq [] (.tmp rfl .nil) ⟨rfl,rfl⟩ AC
theorem HQ (μ:PH)(v:Value)(l:List Ck)(h:Row μ v 2 l.length (l.flatMap FR))(k:Nat)(x:Ck)(hx:l[k]? = some x)(hok:AscC l)(hs:x.2.length≤1073741824):Spec prog 301 [v,.int .u32 (x.1:Nat)] [ro μ] (fun r L=>∃ p,r=pv p∧L=[Ib p x.2,ro μ]):=by
 refine Spec.of 15 func301 rfl rfl rfl ?_
 refine A0 (As [0,1] rfl rfl (A0 (Ad rfl (Ad rfl ?_))))
 refine Aw (AA (Lw μ v l h k x hx hok) rfl rfl AC) ?_
 rintro v10 L1 ⟨rfl,rfl⟩
 refine Aj (Ad rfl (Ac (Ai rfl) (Ac (Ai rfl) (AX rfl (As [5] rfl rfl (A0 (Ad rfl ?_)))))))
 refine Aw (AA (Fx x.2 hs) rfl rfl AC) ?_
 rintro v14 L1 ⟨p,rfl,rfl⟩
 refine Aj (As [4] rfl rfl (Ar ?_))
 exact Aq [Ib p x.2,ro μ] (.tmp rfl .nil) ⟨p,rfl,rfl⟩ AC
set_option maxHeartbeats 4000000 in
theorem Wj (r:GR)(n:Nat)(h:r.Ok n)(hn:n≤65536)(s rest:List UInt8)(e:Nat)(he:s.drop e=EE r++rest)(he4:e % 4=0)(hes:e≤s.length)(hs:s.length≤100000):Spec prog 307 [.int .u32 (FN r:Nat),.int .u32 (DT e r:Nat),.string (str s)] [] (fun v L=>∃ A c,v=.slice A r.ps.length c∧L=[own 3 1 (.slice A r.ps.length c) r.ps.length (r.ps.flatMap (Bj .i64))]):=by
 have hpl:=h.pl
 have hpr:∀ (i:Nat) (x:Int),r.ps[i]? = some x→x=(x.toNat:Int)∧x.toNat<65536:=fun i x hx=>by have:=h.pr x (List.mem_of_getElem? hx); omega
 refine Spec.of 61 func307 rfl rfl rfl ?_
 refine A0 (As [0,1,2] rfl rfl (A0 (As [0,1,2,7] rfl rfl ?_)))
 refine Cb (fun env L=>∃ A c,Sub env [(1,.int .u32 (DT e r:Nat)),(2,.string (str s)),(7,.slice A (r.ps.take 1).length c)]∧Ent L [own 3 1 (.slice A (r.ps.take 1).length c) (r.ps.take 1).length ((r.ps.take 1).flatMap (Bj .i64))]) ?_ ?_
 ·refine A0 (Ad rfl (Ac (Bm rfl rfl) (AE [0,1,2,7,12] rfl ?_)))
  refine Ak rfl (fun h12=>?_) (fun h12=>?_)
  ·obtain ⟨p,l,hps⟩:∃ p l,r.ps=p::l:=by
    cases hps:r.ps with
    | nil=>rw [show FN r=4294967295 by unfold FN; rw [hps]] at h12; exact absurd h12 (by decide)
    | cons p l=>exact ⟨p,l,rfl⟩
   obtain ⟨hp1,hp2⟩:=hpr 0 p (by rw [hps]; rfl)
   have hf:FN r=p.toNat:=by unfold FN; rw [hps]
   rw [hf]
   refine Al (Ad rfl (Ad rfl (Ac (Bw rfl Ax Ax) (Aw (Bg (qs:=[(0,_)]) rfl rfl rfl) (fun b16=>?_)))))
   refine BK (own_nil_ent (e:=3) (n:=1)) ?_
   refine Aw (B9 (l:=0) (m:=1) rfl rfl AC (by decide) (by decide)) ?_
   rintro v17 -
   rw [Nat.zero_add,List.nil_append]
   refine Cv (fun m h=>Bz h) fun ⟨A17,c17,hv17⟩=>?_
   subst hv17
   refine AX rfl (Be [1,2,7] rfl (AH ?_))
   refine Af ⟨A17,c17,?_⟩
   rw [hps]
   have hpv:Value.int .i64 p=.int .i64 ((p.toNat:Nat):Int):=congrArg _ hp1
   show Sub _ [_,_,(7,Value.slice A17 1 c17)]∧Ent _ [own 3 1 (.slice A17 1 c17) 1 [.int .i64 p]]
   rw [hpv]
   exact ⟨⟨rfl,rfl,rfl,trivial⟩,Split.ent' AC⟩
  ·refine Am ?_
   have hps:r.ps=[]:=by
    cases hps:r.ps with
    | nil=>rfl
    | cons p l =>
     have:=hpr 0 p (by rw [hps]; rfl)
     rw [show FN r=p.toNat by unfold FN; rw [hps]] at h12
     simp at h12; omega
   rw [hps]
   exact Af ⟨none,0,⟨rfl,rfl,rfl,trivial⟩,own_nil_ent⟩
 rintro env L ⟨A,c,hsub,hE⟩
 refine B3 _ hsub (AP hE ?_)
 clear hsub hE env L
 refine Ae (A0 (Ad rfl (Ac (Bp rfl rfl) (AE [1,2,7,19] rfl ?_))))
 refine Ak rfl (fun h19=>?_) (fun h19=>?_)
 ·have h19':DT e r=4294967295:=by have:=of_decide_eq_true h19; omega
  have hl:r.ps.length≤1:=by
   unfold DT at h19'
   split at h19'
   ·omega
   ·cases hq:r.ps[1]? with
    | none=>exact List.getElem?_eq_none_iff.1 hq
    | some q=>rw [hq] at h19'; have:=hpr 1 q hq; dsimp only at h19'; omega
  rw [List.take_of_length_le hl]
  refine A0 (Ad rfl (As [6] rfl rfl (Ar (AN ?_))))
  exact Aq [own 3 1 (.slice A r.ps.length c) r.ps.length (r.ps.flatMap (Bj .i64))] (.tmp rfl .nil) ⟨A,c,rfl,rfl⟩ AC
 ·have h2:2≤r.ps.length:=by
   rcases Nat.lt_or_ge r.ps.length 2 with hl | hl
   ·rw [show DT e r=4294967295 by unfold DT; rw [if_neg Ax,List.getElem?_eq_none Ax]] at h19; exact absurd h19 (by decide)
   ·exact hl
  rw [show (r.ps.take 1).length=1 by rw [List.length_take]; omega]
  refine Am (Af (Ae (A0 (Ad rfl (Ac (Bb rfl rfl) (AE [1,2,7,22] rfl ?_))))))
  refine Ak rfl (fun h22=>?_) (fun h22=>?_)
  ·have h22':DT e r<2147483648:=by have:=of_decide_eq_true h22; omega
   have hl2:r.ps.length=2:=by
    rcases Nat.lt_or_ge 2 r.ps.length with hl | hl
    ·rw [show DT e r=2147483648+e / 4 by unfold DT; rw [if_pos hl]] at h22'; omega
    ·omega
   obtain ⟨y,hy⟩:∃ y,r.ps[1]? = some y:=⟨_,List.getElem?_eq_getElem Ax⟩
   obtain ⟨hy1,hy2⟩:=hpr _ y hy
   rw [show DT e r=y.toNat by unfold DT; rw [if_neg Ax,hy]]
   refine A0 (Ad rfl (Ad rfl (Ac (Bw rfl Ax Ax) (Aw (Bg (qs:=[(0,_)]) rfl rfl rfl) (fun b26=>?_)))))
   refine Aw (B9 (l:=1) (m:=1) rfl rfl AC (by decide) (by decide)) ?_
   rintro v27 -
   refine Cv (fun m h=>Bz h) fun ⟨A27,c27,hv27⟩=>?_
   subst hv27
   refine As [6] rfl rfl (Ar (AN ?_))
   have hpv:Value.int .i64 y=.int .i64 ((y.toNat:Nat):Int):=congrArg _ hy1
   have e1:r.ps.flatMap (Bj .i64)=(r.ps.take 1).flatMap (Bj .i64)++[.int .i64 ((y.toNat:Nat):Int)]:=by
    rw [← hpv]
    conv=>lhs; rw [show r.ps=r.ps.take (1+1) from (List.take_of_length_le Ax).symm,BE hy,List.flatMap_append]
    rfl
   rw [hl2,e1]
   exact Aq [own 3 1 (.slice A27 2 c27) 2 ((r.ps.take 1).flatMap (Bj .i64)++[.int .i64 ((y.toNat:Nat):Int)])] (.tmp rfl .nil) ⟨A27,c27,rfl,rfl⟩ AC
  ·have h22':¬ DT e r<2147483648:=by have:=of_decide_eq_false h22; omega
   have h3:2<r.ps.length:=by
    rcases Nat.lt_or_ge 2 r.ps.length with hl | hl
    ·exact hl
    ·obtain ⟨y,hy⟩:∃ y,r.ps[1]? = some y:=⟨_,List.getElem?_eq_getElem Ax⟩
     have:=hpr _ y hy
     rw [show DT e r=y.toNat by unfold DT; rw [if_neg Ax,hy]] at h22'; omega
   have hsl:=congrArg List.length he
   rw [List.length_drop,List.length_append] at hsl
   have he':s.drop e=Ek ((E4 r).drop 0)++(Bf 4 (Fs r+2147483648)++rest):=by rw [he,List.drop_zero]; unfold EE; rw [if_pos h3,List.append_assoc]
   rw [show DT e r=2147483648+e / 4 by unfold DT; rw [if_pos h3]]
   refine Am (Af (A0 (Ad rfl (Ac (Sx (e / 4) rfl rfl Ax Ax) (Ac (Bw rfl Ax Ax) (Ac (G5 ((e:Nat):Int) rfl rfl Ax Ax Ax) (As [2,7,8] rfl rfl (Ae (A0 (Ad rfl (Ad rfl (Ac (D0 rfl) (Ac (BA rfl rfl) (AE [2,7,8,35] rfl ?_))))))))))))))
   refine Ak rfl (fun h35=>by have:=of_decide_eq_true h35; omega) (fun h35=>?_)
   refine Am (Af (Ae (A0 (Ad rfl (Ad rfl (Ac (Il e rfl rfl rfl Ax) ?_))))))
   rw [he']
   refine Aw (AA (Fx _ (by rw [← he',List.length_drop]; omega)) rfl rfl AC) ?_
   rintro v41 L1 ⟨q,rfl,rfl⟩
   refine Aj (As [7,9] rfl rfl (Au ?_))
   have hml:=Kc r
   refine B0 (ι:=Nat×Option Addr×Nat) (fun x env L=>Sub env [(7,.slice x.2.1 (1+x.1) x.2.2),(9,pv q)]∧Ent L [own 3 1 (.slice x.2.1 (1+x.1) x.2.2) (1+x.1) ((r.ps.take (1+x.1)).flatMap (Bj .i64)),Ib q (Ek ((E4 r).drop x.1)++(Bf 4 (Fs r+2147483648)++rest))]∧x.1≤(E4 r).length) (fun x=>(E4 r).length-x.1) (0,A,c) ⟨⟨rfl,rfl,trivial⟩,by show Ent _ [own 3 1 (.slice A 1 c) 1 ((r.ps.take 1).flatMap (Bj .i64)),Ib q (Ek ((E4 r).drop 0)++(Bf 4 (Fs r+2147483648)++rest))]; exact Split.ent' AC,Nat.zero_le _⟩ ?_
   clear he'
   rintro ⟨j,A,c⟩ env L ⟨hsub,hE,hj⟩
   dsimp only at hsub hE hj
   refine B3 _ hsub (AP hE ?_)
   clear hsub hE env L
   obtain ⟨w,R',y,hw,hy,hyn,hwm,hwl,hbr⟩:=Y7 h hn h3 rest hj
   rw [hw]
   refine Ae (A0 (Ad rfl (Ac (BI rfl) (Ac (Ff rfl rfl) (AE [7,9,44] rfl ?_)))))
   refine Ak rfl (fun h44=>?_) (fun h44=>by have:=of_decide_eq_false h44; omega)
   refine Am (Af (Au (A0 (Ad rfl ?_))))
   refine Aw (AA (CB q w R' hwl) rfl rfl AC) ?_
   rintro v46 L1 ⟨rfl,rfl⟩
   refine Aj (Ac (Ai rfl) (Ac (Ai rfl) ?_))
   refine Aw (AA (DF (w:Nat)) rfl rfl AC) ?_
   rintro v49 L1 ⟨rfl,rfl⟩
   refine Aj (As [7,9,10] rfl rfl (A0 (Ad rfl (Ad rfl (Ac (Y6 y.toNat rfl rfl hwl hwm) (Ac (Bw rfl Ax Ax) (Aw (Bg (qs:=[(0,_)]) rfl rfl rfl) (fun b54=>?_))))))))
   refine Aw (B9 (l:=1+j) (m:=1) rfl rfl AC (by simp only [maxLen]; omega) Ax) ?_
   rintro v55 -
   refine Cv (fun m h=>Bz h) fun ⟨A55,c55,hv55⟩=>?_
   subst hv55
   refine As [7,9,10] rfl rfl (Ae ?_)
   have hpv:Value.int .i64 y=.int .i64 ((y.toNat:Nat):Int):=congrArg _ hyn
   have e1:(r.ps.take (1+j+1)).flatMap (Bj .i64)=(r.ps.take (1+j)).flatMap (Bj .i64)++[.int .i64 ((y.toNat:Nat):Int)]:=by rw [← hpv,BE hy,List.flatMap_append]; rfl
   rw [← e1]
   refine Al (Ad rfl (Ac (CA rfl rfl) (AE [7,9,57] rfl ?_)))
   refine Ak rfl (fun h57=>?_) (fun h57=>?_)
   ·have h57':1+j+1=r.ps.length:=by
     have:=of_decide_eq_true h57
     rcases hbr with ⟨h1,_⟩ | ⟨_,h1,_⟩ <;> omega
    rw [h57',List.take_length]
    refine A0 (Ad rfl (As [6] rfl rfl (Ar (B6 (AN (B6 (AN ?_)))))))
    exact Aq [own 3 1 (.slice A55 r.ps.length c55) r.ps.length (r.ps.flatMap (Bj .i64))] (.tmp rfl .nil) ⟨A55,c55,rfl,rfl⟩ AC
   ·refine Am (AR ?_)
    have h57':¬ 2147483648≤w:=by have:=of_decide_eq_false h57; omega
    obtain ⟨q1,q2,rfl⟩:w<2147483648∧j<(E4 r).length∧R'=Ek ((E4 r).drop (j+1))++(Bf 4 (Fs r+2147483648)++rest):=by
     rcases hbr with h1 | ⟨h1,_⟩
     ·exact h1
     ·exact absurd h1 h57'
    exact Af ⟨(j+1,A55,c55),⟨⟨rfl,rfl,trivial⟩,by show Ent _ [own 3 1 (.slice A55 (1+j+1) c55) (1+j+1) ((r.ps.take (1+j+1)).flatMap (Bj .i64)),Ib q (Ek ((E4 r).drop (j+1))++(Bf 4 (Fs r+2147483648)++rest))]; exact Split.ent' AC,q2⟩,by show (E4 r).length-(j+1)<(E4 r).length-j; omega⟩
structure RdI (μ:PH) (R:List GR) where
 i:Nat
 A:Option Addr
 c:Nat
 V:List (Value×GR)
 μ':PH
abbrev A1W (b3 p2 p4 p5 base:Nat){μ:PH}{R:List GR}(x:RdI μ R):List AF :=
 [B1 b3 141 [.int .i64 (base:Nat),.int .i64 3,.int .i64 10,.int .i64 2,.int .u32 7,.slice x.A x.i x.c],own 211 5 (.slice x.A x.i x.c) x.i (x.V.flatMap QR),Ib p2 (Dx (D7 (R.take x.i)).length (R.drop x.i)),Ib p4 (EF (D5 (R.take x.i)).length (R.drop x.i)),Ib p5 (D5 (R.drop x.i)),ro x.μ']
set_option maxHeartbeats 8000000 in
theorem Tf (μ:PH)(v:Value)(base:Nat)(R:List GR)(h:GsOk base R)(hv:Row μ v 2 (F9 base R).length ((F9 base R).flatMap FR)):Spec prog 237 [v] [ro μ] (fun r L=>∃ μ' rv V,Le μ μ'∧GRows μ' rv V∧DZ V=R∧r=.agg (LF base rv).toArray∧L=[ro μ']):=by
 have hlen:=h.len
 have hall:=h.all
 have hck:=Qa h
 have h1:=Iv h R.length
 rw [List.take_length] at h1
 have hb:∀ x∈F9 base R,x.2.length≤1073741824:=by
  intro x hx
  have:Q6 (F9 base R)≤1000000:=hck.size
  simp only [Q6,F9,List.map_cons,List.map_nil,List.sum_cons,List.sum_nil] at this
  simp only [F9,List.mem_cons,List.not_mem_nil,or_false] at hx
  rcases hx with rfl | rfl | rfl | rfl | rfl <;> dsimp only <;> omega
 refine Spec.of 133 func237 rfl rfl rfl ?_
 refine A0 ?_
 refine Aw (AZ) fun b2=>?_
 refine AE [0,2] rfl (A0 ?_)
 refine Aw (AZ) fun b3=>?_
 refine AE [0,2,3] rfl (A0 (Ad rfl ?_))
 refine Aw (AA (HQ μ v (F9 base R) hv 0 (1,GY base R.length) rfl hck.asc (hb _ (by simp [F9]))) rfl rfl AC) ?_
 rintro v15 L1 ⟨p1,rfl,rfl⟩
 refine Aj (Ad rfl ?_)
 refine Aw (AA (HQ μ v (F9 base R) hv 1 (2,Dx 0 R) rfl hck.asc (hb _ (by simp [F9]))) rfl rfl AC) ?_
 rintro v17 L1 ⟨p2,rfl,rfl⟩
 refine Aj (Ad rfl ?_)
 refine Aw (AA (HQ μ v (F9 base R) hv 3 (4,EF 0 R) rfl hck.asc (hb _ (by simp [F9]))) rfl rfl AC) ?_
 rintro v19 L1 ⟨p4,rfl,rfl⟩
 refine Aj (Ad rfl ?_)
 refine Aw (AA (HQ μ v (F9 base R) hv 4 (5,D5 R) rfl hck.asc (hb _ (by simp [F9]))) rfl rfl AC) ?_
 rintro v21 L1 ⟨p5,rfl,rfl⟩
 refine Aj (AX rfl (AX rfl (AX rfl (As [0,2,3,4,5,6,7] rfl rfl (A0 (Ad rfl ?_))))))
 refine Aw (AA (Lw μ v (F9 base R) hv 2 (3,D7 R) rfl hck.asc) rfl rfl AC) ?_
 rintro v24 L1 ⟨rfl,rfl⟩
 refine Aj (Ad rfl (Ac (Ai rfl) (Ac (Ai rfl) (AX rfl (As [2,3,4,5,6,7,8] rfl rfl (Ae ?_))))))
 dsimp only
 rw [show GY base R.length=Bf 4 base++(Bf 4 R.length++(Bf 1 3++(Bf 1 10++(Bf 2 2++(Bf 4 7++[]))))) by rw [List.append_nil]; rfl]
 refine Al (Ad rfl ?_)
 refine Aw (AA (CB p1 base _ Ax) rfl rfl AC) ?_
 rintro v28 L1 ⟨rfl,rfl⟩
 refine Aj (Ac (Ai rfl) (Ac (Ai rfl) ?_))
 refine Aw (AA (DF (base:Nat)) rfl rfl AC) ?_
 rintro v31 L1 ⟨rfl,rfl⟩
 refine Aj ?_
 refine Ac (Bw rfl Ax Ax) ?_
 refine Ac (Ab rfl) ?_
 refine B5 (AW rfl rfl rfl) ?_
 refine AE [2,3,4,5,6,7,8] rfl (A0 (Ad rfl ?_))
 refine Aw (AA (CB p1 R.length _ Ax) rfl rfl AC) ?_
 rintro v35 L1 ⟨rfl,rfl⟩
 refine Aj (Ac (Ai rfl) (Ac (Ai rfl) ?_))
 refine Aw (AA (DF (R.length:Nat)) rfl rfl AC) ?_
 rintro v38 L1 ⟨rfl,rfl⟩
 refine Aj (As [2,3,4,5,6,7,8,10] rfl rfl (A0 (Ad rfl ?_)))
 refine Aw (AA (Hs p1 3 _ (by decide)) rfl rfl AC) ?_
 rintro v40 L1 ⟨rfl,rfl⟩
 refine Aj (Ac (Ai rfl) (Ac (Ai rfl) ?_))
 refine Aw (AA (JV (3:Int)) rfl rfl AC) ?_
 rintro v43 L1 ⟨rfl,rfl⟩
 refine Aj ?_
 refine Ac (Bw rfl Ax Ax) ?_
 refine Ac (Ab rfl) (Ac (Bt rfl) ?_)
 refine B5 (AW rfl rfl rfl) ?_
 refine AE [2,3,4,5,6,7,8,10] rfl (A0 (Ad rfl ?_))
 refine Aw (AA (Hs p1 10 _ (by decide)) rfl rfl AC) ?_
 rintro v48 L1 ⟨rfl,rfl⟩
 refine Aj (Ac (Ai rfl) (Ac (Ai rfl) ?_))
 refine Aw (AA (JV (10:Int)) rfl rfl AC) ?_
 rintro v51 L1 ⟨rfl,rfl⟩
 refine Aj ?_
 refine Ac (Bw rfl Ax Ax) ?_
 refine Ac (Ab rfl) (Ac (Bt rfl) ?_)
 refine B5 (AW rfl rfl rfl) ?_
 refine AE [2,3,4,5,6,7,8,10] rfl (A0 (Ad rfl ?_))
 refine Aw (AA (Ns p1 2 _ (by decide)) rfl rfl AC) ?_
 rintro v56 L1 ⟨rfl,rfl⟩
 refine Aj (Ac (Ai rfl) (Ac (Ai rfl) ?_))
 refine Aw (AA (Ly (2:Int)) rfl rfl AC) ?_
 rintro v59 L1 ⟨rfl,rfl⟩
 refine Aj ?_
 refine Ac (Bw rfl Ax Ax) ?_
 refine Ac (Ab rfl) (Ac (Bt rfl) ?_)
 refine B5 (AW rfl rfl rfl) ?_
 refine AE [2,3,4,5,6,7,8,10] rfl (A0 (Ad rfl ?_))
 refine Aw (AA (CB p1 7 _ (by decide)) rfl rfl AC) ?_
 rintro v64 L1 ⟨rfl,rfl⟩
 refine Aj (Ac (Ai rfl) (Ac (Ai rfl) ?_))
 refine Aw (AA (DF (7:Int)) rfl rfl AC) ?_
 rintro v67 L1 ⟨rfl,rfl⟩
 refine Aj (Ac (Ab rfl) (Ac (Bt rfl) ?_))
 refine B5 (AW rfl rfl rfl) ?_
 refine AE [2,3,5,6,7,8,10] rfl (A0 (As [2,3,5,6,7,8,10,11] rfl rfl (Ae (A0 (Ad rfl (Ad rfl (AE [2,3,5,6,7,8,11,70,71] rfl (Au ?_))))))))
 refine AP (own_nil_ent (e:=211) (n:=5)) ?_
 refine B0 (ι:=RdI μ R) (fun x env L=>Sub env [(2,pv b2),(3,pv b3),(5,pv p2),(6,pv p4),(7,pv p5),(8,.string (str (D7 R))),(11,.int .i64 ((D5 (R.take x.i)).length:Nat)),(70,.int .u32 (R.length:Nat)),(71,.int .u32 (x.i:Nat))]∧Ent L (B1 b2 141 [.int .i64 0,.int .i64 0,.int .i64 0,.int .i64 0,.int .u32 0,.slice none 0 0]::A1W b3 p2 p4 p5 base x)∧x.i≤R.length∧Le μ x.μ'∧DZ x.V=R.take x.i∧∀ y∈x.V,Row x.μ' y.1 1 y.2.ps.length (y.2.ps.flatMap (Bj .i64))) (fun x=>R.length-x.i) ⟨0,none,0,[],μ⟩ ⟨⟨rfl,rfl,rfl,rfl,rfl,rfl,rfl,rfl,rfl,trivial⟩,by show Ent _ [B1 b2 141 [.int .i64 0,.int .i64 0,.int .i64 0,.int .i64 0,.int .u32 0,.slice none 0 0],B1 b3 141 [.int .i64 (base:Nat),.int .i64 3,.int .i64 10,.int .i64 2,.int .u32 7,.slice none 0 0],own 211 5 (.slice none 0 0) 0 [],Ib p2 (Dx 0 R),Ib p4 (EF 0 R),Ib p5 (D5 R),ro μ]; exact Split.ent' AC,Nat.zero_le _,Le.refl _,rfl,fun y hy=>by cases hy⟩ ?_
 rintro ⟨i,A,c,V,μ1⟩ env L ⟨hsub,hE,hi,hle,hV,hVr⟩
 dsimp only at hsub hE hi hle hV hVr
 refine B3 _ hsub ?_
 refine AP hE ?_
 clear hsub hE env L
 unfold A1W
 dsimp only
 obtain ⟨hl1,hl2,hl3⟩:=Iv h i
 refine A0 (Ac (Bb rfl rfl) (AE [2,3,5,6,7,8,11,70,71,72] rfl (Ae ?_)))
 refine Ak rfl (fun h72=>?_) (fun h72=>?_)
 ·have h72':i<R.length:=by have:=of_decide_eq_true h72; omega
  obtain ⟨r,hr⟩:∃ r,R[i]? = some r:=⟨_,List.getElem?_eq_getElem h72'⟩
  have hok:=h.row i r hr
  have hbl:=hok.bl
  have htr:=hok.tr
  have hgn:=hok.gn
  have hst:0≤r.st∧r.st<256:=by rcases hok.ft with ⟨e,_⟩ | ⟨e,_⟩ <;> omega
  have hf:FN r<4294967296:=by
   unfold FN
   cases hps:r.ps with
   | nil=>show 4294967295<4294967296; decide
   | cons z l=>have:=hok.pr z (by rw [hps]; exact List.mem_cons_self ..); show z.toNat<_; omega
  have hs:DT (D7 (R.take i)).length r<4294967296:=by
   unfold DT
   split
   ·omega
   ·cases hps:r.ps[1]? with
    | none=>show 4294967295<4294967296; decide
    | some z=>have:=hok.pr z (List.mem_of_getElem? hps); show z.toNat<_; omega
  have hd:=Hj hr
  have e1:Dx (D7 (R.take i)).length (R.drop i)=Bf 4 r.tr.toNat++(Bf 4 (FN r)++(Bf 4 (DT (D7 (R.take i)).length r)++(Bf 2 r.gn.toNat++(Bf 1 r.st.toNat++Dx (D7 (R.take (i+1))).length (R.drop (i+1)))))):=by
   rw [hd,OE hr,List.length_append]
   show Hi _ r++_=_
   unfold Hi
   simp only [List.append_assoc]
  have e2:EF (D5 (R.take i)).length (R.drop i)=Bf 4 ((D5 (R.take i)).length+r.bt.length)++EF (D5 (R.take (i+1))).length (R.drop (i+1)):=by rw [hd,KF hr,List.length_append]; rfl
  have e3:D5 (R.drop i)=r.bt++D5 (R.drop (i+1)):=by rw [hd]; rfl
  have e4:(D7 R).drop (D7 (R.take i)).length=EE r++D7 (R.drop (i+1)):=by
   conv=>lhs; rw [show R=R.take i++R.drop i from (List.take_append_drop i R).symm,J0]
   rw [List.take_append_drop,List.drop_left,hd]; rfl
  have e5:(D5 (R.take (i+1))).length=(D5 (R.take i)).length+r.bt.length:=by rw [KF hr,List.length_append]
  rw [e1,e2,e3]
  refine Am (Af (Ae (Au (A0 ?_))))
  refine Aw (AZ) fun b12=>?_
  refine AE [2,3,5,6,7,8,11,12,70,71] rfl (A0 (Ad rfl ?_))
  refine Aw (AA (CB p2 r.tr.toNat _ Ax) rfl rfl AC) ?_
  rintro v74 L1 ⟨rfl,rfl⟩
  refine Aj (Ac (Ai rfl) (Ac (Ai rfl) ?_))
  refine Aw (AA (DF (r.tr.toNat:Nat)) rfl rfl AC) ?_
  rintro v77 L1 ⟨rfl,rfl⟩
  refine Aj ?_
  refine Ac (Bw rfl Ax Ax) ?_
  refine Ac (Ab rfl) ?_
  refine B5 (AW rfl rfl rfl) ?_
  refine AE [2,3,5,6,7,8,11,12,70,71] rfl (A0 (Ad rfl ?_))
  refine Aw (AA (CB p2 (FN r) _ hf) rfl rfl AC) ?_
  rintro v81 L1 ⟨rfl,rfl⟩
  refine Aj (Ac (Ai rfl) (Ac (Ai rfl) ?_))
  refine Aw (AA (DF (FN r:Nat)) rfl rfl AC) ?_
  rintro v84 L1 ⟨rfl,rfl⟩
  refine Aj (Ad rfl ?_)
  refine Aw (AA (CB p2 (DT (D7 (R.take i)).length r) _ hs) rfl rfl AC) ?_
  rintro v86 L1 ⟨rfl,rfl⟩
  refine Aj (Ac (Ai rfl) (Ac (Ai rfl) ?_))
  refine Aw (AA (DF (DT (D7 (R.take i)).length r:Nat)) rfl rfl AC) ?_
  rintro v89 L1 ⟨rfl,rfl⟩
  refine Aj (Ad rfl ?_)
  refine Aw (AA (Wj r (base+i) hok Ax (D7 R) (D7 (R.drop (i+1))) (D7 (R.take i)).length e4 hl2 (by have:=congrArg List.length (J0 (R.take i) (R.drop i)); rw [List.take_append_drop,List.length_append] at this; omega) Ax) rfl rfl AC) ?_
  rintro v91 L1 ⟨A9,c9,rfl,rfl⟩
  refine Aj ?_
  refine C5 (μ:=μ1) AC fun μ2 h2 hrow=>?_
  refine Ac (Ab rfl) ?_
  refine B5 (AW rfl rfl rfl) ?_
  refine AE [2,3,5,6,7,8,11,12,70,71] rfl (A0 (Ad rfl ?_))
  refine Aw (AA (Ns p2 r.gn.toNat _ Ax) rfl rfl AC) ?_
  rintro v94 L1 ⟨rfl,rfl⟩
  refine Aj (Ac (Ai rfl) (Ac (Ai rfl) ?_))
  refine Aw (AA (Ly (r.gn.toNat:Nat)) rfl rfl AC) ?_
  rintro v97 L1 ⟨rfl,rfl⟩
  refine Aj ?_
  refine Ac (Bw rfl Ax Ax) ?_
  refine Ac (Ab rfl) ?_
  refine B5 (AW rfl rfl rfl) ?_
  refine AE [2,3,5,6,7,8,11,12,70,71] rfl (A0 (Ad rfl ?_))
  refine Aw (AA (Hs p2 r.st.toNat _ Ax) rfl rfl AC) ?_
  rintro v101 L1 ⟨rfl,rfl⟩
  refine Aj (Ac (Ai rfl) (Ac (Ai rfl) ?_))
  refine Aw (AA (JV (r.st.toNat:Nat)) rfl rfl AC) ?_
  rintro v104 L1 ⟨rfl,rfl⟩
  refine Aj ?_
  refine Ac (Bw rfl Ax Ax) ?_
  refine Ac (Ab rfl) (Ac (Bt rfl) ?_)
  refine B5 (AW rfl rfl rfl) ?_
  refine AE [2,3,5,6,7,8,11,12,70,71] rfl (A0 (Ad rfl ?_))
  refine Aw (AA (CB p4 ((D5 (R.take i)).length+r.bt.length) _ Ax) rfl rfl AC) ?_
  rintro v109 L1 ⟨rfl,rfl⟩
  refine Aj (Ac (Ai rfl) (Ac (Ai rfl) ?_))
  refine Aw (AA (DF ((D5 (R.take i)).length+r.bt.length:Nat)) rfl rfl AC) ?_
  rintro v112 L1 ⟨rfl,rfl⟩
  refine Aj ?_
  refine Ac (Bw rfl Ax Ax) ?_
  refine As [2,3,5,6,7,8,11,12,13,70,71] rfl rfl (A0 (Ad rfl (Ad rfl (Ad rfl ?_))))
  refine Ac (BY ((r.bt.length:Nat):Int) rfl rfl Ax Ax Ax) ?_
  refine Aw (AA (Nt p5 r.bt.length r.bt _ rfl Ax) rfl rfl AC) ?_
  rintro v118 L1 ⟨rfl,rfl⟩
  refine Aj (Ac (Ai rfl) (Ac (Ai rfl) ?_))
  refine Aw (AA (Te (str r.bt)) rfl rfl AC) ?_
  rintro v121 L1 ⟨rfl,rfl⟩
  refine Aj (Ac (Ab rfl) (Ac (Bt rfl) ?_))
  refine B5 (AW rfl rfl rfl) ?_
  refine AE [2,3,5,6,7,8,12,13,70,71] rfl (A0 (Ad rfl (As [2,3,5,6,7,8,11,12,70,71] rfl rfl (Al (Ac (Ab rfl) (AJ (Ag rfl rfl) ?_))))))
  refine AJ (BP rfl rfl) ?_
  refine Aw (Bg (qs:=[(0,_)]) rfl rfl rfl) fun b128=>?_
  refine Aw (B9 (l:=i) (m:=1) (news:=[.slice A9 r.ps.length c9,.int .i64 (r.tr.toNat:Nat),.int .i64 (r.gn.toNat:Nat),.int .i64 (r.st.toNat:Nat),.string (str r.bt)]) rfl rfl AC (by simp only [maxLen]; omega) Ax) ?_
  rintro v129 -
  refine Cv (fun m h=>Bz h) fun ⟨A129,c129,hv129⟩=>?_
  subst hv129
  refine Ac (Ab rfl) ?_
  refine B5 (AW rfl rfl rfl) ?_
  refine Be [2,3,5,6,7,8,11,70,71] rfl (AH (AR (Af (Al ?_))))
  refine Ac (JH (i+1) rfl rfl Ax Ax) ?_
  refine Ad rfl (Be [2,3,5,6,7,8,11,70,71] rfl (AH ?_))
  refine Af ⟨⟨i+1,A129,c129,V++[(.slice A9 r.ps.length c9,r)],μ2⟩,⟨⟨rfl,rfl,rfl,rfl,rfl,rfl,by rw [e5]; rfl,rfl,rfl,trivial⟩,?_,h72',hle.trans h2,?_,fun y hy=>?_⟩,by show R.length-(i+1)<R.length-i; omega⟩
  ·dsimp only
   have eg:QR (.slice A9 r.ps.length c9,r)=[.slice A9 r.ps.length c9,.int .i64 (r.tr.toNat:Nat),.int .i64 (r.gn.toNat:Nat),.int .i64 (r.st.toNat:Nat),.string (str r.bt)]:=by
    show [Value.slice A9 r.ps.length c9,.int .i64 r.tr,.int .i64 r.gn,.int .i64 r.st,.string (str r.bt)]=_
    rw [show ((r.tr.toNat:Nat):Int)=r.tr by omega,show ((r.gn.toNat:Nat):Int)=r.gn by omega,show ((r.st.toNat:Nat):Int)=r.st by omega]
   rw [List.flatMap_append,show [(Value.slice A9 r.ps.length c9,r)].flatMap QR=QR (.slice A9 r.ps.length c9,r) from List.append_nil _,eg]
   exact Split.ent' AC
  ·show (V++[(Value.slice A9 r.ps.length c9,r)]).map (fun x:Value×GR=>x.2)=R.take (i+1)
   rw [BE hr,← hV,List.map_append]; rfl
  ·rcases List.mem_append.1 hy with hy | hy
   ·exact (hVr y hy).le h2
   ·obtain rfl:=List.mem_singleton.1 hy
    exact hrow
 ·have h72':=of_decide_eq_false h72
  obtain rfl:i=R.length:=by omega
  rw [List.take_length] at hV
  have hVl:V.length=R.length:=by rw [← hV,List.length_map]
  refine BC (μ:=μ1) AC fun μ2 h2 hrow=>?_
  rw [← hVl] at hrow
  refine AY (AS (AS (AV rfl (Af (A0 ?_)))))
  refine AJ (BP rfl rfl) ?_
  refine B5 (AU rfl rfl rfl rfl) ?_
  refine AE [2] rfl (Ar ?_)
  exact Aq [ro μ2] (.cell rfl (Bn rfl) .nil) ⟨μ2,_,V,hle.trans h2,⟨by rw [hVl] at hrow ⊢; exact hrow,fun x hx=>(hVr x hx).le h2⟩,hV,rfl,rfl⟩ AC
theorem Wl (b c:Nat)(w:World):CallsD prog 236 #[pv b,pv c] .returning w fun e u' w'=>(∃ v,e=.returned v)∧u'=.returning∧w'=w:=by
 refine callsD_of_wpS func236 rfl fun c₀ cs hu=>?_
 apply wpS_seq
 apply wpS_region
 simp [wpOpsS,go_sem,recoverD,hu,ntmps236,Exit.thenS]
 apply wpS_seq
 apply wpS_region
 simp [wpOpsS,go_sem,Exit.thenS,Act.eval,Array.replicate]
 refine wpS_cond (t:=false) (by simp [Act.eval]) ?_
 simp only [Bool.false_eq_true,if_false]
 refine wpS_of_wp (wp_skip ?_)
 cases c₀
 simp_all [bodyPostS,results,results236]
theorem Wm (b c:Nat):Ma prog { target:=.fn (.func 236) #[pv b,pv c],args:=#[]} :=
 ⟨_,_,236,#[pv b,pv c],rfl,fun w=>⟨by simp [invoke,DK],Wl b c w⟩⟩
set_option maxHeartbeats 2000000 in
theorem Wn (μ:PH)(base:Nat)(R:List GR)(h:GsOk base R):Spec prog 142 [.string (str (EM base R))] [ro μ] (fun r L=>∃ μ' rv V,Le μ μ'∧GRows μ' rv V∧DZ V=R∧r=.tuple #[.agg (LF base rv).toArray,.int .i64 0]∧L=[ro μ']):=by
 refine Spec.of 34 func142 rfl rfl rfl ?_
 refine A0 ?_
 refine Aw (AZ) fun b2=>?_
 refine Aw (AZ) fun b3=>?_
 refine AE [0,2,3] rfl (A0 (Ad rfl ?_))
 refine Aw (AA (Rl (F9 base R) (Qa h)) rfl rfl AC) ?_
 rintro v9 L1 ⟨A,c,rfl,rfl⟩
 refine Aj (Ad rfl (Ac (Ai rfl) (Ac (Ai rfl) (AX rfl ?_))))
 refine B5 (AW rfl rfl rfl) ?_
 refine AE [0,2,3,4] rfl (Ae (A0 (AJ (Ag rfl rfl) (Ac (Bm rfl rfl) (AE [0,2,3,4,13] rfl (Dz rfl (Am (Af (A0 ?_)))))))))
 refine Ac (C9 (vs:=[]) (us:=[_,_]) rfl rfl) ?_
 refine ZT (ca:=[pv b2,pv b3]) rfl (Wm b2 b3) ?_
 refine AE [0,2,3,4] rfl (Ae ?_)
 refine BC (μ:=μ) AC fun μ1 h1 hrow=>?_
 refine Al (Ad rfl ?_)
 refine Aw (AA (Tf μ1 _ base R h hrow) rfl rfl AC) ?_
 rintro v18 L1 ⟨μ2,rv,V,h2,hg,rfl,rfl,rfl⟩
 obtain ⟨A2,c2,rfl⟩:=hg.row.sl
 refine Aj ?_
 refine B5 (AU rfl rfl rfl rfl) ?_
 refine AE [0,2,3] rfl (Ae (A0 ?_))
 refine AJ (BP rfl rfl) ?_
 refine Aw (AA (OU μ2 base _ V hg h) rfl rfl AC) ?_
 rintro v21 L1 ⟨μ3,h3,rfl,rfl⟩
 refine Aj (Ad rfl (Ac (Ai rfl) (Ac (Ai rfl) (AX rfl (As [0,2,3,5,6] rfl rfl (A0 (Ad rfl (Ac (Bm rfl rfl) (Ad rfl ?_)))))))))
 refine B7 26 rfl (fun h26=>by cases h26) (fun h26=>?_)
 refine AQ rfl rfl (Ad rfl (AQ rfl rfl (Ad rfl (AQ rfl rfl (Ac (Et rfl rfl) (Ac (AT rfl rfl) (AE [2,3,30] rfl ?_)))))))
 refine Ak rfl (fun h30=>by rw [BZ] at h30; cases h30) (fun h30=>?_)
 refine Am (Af (A0 ?_))
 refine AJ (BP rfl rfl) ?_
 refine B5 (AU rfl rfl rfl rfl) ?_
 refine B5 (AW rfl rfl rfl) ?_
 refine AE [2,3] rfl (Ar ?_)
 exact Aq [ro μ3] (.cell rfl (Bn rfl) (.cell rfl (Kp rfl) .nil)) ⟨μ3,_,V,(h1.trans h2).trans h3,hg.le h3,rfl,rfl,rfl⟩ AC
instance tif_err:TIface prog 283:=⟨⟨_,underlying283⟩⟩
theorem Rm {P:Program}{env:CQ}{t u:TypeId}[h:TIface P t]{x:Operand}(hx:AM env x=some .nilIface):Pu P env (.binOp .neq t x (.const .nilIface) u) (.bool false):=fun ρ hρ _ _ _ _ _ w=>by
 obtain ⟨e,he⟩:=h.und
 have hy:ρ (.const .nilIface)=.nilIface:=hρ _ _ rfl
 have hg:∀ X,eqGuard .neq t X (.const .nilIface) .nilIface .nilIface=pure ():=fun X=>by simp [eqGuard]
 have hb:binOp .neq t .nilIface .nilIface=(do pure (.bool (!(← Op.equal t .nilIface .nilIface)))):=rfl
 have hd:∀ d w,(Op.equalIn (d+1) t .nilIface .nilIface).run P w=.ok true w:=fun d w=>by simp [Op.equalIn,run_underlying he]
 have hq:(Op.equal t .nilIface .nilIface).run P w=.ok true w:=hd 9999 w
 simp only [execOp,hρ x _ hx,hy,Sem.run_bind,hg,hb,hq,Sem.run_pure,Result.andThen_ok,Bool.not_true]
def Cp (k:Nat):ByteArray:=str ([103,114,97,112,104,45]++Lib.decDigits k)
abbrev Nw:List UInt8:=[103,114,97,112,104,45]
theorem Wo:((List.range 20).all fun k=>DX (Cp k)&&(Lib.hasPrefix (Cp k).data.toList Nw&&((Lib.trimPrefix (Cp k).data.toList Nw == Lib.decDigits k)&&((Lib.atoi (Lib.decDigits k) == some (k:Int))&&decide ((Lib.decDigits k).length≤2)))))=true:=by kernel_rfl
theorem G1 {k:Nat}(h:k<20):DX (Cp k)=true∧Lib.hasPrefix (Cp k).data.toList Nw=true∧Lib.trimPrefix (Cp k).data.toList Nw=Lib.decDigits k∧Lib.atoi (Lib.decDigits k)=some (k:Int)∧(Lib.decDigits k).length≤2:=by
 have:=List.all_eq_true.1 Wo k (List.mem_range.2 h)
 simp only [Bool.and_eq_true,beq_iff_eq,decide_eq_true_eq] at this
 exact this
theorem KV {a b:Nat}(ha:a<20)(hb:b<20)(h:Cp a=Cp b):a=b:=by
 have h1:=(G1 ha).2.2
 have h2:=(G1 hb).2.2
 rw [h,h2.1] at h1
 rw [← h1.1] at h1
 have:=h2.2.1.symm.trans h1.2.1
 exact (Int.ofNat_inj.1 (Option.some.inj this)).symm
abbrev chainN:ByteArray:=⟨#[99,104,97,105,110]⟩
abbrev I5:ByteArray:=⟨#[99,104,97,105,110,46,116,109,112]⟩
abbrev I6:ByteArray:=⟨#[103,114,97,112,104,46,116,109,112]⟩
def SynOk (μ:PH):Prop:=∃ ev,CellAt μ 0 0 ev∧(ev=.nilIface∨∃ te pe,ev=.iface te pe)
theorem SynOk.le{μ μ':PH}(h:SynOk μ)(k:Le μ μ'):SynOk μ':=let ⟨ev,h1,h2⟩:=h; ⟨ev,h1.le k,h2⟩
theorem H.below{E:Ctx}{w w':World}{L:List AF}(h:H E w L)(hb:RowKit.Below w.heap.size w w'):H E w' L:=by
 obtain ⟨h1,h2,h3,h4,h5⟩:=h
 refine ⟨hb.os.trans h1,hb.output.trans h2,hb.tape.trans h3,Nat.le_trans h4 hb.size,h5.mono fun b o hb'=>?_⟩
 rw [hb.block b (Array.getElem?_eq_some_iff.1 hb').1]; exact hb'
theorem Wp (k:Nat)(h:k<20):Spec prog 173 [.int .i64 (k:Nat)] [] (fun r L=>r=.string (str (Lib.decDigits k))∧L=[]):=Spec.ofCalls fun w=>strconv_Itoa_small k Ax w
theorem Wr (k:Nat)(h:k<20):Spec prog 181 [.string (str (Lib.decDigits k))] [] (fun r L=>r=.tuple #[.int .i64 (k:Nat),.nilIface]∧L=[]):=fun E w hw =>
 (strconv_Atoi (str (Lib.decDigits k)) k (by rw [CO]; have:=(G1 h).2.2.2.2; omega) (G1 h).2.2.2.1 w).mono fun e w' ⟨e1,t,e2⟩=>⟨_,[],e1,⟨rfl,rfl⟩,by rw [e2]; exact hw.below (Lib.bytesWorld_below w 5 t)⟩
theorem A0d(μ:PH)(hs:SynOk μ)(s:ByteArray)(hl:s.size≤18)(h:Lib.atoi s.data.toList=none):Spec prog 181 [.string s] [ro μ] (fun r L=>(∃ v,r=.tuple #[.int .i64 0,v])∧L=[ro μ]):=fun E w hw=>by
 obtain ⟨ev,hc,hev⟩:=hs
 exact (strconv_Atoi_err s hl h ev w (LJ hw hc) hev).mono fun e w' ⟨N,e1,_,_,e2⟩=>⟨_,[ro μ],e1,⟨⟨_,rfl⟩,rfl⟩,hw.below e2⟩
theorem OV (s p:ByteArray):Spec prog 180 [.string s,.string p] [] (fun r L=>r=.tuple #[.string (str (Lib.trimPrefix s.data.toList p.data.toList)),.bool (Lib.hasPrefix s.data.toList p.data.toList)]∧L=[]):=Spec.ofCalls fun w=>strings_CutPrefix s p w
theorem Ws (s p:ByteArray):Spec prog 136 [.string s,.string p] [] (fun r L=>r=.bool (Lib.hasPrefix s.data.toList p.data.toList)∧L=[]):=Spec.ofCalls fun w=>strings_HasPrefix s p w
theorem JW (k:Nat)(h:k<20):Spec prog 98 [.int .i64 (k:Nat)] [] (fun r L=>r=.string (Cp k)∧L=[]):=by
 have hd:=(G1 h).2.2.2.2
 refine Spec.of 9 func98 rfl rfl rfl ?_
 refine A0 (As [0] rfl rfl (Ae (A0 (Ad rfl ?_))))
 refine Aw (AA (J9 (k:Nat)) rfl rfl AC) ?_
 rintro v4 L1 ⟨rfl,rfl⟩
 refine Aj (Ac (BO rfl) (AE [0,5] rfl ?_))
 refine Ak rfl (fun h5=>by rw [decide_eq_true Ax,decide_eq_true Ax] at h5; cases h5) (fun h5=>?_)
 refine Am (Af (A0 (Ad rfl ?_)))
 refine Aw (AA (Wp k h) rfl rfl AC) ?_
 rintro v7 L1 ⟨rfl,rfl⟩
 refine Aj ?_
 refine Ac (Om (a:=Nw) rfl rfl (by show 6+_≤_; omega)) ?_
 refine As [2] rfl rfl (Ar ?_)
 exact Aq [] (.tmp rfl .nil) ⟨rfl,rfl⟩ AC
theorem YR (k:Nat)(h:k<20):Spec prog 103 [.string (Cp k)] [] (fun r L=>r=.tuple #[.int .i64 (k:Nat),.bool true]∧L=[]):=by
 obtain ⟨h1,h2,h3,h4,h5⟩:=G1 h
 refine Spec.of 31 func103 rfl rfl rfl ?_
 refine A0 (AX rfl (As [0] rfl rfl (A0 (Ad rfl ?_))))
 refine Aw (AA (OV (Cp k) ⟨#[103,114,97,112,104,45]⟩) rfl rfl AC) ?_
 rintro v10 L1 ⟨rfl,rfl⟩
 rw [show Lib.trimPrefix (Cp k).data.toList (⟨#[103,114,97,112,104,45]⟩:ByteArray).data.toList=Lib.decDigits k from h3,show Lib.hasPrefix (Cp k).data.toList (⟨#[103,114,97,112,104,45]⟩:ByteArray).data.toList=true from h2]
 refine Aj (Ad rfl (Ac (Ai rfl) (Ac (Ai rfl) (AX rfl (As [0,4,5] rfl rfl (A0 (Ad rfl ?_)))))))
 refine Aw (AA (Wr k h) rfl rfl AC) ?_
 rintro v15 L1 ⟨rfl,rfl⟩
 refine Aj (Ad rfl (Ac (Ai rfl) (Ac (Ai rfl) (AX rfl (As [0,5,6,7] rfl rfl (Ae (A0 (Ad rfl (Ac (BO rfl) (Ad rfl ?_))))))))))
 refine B7 20 rfl (fun h20=>by cases h20) (fun h20=>?_)
 refine AQ rfl rfl (Ad rfl (AQ rfl rfl (Ac (Rm rfl) (Ac (AT rfl rfl) (Ad rfl ?_)))))
 refine B7 24 rfl (fun h24=>by cases h24) (fun h24=>?_)
 refine AQ rfl rfl (Ad rfl (AQ rfl rfl ?_))
 refine Aw (AA (JW k h) rfl rfl AC) ?_
 rintro v26 L1 ⟨rfl,rfl⟩
 refine Aj (AQ rfl rfl (Ad rfl (AQ rfl rfl (Ac (Et rfl rfl) (Ac (AT rfl rfl) (AE [6,29] rfl ?_))))))
 refine Ak rfl (fun h29=>by rw [BZ] at h29; cases h29) (fun h29=>?_)
 refine Am (Af (A0 (Ad rfl (AX rfl (As [2,3] rfl rfl (Ar ?_))))))
 exact Aq [] (.tmp rfl (.tmp rfl .nil)) ⟨rfl,rfl⟩ AC
theorem Um (μ:PH)(hs:SynOk μ)(s:ByteArray)(hl:s.size≤18)(hp:Lib.hasPrefix s.data.toList Nw=false)(ht:Lib.trimPrefix s.data.toList Nw=s.data.toList)(h:Lib.atoi s.data.toList=none):Spec prog 103 [.string s] [ro μ] (fun r L=>r=.tuple #[.int .i64 0,.bool false]∧L=[ro μ]):=by
 refine Spec.of 31 func103 rfl rfl rfl ?_
 refine A0 (AX rfl (As [0] rfl rfl (A0 (Ad rfl ?_))))
 refine Aw (AA (OV s ⟨#[103,114,97,112,104,45]⟩) rfl rfl AC) ?_
 rintro v10 L1 ⟨rfl,rfl⟩
 rw [show Lib.trimPrefix s.data.toList (⟨#[103,114,97,112,104,45]⟩:ByteArray).data.toList=s.data.toList from ht,show Lib.hasPrefix s.data.toList (⟨#[103,114,97,112,104,45]⟩:ByteArray).data.toList=false from hp]
 refine Aj (Ad rfl (Ac (Ai rfl) (Ac (Ai rfl) (AX rfl (As [0,4,5] rfl rfl (A0 (Ad rfl ?_)))))))
 refine Aw (AA (A0d μ hs s hl h) rfl rfl AC) ?_
 rintro v15 L1 ⟨⟨v,rfl⟩,rfl⟩
 refine Aj (Ad rfl (Ac (Ai rfl) (Ac (Ai rfl) (AX rfl (As [0,5,6,7] rfl rfl (Ae (A0 (Ad rfl (Ac (BO rfl) (Ad rfl ?_))))))))))
 refine B7 20 rfl (fun h20=>?_) (fun h20=>by cases h20)
 refine AI rfl rfl rfl (AI rfl rfl rfl (Ac (B4 rfl rfl) (Ad rfl ?_)))
 refine B7 24 rfl (fun h24=>?_) (fun h24=>by cases h24)
 refine AI rfl rfl rfl (AI rfl rfl rfl (AI rfl rfl rfl (AI rfl rfl rfl (Ac (B4 rfl rfl) (AE [6,29] rfl (Qs rfl (A0 (AX rfl (As [2,3] rfl rfl (Ar (AN ?_)))))))))))
 exact Aq [ro μ] (.tmp rfl (.tmp rfl .nil)) ⟨rfl,rfl⟩ AC
theorem HR (l:List Lk):D3 l=GZ++(Bf 1 l.length++l.flatMap GQ):=by unfold D3; rw [List.append_assoc]
structure LI where
 i:Nat
 A:Option Addr
 c:Nat
set_option maxHeartbeats 4000000 in
theorem Tg (μ:PH)(l:List Lk)(hok:LkOk l):Spec prog 73 [.string (str (C8 l))] [ro μ] (fun r L=>∃ μ' v,Le μ μ'∧Row μ' v 3 l.length (l.flatMap Er)∧r=.tuple #[v,.int .i64 0]∧L=[ro μ']):=by
 have hl8:=hok.len
 have hcb:=JR l
 have hce:=HO l
 have hp:Lib.hasPrefix (str (C8 l)).data.toList GZ=true:=by
  show Lib.hasPrefix (C8 l) GZ=true
  unfold C8
  rw [HR]; rfl
 have e1:(C8 l).drop (D3 l).length=Bf 4 (E2 (D3 l))++[]:=by unfold C8; rw [List.drop_left,List.append_nil]
 have e2:(C8 l).take (D3 l).length=D3 l:=by unfold C8; rw [List.take_left]
 have e3:((C8 l).drop 5).take ((D3 l).length-5)=Bf 1 l.length++l.flatMap GQ:=by
  have e:(C8 l).drop 5=Bf 1 l.length++l.flatMap GQ++Bf 4 (E2 (D3 l)):=by unfold C8; rw [HR]; rfl
  rw [e]
  refine List.take_left' ?_
  rw [HR]; rfl
 refine Spec.of 89 func73 rfl rfl rfl ?_
 refine A0 (AX rfl (As [0] rfl rfl (Ae (Au (A0 (Ad rfl (Ac (D0 rfl) (Ac (Bb rfl rfl) (As [0,17] rfl rfl ?_)))))))))
 refine Ak rfl (fun h17=>by have:=of_decide_eq_true h17; omega) (fun h17=>?_)
 refine A0 (Ad rfl ?_)
 refine Aw (AA (Ws (str (C8 l)) ⟨#[80,68,71,77,1]⟩) rfl rfl AC) ?_
 rintro v23 L1 ⟨rfl,rfl⟩
 rw [show Lib.hasPrefix (str (C8 l)).data.toList (⟨#[80,68,71,77,1]⟩:ByteArray).data.toList=true from hp]
 refine Aj (Ac (BO rfl) (As [0,21] rfl rfl (Dz rfl (Am (AR (Af (A0 (Ad rfl (Ac (D0 rfl) (Ac (BY (((D3 l).length:Nat):Int) rfl rfl Ax Ax Ax) (As [0,4] rfl rfl (Ae (A0 (Ad rfl (Ad rfl (Ac (Il (D3 l).length rfl rfl rfl Ax) ?_))))))))))))))))
 rw [e1]
 refine Aw (AA (Fx (Bf 4 (E2 (D3 l))++[]) (by rw [List.append_nil,Br]; decide)) rfl rfl AC) ?_
 rintro v32 L1 ⟨p,rfl,rfl⟩
 refine Aj ?_
 refine Aw (AA (CB p (E2 (D3 l)) [] (GH _)) rfl rfl AC) ?_
 rintro v33 L1 ⟨rfl,rfl⟩
 refine Aj (Ad rfl (Ac (Ai rfl) (Ac (Ai rfl) (AX rfl (As [0,4,5] rfl rfl (A0 (Ad rfl (Ad rfl (Ad rfl (Ac (Ik (D3 l).length rfl rfl rfl Ax) ?_))))))))))
 rw [e2]
 refine Aw (Bg (qs:=[(0,_)]) rfl rfl rfl) fun b40=>?_
 refine Aw (AA (EU b40 1 (str (D3 l)) (by rw [CO]; omega)) rfl rfl AC) ?_
 rintro v41 L1 ⟨rfl,rfl⟩
 refine Aj (Ac (Bm rfl rfl) (AE [0,4,42] rfl ?_))
 refine Ak rfl (fun h42=>by simp [E2] at h42) (fun h42=>?_)
 refine Am (Af (A0 (Ad rfl (Ad rfl (Ac (Kt 5 (D3 l).length rfl rfl rfl rfl rfl Ax Ax) ?_)))))
 rw [e3]
 refine Aw (AA (Fx _ (by rw [← e3,List.length_take,List.length_drop]; omega)) rfl rfl AC) ?_
 rintro v46 L1 ⟨q,rfl,rfl⟩
 refine Aj (As [7] rfl rfl (A0 (Ad rfl ?_)))
 refine Aw (AA (Hs q l.length _ Ax) rfl rfl AC) ?_
 rintro v49 L1 ⟨rfl,rfl⟩
 refine Aj (Ad rfl (Ac (Ai rfl) (Ac (Ai rfl) (AX rfl (As [7,8] rfl rfl (A0 (As [7,8,10] rfl rfl (Ae (A0 (Ad rfl (Ad rfl (AE [7,10,52,53] rfl (Au (AP (own_nil_ent (e:=161) (n:=3)) ?_))))))))))))))
 refine B0 (ι:=LI) (fun x env L=>Sub env [(7,pv q),(10,.slice x.A x.i x.c),(52,.int .u8 (l.length:Nat)),(53,.int .u8 (x.i:Nat))]∧Ent L [Ib q ((l.drop x.i).flatMap GQ),own 161 3 (.slice x.A x.i x.c) x.i ((l.take x.i).flatMap Er),ro μ]∧x.i≤l.length) (fun x=>l.length-x.i) ⟨0,none,0⟩ ⟨⟨rfl,rfl,rfl,rfl,trivial⟩,by show Ent _ [Ib q (l.flatMap GQ),own 161 3 (.slice none 0 0) 0 [],ro μ]; exact Split.ent' AC,Nat.zero_le _⟩ ?_
 rintro ⟨i,A,c⟩ env L ⟨hsub,hE,hi⟩
 dsimp only at hsub hE hi
 refine B3 _ hsub (AP hE ?_)
 clear hsub hE env L
 refine A0 (Ac (Bb rfl rfl) (AE [7,10,52,53,54] rfl (Ae ?_)))
 refine Ak rfl (fun h54=>?_) (fun h54=>?_)
 ·have h54':i<l.length:=by have:=of_decide_eq_true h54; omega
  obtain ⟨x,hx⟩:∃ x,l[i]? = some x:=⟨_,List.getElem?_eq_getElem h54'⟩
  obtain ⟨o1,o2,o3,o4⟩:=hok.one x (List.mem_of_getElem? hx)
  rw [Hj hx,List.flatMap_cons,show GQ x=Bf 4 x.1++(Bf 4 x.2.1++Bf 4 x.2.2) from rfl,List.append_assoc,List.append_assoc]
  refine Am (Af (Ae (Au (A0 (Ad rfl ?_)))))
  refine Aw (AA (CB q x.1 _ Ax) rfl rfl AC) ?_
  rintro v57 L1 ⟨rfl,rfl⟩
  refine Aj (Ad rfl (Ac (Ai rfl) (Ac (Ai rfl) (AX rfl (As [7,10,11,52,53] rfl rfl (A0 (Ad rfl ?_)))))))
  refine Aw (AA (CB q x.2.1 _ Ax) rfl rfl AC) ?_
  rintro v62 L1 ⟨rfl,rfl⟩
  refine Aj (Ad rfl (Ac (Ai rfl) (Ac (Ai rfl) (AX rfl (As [7,10,11,13,52,53] rfl rfl (A0 (Ad rfl ?_)))))))
  refine Aw (AA (CB q x.2.2 _ Ax) rfl rfl AC) ?_
  rintro v67 L1 ⟨rfl,rfl⟩
  refine Aj (Ad rfl (Ac (Ai rfl) (Ac (Ai rfl) (AX rfl (As [7,10,11,13,15,52,53] rfl rfl (Al (Ad rfl (Ad rfl (Ac (Bw rfl Ax Ax) (Ad rfl (Ac (Bw rfl Ax Ax) (Ad rfl (Ac (Bo (qs:=[(0,_),(1,_),(2,_)]) rfl) (Aw (Bg (qs:=[(0,_)]) rfl rfl rfl) (fun b77=>?_)))))))))))))))
  refine Aw (B9 (l:=i) (m:=1) (news:=[.int .i64 (x.1:Nat),.int .i64 (x.2.1:Nat),.int .u32 (x.2.2:Nat)]) rfl rfl AC (by simp only [maxLen]; omega) Ax) ?_
  rintro v78 -
  refine Cv (fun m h=>Bz h) fun ⟨A78,c78,hv78⟩=>?_
  subst hv78
  refine AX rfl (Be [7,10,52,53] rfl (AH (AR (Af (Al (Ac (KM (i+1) rfl rfl Ax Ax) (Ad rfl (Be [7,10,52,53] rfl (AH ?_)))))))))
  refine Af ⟨⟨i+1,A78,c78⟩,⟨⟨rfl,rfl,rfl,rfl,trivial⟩,?_,h54'⟩,by show l.length-(i+1)<l.length-i; omega⟩
  dsimp only
  rw [BE hx,List.flatMap_append,show [x].flatMap Er=[.int .i64 (x.1:Nat),.int .i64 (x.2.1:Nat),.int .u32 (x.2.2:Nat)] from rfl]
  exact Split.ent' AC
 ·have h54':=of_decide_eq_false h54
  obtain rfl:i=l.length:=by omega
  rw [List.drop_length,List.flatMap_nil,List.take_length]
  refine BC (μ:=μ) AC fun μ1 h1 hrow=>?_
  refine AY (AS (AS (AV rfl (Af (Ae (A0 (Ad rfl ?_)))))))
  refine Aw (AA (Nu q) rfl rfl AC) ?_
  rintro v81 L1 ⟨rfl,rfl⟩
  refine Aj (Ac (Bm rfl rfl) (Ad rfl ?_))
  refine B7 83 rfl (fun h83=>by cases h83) (fun h83=>?_)
  refine AQ rfl rfl (Ad rfl (AQ rfl rfl ?_))
  refine Aw (AA (Ng μ1 _ l hrow hok) rfl rfl AC) ?_
  rintro v85 L1 ⟨rfl,rfl⟩
  refine Aj (AQ rfl rfl (Ac (Bm rfl rfl) (Ac (AT rfl rfl) (AE [10,87] rfl (Dz rfl (Am (Af (A0 (Ad rfl (AX rfl (As [2,3] rfl rfl (Ar ?_))))))))))))
  exact Aq [ro μ1] (.tmp rfl (.tmp rfl .nil)) ⟨μ1,_,h1,hrow,rfl,rfl⟩ AC
theorem A0e{l:List UInt8}{k:Nat}{b:UInt8}(h:l[k]? = some b):(Dd l)[0+k*1]? = some (.int .u8 (b.toNat:Nat)):=by rw [DN,List.getElem?_map,Nat.zero_add,Nat.mul_one,h]; rfl
theorem A0f(l:List UInt8)(k:Nat)(b:UInt8):(Dd l).set (0+k*1) (.int .u8 (b.toNat:Nat))=Dd (l.set k b):=by rw [DN,DN,Nat.zero_add,Nat.mul_one,List.map_set]
theorem A1j(b:UInt8):((b.toNat:Nat):Int)=((BitVec.ofNat 32 b.toNat).toNat:Int):=by
 have:=b.toNat_lt; rw [BitVec.toNat_ofNat,Nat.mod_eq_of_lt Ax]
set_option maxHeartbeats 1000000 in
theorem Nx (s:BitVec 32)(p:List UInt8)(hs:p.length≤1048576):Spec prog 340 [.int .u32 (s.toNat:Nat),.string (str p)] [] (fun v L=>(∃ w:BitVec 32,v=.int .u32 (w.toNat:Nat))∧L=[]):=by
 refine Spec.of 37 func340 rfl rfl rfl ?_
 refine A0 (As [0,1] rfl rfl (A0 (Ad rfl (Ac (Eu (a:=2166136261#32) rfl rfl) (As [1,5] rfl rfl (Ae (A0 (Ad rfl ?_))))))))
 refine Aw (Ih (e:=5) rfl (by rw [CO]; simp only [maxLen]; omega)) ?_
 rintro g cap cs fr hc1 hc2 hcs
 skip
 refine Ac (BI rfl) (Ad rfl (AE [5,11,12,13] rfl (Au (AP U6 ?_))))
 refine JA (b:=g) (μ:=fun _=>none) AC fun μ _ hg=>?_
 have hrow:Row μ (.slice (some ⟨g,0,none⟩) p.length cap) 1 p.length (Dd p):=Ha hc1 hc2 hcs hg
 refine B0 (ι:=Nat×BitVec 32) (fun x env L=>Sub env [(5,.int .u32 (x.2.toNat:Nat)),(11,.slice (some ⟨g,0,none⟩) p.length cap),(12,.int .i64 (p.length:Nat)),(13,.int .i64 (x.1:Nat))]∧L=[ro μ]∧x.1≤p.length) (fun x=>p.length-x.1) (0,2166136261#32 ^^^ s) ⟨⟨rfl,rfl,rfl,rfl,trivial⟩,rfl,Nat.zero_le _⟩ ?_
 rintro ⟨i,w⟩ env L ⟨hsub,rfl,hi⟩
 refine B3 _ hsub ?_
 dsimp only at hi
 clear hsub env
 refine A0 (Ac (Bb rfl rfl) (AE [5,11,12,13,14] rfl (Ae ?_)))
 refine Ak rfl (fun h14=>?_) (fun h14=>?_)
 ·have h14':i<p.length:=by have:=of_decide_eq_true h14; dsimp only at this; omega
  obtain ⟨b,hb⟩:∃ b,p[i]? = some b:=⟨_,List.getElem?_eq_getElem Ax⟩
  obtain ⟨g',off,cap',hv,_,_,hr'⟩:=hrow.pos Ax
  have hre:=hr'.elem (f:=bc1) (n:=1) (fun _=>rfl) hb
  injection hv with e1 e2 e3
  injection e1 with e1
  injection e1 with e4 e5
  subst e4 e5
  refine Am (Af (Ae (Au (A0 ?_))))
  refine Ac (AB (0+i*1) rfl rfl Ax Ax (by rw [Int.toNat_natCast])) ?_
  refine AJ (C3 rfl hre.cell) (As [5,7,11,12,13] rfl rfl (Al (Ad rfl (Ad rfl ?_))))
  refine Ac (C6 (k':=.u32) (n:=((BitVec.ofNat 32 b.toNat).toNat:Int)) (by rw [← A1j]; rfl) (GE _)) ?_
  refine Ac (Eu (a:=w) rfl rfl) (Ac (JJ (b:=16777619#32) rfl rfl) (AX rfl (Be [5,11,12,13] rfl (AH (AR (Af (Al (Ac (AO ((i+1:Nat):Int) rfl rfl Ax Ax Ax) (Ad rfl (Be [5,11,12,13] rfl (AH ?_)))))))))))
  exact Af ⟨(i+1,_),⟨⟨rfl,rfl,rfl,rfl,trivial⟩,rfl,h14'⟩,by show p.length-(i+1)<p.length-i; omega⟩
 ·refine AY (AS (AS (AV rfl (Af (A0 (Ad rfl (Ad rfl (Ac (Fk (a:=w) 16 rfl rfl Ax) (Ac (Eu (a:=w) rfl rfl) (Ac (JJ (b:=2246822507#32) rfl rfl) (As [5] rfl rfl (A0 (Ad rfl (Ad rfl (Ac (Fk 13 rfl rfl Ax) (Ac (Eu rfl rfl) (Ac (JJ (b:=3266489909#32) rfl rfl) (As [5] rfl rfl (A0 (Ad rfl (Ad rfl (Ac (Fk 16 rfl rfl Ax) (Ac (Eu rfl rfl) (As [4] rfl rfl (Ar ?_)))))))))))))))))))))))))
  exact Aq [] (.tmp rfl .nil) ⟨⟨_,rfl⟩,rfl⟩ AC
set_option maxHeartbeats 2000000 in
theorem Qb (p:List UInt8)(n:Nat)(hs:p.length≤1048576)(hn:0<n)(hn2:n≤1000):Spec prog 269 [.agg setC.toArray,.string (str p),.int .i64 (n:Nat)] [] (fun v L=>∃ (A:Option Addr) (c:Nat) (xs:List Int),v=.slice A xs.length c∧(∀ x∈xs,0≤x∧x<(n:Int))∧L=[own 3 1 (.slice A xs.length c) xs.length (xs.flatMap (Bj .i64))]):=by
 refine Spec.of 48 func269 rfl rfl rfl ?_
 refine A0 (Aw (Bi rfl rfl) (fun b3=>?_))
 refine As [1,2,3] rfl rfl (Ae (A0 (AJ (BP rfl rfl) ?_)))
 refine Aw (AA Gs rfl rfl AC) ?_
 rintro v11 L1 ⟨rfl,rfl⟩
 refine Aj (Ac (Bm rfl rfl) (Ad rfl ?_))
 refine B7 13 rfl (fun h13=>by cases h13) (fun h13=>?_)
 refine AQ rfl rfl (Ad rfl (AQ rfl rfl (Ac (Bb rfl rfl) (Ac (AT rfl rfl) (Ad rfl ?_)))))
 refine B7 17 rfl (fun h17=>by have:=of_decide_eq_true h17; omega) (fun h17=>?_)
 refine AQ rfl rfl (Ad rfl (AQ rfl rfl (Ac (BA rfl rfl) (Ac (AT rfl rfl) (AE [1,2,3,20] rfl ?_)))))
 refine Ak rfl (fun h20=>by have:=of_decide_eq_true h20; omega) (fun h20=>?_)
 refine Am (Af (Ae ?_))
 refine Ba [1,5] _ [] (by simp only [List.append_nil]; exact Ent.refl _) AK ?_
 refine AD 0 rfl (Ab rfl) (Bc 1 rfl (Ag rfl rfl) rfl (AD 2 rfl (AG rfl) (AD 4 rfl (Ab rfl) (Bc 5 rfl (Ag rfl rfl) rfl (AD 6 rfl (MT (a:=7#32) (b:=1#32) rfl rfl) (AD 7 rfl (AG rfl) ?_))))))
 refine CC 3 rfl AK (AA (Nx 7#32 p hs) rfl rfl AC) ?_
 rintro v24 L1 ⟨⟨w1,rfl⟩,rfl⟩
 refine ⟨_,BL (Split.ent AC),?_⟩
 refine BT 8 rfl AK AK (AA (Nx (7#32+1#32) p hs) rfl rfl AC) ?_
 rintro v29 L1 ⟨⟨w2,rfl⟩,rfl⟩
 refine Cc (AD 9 rfl (UE (a:=w2) (b:=1#32) rfl rfl) (AD 10 rfl (Bl rfl) (AD 11 rfl (Bl rfl) (C0 [2,3,7,8] rfl (Bs AK (Af (A0 (As [2,3,7,8,9] rfl rfl (Ae (A0 (Ac (Ab rfl) (AJ (Ag rfl rfl) (Ad rfl (AE [2,7,8,9,32,33] rfl (Au (AP (own_nil_ent (e:=3) (n:=1)) ?_))))))))))))))))
 refine B0 (ι:=Nat×BitVec 32×(Option Addr×Nat)×List Int) (fun x env L=>Sub env [(2,.int .i64 (n:Nat)),(7,.int .u32 (x.2.1.toNat:Nat)),(8,.int .u32 ((w2 ||| 1#32).toNat:Nat)),(9,.slice x.2.2.1.1 x.2.2.2.length x.2.2.1.2),(32,.int .i64 3),(33,.int .i64 (x.1:Nat))]∧Ent L [own 3 1 (.slice x.2.2.1.1 x.2.2.2.length x.2.2.1.2) x.2.2.2.length (x.2.2.2.flatMap (Bj .i64))]∧x.1≤3∧x.2.2.2.length=x.1∧∀ y∈x.2.2.2,0≤y∧y<(n:Int)) (fun x=>3-x.1) (0,w1,(none,0),[]) ⟨⟨rfl,rfl,rfl,rfl,rfl,rfl,trivial⟩,by show Ent _ [own 3 1 (.slice none 0 0) 0 []]; exact Split.ent' AC,by show 0≤3; decide,rfl,fun y hy=>by cases hy⟩ ?_
 rintro ⟨i,w,⟨A,c⟩,xs⟩ env L ⟨hsub,hE,hi,hxl,hxs⟩
 dsimp only at hsub hE hi hxl hxs
 refine B3 _ hsub (AP hE ?_)
 clear hsub hE env L
 refine A0 (Ac (Bb rfl rfl) (AE [2,7,8,9,32,33,34] rfl (Ae ?_)))
 refine Ak rfl (fun h34=>?_) (fun h34=>?_)
 ·have h34':i<3:=by have:=of_decide_eq_true h34; omega
  have hlt:w.toNat % n<n:=Nat.mod_lt _ hn
  refine Am (Af (Ae (Au (A0 (Ad rfl (Ad rfl (Ad rfl (Ac (CT n rfl rfl (DR Ax)) (Ac (JK rfl rfl hn) (Ac (Bw rfl Ax Ax) (Aw (Bg (qs:=[(0,_)]) rfl rfl rfl) (fun b41=>?_))))))))))))
  refine Aw (B9 (l:=xs.length) (m:=1) rfl rfl AC (by simp only [maxLen]; omega) Ax) ?_
  rintro v42 -
  refine Cv (fun m h=>Bz h) fun ⟨A42,c42,hv42⟩=>?_
  subst hv42
  refine As [2,7,8,9,32,33] rfl rfl (Al (Ad rfl (Ad rfl (Ac (MT (a:=w) rfl rfl) (AX rfl (Be [2,7,8,9,32,33] rfl (AH (AR (Af (Al (Ac (AO ((i+1:Nat):Int) rfl rfl Ax Ax Ax) (Ad rfl (Be [2,7,8,9,32,33] rfl (AH ?_))))))))))))))
  have el:(xs++[((w.toNat % n:Nat):Int)]).length=xs.length+1:=by rw [List.length_append]; rfl
  refine Af ⟨(i+1,w+(w2 ||| 1#32),(A42,c42),xs++[((w.toNat % n:Nat):Int)]),⟨?_,?_,h34',by dsimp only; omega,fun y hy=>?_⟩,by show 3-(i+1)<3-i; omega⟩
  ·dsimp only; rw [el]; exact ⟨rfl,rfl,rfl,rfl,rfl,rfl,trivial⟩
  ·dsimp only
   rw [el,List.flatMap_append]
   show Ent _ [own 3 1 (.slice A42 (xs.length+1) c42) (xs.length+1) (xs.flatMap (Bj .i64)++[.int .i64 ((w.toNat % n:Nat):Int)])]
   exact Split.ent' AC
  ·rcases List.mem_append.1 hy with hy | hy
   ·exact hxs y hy
   ·obtain rfl:=List.mem_singleton.1 hy
    omega
 ·refine AY (AS (AS (AV rfl (Af (A0 (Ad rfl (As [6] rfl rfl (Ar ?_))))))))
  exact Aq [own 3 1 (.slice A xs.length c) xs.length (xs.flatMap (Bj .i64))] (.tmp rfl .nil) ⟨A,c,xs,rfl,hxs,rfl⟩ AC
def Wt (st:Int)(bt:List UInt8):Prop:=(st=1∧bt≠[]∧bt.length≤3)∨(st=2∧bt=[])
theorem Rn {μ:PH}{v:Value}{ps:List ByteArray}(h:Row μ v 1 ps.length (ps.flatMap I9)){i:Nat}{p:ByteArray}(hi:ps[i]? = some p):∃ b off cap,v=.slice (some ⟨b,off,none⟩) ps.length cap∧CellAt μ b (off+i*1) (.string p):=by
 have hl:=(List.getElem?_eq_some_iff.1 hi).1
 obtain ⟨b,off,cap,hv,_,_,hr⟩:=h.pos Ax
 exact ⟨b,off,cap,hv,(hr.elem (f:=I9) (n:=1) (fun _=>rfl) hi).cell⟩
theorem Wu {l:BQ ByteArray}{c:Nat}{a:ByteArray}{v:Value}{Q:ByteArray→Prop}(h:∀ x∈l,Q x.1)(ha:Q a):∀ x∈upd l c a v,Q x.1:=by
 induction l with
 | nil=>intro x hx; obtain rfl:=List.mem_singleton.1 hx; exact ha
 | cons y l ih =>
  intro x hx
  unfold upd at hx
  split at hx
  ·rcases List.mem_cons.1 hx with rfl | hx
   ·exact h y (List.mem_cons_self ..)
   ·exact h x (List.mem_cons_of_mem _ hx)
  ·rcases List.mem_cons.1 hx with rfl | hx
   ·exact h _ (List.mem_cons_self ..)
   ·exact ih (fun z hz=>h z (List.mem_cons_of_mem _ hz)) x hx
set_option maxHeartbeats 4000000 in
theorem Th (μ:PH)(v:Value)(ps:List ByteArray)(h:Row μ v 1 ps.length (ps.flatMap I9))(hps:∀ p∈ps,p.size≤1048576):Spec prog 184 [.agg setC.toArray,v] [ro μ] (fun r L=>∃ μ' st bt,Le μ μ'∧Wt st bt∧r=.tuple #[.agg #[.int .i64 st,.string (str bt)],.int .i64 0]∧L=[ro μ']):=by
 have hsm:=h.small
 refine Spec.of 77 func184 rfl rfl rfl ?_
 refine A0 (Aw (Bi rfl rfl) (fun b2=>?_))
 refine Aw (AZ) fun b4=>?_
 refine As [1,2,4] rfl rfl (Ae (A0 (AJ (BP rfl rfl) ?_)))
 refine Aw (AA Gs rfl rfl AC) ?_
 rintro v15 L1 ⟨rfl,rfl⟩
 refine Aj (As [1,2,4,6] rfl rfl (A0 (Ad rfl (Ac (Bm rfl rfl) (AE [1,2,4,6,17] rfl (Dz rfl (Am (Af (A0 (Aw (Fj (kv:=BM)) (fun b20=>?_)))))))))))
 refine As [1,2,4,7] rfl rfl (Ae (A0 (Ad rfl (Ac (B2 h rfl) (Ad rfl (AE [2,4,7,21,22,23] rfl (Au ?_)))))))
 refine B0 (ι:=Nat×BQ ByteArray×Nat) (fun x env L=>Sub env [(2,pv b2),(4,pv b4),(7,.map (some b20)),(21,v),(22,.int .i64 (ps.length:Nat)),(23,.int .i64 (x.1:Nat))]∧Ent L [BF b20 BM x.2.1 x.2.2,B1 b2 43 [.int .i64 3,.int .i64 10,.int .i64 2,.int .u32 7],B1 b4 206 [.int .i64 0,.string ⟨#[]⟩],ro μ]∧x.1≤ps.length∧Born x.2.1 x.2.2∧∀ y∈x.2.1,y.1.size≤1048576) (fun x=>ps.length-x.1) (0,[],0) ⟨⟨rfl,rfl,rfl,rfl,rfl,rfl,trivial⟩,Split.ent' AC,Nat.zero_le _,Born.nil _,fun y hy=>by cases hy⟩ ?_
 rintro ⟨i,es,cl⟩ env L ⟨hsub,hE,hi,hB,hk⟩
 dsimp only at hsub hE hi hB hk
 refine B3 _ hsub (AP hE ?_)
 clear hsub hE env L
 refine A0 (Ac (Bb rfl rfl) (AE [2,4,7,21,22,23,24] rfl (Ae ?_)))
 refine Ak rfl (fun h24=>?_) (fun h24=>?_)
 ·have h24':i<ps.length:=by have:=of_decide_eq_true h24; omega
  obtain ⟨p,hp⟩:∃ p,ps[i]? = some p:=⟨_,List.getElem?_eq_getElem h24'⟩
  obtain ⟨b,off,c2,hv,hc⟩:=Rn h hp
  refine Am (Af (Ae (Au (A0 ?_))))
  refine Ac (AB (off+i*1) (congrArg some hv) rfl Ax Ax (by rw [Int.toNat_natCast])) ?_
  refine AJ (C3 rfl hc) (As [2,4,7,9,21,22,23] rfl rfl (Al (Ad rfl (Ad rfl (Ac (Bo (qs:=[]) rfl) ?_)))))
  refine B5 (Mt (kv:=BM) p rfl rfl rfl AC) ?_
  refine Be [2,4,7,21,22,23] rfl (AH (AR (Af (Al (Ac (AO ((i+1:Nat):Int) rfl rfl Ax Ax Ax) (Ad rfl (Be [2,4,7,21,22,23] rfl (AH ?_))))))))
  refine Af ⟨(i+1,upd es cl p (.agg #[]),Kr es cl p),⟨⟨rfl,rfl,rfl,rfl,rfl,rfl,trivial⟩,?_,h24',hB.upd p _,Wu (Q:=fun s=>s.size≤1048576) hk (hps p (List.mem_of_getElem? hp))⟩,by show ps.length-(i+1)<ps.length-i; omega⟩
  dsimp only
  exact Split.ent' AC
 ·refine AY (AS (AS (AV rfl (Af (Ae (A0 (Ad rfl (AJ (IY (κ:=ByteArray) rfl) (Ac (Ab rfl) (AJ (Ag rfl rfl) (Ac (BA rfl rfl) (AE [2,4,7,35] rfl ?_))))))))))))
  refine Ak rfl (fun h35=>?_) (fun h35=>?_)
  ·refine A0 (Ac (Bo (qs:=[(0,_)]) rfl) (B5 (AU rfl rfl rfl rfl) (As [4,5] rfl rfl (Ar (AN ?_)))))
   exact Aq [ro μ] (.cell rfl (Bn rfl) (.tmp rfl .nil)) ⟨μ,2,[],Le.refl _,.inr ⟨rfl,rfl⟩,rfl,rfl⟩ AC
  ·have hcnt:es.length≤2:=by have:=of_decide_eq_false h35; omega
   obtain ⟨nb,hnb⟩:∃ nb,nb=max 1 ((es.length*10+7) / 8):=⟨_,rfl⟩
   have hnb1:1≤nb∧nb≤3:=by omega
   refine Am (Af (A0 (Ad rfl (AJ (IY (κ:=ByteArray) rfl) (Ac (Ab rfl) (AJ (Ag rfl rfl) (Ac (G5 ((es.length*10:Nat):Int) rfl rfl Ax Ax Ax) (Ac (AO ((es.length*10+7:Nat):Int) rfl rfl Ax Ax Ax) (Ac (MU (b:=8) rfl rfl Ax (EP Ax Ax)) (Ac (FC rfl rfl) ?_))))))))))
   refine Aw (K5 nb rfl rfl Ax Ax (by simp only [maxLen]; omega)) ?_
   rintro b45
   rw [show List.replicate nb (Value.int .u8 0)=Dd (List.replicate nb 0) by rw [DN,List.map_replicate]; rfl]
   refine As [2,4,7,10] rfl rfl (Ae (A0 (Ad rfl (Aw (Mw (κ:=ByteArray) rfl) ?_))))
   rintro it
   skip
   refine AE [2,4,10,47] rfl (Au ?_)
   refine AP (Split.ent' (K:=[Sa it b20 cl [] cl,BF b20 BM es cl,B1 b45 5 (Dd (List.replicate nb 0)),B1 b2 43 [.int .i64 3,.int .i64 10,.int .i64 2,.int .u32 7],B1 b4 206 [.int .i64 0,.string ⟨#[]⟩],ro μ]) AC) ?_
   refine B0 (ι:=BQ ByteArray×BQ ByteArray×List UInt8×PH) (fun x env L=>Sub env [(2,pv b2),(4,pv b4),(10,.slice (some ⟨b45,0,none⟩) nb nb),(47,pv it)]∧Ent L [Sa it b20 cl (x.1.map (·.2.2)) cl,BF b20 BM es cl,B1 b45 5 (Dd x.2.2.1),B1 b2 43 [.int .i64 3,.int .i64 10,.int .i64 2,.int .u32 7],B1 b4 206 [.int .i64 0,.string ⟨#[]⟩],ro x.2.2.2]∧Going es x.1 x.2.1∧x.2.2.1.length=nb∧Le μ x.2.2.2) (fun x=>x.2.1.length) ([],es,List.replicate nb 0,μ) ⟨⟨rfl,rfl,rfl,rfl,trivial⟩,Ent.refl _,Going.start _,List.length_replicate,Le.refl _⟩ ?_
   rintro ⟨dn,td,bs,μ1⟩ env L ⟨hsub,hE,hgo,hbl,hle⟩
   dsimp only at hsub hE hgo hbl hle
   refine B3 _ hsub (AP hE ?_)
   clear hsub hE env L
   refine A0 ?_
   refine Aw (Pw (κ:=ByteArray) rfl AC hB.1 (Nat.le_refl _)) ?_
   refine ⟨fun hall=>?_,fun y hy hns=>?_⟩
   ·refine Ac (Ai rfl) (AE [2,4,10,47,49] rfl (Ae ?_))
    refine Ak rfl (fun h49=>by cases h49) (fun h49=>?_)
    refine AY (AS (AS (AV rfl (Af (Ae ?_)))))
    refine AP (Split.ent' (K:=[B1 b45 5 (Dd bs++[]),B1 b4 206 [.int .i64 0,.string ⟨#[]⟩],ro μ1]) (by rw [List.append_nil]; exact AC)) ?_
    rw [← hbl]
    refine Al (Ad rfl ?_)
    refine AJ (Xu bs rfl K3) ?_
    refine Ac (Bo (qs:=[(0,_),(1,_)]) rfl) (B5 (AU rfl rfl rfl rfl) (As [4,5] rfl rfl (Ar ?_)))
    exact Aq [ro μ1] (.cell rfl (Bn rfl) (.tmp rfl .nil)) ⟨μ1,1,bs,hle,.inl ⟨rfl,fun e=>by rw [e] at hbl; simp at hbl; omega,by omega⟩,rfl,rfl⟩ AC
   ·refine Ac (Ai rfl) (AE [2,4,10,47,49] rfl (Ae ?_))
    refine Ak rfl (fun h49=>?_) (fun h49=>by cases h49)
    obtain ⟨td',hgo',hlt⟩:=hgo.step hy hns
    refine Am (Af (Au (A0 ?_)))
    refine AJ (Mx (κ:=ByteArray) rfl AC hy hB) ?_
    refine Ac (Ai rfl) (As [2,4,10,11,47] rfl rfl (A0 (AJ (BP rfl rfl) (Ad rfl (Ad rfl (Ac (BI rfl) (Ac (G5 ((8*nb:Nat):Int) rfl rfl Ax Ax Ax) ?_)))))))
    refine Aw (AA (Qb y.1.data.toList (8*nb) (hk y hy) Ax Ax) rfl rfl AC) ?_
    rintro v57 L1 ⟨A,c,xs,rfl,hxs,rfl⟩
    refine Aj ?_
    refine C5 (μ:=μ1) AC fun μ2 l2 r57=>?_
    refine Ac (B2 r57 rfl) (Ad rfl (AE [2,4,10,47,57,58,59] rfl (Au ?_)))
    have hxsm:=r57.small
    refine B0 (ι:=Nat×List UInt8) (fun x env L=>Sub env [(2,pv b2),(4,pv b4),(10,.slice (some ⟨b45,0,none⟩) nb nb),(47,pv it),(57,.slice A xs.length c),(58,.int .i64 (xs.length:Nat)),(59,.int .i64 (x.1:Nat))]∧Ent L [B1 b45 5 (Dd x.2),Sa it b20 cl (dn.map (·.2.2)++[y.2.2]) cl,BF b20 BM es cl,B1 b2 43 [.int .i64 3,.int .i64 10,.int .i64 2,.int .u32 7],B1 b4 206 [.int .i64 0,.string ⟨#[]⟩],ro μ2]∧x.1≤xs.length∧x.2.length=nb) (fun x=>xs.length-x.1) (0,bs) ⟨⟨rfl,rfl,rfl,rfl,rfl,rfl,rfl,trivial⟩,Split.ent' AC,Nat.zero_le _,hbl⟩ ?_
    rintro ⟨k,cs⟩ env L ⟨hsub,hE,hk2,hcl⟩
    dsimp only at hsub hE hk2 hcl
    refine B3 _ hsub (AP hE ?_)
    clear hsub hE env L
    refine A0 (Ac (Bb rfl rfl) (AE [2,4,10,47,57,58,59,60] rfl (Ae ?_)))
    refine Ak rfl (fun h60=>?_) (fun h60=>?_)
    ·have h60':k<xs.length:=by have:=of_decide_eq_true h60; omega
     obtain ⟨x,hx⟩:∃ x,xs[k]? = some x:=⟨_,List.getElem?_eq_getElem h60'⟩
     obtain ⟨hx0,hxn⟩:=hxs x (List.mem_of_getElem? hx)
     obtain ⟨z,rfl⟩:∃ z:Nat,x=z:=⟨x.toNat,by omega⟩
     obtain ⟨g,o,c2,hv,hc⟩:=HN r57 hx
     obtain ⟨b,hb8⟩:∃ b,cs[z / 8]? = some b:=⟨_,List.getElem?_eq_getElem Ax⟩
     refine Am (Af (Ae (Au (A0 ?_))))
     refine Ac (AB (o+k*1) (congrArg some hv) rfl Ax Ax (by rw [Int.toNat_natCast])) ?_
     refine AJ (C3 rfl hc) (As [2,4,10,13,47,57,58,59] rfl rfl ?_)
     refine Ba [4] _ [] (by simp only [List.append_nil]; exact Ent.refl _) AK ?_
     refine AD 0 rfl (AG rfl) (AD 1 rfl (AG rfl) (AD 2 rfl (MU (b:=8) rfl rfl Ax (EP Ax Ax)) ?_))
     refine AD 3 rfl (AB (0+(z / 8)*1) rfl rfl Ax Ax (by rw [Int.toNat_natCast])) ?_
     refine Bc 4 rfl (Ag rfl (A0e hb8)) rfl (AD 5 rfl (AG rfl) (AD 6 rfl (JK (b:=8) rfl rfl Ax) (AD 7 rfl (UG (a:=1#8) (z % 8) rfl rfl Ax) (AD 8 rfl (Xv (a:=b.toBitVec) rfl rfl) ?_))))
     refine AD 9 rfl (AB (0+(z / 8)*1) rfl rfl Ax Ax (by rw [Int.toNat_natCast])) ?_
     refine Cs 10 rfl AK AK (Eb rfl rfl rfl (by rw [LL]; omega)) ?_
     refine C0 [2,4,10,47,57,58,59] rfl (Bs AK ?_)
     rw [show Value.int .u8 ((b.toBitVec ||| 1#8 <<< (z % 8)).toNat:Nat)=.int .u8 ((UInt8.ofBitVec (b.toBitVec ||| (1#8 <<< (z % 8)))).toNat:Nat) from rfl,A0f]
     refine AR (Af (Al (Ac (AO ((k+1:Nat):Int) rfl rfl Ax Ax Ax) (Ad rfl (Be [2,4,10,47,57,58,59] rfl (AH ?_))))))
     exact Af ⟨(k+1,cs.set (z / 8) (UInt8.ofBitVec (b.toBitVec ||| (1#8 <<< (z % 8))))),⟨⟨rfl,rfl,rfl,rfl,rfl,rfl,rfl,trivial⟩,by dsimp only; exact Split.ent' AC,h60',by rw [List.length_set]; exact hcl⟩,by show xs.length-(k+1)<xs.length-k; omega⟩
    ·refine AY (AS (AS (AV rfl (AR ?_))))
     refine Af ⟨(dn++[y],td',cs,μ2),⟨⟨rfl,rfl,rfl,rfl,trivial⟩,?_,hgo',hcl,hle.trans l2⟩,by dsimp only; omega⟩
     dsimp only
     rw [show (dn++[y]).map (·.2.2)=dn.map (·.2.2)++[y.2.2] by rw [List.map_append]; rfl]
     exact Split.ent' AC
abbrev Chn:Type:=ByteArray×Int×Int
abbrev X7 (x:Chn):List Value:=[.string x.1,.int .u32 x.2.1,.int .u32 x.2.2]
theorem YS {μ:PH}{v:Value}{e:En}{a:List En}(h:Row μ v 2 (e::a).length (DC (e::a))):∃ v',Row μ v' 2 a.length (DC a)∧∀ (env:CQ) (x y:Operand) (ki:IntKind) (lo:Int),AM env x=some v→AM env y=some (.int ki lo)→lo=((1:Nat):Int)→Pu prog env (.slice 27 x (some y) none none) v':=by
 obtain ⟨v',h1,h2⟩:=Row.lo (P:=prog) (t:=27) h 1 (by simp)
 exact ⟨v',h1,h2⟩
def Ti (l:List En):Prop:=∀ x∈l,x.1.size≤1048576
structure DfI where
 va:Value
 a:List En
 vb:Value
 b:List En
 A:Option Addr
 c:Nat
 cs:List Chn
structure DfI.Ok (μ:PH) (x:DfI) (na nb:Nat):Prop where
 ra:Row μ x.va 2 x.a.length (DC x.a)
 rb:Row μ x.vb 2 x.b.length (DC x.b)
 sa:Ti x.a
 sb:Ti x.b
 sc:∀ y∈x.cs,y.1.size≤1048576
 lc:x.cs.length+x.a.length+x.b.length≤na+nb
set_option maxHeartbeats 4000000 in
theorem Tj (μ:PH)(u v:Value)(a b:List En)(ha:Row μ u 2 a.length (DC a))(hb:Row μ v 2 b.length (DC b))(sa:Ti a)(sb:Ti b)(la:a.length≤65536)(lb:b.length≤65536):Spec prog 183 [u,v] [ro μ] (fun r L=>∃ (A:Option Addr) (c:Nat) (cs:List Chn),r=.slice A cs.length c∧cs.length≤131072∧(∀ x∈cs,x.1.size≤1048576)∧L=[own 291 3 (.slice A cs.length c) cs.length (cs.flatMap X7),ro μ]):=by
 refine Spec.of 78 func183 rfl rfl rfl ?_
 refine A0 (As [0,1] rfl rfl (A0 (As [0,1,5] rfl rfl (Ae (Au (AP (own_nil_ent (e:=291) (n:=3)) ?_))))))
 refine B0 (ι:=DfI) (fun x env L=>Sub env [(0,x.va),(1,x.vb),(5,.slice x.A x.cs.length x.c)]∧Ent L [own 291 3 (.slice x.A x.cs.length x.c) x.cs.length (x.cs.flatMap X7),ro μ]∧x.Ok μ a.length b.length) (fun x=>x.a.length+x.b.length) ⟨u,a,v,b,none,0,[]⟩ ⟨⟨rfl,rfl,rfl,trivial⟩,Ent.refl _,⟨ha,hb,sa,sb,fun y hy=>(by cases hy),by simp⟩⟩ ?_
 clear ha hb sa sb
 rintro ⟨va,a',vb,b',A,c,cs⟩ env L ⟨hsub,hE,ra,rb,sa,sb,sc,lc⟩
 dsimp only at hsub hE ra rb sa sb sc lc
 refine B3 _ hsub (AP hE ?_)
 clear hsub hE env L u v
 refine Cb (fun env L=>Sub env [(0,va),(1,vb),(5,.slice A cs.length c)]∧Ent L [own 291 3 (.slice A cs.length c) cs.length (cs.flatMap X7),ro μ]∧(a'≠[]∨b'≠[])) ?_ ?_
 ·refine A0 (Ad rfl (Ac (B2 ra rfl) (Ac (BA rfl rfl) (Ad rfl ?_))))
  refine B7 11 rfl (fun h11=>?_) (fun h11=>?_)
  ·refine AI rfl rfl rfl (AI rfl rfl rfl (AI rfl rfl rfl (Ac (B4 rfl rfl) (AE [0,1,5,15] rfl ?_))))
   refine Ak rfl (fun h15=>?_) (fun h15=>by cases h15)
   refine Am ?_
   exact Af ⟨⟨rfl,rfl,rfl,trivial⟩,Split.ent' AC,.inl fun e=>by rw [e] at h11; cases h11⟩
  ·refine AQ rfl rfl (Ad rfl (AQ rfl rfl (Ac (B2 rb rfl) (AQ rfl rfl (Ac (BA rfl rfl) (Ac (AT rfl rfl) (AE [0,1,5,15] rfl ?_)))))))
   refine Ak rfl (fun h15=>?_) (fun h15=>?_)
   ·refine Am ?_
    exact Af ⟨⟨rfl,rfl,rfl,trivial⟩,Split.ent' AC,.inr fun e=>by rw [e] at h15; cases h15⟩
   ·refine AY (AS (AS (AV rfl (Af (A0 (Ad rfl (As [4] rfl rfl (Ar ?_))))))))
    exact Aq [own 291 3 (.slice A cs.length c) cs.length (cs.flatMap X7),ro μ] (.tmp rfl .nil) ⟨A,c,cs,rfl,by omega,sc,rfl⟩ AC
 rintro env L ⟨hsub,hE,hne⟩
 refine B3 _ hsub (AP hE ?_)
 clear hsub hE env L
 refine Au (A0 (Aw (AZ) (fun b6=>?_)))
 refine AE [0,1,5,6] rfl (A0 (Ad rfl (Ac (B2 rb rfl) (Ad rfl (Ac (B2 ra rfl) (Ac (BY ((b'.length:Int)-a'.length) rfl rfl Ax Ax Ax) (As [0,1,5,6] rfl rfl ?_)))))))
 refine Cb (fun env L=>∃ o:Int,Sub env [(0,va),(1,vb),(5,.slice A cs.length c),(6,pv b6),(7,.int .i64 o)]∧Ent L [B1 b6 291 [.string ⟨#[]⟩,.int .u32 0,.int .u32 0],own 291 3 (.slice A cs.length c) cs.length (cs.flatMap X7),ro μ]∧(o≤0→a'≠[])∧(0≤o→b'≠[])) ?_ ?_
 ·refine A0 (Ad rfl (Ac (B2 ra rfl) (Ac (BA rfl rfl) (Ad rfl ?_))))
  refine B7 24 rfl (fun h24=>?_) (fun h24=>?_)
  ·refine AQ rfl rfl (Ad rfl (AQ rfl rfl (Ac (B2 rb rfl) (AQ rfl rfl (Ac (BA rfl rfl) (Ac (B4 rfl rfl) (AE [0,1,5,6,28] rfl ?_)))))))
   refine Ak rfl (fun h28=>?_) (fun h28=>?_)
   ·obtain ⟨ea,ta,rfl⟩:∃ e t,a'=e::t:=by
     cases a' with
     | nil=>cases h24
     | cons e t=>exact ⟨e,t,rfl⟩
    obtain ⟨eb,tb,rfl⟩:∃ e t,b'=e::t:=by
     cases b' with
     | nil=>cases h28
     | cons e t=>exact ⟨e,t,rfl⟩
    obtain ⟨ba,oa,ca,hva,hra,hca,hca2⟩:=EW ra (i:=0) (e:=ea) rfl
    obtain ⟨bb,ob,cb,hvb,hrb,hcb,hcb2⟩:=EW rb (i:=0) (e:=eb) rfl
    refine Ba [2,6] _ [] (by simp only [List.append_nil]; exact Ent.refl _) AK ?_
    refine AD 0 rfl (AG rfl) ?_
    refine AD 1 rfl (AB (oa+0*2) (congrArg some hva) rfl Ax (by simp) rfl) ?_
    refine Bc 2 rfl (CZ (vs:=Po ea) rfl rfl hra) rfl (AD 3 rfl (AG rfl) ?_)
    refine AD 4 rfl (AB (ob+0*2) (congrArg some hvb) rfl Ax (by simp) rfl) ?_
    refine AD 5 rfl (Bt rfl) (Bc 6 rfl (C3 rfl hcb) rfl ?_)
    refine BT 7 rfl AK AK (AA (QZ ea eb.1) rfl rfl AC) ?_
    rintro v36 L1 ⟨rfl,rfl⟩
    refine Cc (AD 8 rfl (Bl rfl) (C0 [0,1,5,6,7] rfl (Bs AK ?_)))
    exact Af ⟨_,⟨rfl,rfl,rfl,rfl,rfl,trivial⟩,Split.ent' AC,fun _=>List.cons_ne_nil _ _,fun _=>List.cons_ne_nil _ _⟩
   ·refine A0 (Ad rfl (Ac (B2 rb rfl) (Ac (Bp rfl rfl) (AE [0,1,5,6,39] rfl ?_))))
    refine Ak rfl (fun h39=>?_) (fun h39=>by simp at h28 h39; exact absurd h28 h39)
    refine Al (AX rfl (Be [0,1,5,6,7] rfl (AH ?_)))
    exact Af ⟨-1,⟨rfl,rfl,rfl,rfl,rfl,trivial⟩,Split.ent' AC,(fun _ e=>by rw [e] at h24; cases h24),fun h=>by omega⟩
  ·refine AI rfl rfl rfl (AI rfl rfl rfl (AI rfl rfl rfl (Ac (AT rfl rfl) (AE [0,1,5,6,28] rfl ?_))))
   refine Ak rfl (fun h28=>by cases h28) (fun h28=>?_)
   refine A0 (Ad rfl (Ac (B2 rb rfl) (Ac (Bp rfl rfl) (AE [0,1,5,6,39] rfl ?_))))
   refine Ak rfl (fun h39=>by simp at h24 h39; rcases hne with h | h <;> first | exact absurd h24 h | exact absurd h39 h) (fun h39=>?_)
   refine Al (AX rfl (Be [0,1,5,6,7] rfl (AH ?_)))
   refine Af ⟨1,⟨rfl,rfl,rfl,rfl,rfl,trivial⟩,Split.ent' AC,fun h=>by omega,fun _ e=>?_⟩
   simp at h24
   rcases hne with h | h
   ·exact h h24
   ·exact h e
 rintro env L ⟨o,hsub,hE,hoa,hob⟩
 refine B3 _ hsub (AP hE ?_)
 clear hsub hE env L hne
 refine Cb (fun env L=>∃ (va':Value) (t:List En) (p:ByteArray) (x:Int),Sub env [(0,va'),(1,vb),(5,.slice A cs.length c),(6,pv b6),(7,.int .i64 o)]∧Ent L [B1 b6 291 [.string p,.int .u32 x,.int .u32 0],own 291 3 (.slice A cs.length c) cs.length (cs.flatMap X7),ro μ]∧Row μ va' 2 t.length (DC t)∧Ti t∧p.size≤1048576∧((o≤0∧t.length+1=a'.length)∨(0<o∧t.length=a'.length))) ?_ ?_
 ·refine A0 (Ad rfl (Ac (Ff rfl rfl) (AE [0,1,5,6,7,41] rfl ?_)))
  refine Ak rfl (fun h41=>?_) (fun h41=>?_)
  ·have h41':o≤0:=of_decide_eq_true h41
   obtain ⟨ea,ta,rfl⟩:∃ e t,a'=e::t:=by
    cases a' with
    | nil=>exact absurd rfl (hoa h41')
    | cons e t=>exact ⟨e,t,rfl⟩
   obtain ⟨ba,oa,ca,hva,hra,hca,hca2⟩:=EW ra (i:=0) (e:=ea) rfl
   obtain ⟨va',hr',hpu⟩:=YS ra
   refine Ae ?_
   refine Ba [3,7] ([ro μ]) ([B1 b6 291 [.string ⟨#[]⟩,.int .u32 0,.int .u32 0],own 291 3 (.slice A cs.length c) cs.length (cs.flatMap X7)]) (Split.ent AC) AK ?_
   refine AD 0 rfl (AG rfl) ?_
   refine AD 1 rfl (AB (oa+0*2) (congrArg some hva) rfl Ax (by simp) rfl) ?_
   refine AD 2 rfl (Bt rfl) (Bc 3 rfl (C3 rfl hca) rfl (AD 4 rfl (AG rfl) ?_))
   refine AD 5 rfl (AB (oa+0*2) (congrArg some hva) rfl Ax (by simp) rfl) ?_
   refine AD 6 rfl (Bt rfl) (Bc 7 rfl (C3 rfl hca2) rfl (AD 8 rfl (Ab rfl) (Mq 9 rfl AK (AW rfl rfl rfl) ?_)))
   refine ⟨_,Split.ent AC,?_⟩
   refine AD 10 rfl (Ab rfl) (Cs 11 rfl AK AK (AW rfl rfl rfl) (C0 [0,1,5,6,7] rfl (Bs AK (Af (Al (Ad rfl (Ac (hpu _ _ _ _ _ rfl rfl rfl) (AX rfl (Be [0,1,5,6,7] rfl (AH ?_))))))))))
   exact Af ⟨va',ta,ea.1,ea.2,⟨rfl,rfl,rfl,rfl,rfl,trivial⟩,Split.ent' AC,hr',fun x hx=>sa x (List.mem_cons_of_mem _ hx),sa ea (List.mem_cons_self ..),.inl ⟨h41',rfl⟩⟩
  ·refine Am ?_
   exact Af ⟨va,a',⟨#[]⟩,0,⟨rfl,rfl,rfl,rfl,rfl,trivial⟩,Split.ent' AC,ra,sa,by decide,.inr ⟨by have:=of_decide_eq_false h41; omega,rfl⟩⟩
 rintro env L ⟨va',t,p,x,hsub,hE,ra',sa',hp,hor⟩
 refine B3 _ hsub (AP hE ?_)
 clear hsub hE env L
 refine Cb (fun env L=>∃ (vb':Value) (t2:List En) (p:ByteArray) (y:Int),Sub env [(0,va'),(1,vb'),(5,.slice A cs.length c),(6,pv b6)]∧Ent L [B1 b6 291 [.string p,.int .u32 x,.int .u32 y],own 291 3 (.slice A cs.length c) cs.length (cs.flatMap X7),ro μ]∧Row μ vb' 2 t2.length (DC t2)∧Ti t2∧p.size≤1048576∧t.length+t2.length<a'.length+b'.length) ?_ ?_
 ·refine A0 (Ad rfl (Ac (CA rfl rfl) (AE [0,1,5,6,55] rfl ?_)))
  refine Ak rfl (fun h55=>?_) (fun h55=>?_)
  ·have h55':0≤o:=of_decide_eq_true h55
   obtain ⟨eb,tb,rfl⟩:∃ e t,b'=e::t:=by
    cases b' with
    | nil=>exact absurd rfl (hob h55')
    | cons e t=>exact ⟨e,t,rfl⟩
   obtain ⟨bb,ob,cb,hvb,hrb,hcb,hcb2⟩:=EW rb (i:=0) (e:=eb) rfl
   obtain ⟨vb',hr',hpu⟩:=YS rb
   refine Ae ?_
   refine Ba [3,7] ([ro μ]) ([B1 b6 291 [.string p,.int .u32 x,.int .u32 0],own 291 3 (.slice A cs.length c) cs.length (cs.flatMap X7)]) (Split.ent AC) AK ?_
   refine AD 0 rfl (AG rfl) ?_
   refine AD 1 rfl (AB (ob+0*2) (congrArg some hvb) rfl Ax (by simp) rfl) ?_
   refine AD 2 rfl (Bt rfl) (Bc 3 rfl (C3 rfl hcb) rfl (AD 4 rfl (AG rfl) ?_))
   refine AD 5 rfl (AB (ob+0*2) (congrArg some hvb) rfl Ax (by simp) rfl) ?_
   refine AD 6 rfl (Bt rfl) (Bc 7 rfl (C3 rfl hcb2) rfl (AD 8 rfl (Ab rfl) (Mq 9 rfl AK (AW rfl rfl rfl) ?_)))
   refine ⟨_,Split.ent AC,?_⟩
   refine AD 10 rfl (Ab rfl) (Cs 11 rfl AK AK (AW rfl rfl rfl) (C0 [0,1,5,6] rfl (Bs AK (Af (Al (Ad rfl (Ac (hpu _ _ _ _ _ rfl rfl rfl) (AX rfl (Be [0,1,5,6] rfl (AH ?_))))))))))
   exact Af ⟨vb',tb,eb.1,eb.2,⟨rfl,rfl,rfl,rfl,trivial⟩,Split.ent' AC,hr',fun x hx=>sb x (List.mem_cons_of_mem _ hx),sb eb (List.mem_cons_self ..),by simp only [List.length_cons]; omega⟩
  ·refine Am ?_
   exact Af ⟨vb,b',p,0,⟨rfl,rfl,rfl,rfl,trivial⟩,Split.ent' AC,rb,sb,hp,by have:=of_decide_eq_false h55; omega⟩
 clear hp
 rintro env L ⟨vb',t2,p,y,hsub,hE,rb',sb',hp,hlt⟩
 refine B3 _ hsub (AP hE ?_)
 clear hsub hE env L
 refine A0 (Ac (Ab rfl) (AJ (Ag rfl rfl) (Ac (Ab rfl) (AJ (Ag rfl rfl) (Ac (Bm rfl rfl) (AE [0,1,5,6,72] rfl ?_))))))
 refine Ak rfl (fun h72=>?_) (fun h72=>?_)
 ·refine Al (Ad rfl (AJ (BP rfl rfl) (Aw (Bg (qs:=[(0,_)]) rfl rfl rfl) (fun b75=>?_))))
  refine Aw (B9 (l:=cs.length) (m:=1) rfl rfl AC (by simp only [maxLen]; omega) Ax) ?_
  rintro v76 -
  refine Cv (fun m h=>Bz h) fun ⟨A76,c76,hv76⟩=>?_
  subst hv76
  refine AX rfl (Be [0,1,5] rfl (AH (AR ?_)))
  have el:(cs++[(p,x,y)]).length=cs.length+1:=by rw [List.length_append]; rfl
  refine Af ⟨⟨va',t,vb',t2,A76,c76,cs++[(p,x,y)]⟩,⟨?_,?_,⟨ra',rb',sa',sb',fun z hz=>?_,by dsimp only; rw [el]; omega⟩⟩,hlt⟩
  ·dsimp only; rw [el]; exact ⟨rfl,rfl,rfl,trivial⟩
  ·dsimp only
   rw [el,List.flatMap_append]
   show Ent _ [own 291 3 (.slice A76 (cs.length+1) c76) (cs.length+1) (cs.flatMap X7++[.string p,.int .u32 x,.int .u32 y]),ro μ]
   exact Split.ent' AC
  ·rcases List.mem_append.1 hz with hz | hz
   ·exact sc z hz
   ·obtain rfl:=List.mem_singleton.1 hz
    exact hp
 ·refine Am (AR ?_)
  exact Af ⟨⟨va',t,vb',t2,A,c,cs⟩,⟨⟨rfl,rfl,rfl,trivial⟩,Split.ent' AC,⟨ra',rb',sa',sb',sc,by dsimp only; omega⟩⟩,hlt⟩
set_option maxHeartbeats 4000000 in
theorem Ny (μ:PH)(u v:Value)(a b:List En)(ha:Row μ u 2 a.length (DC a))(hb:Row μ v 2 b.length (DC b))(sa:Ti a)(sb:Ti b)(la:a.length≤65536)(lb:b.length≤65536):Spec prog 107 [.agg setC.toArray,u,v] [ro μ] (fun r L=>∃ μ' st bt,Le μ μ'∧Wt st bt∧r=.tuple #[.agg #[.int .i64 st,.string (str bt)],.int .i64 0]∧L=[ro μ']):=by
 refine Spec.of 30 func107 rfl rfl rfl ?_
 refine A0 (Aw (Bi rfl rfl) (fun b3=>?_))
 refine Aw (AZ) fun b6=>?_
 refine As [1,2,3,6] rfl rfl (A0 (As [1,2,3,6,8] rfl rfl (Ae (A0 (Ad rfl (Ad rfl ?_))))))
 refine Aw (AA (Tj μ u v a b ha hb sa sb la lb) rfl rfl AC) ?_
 rintro v13 L1 ⟨A,c,cs,rfl,hcl,hcs,rfl⟩
 refine Aj ?_
 refine C5 (μ:=μ) AC fun μ1 l1 r13=>?_
 refine Ac (B2 r13 rfl) (Ad rfl (AE [3,6,8,13,14,15] rfl (Au (AP (own_nil_ent (e:=9) (n:=1)) ?_))))
 refine B0 (ι:=Nat×Option Addr×Nat) (fun x env L=>Sub env [(3,pv b3),(6,pv b6),(8,.slice x.2.1 x.1 x.2.2),(13,.slice A cs.length c),(14,.int .i64 (cs.length:Nat)),(15,.int .i64 (x.1:Nat))]∧Ent L [own 9 1 (.slice x.2.1 x.1 x.2.2) x.1 (((cs.take x.1).map (·.1)).flatMap I9),B1 b3 43 [.int .i64 3,.int .i64 10,.int .i64 2,.int .u32 7],B1 b6 206 [.int .i64 0,.string ⟨#[]⟩],ro μ1]∧x.1≤cs.length) (fun x=>cs.length-x.1) (0,none,0) ⟨⟨rfl,rfl,rfl,rfl,rfl,rfl,trivial⟩,by show Ent _ [own 9 1 (.slice none 0 0) 0 [],B1 b3 43 [.int .i64 3,.int .i64 10,.int .i64 2,.int .u32 7],B1 b6 206 [.int .i64 0,.string ⟨#[]⟩],ro μ1]; exact Split.ent' AC,Nat.zero_le _⟩ ?_
 rintro ⟨i,B,d⟩ env L ⟨hsub,hE,hi⟩
 dsimp only at hsub hE hi
 refine B3 _ hsub (AP hE ?_)
 clear hsub hE env L
 refine A0 (Ac (Bb rfl rfl) (AE [3,6,8,13,14,15,16] rfl (Ae ?_)))
 refine Ak rfl (fun h16=>?_) (fun h16=>?_)
 ·have h16':i<cs.length:=by have:=of_decide_eq_true h16; omega
  obtain ⟨x,hx⟩:∃ x,cs[i]? = some x:=⟨_,List.getElem?_eq_getElem h16'⟩
  obtain ⟨g,off,c2,hv,_,_,hr⟩:=r13.pos Ax
  have hre:=hr.elem (f:=X7) (n:=3) (fun _=>rfl) hx
  refine Am (Af (Ae (Au (A0 ?_))))
  refine Ac (AB (off+i*3) (congrArg some hv) rfl Ax Ax (by rw [Int.toNat_natCast])) ?_
  refine AJ (CZ (vs:=X7 x) rfl rfl hre) (Aw (AZ) (fun b10=>?_))
  refine B5 (AU rfl rfl rfl rfl) (AE [3,6,8,10,13,14,15] rfl (Al (Ad rfl (Ac (Ab rfl) (AJ (Ag rfl rfl) (Aw (Bg (qs:=[(0,_)]) rfl rfl rfl) (fun b22=>?_)))))))
  refine Aw (B9 (l:=i) (m:=1) rfl rfl AC (by simp only [maxLen]; omega) Ax) ?_
  rintro v23 -
  refine Cv (fun m h=>Bz h) fun ⟨A23,c23,hv23⟩=>?_
  subst hv23
  refine AX rfl (Be [3,6,8,13,14,15] rfl (AH (AR (Af (Al (Ac (AO ((i+1:Nat):Int) rfl rfl Ax Ax Ax) (Ad rfl (Be [3,6,8,13,14,15] rfl (AH ?_)))))))))
  refine Af ⟨(i+1,A23,c23),⟨⟨rfl,rfl,rfl,rfl,rfl,rfl,trivial⟩,?_,h16'⟩,by show cs.length-(i+1)<cs.length-i; omega⟩
  dsimp only
  rw [BE hx,List.map_append,List.flatMap_append,show ([x].map (·.1)).flatMap I9=[.string x.1] from rfl]
  exact Split.ent' AC
 ·have h16':=of_decide_eq_false h16
  obtain rfl:i=cs.length:=by omega
  rw [List.take_length]
  refine BC (μ:=μ1) AC fun μ2 l2 r8=>?_
  have el:(cs.map (·.1)).length=cs.length:=List.length_map ..
  refine AY (AS (AS (AV rfl (Af (A0 (AJ (BP rfl rfl) (Ad rfl ?_)))))))
  refine Aw (AA (Th μ2 _ (cs.map (·.1)) (by rw [el]; exact r8) (fun p hp=>by obtain ⟨x,hx,rfl⟩:=List.mem_map.1 hp; exact hcs x hx)) rfl rfl AC) ?_
  rintro v27 L1 ⟨μ3,st,bt,l3,hf,rfl,rfl⟩
  refine Aj (Ac (Ai rfl) (Ac (Ai rfl) (B5 (AU rfl rfl rfl rfl) (As [6,7] rfl rfl (Ar ?_)))))
  exact Aq [ro μ3] (.cell rfl (Bn rfl) (.tmp rfl .nil)) ⟨μ3,st,bt,(l1.trans l2).trans l3,hf,rfl,rfl⟩ AC
abbrev xB (p q:Nat)(lv gv:Value):AF:=B1 p 135 [pv q,lv,gv]
theorem Ga (p q:Nat)(lv gv:Value)(L0:List AF)(l:List Lk)(h:Lks (xB p q lv gv::L0) lv l)(ht:BB l≤1073741824):Spec prog 34 [pv p] (xB p q lv gv::L0) (fun r L=>r=.int .i64 (BB l:Nat)∧L=xB p q lv gv::L0):=by
 refine Spec.of 10 func34 rfl rfl rfl ?_
 refine A0 (As [0] rfl rfl (Ae (A0 (Ad rfl (Ac (Bd rfl rfl) (AE [0,4] rfl (Dz rfl (Am (Af (A0 (Ad rfl (Ac (Ah rfl) (Ac (Ab rfl) (AJ (Ag rfl rfl) (Aw (AA (R:=[]) (R7 _ lv l h ht) rfl rfl Split.all) ?_)))))))))))))))
 rintro v9 L1 ⟨rfl,rfl⟩
 rw [List.append_nil]
 refine As [2] rfl rfl (Ar ?_)
 exact Aq _ (.tmp rfl .nil) ⟨rfl,rfl⟩ Split.all
abbrev RK (b4 b5 b6 b7 p q:Nat)(lv gv:Value)(tmp text name:ByteArray)(d:Dk):List AF:=[B1 b4 40 [pv p],B1 b5 9 [.string tmp],B1 b6 9 [.string text],B1 b7 9 [.string name],xB p q lv gv,FSA q d]
theorem YT (b4 b5 b6 b7 p q:Nat)(lv gv:Value)(tmp text name:ByteArray)(d:Dk)(hd:d.Ok)(hw:Zz d):Spec prog 168 [pv b4,pv b5] (RK b4 b5 b6 b7 p q lv gv tmp text name d) (fun r L=>r=.int .i64 (BH d tmp).2∧L=RK b4 b5 b6 b7 p q lv gv tmp text name (BH d tmp).1):=by
 refine Spec.of 9 func168 rfl rfl rfl ?_
 refine A0 (As [0,1] rfl rfl (Ae ?_))
 refine Ba [0,3,4] _ [] (by simp only [List.append_nil]; exact Ent.refl _) AK ?_
 refine Bc 0 rfl (Ag rfl rfl) rfl (AD 1 rfl (Ah rfl) (AD 2 rfl (Ab rfl) (Bc 3 rfl (Ag rfl rfl) rfl (Bc 4 rfl (Ag rfl rfl) rfl ?_))))
 refine BT 5 rfl AK AK (AA (Lu q d hd hw tmp) rfl rfl AC) ?_
 rintro v8 L1 ⟨rfl,rfl⟩
 refine Cc (AD 6 rfl (Bl rfl) (C0 [2] rfl (Bs AK (Af (Ar ?_)))))
 exact Aq (RK b4 b5 b6 b7 p q lv gv tmp text name (BH d tmp).1) (.tmp rfl .nil) ⟨rfl,rfl⟩ AC
theorem YU (b4 b5 b6 b7 p q:Nat)(lv gv:Value)(tmp text name:ByteArray)(d:Dk)(hd:d.Ok)(ht:text.size≤1048576):Spec prog 169 [pv b4,pv b5,pv b6] (RK b4 b5 b6 b7 p q lv gv tmp text name d) (fun r L=>r=.int .i64 (BW d tmp text.data.toList).2∧L=RK b4 b5 b6 b7 p q lv gv tmp text name (BW d tmp text.data.toList).1):=by
 refine Spec.of 11 func169 rfl rfl rfl ?_
 refine A0 (As [0,1,2] rfl rfl (Ae ?_))
 refine Ba [0,3,4,5] _ [] (by simp only [List.append_nil]; exact Ent.refl _) AK ?_
 refine Bc 0 rfl (Ag rfl rfl) rfl (AD 1 rfl (Ah rfl) (AD 2 rfl (Ab rfl) (Bc 3 rfl (Ag rfl rfl) rfl (Bc 4 rfl (Ag rfl rfl) rfl (Bc 5 rfl (Ag rfl rfl) rfl ?_)))))
 refine BT 6 rfl AK AK (AA (Lv q d hd tmp text ht) rfl rfl AC) ?_
 rintro v8 L1 ⟨rfl,rfl⟩
 refine Cc (AD 7 rfl (Bl rfl) (C0 [3] rfl (Bs AK (Af (Ar ?_)))))
 exact Aq (RK b4 b5 b6 b7 p q lv gv tmp text name (BW d tmp text.data.toList).1) (.tmp rfl .nil) ⟨rfl,rfl⟩ AC
theorem YV (b4 b5 b6 b7 p q:Nat)(lv gv:Value)(tmp text name:ByteArray)(d:Dk)(hd:d.Ok):Spec prog 170 [pv b4,pv b5] (RK b4 b5 b6 b7 p q lv gv tmp text name d) (fun r L=>r=.int .i64 (CV d tmp).2∧L=RK b4 b5 b6 b7 p q lv gv tmp text name (CV d tmp).1):=by
 refine Spec.of 9 func170 rfl rfl rfl ?_
 refine A0 (As [0,1] rfl rfl (Ae ?_))
 refine Ba [0,3,4] _ [] (by simp only [List.append_nil]; exact Ent.refl _) AK ?_
 refine Bc 0 rfl (Ag rfl rfl) rfl (AD 1 rfl (Ah rfl) (AD 2 rfl (Ab rfl) (Bc 3 rfl (Ag rfl rfl) rfl (Bc 4 rfl (Ag rfl rfl) rfl ?_))))
 refine BT 5 rfl AK AK (AA (KP q d hd tmp) rfl rfl AC) ?_
 rintro v8 L1 ⟨rfl,rfl⟩
 refine Cc (AD 6 rfl (Bl rfl) (C0 [2] rfl (Bs AK (Af (Ar ?_)))))
 exact Aq (RK b4 b5 b6 b7 p q lv gv tmp text name (CV d tmp).1) (.tmp rfl .nil) ⟨rfl,rfl⟩ AC
theorem YW (b4 b5 b6 b7 p q:Nat)(lv gv:Value)(tmp text name:ByteArray)(d:Dk)(hd:d.Ok)(hw:Zz d):Spec prog 171 [pv b4,pv b5,pv b7] (RK b4 b5 b6 b7 p q lv gv tmp text name d) (fun r L=>r=.int .i64 (CX d tmp name).2∧L=RK b4 b5 b6 b7 p q lv gv tmp text name (CX d tmp name).1):=by
 refine Spec.of 11 func171 rfl rfl rfl ?_
 refine A0 (As [0,1,2] rfl rfl (Ae ?_))
 refine Ba [0,3,4,5] _ [] (by simp only [List.append_nil]; exact Ent.refl _) AK ?_
 refine Bc 0 rfl (Ag rfl rfl) rfl (AD 1 rfl (Ah rfl) (AD 2 rfl (Ab rfl) (Bc 3 rfl (Ag rfl rfl) rfl (Bc 4 rfl (Ag rfl rfl) rfl (Bc 5 rfl (Ag rfl rfl) rfl ?_)))))
 refine BT 6 rfl AK AK (AA (Rg q d hd hw tmp name) rfl rfl AC) ?_
 rintro v8 L1 ⟨rfl,rfl⟩
 refine Cc (AD 7 rfl (Bl rfl) (C0 [3] rfl (Bs AK (Af (Ar ?_)))))
 exact Aq (RK b4 b5 b6 b7 p q lv gv tmp text name (CX d tmp name).1) (.tmp rfl .nil) ⟨rfl,rfl⟩ AC
theorem DV.few{NS:List ByteArray}{m:Nat}{d:Dk}(h:DV NS m d)(hm:m≤100000):Zz d:=by
 have:=h.inn.1
 have:=h.inn.2
 exact ⟨by omega,by omega⟩
set_option maxHeartbeats 2000000 in
theorem Ro (NS:List ByteArray)(hN:NS.length≤20)(m:Nat)(hm:m≤50000)(p q:Nat)(lv gv:Value)(d:Dk)(h:DV NS m d)(tmp name:ByteArray)(text:List UInt8)(h1:tmp∈NS)(h2:name∈NS)(g1:DX tmp=true)(g2:DX name=true)(hne:tmp≠name)(hl:text.length≤F7) :
  Spec prog 97 [pv p,.string tmp,.string (str text),.string name] [xB p q lv gv,FSA q d] (fun r L=>r=.int .i64 0∧L=[xB p q lv gv,FSA q (Qk d tmp text name 4)]):=by
 obtain ⟨e1,e2,e3,e4,hD,-⟩:=h.write hN h1 h2 g1 g2 hne hl
 have hfew:∀ i,Zz (Qk d tmp text name i):=fun i=>(hD i).few Ax
 refine Spec.of 28 func97 rfl rfl rfl ?_
 refine A0 (Aw (Bi rfl rfl) (fun b4=>?_))
 refine Aw (Bi rfl rfl) fun b5=>?_
 refine Aw (Bi rfl rfl) fun b6=>?_
 refine Aw (Bi rfl rfl) fun b7=>?_
 refine As [4,5,6,7] rfl rfl (Ae (A0 (Ac (C9 (vs:=[]) (us:=[_,_]) rfl rfl) (Ac (C9 (vs:=[]) (us:=[_,_,_]) rfl rfl) (Ac (C9 (vs:=[]) (us:=[_,_]) rfl rfl) (Ac (C9 (vs:=[]) (us:=[_,_,_]) rfl rfl) (Aw (Bg (qs:=[(0,_),(1,_),(2,_),(3,_)]) rfl rfl rfl) (fun b16=>?_))))))))
 refine Ac (BI rfl) (Ad rfl (AE [16,17,18] rfl (Au ?_)))
 have hst:∀ i,i<4→∃ (fn:FuncId) (_:Body prog fn) (ca:List Value),([.func (.func 168) #[] #[pv b4,pv b5],.func (.func 169) #[] #[pv b4,pv b5,pv b6],.func (.func 170) #[] #[pv b4,pv b5],.func (.func 171) #[] #[pv b4,pv b5,pv b7]]:List Value)[0+i*1]? = some (.func (.func fn) #[] ca.toArray)∧Spec prog fn ca (RK b4 b5 b6 b7 p q lv gv tmp (str text) name (Qk d tmp text name i)) (fun r L=>r=.int .i64 0∧L=RK b4 b5 b6 b7 p q lv gv tmp (str text) name (Qk d tmp text name (i+1))):=by
  intro i hi
  match i,hi with
  | 0,_=>exact ⟨168,inferInstance,[pv b4,pv b5],rfl,(YT b4 b5 b6 b7 p q lv gv tmp (str text) name _ (hD 0).ok (hfew 0)).mono fun r L k=>by rw [show BH (Qk d tmp text name 0) tmp=BH d tmp from rfl,e1] at k; exact k⟩
  | 1,_=>exact ⟨169,inferInstance,[pv b4,pv b5,pv b6],rfl,(YU b4 b5 b6 b7 p q lv gv tmp (str text) name _ (hD 1).ok (by rw [CO]; simp only [F7] at hl; omega)).mono fun r L k=>by rw [show BW (Qk d tmp text name 1) tmp (str text).data.toList=BW (Qk d tmp text name 1) tmp text from rfl,e2] at k; exact k⟩
  | 2,_=>exact ⟨170,inferInstance,[pv b4,pv b5],rfl,(YV b4 b5 b6 b7 p q lv gv tmp (str text) name _ (hD 2).ok).mono fun r L k=>by rw [e3] at k; exact k⟩
  | 3,_=>exact ⟨171,inferInstance,[pv b4,pv b5,pv b7],rfl,(YW b4 b5 b6 b7 p q lv gv tmp (str text) name _ (hD 3).ok (hfew 3)).mono fun r L k=>by rw [e4] at k; exact k⟩
 refine B0 (ι:=Nat) (fun i env L=>Sub env [(16,.slice (some ⟨b16,0,none⟩) 4 4),(17,.int .i64 4),(18,.int .i64 (i:Nat))]∧Ent L (B1 b16 34 [.func (.func 168) #[] #[pv b4,pv b5],.func (.func 169) #[] #[pv b4,pv b5,pv b6],.func (.func 170) #[] #[pv b4,pv b5],.func (.func 171) #[] #[pv b4,pv b5,pv b7]]::RK b4 b5 b6 b7 p q lv gv tmp (str text) name (Qk d tmp text name i))∧i≤4) (fun i=>4-i) 0 ⟨⟨rfl,rfl,rfl,trivial⟩,by show Ent _ (B1 b16 34 [.func (.func 168) #[] #[pv b4,pv b5],.func (.func 169) #[] #[pv b4,pv b5,pv b6],.func (.func 170) #[] #[pv b4,pv b5],.func (.func 171) #[] #[pv b4,pv b5,pv b7]]::RK b4 b5 b6 b7 p q lv gv tmp (str text) name d); exact Split.ent' AC,Nat.zero_le _⟩ ?_
 rintro i env L ⟨hsub,hE,hi⟩
 refine B3 _ hsub (AP hE ?_)
 clear hsub hE env L
 refine A0 (Ac (Bb rfl rfl) (AE [16,17,18,19] rfl (Ae ?_)))
 refine Ak rfl (fun h19=>?_) (fun h19=>?_)
 ·have h19':i<4:=by have:=of_decide_eq_true h19; omega
  obtain ⟨fn,ib,ca,hc,hs⟩:=hst i h19'
  refine Am (Af (Ae (Au (A0 ?_))))
  refine Ac (AB (0+i*1) rfl rfl Ax Ax (by rw [Int.toNat_natCast])) ?_
  refine AJ (Ag rfl hc) (As [10,16,17,18] rfl rfl (A0 (Ad rfl ?_)))
  refine Aw (Gd (fi:=[]) (args:=[]) (ca:=ca) (by rw [List.nil_append,List.nil_append]; exact hs) rfl rfl AC) ?_
  rintro v23 L1 ⟨rfl,rfl⟩
  refine Aj (As [11,16,17,18] rfl rfl (A0 (Ad rfl (Ac (Bm rfl rfl) (AE [11,16,17,18,25] rfl (Dz rfl (Am (AR (Af (Al (Ac (AO ((i+1:Nat):Int) rfl rfl Ax Ax Ax) (Ad rfl (Be [16,17,18] rfl (AH ?_))))))))))))))
  exact Af ⟨i+1,⟨⟨rfl,rfl,rfl,trivial⟩,Split.ent' AC,h19'⟩,by omega⟩
 ·have h19':=of_decide_eq_false h19
  obtain rfl:i=4:=by omega
  refine AY (AS (AS (AV rfl (Af (A0 (As [8] rfl rfl (Ar ?_)))))))
  exact Aq [xB p q lv gv,FSA q (Qk d tmp text name 4)] (.tmp rfl .nil) ⟨rfl,rfl⟩ AC
theorem Wv (v:Value)(xs:List ByteArray)(hl:xs.length≤1099511627776):Spec prog 179 [v] [own 9 1 v xs.length (xs.flatMap I9)] (fun r L=>r=.tuple #[]∧L=[own 9 1 v xs.length ((Jf xs).flatMap I9)]) :=
 UV (fun B1 off cap ss w=>slices_Sort_string B1 off cap ss w) (fun p cap w=>slices_Sort_string_none p cap w) v xs hl
theorem Jb (xs:List ByteArray):(Jf xs).Perm xs:=by
 unfold Jf
 have:=(List.mergeSort_perm (xs.map XT) fun x y=>decide (x≤y)).map TV
 rw [List.map_map] at this
 have e:(xs.map (TV∘XT))=xs:=by
  conv=>rhs; rw [← List.map_id xs]
  exact List.map_congr_left fun x _=>TW x
 rwa [e] at this
theorem Ww {xs ys:List ByteArray}(h:xs.Perm ys):Jf xs=Jf ys :=
 List.Perm.eq_of_pairwise (le:=fun a b=>CK b a=false) (fun a b _ _ h1 h2=>by
  rcases GG a b with k | k | k
  ·rw [k] at h2; cases h2
  ·exact k
  ·rw [k] at h1; cases h1) (TY xs) (TY ys) ((Jb xs).trans (h.trans (Jb ys).symm))
def Ct (d:Dk):List ByteArray:=if d.off=true then [] else Jf (d.seen.map (·.1))
set_option maxHeartbeats 4000000 in
theorem Tk (p:Nat)(d:Dk)(hd:d.Ok):Spec prog 102 [pv p] [FSA p d] (fun r L=>L=[own 9 1 r (Ct d).length ((Ct d).flatMap I9),FSA p d]):=by
 refine FSA.open' fun x hx=>?_
 have hel:=hx.seen.len hd.seenOk.nodup
 have hsl:=hd.seenLe
 refine Spec.of 30 func102 rfl rfl rfl ?_
 refine A0 (As [0] rfl rfl (A0 (As [0,3] rfl rfl (Ae (A0 (Ad rfl (Ac (Bd rfl rfl) (Ad rfl ?_))))))))
 refine B7 7 rfl (fun h7=>by cases h7) (fun h7=>?_)
 refine AQ rfl rfl (Ad rfl (AQ rfl rfl (Ac (Ah rfl) (AQ rfl rfl (Ac (Ab rfl) (AQ rfl rfl (AJ (Ag rfl rfl) (Ac (AT rfl rfl) (AE [0,3,12] rfl ?_)))))))))
 refine Ak rfl (fun h12=>?_) (fun h12=>?_)
 ·refine A0 (Ad rfl (As [2] rfl rfl (Ar (AN ?_))))
  have key:Ct d=[]:=by unfold Ct; rw [if_pos h12]
  rw [key]
  refine B8 [own 9 1 (.slice none 0 0) 0 [],FSA p d] (.tmp rfl .nil) rfl ?_
  exact (((Split.ent' (K:=[Eg p d x,BF x.sb BM x.es x.cs,BF x.fb BM x.ef x.cf,own 279 3 x.pv x.ps.length (x.ps.flatMap Cf),BS x.rs]) AC).trans (BR hx))).trans own_nil_ent
 ·refine Am (Af (Ae (A0 (Ad rfl (Ac (Ah rfl) (Ac (Ab rfl) (AJ (Ag rfl rfl) (Aw (Mw (κ:=ByteArray) rfl) ?_))))))))
  rintro it
  skip
  refine AE [3,18] rfl (Au (AP (own_nil_ent (e:=9) (n:=1)) ?_))
  refine AP (Split.ent' (K:=[own 9 1 (.slice none 0 0) 0 [],Sa it x.sb x.cs [] x.cs,Eg p d x,BF x.sb BM x.es x.cs,BF x.fb BM x.ef x.cf,own 279 3 x.pv x.ps.length (x.ps.flatMap Cf),BS x.rs]) AC) ?_
  refine B0 (ι:=BQ ByteArray×BQ ByteArray) (fun k env L=>∃ v,Sub env [(3,v),(18,pv it)]∧Ent L [own 9 1 v (k.1.map (·.1)).length ((k.1.map (·.1)).flatMap I9),Sa it x.sb x.cs (k.1.map (·.2.2)) x.cs,Eg p d x,BF x.sb BM x.es x.cs,BF x.fb BM x.ef x.cf,own 279 3 x.pv x.ps.length (x.ps.flatMap Cf),BS x.rs]∧Going x.es k.1 k.2) (fun k=>k.2.length) ([],x.es) ⟨.slice none 0 0,⟨rfl,rfl,trivial⟩,Ent.refl _,Going.start _⟩ ?_
  rintro ⟨dn,td⟩ env L ⟨v,hsub,hE,hgo⟩
  dsimp only at hsub hE hgo
  refine B3 _ hsub (AP hE ?_)
  clear hsub hE env L
  have hdl:dn.length≤64:=by have:=hgo.length_eq; rw [List.length_append] at this; omega
  refine A0 ?_
  refine Aw (Pw (κ:=ByteArray) rfl AC hx.bs.1 (Nat.le_refl _)) ?_
  refine ⟨fun hall=>?_,fun y hy hns=>?_⟩
  ·refine Ac (Ai rfl) (AE [3,18,20] rfl (Ae ?_))
   refine Ak rfl (fun h20=>by cases h20) (fun h20=>?_)
   have htd:=hgo.stop hx.bs hall
   rw [htd] at hgo
   have hsum:Jf (dn.map (·.1))=Ct d:=by
    unfold Ct
    rw [if_neg (by rw [h12]; decide)]
    refine Ww ?_
    refine List.Perm.trans ?_ (No hx.seen hd.seenOk.nodup)
    refine List.Perm.map _ ?_
    have:=hgo; unfold Going at this; rwa [List.append_nil] at this
   refine AY (AS (AS (AV rfl (Af (A0 (Ad rfl ?_))))))
   refine Aw (AA (Wv v (dn.map (·.1)) (by rw [List.length_map]; omega)) rfl rfl AC) ?_
   rintro v28 L1 ⟨rfl,rfl⟩
   refine Aj (AE [3] rfl (A0 (Ad rfl (As [2] rfl rfl (Ar ?_)))))
   rw [← hsum,MG]
   refine B8 [own 9 1 v (dn.map (·.1)).length ((Jf (dn.map (·.1))).flatMap I9),FSA p d] (.tmp rfl .nil) rfl ?_
   refine Ent.trans (Split.ent' (K:=[Eg p d x,BF x.sb BM x.es x.cs,BF x.fb BM x.ef x.cf,own 279 3 x.pv x.ps.length (x.ps.flatMap Cf),BS x.rs,own 9 1 v (dn.map (·.1)).length ((Jf (dn.map (·.1))).flatMap I9)]) AC) ?_
   exact (BR hx).trans Ent.swap
  ·refine Ac (Ai rfl) (AE [3,18,20] rfl (Ae ?_))
   refine Ak rfl (fun h20=>?_) (fun h20=>by cases h20)
   obtain ⟨td',hgo',hlt⟩:=hgo.step hy hns
   refine Am (Af (Au (A0 ?_)))
   refine AJ (Mx (κ:=ByteArray) rfl AC hy hx.bs) ?_
   refine Ac (Ai rfl) (As [3,4,18] rfl rfl (Al (Ad rfl (Ad rfl (Aw (Bg (qs:=[(0,_)]) rfl rfl rfl) (fun b25=>?_))))))
   refine Aw (B9 (l:=(dn.map (·.1)).length) (m:=1) rfl rfl AC (by simp only [maxLen]; rw [List.length_map]; omega) (by rw [List.length_map]; omega)) ?_
   rintro v' hv'
   skip
   refine AX rfl (Be [3,18] rfl (AH (AR ?_)))
   refine Af ⟨(dn++[y],td'),⟨v',⟨rfl,rfl,trivial⟩,?_,hgo'⟩,by dsimp only; omega⟩
   have e1:((dn++[y]).map (·.1)).length=(dn.map (·.1)).length+1:=by simp
   have e2:((dn++[y]).map (·.1)).flatMap I9=(dn.map (·.1)).flatMap I9++[.string y.1]:=by rw [List.map_append,List.flatMap_append]; rfl
   have e3:(dn++[y]).map (·.2.2)=dn.map (·.2.2)++[y.2.2]:=by rw [List.map_append]; rfl
   dsimp only
   rw [e1,e2,e3]
   exact Split.ent' AC
def NSw:List ByteArray:=logN::chainN::I5::I6::(List.range 14).map Cp
theorem G2:NSw.length≤20:=by decide
theorem YX {k:Nat}(h:k<14):Cp k∈NSw:=List.mem_cons_of_mem _ (List.mem_cons_of_mem _ (List.mem_cons_of_mem _ (List.mem_cons_of_mem _ (List.mem_map.2 ⟨k,List.mem_range.2 h,rfl⟩))))
theorem YY:chainN∈NSw:=.tail _ (.head _)
theorem Tl:I5∈NSw:=.tail _ (.tail _ (.head _))
theorem Tm:I6∈NSw:=.tail _ (.tail _ (.tail _ (.head _)))
theorem Rp:((List.range 20).all fun k=>!(Bx (Cp k) logN)&&(!(Bx (Cp k) chainN)&&(!(Bx (Cp k) I5)&&!(Bx (Cp k) I6))))=true:=by kernel_rfl
theorem Eo {k:Nat}(h:k<20):Cp k≠logN∧Cp k≠chainN∧Cp k≠I5∧Cp k≠I6:=by
 have:=List.all_eq_true.1 Rp k (List.mem_range.2 h)
 simp only [Bool.and_eq_true,Bool.not_eq_true'] at this
 exact ⟨Dm.1 this.1,Dm.1 this.2.1,Dm.1 this.2.2.1,Dm.1 this.2.2.2⟩
def Rq (s:ByteArray):Option Nat:=(List.range 20).find? fun k=>Bx (Cp k) s
theorem A0g{k:Nat}(h:k<20):Rq (Cp k)=some k:=by
 unfold Rq
 cases hf:(List.range 20).find? (fun j=>Bx (Cp j) (Cp k)) with
 | none=>exact absurd (List.find?_eq_none.1 hf k (List.mem_range.2 h)) (by rw [BZ]; decide)
 | some j =>
  have h1:=List.find?_some hf
  have h2:=List.mem_range.1 (List.mem_of_find?_eq_some hf)
  rw [KV h2 h (Cl.1 h1)]
def ID (l:List Lk)(s:ByteArray):Bool:=match Rq s with
 | some k=>!(l.any fun y=>decide (y.1=k))
 | none=>false
def EA (l:List Lk)(d:Dk)(s:ByteArray):Dk:=if ID l s=true then (DY d s).1 else d
theorem Un {d:Dk}{s:ByteArray}:El d s=none↔BD d.seen s=none:=by unfold El; cases BD d.seen s <;> simp
theorem HS {NS:List ByteArray}{m:Nat}{d:Dk}(h:DV NS m d)(s:ByteArray):s∈Ct d↔El d s≠none:=by
 unfold Ct
 rw [if_neg (by rw [h.on]; decide),(Jb _).mem_iff]
 constructor
 ·intro hs hn
  obtain ⟨x,hx,rfl⟩:=List.mem_map.1 hs
  exact JE.1 (Un.1 hn) x hx rfl
 ·intro hn
  cases hf:BD d.seen s with
  | none=>exact absurd (Un.2 hf) hn
  | some k=>exact List.mem_map.2 ⟨_,CS hf,rfl⟩
theorem Kj {NS:List ByteArray}{m:Nat}{d:Dk}(h:DV NS m d):(Ct d).Nodup:=by
 unfold Ct
 rw [if_neg (by rw [h.on]; decide)]
 exact (Jb _).nodup_iff.2 h.ok.seenOk.nodup
theorem Nz {NS:List ByteArray}{m:Nat}{d0:Dk}(h0:DV NS m d0)(l:List Lk):∀ (i:Nat),i≤(Ct d0).length→DV NS (m+i) (((Ct d0).take i).foldl (EA l) d0)∧(∀ u,u∈(Ct d0).take i→ID l u=true→El (((Ct d0).take i).foldl (EA l) d0) u=none)∧(∀ u,u∉(Ct d0).take i∨ID l u=false→El (((Ct d0).take i).foldl (EA l) d0) u=El d0 u):=by
 intro i
 induction i with
 | zero=>intro _; exact ⟨h0,fun u h=>by (rw [List.take_zero] at h; cases h),fun u _=>rfl⟩
 | succ i ih =>
  intro hi
  obtain ⟨h1,h2,h3⟩:=ih Ax
  obtain ⟨s,hs⟩:∃ s,(Ct d0)[i]? = some s:=⟨_,List.getElem?_eq_getElem Ax⟩
  rw [BE hs,List.foldl_append,List.foldl_cons,List.foldl_nil]
  generalize hd:((Ct d0).take i).foldl (EA l) d0=d at *
  have hnin:s∉(Ct d0).take i:=by
   intro hm
   obtain ⟨j,hj⟩:=List.getElem?_of_mem hm
   have hjl:=(List.getElem?_eq_some_iff.1 hj).1
   rw [List.length_take] at hjl
   rw [List.getElem?_take_of_lt Ax] at hj
   have:=(List.getElem?_inj Ax (Kj h0)).1 (hj.trans hs.symm)
   omega
  unfold EA
  by_cases hl:ID l s=true
  ·rw [if_pos hl]
   have hsome:El d s≠none:=by
    rw [h3 s (.inl hnin)]
    exact (HS h0 s).1 (List.mem_of_getElem? hs)
   obtain ⟨b,hb⟩:=Option.ne_none_iff_exists'.1 hsome
   obtain ⟨_,k2,k3⟩:=h1.remove hb
   refine ⟨k2,fun u hu hlu=>?_,fun u hu=>?_⟩
   ·rw [k3]
    by_cases he:u=s
    ·rw [if_pos he]
    ·rw [if_neg he]
     rcases List.mem_append.1 hu with hu | hu
     ·exact h2 u hu hlu
     ·exact absurd (List.mem_singleton.1 hu) he
   ·have he:u≠s:=by
     rintro rfl
     rcases hu with hu | hu
     ·exact hu (by simp)
     ·rw [hl] at hu; cases hu
    rw [k3,if_neg he]
    exact h3 u (hu.imp (fun k m=>k (List.mem_append_left _ m)) id)
  ·rw [if_neg hl]
   refine ⟨h1.mono Ax,fun u hu hlu=>?_,fun u hu=>?_⟩
   ·rcases List.mem_append.1 hu with hu | hu
    ·exact h2 u hu hlu
    ·rw [List.mem_singleton.1 hu] at hlu; exact absurd hlu hl
   ·exact h3 u (hu.imp (fun k m=>k (List.mem_append_left _ m)) id)
abbrev GP:Type:=Nat×List GR
structure XD (m c:Nat) (d:Dk) (l:List Lk) (G:List GP):Prop where
 dv:DV NSw m d
 nm:∀ s,El d s≠none→s=logN∨s=chainN∨∃ k,k<14∧s=Cp k
 ch:El d chainN=if l=[] then none else some (C8 l)
 len:G.length=l.length
 gf:∀ (i:Nat) (x:Lk) (g:GP),l[i]? = some x→G[i]? = some g→El d (Cp x.1)=some (EM g.1 g.2)∧x.2.2=E2 (EM g.1 g.2)∧x.2.1=g.2.length∧g.1=BB (l.take i)∧GsOk g.1 g.2
 lk:LkOk l
 nx:CL l≤c
theorem Tn (a b:List Lk):BB (a++b)=BB a+BB b:=by unfold BB; rw [List.map_append,List.sum_append]
theorem Wx (a:List Lk)(x:Lk):CL (a++[x])=max (CL a) (x.1+1):=by unfold CL; rw [List.foldl_append]; rfl
def NA (d:Dk)(n:Nat)(text:List UInt8)(l':List Lk):Dk:=(BN (Qk (Qk d I6 text (Cp n) 4) I5 (C8 l') chainN 4)).1
theorem HT {l:List Lk}(h:LkOk l):(C8 l).length≤F7:=by rw [HO]; have:=h.len; simp only [F7]; omega
theorem KW {m c:Nat}{d:Dk}{l:List Lk}{G:List GP}(h:XD m c d l G)(hc:c<14){n:Nat}(hn:n≤c){text:List UInt8}(ht:text.length≤F7){l':List Lk}(hl':LkOk l'):DV NSw (m+4) (NA d n text l')∧∀ u,El (NA d n text l') u=if u=chainN then some (C8 l') else if u=Cp n then some text else if u=I5∨u=I6 then none else El d u:=by
 have hg:=Eo (show n<20 by omega)
 obtain ⟨_,_,_,_,a1,a2⟩:=h.dv.write G2 (tmp:=I6) (name:=Cp n) (text:=text) Tm (YX Ax) (by decide) (G1 Ax).1 (Ne.symm hg.2.2.2) ht
 obtain ⟨_,_,_,_,b1,b2⟩:=(a1 4).write G2 (tmp:=I5) (name:=chainN) (text:=C8 l') Tl YY (by decide) (by decide) (by decide) (HT hl')
 obtain ⟨_,c2,c3⟩:=(b1 4).syncN
 refine ⟨c2.mono Ax,fun u=>?_⟩
 unfold NA
 rw [c3,b2,a2]
 have e1:I5≠Cp n:=Ne.symm hg.2.2.1
 have e2:I6≠Cp n:=Ne.symm hg.2.2.2
 by_cases hu1:u=chainN
 ·rw [if_pos hu1,if_pos hu1]
 ·rw [if_neg hu1,if_neg hu1]
  by_cases hu2:u=I5
  ·rw [if_pos hu2,hu2,if_neg e1,if_pos (.inl rfl)]
  ·rw [if_neg hu2]
   by_cases hu3:u=Cp n
   ·rw [if_pos hu3,if_pos hu3]
   ·rw [if_neg hu3,if_neg hu3]
    by_cases hu4:u=I6
    ·rw [if_pos hu4,if_pos (.inr hu4)]
    ·rw [if_neg hu4,if_neg (fun k=>k.elim hu2 hu4)]
theorem IE {l:List Lk}{s:ByteArray}(h:∀ k,k<20→Cp k=s→∃ y∈l,y.1=k):ID l s=false:=by
 unfold ID
 cases hn:Rq s with
 | none=>rfl
 | some k =>
  unfold Rq at hn
  have h1:=List.find?_some hn
  obtain ⟨y,hy,e⟩:=h k (List.mem_range.1 (List.mem_of_find?_eq_some hn)) (Cl.1 h1)
  show (!(l.any fun y=>decide (y.1=k)))=false
  rw [List.any_eq_true.2 ⟨y,hy,by simpa using e⟩]; rfl
theorem NB {m:Nat}{d:Dk}(h:DV NSw m d):(Ct d).length≤18:=by
 have:=List.Nodup.length_le_of_subset (Kj h) (l₂:=NSw) fun s hs=>by
  obtain ⟨b,hb⟩:=Option.ne_none_iff_exists'.1 ((HS h s).1 hs)
  obtain ⟨k,hk,_⟩:=Kd hb
  exact h.nm _ (CS hk)
 exact Nat.le_trans this (by decide)
def IF (l:List Lk)(d:Dk):Dk:=(Ct d).foldl (EA l) d
theorem Lz {m:Nat}{d:Dk}(h:DV NSw m d)(l:List Lk):DV NSw (m+18) (IF l d)∧∀ u,El (IF l d) u=if ID l u=true then none else El d u:=by
 obtain ⟨h1,h2,h3⟩:=Nz h l _ (Nat.le_refl _)
 have hl:=NB h
 rw [List.take_length] at h1 h2 h3
 refine ⟨h1.mono Ax,fun u=>?_⟩
 unfold IF
 by_cases hu:ID l u=true
 ·rw [if_pos hu]
  by_cases hm:u∈Ct d
  ·exact h2 u hm hu
  ·rw [h3 u (.inl hm)]
   exact Decidable.byContradiction fun k=>hm ((HS h u).2 k)
 ·rw [if_neg hu]
  exact h3 u (.inr (by simpa using hu))
theorem A1k{m c:Nat}{d:Dk}{l:List Lk}{G:List GP}(h:XD m c d l G)(hc:c<13){l0:List Lk}{G0:List GP}(h0:(l0=l∧G0=G)∨(l0=[]∧G0=[])){base:Nat}{R:List GR}(hb:base=BB l0)(hR:GsOk base R){x:Lk}(hx:x=(CL l,R.length,E2 (EM base R)))(hl':LkOk (l0++[x])) :
  XD (m+22) (c+1) (IF (l0++[x]) (NA d (CL l) (EM base R) (l0++[x]))) (l0++[x]) (G0++[(base,R)]):=by
 have hnx:=h.nx
 have hcap:(EM base R).length≤F7:=by have:=Nv hR; simp only [F7]; omega
 obtain ⟨d1,d2⟩:=KW h Ax hnx hcap hl'
 generalize hd1:NA d (CL l) (EM base R) (l0++[x])=dd at *
 obtain ⟨e1,e2⟩:=Lz d1 (l0++[x])
 generalize hd2:IF (l0++[x]) dd=de at *
 have hgn:=Eo (show CL l<20 by omega)
 have hlt:∀ y∈l,y.1<CL l:=fun y hy=>Kh hy
 have hkeep:∀ y∈l0++[x],ID (l0++[x]) (Cp y.1)=false:=fun y hy=>IE fun k hk e=>by
  refine ⟨y,hy,?_⟩
  have:y.1<20:=by
   rcases List.mem_append.1 hy with hy | hy
   ·rcases h0 with ⟨rfl,_⟩ | ⟨rfl,_⟩
    ·have:=hlt y hy; omega
    ·cases hy
   ·rw [List.mem_singleton.1 hy,hx]; show CL l<20; omega
  exact (KV hk this e).symm
 refine ⟨e1,fun s hs=>?_,?_,?_,?_,hl',?_⟩
 ·rw [e2] at hs
  split at hs
  ·exact absurd rfl hs
  ·rw [d2] at hs
   by_cases a1:s=chainN
   ·exact .inr (.inl a1)
   ·rw [if_neg a1] at hs
    by_cases a2:s=Cp (CL l)
    ·exact .inr (.inr ⟨_,by omega,a2⟩)
    ·rw [if_neg a2] at hs
     split at hs
     ·exact absurd rfl hs
     ·exact h.nm s hs
 ·rw [e2,if_neg (by rw [IE (fun k hk e=>absurd e (Eo hk).2.1)]; decide),d2,if_pos rfl,if_neg (by simp)]
 ·rcases h0 with ⟨rfl,rfl⟩ | ⟨rfl,rfl⟩
  ·rw [List.length_append,List.length_append,h.len]; rfl
  ·rfl
 ·have hlen:G0.length=l0.length:=by
   rcases h0 with ⟨rfl,rfl⟩ | ⟨rfl,rfl⟩
   ·exact h.len
   ·rfl
  intro i y g hy hg
  by_cases hi:i<l0.length
  ·rw [List.getElem?_append_left hi] at hy
   rw [List.getElem?_append_left Ax] at hg
   rcases h0 with ⟨rfl,rfl⟩ | ⟨rfl,rfl⟩
   ·obtain ⟨k1,k2,k3,k4,k5⟩:=h.gf i y g hy hg
    have hyl:=hlt y (List.mem_of_getElem? hy)
    have hn:=Eo (show y.1<20 by omega)
    refine ⟨?_,k2,k3,?_,k5⟩
    ·rw [e2,if_neg (by rw [hkeep y (List.mem_append_left _ (List.mem_of_getElem? hy))]; decide),d2,if_neg hn.2.1,if_neg (fun e=>by have:=KV Ax Ax e; omega),if_neg (fun e=>e.elim hn.2.2.1 hn.2.2.2)]
     exact k1
    ·rw [k4,List.take_append_of_le_length Ax]
   ·cases hi
  ·have hi':i=l0.length:=by
    have:=(List.getElem?_eq_some_iff.1 hy).1
    rw [List.length_append] at this
    have:([x]:List Lk).length=1:=rfl
    omega
   subst hi'
   rw [List.getElem?_append_right (Nat.le_refl _),Nat.sub_self] at hy
   rw [List.getElem?_append_right Ax,hlen,Nat.sub_self] at hg
   obtain rfl:=Option.some.inj hy
   obtain rfl:=Option.some.inj hg
   refine ⟨?_,by rw [hx],by rw [hx],?_,hR⟩
   ·rw [e2,if_neg (by rw [hkeep x (by simp)]; decide),d2,hx]
    dsimp only
    rw [if_neg hgn.2.1,if_pos rfl]
   ·rw [List.take_left]; exact hb
 ·rw [Wx,hx]
  have:CL l0≤CL l:=by
   rcases h0 with ⟨rfl,_⟩ | ⟨rfl,_⟩
   ·exact Nat.le_refl _
   ·exact Nat.zero_le _
  show max _ (CL l+1)≤_
  omega
theorem A0h{m c:Nat}{d:Dk}{l:List Lk}{G:List GP}(h:XD m c d l G)(hc:c<14){n:Nat}(hn:n≤c){text:List UInt8}(ht:text.length≤F7){l':List Lk}(hl':LkOk l'):El (IF l' (NA d n text l')) logN=El d logN:=by
 obtain ⟨d1,d2⟩:=KW h hc hn ht hl'
 obtain ⟨-,e2⟩:=Lz d1 l'
 rw [e2,if_neg (by rw [IE (fun k hk e=>absurd e (Eo hk).1)]; decide),d2,if_neg (by decide),if_neg (Ne.symm (Eo (show n<20 by omega)).1),if_neg (fun k=>k.elim (by decide) (by decide))]
theorem XD.other{m m' c:Nat}{d d':Dk}{l:List Lk}{G:List GP}(h:XD m c d l G)(hv:DV NSw m' d')(hk:∀ u,u≠logN→El d' u=El d u)(hnx:c<20):XD m' c d' l G:=by
 have hc:chainN≠logN:=by decide
 refine ⟨hv,fun s hs=>?_,by rw [hk _ hc]; exact h.ch,h.len,fun i x g hx hg=>?_,h.lk,h.nx⟩
 ·by_cases e:s=logN
  ·exact .inl e
  ·rw [hk s e] at hs; exact h.nm s hs
 ·obtain ⟨k1,k2⟩:=h.gf i x g hx hg
  have:=Kh (List.mem_of_getElem? hx)
  have:=h.nx
  exact ⟨by rw [hk _ (Eo Ax).1]; exact k1,k2⟩
theorem LkOk.snoc{l:List Lk}(h:LkOk l)(hl:l.length≤7){n k s:Nat}(hn:∀ y∈l,y.1<n)(hn2:n≤1073741823)(hk:1≤k)(ht:BB l+k≤65536)(hs:s<4294967296):LkOk (l++[(n,k,s)]):=by
 refine ⟨by rw [List.length_append]; show _+1≤_; omega,fun x hx=>?_,?_,by rw [Tn]; show _+(k+0)≤_; omega⟩
 ·rcases List.mem_append.1 hx with hx | hx
  ·exact h.one x hx
  ·rw [List.mem_singleton.1 hx]; exact ⟨hn2,hk,by show k≤_; omega,hs⟩
 ·rw [List.map_append,List.nodup_append]
  refine ⟨h.nod,by simp,fun a ha b hb e=>?_⟩
  obtain ⟨y,hy,rfl⟩:=List.mem_map.1 ha
  have hb':b=n:=by simpa using hb
  have:=hn y hy
  omega
theorem LkOk.none:LkOk []:=⟨by decide,fun x hx=>(by cases hx),.nil,by decide⟩
theorem DV.writeD{NS:List ByteArray}{m:Nat}{d:Dk}(h:DV NS m d)(hN:NS.length≤20){b:List UInt8}(hb:El d logN=some b){f:Fm}(hl:b.length+(f.2.length+9)≤F7):(writeD d f).2=0∧DV NS m (writeD d f).1∧∀ u,El (writeD d f).1 u=if u=logN then some (b++DW f) else El d u:=by
 obtain ⟨a1,a2,a3⟩:=h.append hN hb (t:=DW f) (by rw [Hf]; exact hl)
 obtain ⟨b1,b2,b3⟩:=a2.sync (s:=logN) (b:=b++DW f) (by rw [a3,if_pos rfl])
 have e:SX.writeD d f=CV (BW d logN (DW f)).1 logN:=by unfold SX.writeD; rw [if_neg (not_not_intro a1)]
 rw [e]
 exact ⟨b1,b2,fun u=>by rw [b3,a3]⟩
theorem dv_new:DV NSw 0 (GW 16777216):=⟨ZP (by decide),⟨Nat.le_refl _,Nat.le_refl _⟩,rfl,rfl,rfl,.nil,fun x hx=>(by cases hx),fun x hx=>(by cases hx)⟩
theorem A0i:(F2 (GW 16777216)).2=0∧Rh (GW 16777216)=([],[])∧DV NSw 1 (F2 (GW 16777216)).1∧∀ u,El (F2 (GW 16777216)).1 u=if u=logN then some [] else none:=by
 have e1:D1 (GW 16777216) logN=([],6):=rfl
 obtain ⟨a1,a2,a3⟩:=dv_new.create G2 (s:=logN) (by decide) (.head _)
 obtain ⟨b1,b2,b3⟩:=a2.syncN
 have e2:F2 (GW 16777216)=BN (BH (GW 16777216) logN).1:=by
  unfold F2
  rw [e1,if_pos rfl]
  unfold HP
  rw [if_neg (not_not_intro a1)]
 rw [e2]
 refine ⟨b1,by unfold Rh; rw [e1]; rfl,b2,fun u=>?_⟩
 rw [b3,a3]; rfl
theorem A1l{m:Nat}{d:Dk}(h:DV NSw m d)(hk:∀ u,u≠logN→El d u=none):XD m 0 d [] [] :=
 ⟨h,fun s hs=>.inl (Decidable.byContradiction fun k=>hs (hk s k)),hk _ (by decide),rfl,fun i x g hx=>(by cases hx),.none,Nat.le_refl _⟩
structure GC (C:List Cm):Prop where
 len:C.length≤16
 row:∀ (i:Nat) (c:Cm),C[i]? = some c→Lj i c.1=true∧c.1.length≤16∧0≤c.2∧c.2<65536
def Ce (C:List Cm):List Int:=(Dg [] (C.map (·.1))).getD []
theorem GC.more{C:List Cm}(h:GC C):Dg [] (C.map (·.1))=some (Ce C):=by
 have key:∀ i,i≤C.length→∃ a,Dg [] ((C.map (·.1)).take i)=some a:=by
  intro i
  induction i with
  | zero=>exact fun _=>⟨[],rfl⟩
  | succ i ih =>
   intro hi
   obtain ⟨a,ha⟩:=ih Ax
   obtain ⟨c,hc⟩:∃ c,C[i]? = some c:=⟨_,List.getElem?_eq_getElem Ax⟩
   have hl:=(Hd ha).1
   rw [List.length_nil,List.length_take,List.length_map,Nat.min_eq_left Ax,Nat.zero_add] at hl
   rw [XP ha (by rw [List.getElem?_map,hc]; rfl),hl,if_pos (h.row i c hc).1]
   exact ⟨_,rfl⟩
 obtain ⟨a,ha⟩:=key C.length (Nat.le_refl _)
 rw [← List.length_map (f:=(·.1)),List.take_length] at ha
 unfold Ce
 rw [ha]; rfl
theorem GC.glen{C:List Cm}(h:GC C):(Ce C).length=C.length:=by rw [Gg h.more,List.length_map]
theorem GC.take{C:List Cm}(h:GC C)(k:Nat):GC (C.take k):=⟨by have:=h.len; rw [List.length_take]; omega,fun i c hc=>by
 by_cases hk:i<k
 ·rw [List.getElem?_take_of_lt hk] at hc; exact h.row i c hc
 ·rw [List.getElem?_take_eq_none Ax] at hc; cases hc⟩
theorem Wy {C:List Cm}{c:Cm}(h:GC (C++[c])):Ce (C++[c])=Ce C++[C4 (CP (Ce C) c.1)]:=by
 have h1:=h.more
 have h0:GC C:=by have:=h.take C.length; rwa [List.take_left] at this
 have hr:=h.row C.length c (by rw [List.getElem?_append_right (Nat.le_refl _),Nat.sub_self]; rfl)
 rw [List.map_append,FY,h0.more] at h1
 replace h1:Dg (Ce C) [c.1]=some (Ce (C++[c])):=h1
 rw [Dg,h0.glen,if_pos hr.1] at h1
 exact (Option.some.inj h1).symm
structure RW (C:List Cm) (R:List GR):Prop where
 len:R.length≤C.length
 row:∀ (i:Nat) (r:GR),R[i]? = some r→C[i]? = some (r.ps,r.tr)∧(Ce C)[i]? = some r.gn
theorem RW.snoc{C:List Cm}{R:List GR}(h:RW C R){c:Cm}(hc:GC (C++[c])):RW (C++[c]) R:=by
 have h0:GC C:=by have:=hc.take C.length; rwa [List.take_left] at this
 refine ⟨by rw [List.length_append]; have:=h.len; omega,fun i r hr=>?_⟩
 obtain ⟨a,b⟩:=h.row i r hr
 rw [Wy hc,List.getElem?_append_left (List.getElem?_eq_some_iff.1 a).1,List.getElem?_append_left (List.getElem?_eq_some_iff.1 b).1]
 exact ⟨a,b⟩
structure RN (C:List Cm) (k:Nat) (R:List GR):Prop where
 len:k+R.length≤C.length
 row:∀ (i:Nat) (r:GR),R[i]? = some r→C[k+i]? = some (r.ps,r.tr)∧(Ce C)[k+i]? = some r.gn∧Wt r.st r.bt
theorem RN.ok{C:List Cm}(hC:GC C){k:Nat}{R:List GR}(h:RN C k R):GsOk k R:=by
 have hl:=h.len
 have hc:=hC.len
 refine ⟨by omega,by omega,fun i r hr=>?_⟩
 obtain ⟨a,b,f⟩:=h.row i r hr
 obtain ⟨g1,g2,g3,g4⟩:=hC.row _ _ a
 obtain ⟨k1,k2⟩:=EC.1 g1
 have hg:=Fp hC.more _ _ b
 refine ⟨g2,fun p hp=>?_,k2,⟨g3,g4⟩,⟨hg.1,hg.2.1⟩,?_⟩
 ·have:=k1 p hp; omega
 ·rcases f with ⟨f1,f2,f3⟩ | ⟨f1,f2⟩
  ·exact .inl ⟨f1,f2,by omega⟩
  ·exact .inr ⟨f1,f2⟩
theorem RN.join{C:List Cm}{R R':List GR}(h:RW C R)(h':RN C R.length R'):RW C (R++R'):=by
 refine ⟨by rw [List.length_append]; exact h'.len,fun i r hr=>?_⟩
 by_cases hi:i<R.length
 ·rw [List.getElem?_append_left hi] at hr; exact h.row i r hr
 ·rw [List.getElem?_append_right Ax] at hr
  obtain ⟨a,b,_⟩:=h'.row _ r hr
  rw [show R.length+(i-R.length)=i by omega] at a b
  exact ⟨a,b⟩
theorem RN.whole{C:List Cm}{R:List GR}(h:RN C 0 R):RW C R:=⟨by have:=h.len; omega,fun i r hr=>by have:=h.row i r hr; rw [Nat.zero_add] at this; exact ⟨this.1,this.2.1⟩⟩
def D4 (G:List GP):List GR:=G.flatMap (·.2)
theorem Ht (A B:List GP):D4 (A++B)=D4 A++D4 B:=List.flatMap_append
theorem Jc (b:Nat)(R:List GR):D4 [(b,R)]=R:=List.append_nil _
theorem XD.rlen{m c:Nat}{d:Dk}{l:List Lk}{G:List GP}(h:XD m c d l G):∀ i,i≤l.length→(D4 (G.take i)).length=BB (l.take i):=by
 intro i
 induction i with
 | zero=>intro _; rfl
 | succ i ih =>
  intro hi
  obtain ⟨x,hx⟩:∃ x,l[i]? = some x:=⟨_,List.getElem?_eq_getElem Ax⟩
  obtain ⟨g,hg⟩:∃ g,G[i]? = some g:=⟨_,List.getElem?_eq_getElem (by rw [h.len]; omega)⟩
  obtain ⟨_,_,k3,_⟩:=h.gf i x g hx hg
  rw [BE hg,Ht,List.length_append,ih Ax,GO hx,k3]
  show _+(D4 [(g.1,g.2)]).length=_
  rw [Jc]
theorem XD.rall{m c:Nat}{d:Dk}{l:List Lk}{G:List GP}(h:XD m c d l G):(D4 G).length=BB l:=by
 have:=h.rlen l.length (Nat.le_refl _)
 rwa [List.take_length,← h.len,List.take_length] at this
theorem XD.find{m c:Nat}{d:Dk}{l:List Lk}{G:List GP}(h:XD m c d l G){i n:Nat}{g:GP}(hg:G[i]? = some g)(h1:BB (l.take i)≤n)(h2:n<g.1+g.2.length):g.1=BB (l.take i)∧(D4 G)[n]? = g.2[n-g.1]?:=by
 have hi:=(List.getElem?_eq_some_iff.1 hg).1
 obtain ⟨x,hx⟩:∃ x,l[i]? = some x:=⟨_,List.getElem?_eq_getElem (by rw [← h.len]; exact hi)⟩
 obtain ⟨_,_,k3,k4,_⟩:=h.gf i x g hx hg
 refine ⟨k4,?_⟩
 have hr:=h.rlen i (by rw [← h.len]; omega)
 have e:G=G.take i++(g::G.drop (i+1)):=by rw [← Hj hg,List.take_append_drop]
 rw [e,Ht,List.getElem?_append_right Ax,hr,← k4]
 show (g.2++D4 (G.drop (i+1)))[_]? = _
 rw [List.getElem?_append_left Ax]
abbrev To (x:GV):List Value:=LF x.1 x.2.1
abbrev Gy (V:List GV):List GP:=V.map fun x=>(x.1,DZ x.2.2)
structure IX (μ:PH) (lv gv:Value) (l:List Lk) (V:List GV):Prop where
 lr:Row μ lv 3 l.length (l.flatMap Er)
 gr:Row μ gv 6 V.length (V.flatMap To)
 rs:∀ x∈V,GRows μ x.2.1 x.2.2
theorem IX.le{μ μ':PH}{lv gv:Value}{l:List Lk}{V:List GV}(h:IX μ lv gv l V)(k:Le μ μ'):IX μ' lv gv l V:=⟨h.lr.le k,h.gr.le k,fun x hx=>(h.rs x hx).le k⟩
theorem IX.none(μ:PH):IX μ (.slice none 0 0) (.slice none 0 0) [] []:=⟨Row.nil _ _,Row.nil _ _,fun x hx=>(by cases hx)⟩
theorem LA (μ:PH)(v:Value)(t:List Lk)(hv:Row μ v 3 t.length (t.flatMap Er))(hl:t.length≤1048576):Spec prog 94 [v] [ro μ] (fun r L=>∃ A c,r=.slice A t.length c∧L=[own 161 3 (.slice A t.length c) t.length (t.flatMap Er),ro μ]):=by
 obtain ⟨A,cap,rfl⟩:=hv.sl
 refine Spec.of 8 func94 rfl rfl rfl ?_
 refine A0 (As [0] rfl rfl (Ae (A0 (Ad rfl (Ac (DG rfl rfl) (AE [0,4] rfl ?_))))))
 refine Ak rfl (fun h4=>?_) (fun h4=>?_)
 ·refine A0 (As [2] rfl rfl (Ar (AN ?_)))
  have hA:A=none:=by cases A <;> simp_all
  subst hA
  have h0:t=[]:=by
   cases t with
   | nil=>rfl
   | cons x l=>obtain ⟨b,o,c,h,_⟩:=hv.pos (by simp); cases h
  subst h0
  exact B8 [own 161 3 (.slice none 0 0) 0 [],ro μ] (.tmp rfl .nil) ⟨none,0,rfl,rfl⟩ own_nil_ent
 ·refine Am (Af (A0 (Aw (Bg (qs:=[]) rfl rfl rfl) (fun b5=>?_))))
  refine Ad rfl (BK (G6 (n:=3)) ?_)
  refine Aw (D8 hv rfl rfl AC (MQ (fun _=>rfl) _) (by simp only [maxLen]; omega) Ax) ?_
  rintro v7 -
  rw [Nat.zero_add,List.nil_append]
  refine Cv (fun m h=>Bz h) fun ⟨A7,c7,hv7⟩=>?_
  subst hv7
  refine As [2] rfl rfl (Ar ?_)
  exact Aq [own 161 3 (.slice A7 t.length c7) t.length (t.flatMap Er),ro μ] (.tmp rfl .nil) ⟨A7,c7,rfl,rfl⟩ AC
theorem A0j{V:List GV}{μ:PH}(h:∀ x∈V,GRows μ x.2.1 x.2.2):(V.flatMap To).all Value.oneCell'=true:=by
 rw [List.all_eq_true]
 intro u hu
 obtain ⟨x,hx,hu⟩:=List.mem_flatMap.1 hu
 obtain ⟨A,c,e⟩:=(h x hx).row.sl
 unfold To LF at hu
 rw [e] at hu
 simp only [List.mem_cons,List.not_mem_nil,or_false] at hu
 rcases hu with rfl | rfl | rfl | rfl | rfl | rfl <;> rfl
theorem LB (μ:PH)(v:Value)(t:List GV)(hv:Row μ v 6 t.length (t.flatMap To))(h1:∀ x∈t,GRows μ x.2.1 x.2.2)(hl:t.length≤1048576):Spec prog 101 [v] [ro μ] (fun r L=>∃ A c,r=.slice A t.length c∧L=[own 141 6 (.slice A t.length c) t.length (t.flatMap To),ro μ]):=by
 obtain ⟨A,cap,rfl⟩:=hv.sl
 refine Spec.of 8 func101 rfl rfl rfl ?_
 refine A0 (As [0] rfl rfl (Ae (A0 (Ad rfl (Ac (DG rfl rfl) (AE [0,4] rfl ?_))))))
 refine Ak rfl (fun h4=>?_) (fun h4=>?_)
 ·refine A0 (As [2] rfl rfl (Ar (AN ?_)))
  have hA:A=none:=by cases A <;> simp_all
  subst hA
  have h0:t=[]:=by
   cases t with
   | nil=>rfl
   | cons x l=>obtain ⟨b,o,c,h,_⟩:=hv.pos (by simp); cases h
  subst h0
  exact B8 [own 141 6 (.slice none 0 0) 0 [],ro μ] (.tmp rfl .nil) ⟨none,0,rfl,rfl⟩ own_nil_ent
 ·refine Am (Af (A0 (Aw (Bg (qs:=[]) rfl rfl rfl) (fun b5=>?_))))
  refine Ad rfl (BK (G6 (n:=6)) ?_)
  refine Aw (D8 hv rfl rfl AC (A0j h1) (by simp only [maxLen]; omega) Ax) ?_
  rintro v7 -
  rw [Nat.zero_add,List.nil_append]
  refine Cv (fun m h=>Bz h) fun ⟨A7,c7,hv7⟩=>?_
  subst hv7
  refine As [2] rfl rfl (Ar ?_)
  exact Aq [own 141 6 (.slice A7 t.length c7) t.length (t.flatMap To),ro μ] (.tmp rfl .nil) ⟨A7,c7,rfl,rfl⟩ AC
theorem Wz (x:Lk)(b k:Nat)(A:AF)(K:List AF):Spec prog 105 [.agg (Er x).toArray,pv b] (A::B1 b 3 [.int .i64 (k:Nat)]::K) (fun r L=>r=.bool (decide (x.1=k))∧L=A::B1 b 3 [.int .i64 (k:Nat)]::K):=by
 refine Spec.of 8 func105 rfl rfl rfl ?_
 refine A0 (Aw (Bi rfl rfl) (fun b2=>?_))
 refine As [1,2] rfl rfl (A0 (Ac (Ab rfl) (AJ (Ag rfl rfl) (AJ (Ag rfl rfl) (Ac (Bp rfl rfl) (As [3] rfl rfl (Ar ?_)))))))
 refine Aq _ (.tmp rfl .nil) ⟨?_,rfl⟩ (Split.skip Split.all)
 show Value.bool _=Value.bool _
 congr 1
 exact decide_eq_decide.2 Ax
theorem A1m:(logN.size≤18∧Lib.hasPrefix logN.data.toList Nw=false∧Lib.trimPrefix logN.data.toList Nw=logN.data.toList∧Lib.atoi logN.data.toList=none)∧(chainN.size≤18∧Lib.hasPrefix chainN.data.toList Nw=false∧Lib.trimPrefix chainN.data.toList Nw=chainN.data.toList∧Lib.atoi chainN.data.toList=none):=⟨⟨by decide,by kernel_rfl,by kernel_rfl,by kernel_rfl⟩,⟨by decide,by kernel_rfl,by kernel_rfl,by kernel_rfl⟩⟩
theorem WA (μ:PH)(hs:SynOk μ)(s:ByteArray)(h:s=logN∨s=chainN∨∃ k,k<14∧s=Cp k):Spec prog 103 [.string s] [ro μ] (fun r L=>∃ (k:Nat) (b:Bool),r=.tuple #[.int .i64 (k:Nat),.bool b]∧(∀ l,ID l s=(b&&!(l.any fun y=>decide (y.1=k))))∧L=[ro μ]):=by
 obtain ⟨⟨a1,a2,a3,a4⟩,⟨b1,b2,b3,b4⟩⟩:=A1m
 rcases h with rfl | rfl | ⟨k,hk,rfl⟩
 ·exact (Um μ hs logN a1 a2 a3 a4).mono fun r L ⟨e1,e2⟩=>⟨0,false,e1,fun l=>IE fun k hk e=>absurd e (Eo hk).1,e2⟩
 ·exact (Um μ hs chainN b1 b2 b3 b4).mono fun r L ⟨e1,e2⟩=>⟨0,false,e1,fun l=>IE fun k hk e=>absurd e (Eo hk).2.1,e2⟩
 ·refine ((YR k Ax).fr [ro μ]).mono fun r L ⟨L',⟨e1,e2⟩,e3⟩=>⟨k,true,e1,fun l=>?_,by rw [e3,e2]; rfl⟩
  unfold ID
  rw [A0g Ax]; rfl
set_option maxHeartbeats 8000000 in
theorem Rr (μ:PH)(hs:SynOk μ)(m c p q:Nat)(d:Dk)(l:List Lk)(V:List GV)(lv gv:Value)(hX:XD m c d l (Gy V))(hI:IX μ lv gv l V)(hc:c<13)(hm:m≤40000)(l0:List Lk)(V0:List GV)(lv0 gv0:Value)(hI0:IX μ lv0 gv0 l0 V0)(h0:(l0=l∧V0=V)∨(l0=[]∧V0=[]))(hV0:V0.length=l0.length)(base:Nat)(rv:Value)(R:List (Value×GR))(hb:base=BB l0)(hg:GRows μ rv R)(hR:GsOk base (DZ R))(h1:1≤R.length)(hl0:l0.length≤7)(ht:BB l0+R.length≤65536)(x:Lk)(hx:x=(CL l,R.length,E2 (EM base (DZ R)))) :
  Spec prog 59 [pv p,lv0,gv0,.agg (LF base rv).toArray] [xB p q lv gv,FSA q d,ro μ] (fun r L=>∃ μ' lv' gv' d',Le μ μ'∧IX μ' lv' gv' (l0++[x]) (V0++[(base,rv,R)])∧XD (m+22) (c+1) d' (l0++[x]) (Gy (V0++[(base,rv,R)]))∧El d' logN=El d logN∧r=.int .i64 0∧L=[xB p q lv' gv',FSA q d',ro μ']):=by
 have hnx:=hX.nx
 have hRl:(DZ R).length=R.length:=List.length_map _
 have hlk:LkOk (l0++[x]):=by
  rw [hx]
  rcases h0 with ⟨rfl,_⟩ | ⟨rfl,_⟩
  ·exact hX.lk.snoc hl0 (fun y hy=>Kh hy) Ax h1 ht (GH _)
  ·exact LkOk.none.snoc (by decide) (fun y hy=>(by cases hy)) Ax h1 ht (GH _)
 have hxd:=A1k hX hc (l0:=l0) (G0:=Gy V0) (by
  rcases h0 with ⟨h,k⟩ | ⟨h,k⟩
  ·exact .inl ⟨h,by rw [k]⟩
  ·exact .inr ⟨h,by rw [k]; rfl⟩) hb hR (x:=x) (by rw [hx,hRl]) hlk
 have hcap:(EM base (DZ R)).length≤F7:=by have:=Nv hR; simp only [F7]; omega
 have hlog:=A0h hX Ax hnx hcap hlk
 obtain ⟨hdd,hlook⟩:=KW hX Ax hnx hcap hlk
 have hgn:=Eo (show CL l<20 by omega)
 obtain ⟨_,_,_,_,a1,_⟩:=hX.dv.write G2 (tmp:=I6) (name:=Cp (CL l)) (text:=EM base (DZ R)) Tm (YX Ax) (by decide) (G1 Ax).1 (Ne.symm hgn.2.2.2) hcap
 obtain ⟨_,_,_,_,b1,_⟩:=(a1 4).write G2 (tmp:=I5) (name:=chainN) (text:=C8 (l0++[x])) Tl YY (by decide) (by decide) (by decide) (HT hlk)
 have hsy:=(b1 4).syncN.1
 have hsp:Spec prog 99 [pv q] [FSA q (Qk (Qk d I6 (EM base (DZ R)) (Cp (CL l)) 4) I5 (C8 (l0++[x])) chainN 4)] (fun r L=>r=.int .i64 0∧L=[FSA q (NA d (CL l) (EM base (DZ R)) (l0++[x]))]):=(JT q _ (b1 4).ok).mono fun r L ⟨e1,e2⟩=>⟨by rw [e1,hsy],e2⟩
 obtain ⟨Arv,crv,rfl⟩:=hg.row.sl
 have hnm:∀ s∈Ct (NA d (CL l) (EM base (DZ R)) (l0++[x])),s=logN∨s=chainN∨∃ k,k<14∧s=Cp k:=fun s hn=>by
  have hn:=(HS hdd s).1 hn
  rw [hlook] at hn
  by_cases e1:s=chainN
  ·exact .inr (.inl e1)
  ·rw [if_neg e1] at hn
   by_cases e2:s=Cp (CL l)
   ·exact .inr (.inr ⟨_,by omega,e2⟩)
   ·rw [if_neg e2] at hn
    split at hn
    ·exact absurd rfl hn
    ·exact hX.nm s hn
 have hdl:=NB hdd
 have hclean:=fun i hi=>(Nz hdd (l0++[x]) i hi).1
 refine Spec.of 128 func59 rfl rfl rfl ?_
 refine A0 (Aw (Bi rfl rfl) (fun b7=>?_))
 refine As [0,1,2,7] rfl rfl (A0 (AJ (BG (vs:=LF base (.slice Arv R.length crv)) rfl rfl rfl) ?_))
 refine Aw (AA (OU μ base _ R hg hR) rfl rfl AC) ?_
 rintro v19 L1 ⟨μ1,k1,rfl,rfl⟩
 refine Aj (Ad rfl (Ac (Ai rfl) (Ac (Ai rfl) (AX rfl (As [0,1,2,7,9,10] rfl rfl (Ae (A0 (Ad rfl (Ac (Bm rfl rfl) (AE [0,1,2,7,9,10,23] rfl (Dz rfl (Am (Af (A0 (Ad rfl (Ac (Ah rfl) (Ac (Ab rfl) (AJ (Ag rfl rfl) ?_))))))))))))))))))
 refine Aw (AA (SU μ1 lv l (hI.lr.le k1) hX.lk) rfl rfl AC) ?_
 rintro v29 L1 ⟨rfl,rfl⟩
 refine Aj (As [0,1,2,7,9,11] rfl rfl ?_)
 refine Cb (fun env L=>∃ v,Sub env [(0,pv p),(1,v),(2,gv0),(7,pv b7),(9,.string (str (EM base (DZ R)))),(11,.int .i64 (CL l:Nat))]∧Ent L [own 161 3 v (l0.length+1) (l0.flatMap Er++Er x),B1 b7 141 (LF base (.slice Arv R.length crv)),xB p q lv gv,FSA q d,ro μ1]) ?_ ?_
 ·refine Ba [4] ([B1 b7 141 (LF base (.slice Arv R.length crv))]) ([ro μ1,xB p q lv gv,FSA q d]) (Split.ent AC) AK ?_
  refine AD 0 rfl (AG rfl) (AD 2 rfl (AG rfl) (AD 3 rfl (Ab rfl) (Bc 4 rfl (Ag rfl rfl) rfl (AD 5 rfl (B2 hg.row rfl) (AD 6 rfl (AG rfl) ?_)))))
  refine FG [1,7] AK rfl ⟨?_,?_⟩
  ·refine E3 1 rfl GOn.none (AA (LA μ1 lv0 l0 (hI0.lr.le k1) Ax) rfl rfl AC) ?_
   rintro v31 L1 ⟨A31,c31,rfl,rfl⟩
   refine ⟨_,BL (Split.ent AC),?_⟩
   refine CC 7 rfl AK (Bg (qs:=[(0,_)]) rfl rfl rfl) fun b37=>?_
   refine ⟨_,Split.ent AC,?_⟩
   refine CC 8 rfl AK (AA (EU b37 1 (str (EM base (DZ R))) (by rw [CO]; simp only [F7] at hcap; omega)) rfl rfl AC) ?_
   rintro v38 L1 ⟨rfl,rfl⟩
   refine ⟨_,BL (Split.ent AC),?_⟩
   refine AD 9 rfl (Bo (qs:=[(0,_),(1,_),(2,_)]) rfl) (BT 10 rfl AK AK (Bg (qs:=[(0,_)]) rfl rfl rfl) (fun b40=>?_))
   refine Mo 11 rfl AK AK (B9 (l:=l0.length) (m:=1) rfl rfl AC (by simp only [maxLen]; omega) Ax) ?_
   rintro v41 -
   skip
   refine AD 12 rfl (Bl rfl) (C0 [0,1,2,7,9,11] rfl (Bs AK ?_))
   exact Af ⟨v41,⟨rfl,rfl,rfl,rfl,rfl,rfl,trivial⟩,by rw [hx]; show Ent (own 161 3 v41 (l0.length+1) (l0.flatMap Er++Er (CL l,R.length,E2 (EM base (DZ R))))::_) _; exact Split.ent' AC⟩
  ·refine E3 7 rfl GOn.none (Bg (qs:=[(0,_)]) rfl rfl rfl) fun b37=>?_
   refine ⟨_,Split.ent AC,?_⟩
   refine CC 1 rfl AK (AA (LA μ1 lv0 l0 (hI0.lr.le k1) Ax) rfl rfl AC) ?_
   rintro v31 L1 ⟨A31,c31,rfl,rfl⟩
   refine ⟨_,BL (Split.ent AC),?_⟩
   refine CC 8 rfl AK (AA (EU b37 1 (str (EM base (DZ R))) (by rw [CO]; simp only [F7] at hcap; omega)) rfl rfl AC) ?_
   rintro v38 L1 ⟨rfl,rfl⟩
   refine ⟨_,BL (Split.ent AC),?_⟩
   refine AD 9 rfl (Bo (qs:=[(0,_),(1,_),(2,_)]) rfl) (BT 10 rfl AK AK (Bg (qs:=[(0,_)]) rfl rfl rfl) (fun b40=>?_))
   refine Mo 11 rfl AK AK (B9 (l:=l0.length) (m:=1) rfl rfl AC (by simp only [maxLen]; omega) Ax) ?_
   rintro v41 -
   skip
   refine AD 12 rfl (Bl rfl) (C0 [0,1,2,7,9,11] rfl (Bs AK ?_))
   exact Af ⟨v41,⟨rfl,rfl,rfl,rfl,rfl,rfl,trivial⟩,by rw [hx]; show Ent (own 161 3 v41 (l0.length+1) (l0.flatMap Er++Er (CL l,R.length,E2 (EM base (DZ R))))::_) _; exact Split.ent' AC⟩
 rintro env L ⟨v41,hsub,hE⟩
 refine B3 _ hsub (AP hE ?_)
 clear hsub hE env L
 refine BC (v:=v41) (μ:=μ1) AC fun μ2 k2 hr2=>?_
 have hrow:Row μ2 v41 3 (l0++[x]).length ((l0++[x]).flatMap Er):=by rw [List.length_append,List.flatMap_append]; exact hr2
 clear hr2
 obtain ⟨A41,c41,rfl⟩:=hrow.sl
 refine A0 (Ad rfl ?_)
 refine Aw (AA (SS μ2 (.slice A41 (l0++[x]).length c41) (l0++[x]) hrow hlk) rfl rfl AC) ?_
 rintro v44 L1 ⟨rfl,rfl⟩
 refine Aj (Ad rfl (Ac (Ai rfl) (Ac (Ai rfl) (AX rfl (As [0,1,2,7,9,10,11,12] rfl rfl (Ae (A0 (Ad rfl (Ac (Bm rfl rfl) (AE [0,1,2,7,9,10,11,12,48] rfl (Dz rfl (Am (Af (Ae (A0 (Ad rfl (Ad rfl (Ad rfl ?_))))))))))))))))))
 refine Aw (AA (JW (CL l) Ax) rfl rfl AC) ?_
 rintro v53 L1 ⟨rfl,rfl⟩
 refine Aj ?_
 refine Aw (AA (Ro NSw G2 m Ax p q lv gv d hX.dv I6 (Cp (CL l)) (EM base (DZ R)) Tm (YX Ax) (by decide) (G1 Ax).1 (Ne.symm hgn.2.2.2) hcap) rfl rfl AC) ?_
 rintro v54 L1 ⟨rfl,rfl⟩
 refine Aj (As [0,1,2,7,10,11,12] rfl rfl (A0 (Ad rfl (Ac (Bp rfl rfl) (AE [0,1,2,7,10,11,12,56] rfl (Qs rfl (A0 (Ad rfl (Ad rfl ?_)))))))))
 refine Aw (AA (Ro NSw G2 _ Ax p q lv gv _ (a1 4) I5 chainN (C8 (l0++[x])) Tl YY (by decide) (by decide) (by decide) (HT hlk)) rfl rfl AC) ?_
 rintro v59 L1 ⟨rfl,rfl⟩
 refine Aj (As [0,1,2,7,10,11] rfl rfl (A0 (Ad rfl (Ac (Bp rfl rfl) (AE [0,1,2,7,10,11,61] rfl (Qs rfl (Al (Ad rfl (Ac (Ah rfl) (Ac (Ab rfl) (AJ (Ag rfl rfl) ?_)))))))))))
 refine Aw (AA hsp rfl rfl AC) ?_
 rintro v66 L1 ⟨rfl,rfl⟩
 refine Aj (As [0,1,2,7,10,11] rfl rfl (Ae (A0 (Ad rfl (Ac (Bm rfl rfl) (AE [0,1,2,7,10,11,68] rfl (Dz rfl (Am (Af ?_)))))))))
 refine Cb (fun env L=>∃ v,Sub env [(0,pv p),(1,(.slice A41 (l0++[x]).length c41))]∧Ent L [own 141 6 v (V0.length+1) (V0.flatMap To++LF base (.slice Arv R.length crv)),xB p q (.slice A41 (l0++[x]).length c41) v,FSA q (NA d (CL l) (EM base (DZ R)) (l0++[x])),ro μ2]) ?_ ?_
 ·refine Ba [5] ([B1 b7 141 (LF base (.slice Arv R.length crv))]) ([FSA q (NA d (CL l) (EM base (DZ R)) (l0++[x])),xB p q lv gv,ro μ2]) (Split.ent AC) AK ?_
  refine AD 0 rfl (AG rfl) (AD 1 rfl (AG rfl) (AD 2 rfl (AG rfl) (AD 3 rfl (AG rfl) (Bc 5 rfl (BG (vs:=LF base (.slice Arv R.length crv)) rfl rfl rfl) rfl ?_))))
  refine FG [4,6] AK rfl ⟨?_,?_⟩
  ·refine E3 4 rfl GOn.none (AA (LB μ2 gv0 V0 ((hI0.gr.le k1).le k2) (fun y hy=>((hI0.rs y hy).le k1).le k2) Ax) rfl rfl AC) ?_
   rintro v91 L1 ⟨A91,c91,rfl,rfl⟩
   refine ⟨_,BL (Split.ent AC),?_⟩
   refine BT 6 rfl AK AK (Bg (qs:=[(0,_)]) rfl rfl rfl) fun b93=>?_
   refine Mo 7 rfl AK AK (B9 (l:=V0.length) (m:=1) rfl rfl AC (by simp only [maxLen]; omega) Ax) ?_
   rintro v94 -
   refine ED (fun m h=>Bz h) fun ⟨A94,c94,hv94⟩=>?_
   subst hv94
   refine AD 8 rfl (Ah rfl) (AD 9 rfl (Ab rfl) (Cj 10 rfl AK AK (AW rfl rfl rfl) (AD 11 rfl (Ah rfl) (AD 12 rfl (Ab rfl) (Cj 13 rfl AK AK (AW rfl rfl rfl) (C0 [0,1] rfl (Bs AK ?_)))))))
   exact Af ⟨.slice A94 (V0.length+1) c94,⟨rfl,rfl,trivial⟩,Split.ent' AC⟩
  ·refine E3 6 rfl GOn.none (Bg (qs:=[(0,_)]) rfl rfl rfl) fun b93=>?_
   refine ⟨_,Split.ent AC,?_⟩
   refine CC 4 rfl AK (AA (LB μ2 gv0 V0 ((hI0.gr.le k1).le k2) (fun y hy=>((hI0.rs y hy).le k1).le k2) Ax) rfl rfl AC) ?_
   rintro v91 L1 ⟨A91,c91,rfl,rfl⟩
   refine ⟨_,BL (Split.ent AC),?_⟩
   refine BT 7 rfl AK AK (B9 (l:=V0.length) (m:=1) rfl rfl AC (by simp only [maxLen]; omega) Ax) ?_
   rintro v94 -
   refine ED (fun m h=>Bz h) fun ⟨A94,c94,hv94⟩=>?_
   subst hv94
   refine AD 8 rfl (Ah rfl) (AD 9 rfl (Ab rfl) (Cj 10 rfl AK AK (AW rfl rfl rfl) (AD 11 rfl (Ah rfl) (AD 12 rfl (Ab rfl) (Cj 13 rfl AK AK (AW rfl rfl rfl) (C0 [0,1] rfl (Bs AK ?_)))))))
   exact Af ⟨.slice A94 (V0.length+1) c94,⟨rfl,rfl,trivial⟩,Split.ent' AC⟩
 rintro env L ⟨v94,hsub,hE⟩
 refine B3 _ hsub (AP hE ?_)
 clear hsub hE env L
 refine BC (v:=v94) (μ:=μ2) AC fun μ3 k3 hr3=>?_
 have hrowG:Row μ3 v94 6 (V0++[(base,Value.slice Arv R.length crv,R)]).length ((V0++[(base,Value.slice Arv R.length crv,R)]).flatMap To):=by rw [List.length_append,List.flatMap_append]; exact hr3
 clear hr3
 generalize hdg:NA d (CL l) (EM base (DZ R)) (l0++[x])=dd at *
 refine Ae (A0 (Ad rfl (Ac (Ah rfl) (Ac (Ab rfl) (AJ (Ag rfl rfl) ?_)))))
 refine Aw (AA (Tk q dd hdd.ok) rfl rfl AC) ?_
 rintro v103 L1 rfl
 refine Aj ?_
 refine C5 (v:=v103) (μ:=μ3) AC fun μ4 k4 hr4=>?_
 have k14:=(k1.trans k2).trans (k3.trans k4)
 refine Ac (B2 hr4 rfl) (Ad rfl (AE [0,1,103,104,105] rfl (Au ?_)))
 refine B0 (ι:=Nat) (fun i env L=>Sub env [(0,pv p),(1,(.slice A41 (l0++[x]).length c41)),(103,v103),(104,.int .i64 ((Ct dd).length:Nat)),(105,.int .i64 (i:Nat))]∧Ent L [xB p q (.slice A41 (l0++[x]).length c41) v94,FSA q (((Ct dd).take i).foldl (EA (l0++[x])) dd),ro μ4]∧i≤(Ct dd).length) (fun i=>(Ct dd).length-i) 0 ⟨⟨rfl,rfl,rfl,rfl,rfl,trivial⟩,by show Ent _ [xB p q (.slice A41 (l0++[x]).length c41) v94,FSA q dd,ro μ4]; exact Split.ent' AC,Nat.zero_le _⟩ ?_
 rintro i env L ⟨hsub,hE,hi⟩
 refine B3 _ hsub (AP hE ?_)
 clear hsub hE env L
 have hcl:=hclean i hi
 refine A0 (Ac (Bb rfl rfl) (AE [0,1,103,104,105,106] rfl (Ae ?_)))
 refine Ak rfl (fun h106=>?_) (fun h106=>?_)
 ·have h106':i<(Ct dd).length:=by have:=of_decide_eq_true h106; omega
  obtain ⟨s,hsn⟩:∃ s,(Ct dd)[i]? = some s:=⟨_,List.getElem?_eq_getElem h106'⟩
  obtain ⟨gb,off,cap,hv,hra⟩:=Rn hr4 hsn
  have hF:((Ct dd).take (i+1)).foldl (EA (l0++[x])) dd=EA (l0++[x]) (((Ct dd).take i).foldl (EA (l0++[x])) dd) s:=by rw [BE hsn,List.foldl_append]; rfl
  generalize ((Ct dd).take i).foldl (EA (l0++[x])) dd=di at *
  refine Am (Af (Ae (Au (A0 ?_))))
  refine Ac (AB (off+i*1) (congrArg some hv) rfl Ax Ax (by rw [Int.toNat_natCast])) ?_
  refine AJ (C3 rfl hra) (As [0,1,14,103,104,105] rfl rfl (A0 (Ad rfl ?_)))
  refine Aw (AA (WA μ4 (hs.le k14) s (hnm s (List.mem_of_getElem? hsn))) rfl rfl AC) ?_
  rintro v111 L1 ⟨k,bb,rfl,hlo,rfl⟩
  refine Aj (Ad rfl (Ac (Ai rfl) (Ac (Ai rfl) (Aw (AZ) (fun b15=>?_)))))
  refine B5 (AW rfl rfl rfl) (As [0,1,14,15,16,103,104,105] rfl rfl (A0 (Ad rfl (Ad rfl ?_))))
  refine B7 115 rfl (fun h115=>?_) (fun h115=>?_)
  ·replace hlo:=hlo (l0++[x])
   rw [h115,Bool.true_and] at hlo
   refine AQ rfl rfl (Ad rfl (AQ rfl rfl (Ac (C9 (vs:=[]) (us:=[_]) rfl rfl) (AQ rfl rfl ?_))))
   refine Aw (AA (R8 μ4 (.slice A41 (l0++[x]).length c41) (l0++[x]) [B1 b15 3 [.int .i64 (k:Nat)]] 105 [] [pv b15] (fun y=>decide (y.1=k)) ((hrow.le k3).le k4) (fun y _=>Wz y b15 k (ro μ4) [])) rfl rfl AC) ?_
   rintro v118 L1 ⟨rfl,rfl⟩
   refine Aj (AQ rfl rfl (Ac (BO rfl) (Ac (B4 rfl rfl) (AE [0,1,14,103,104,105,120] rfl ?_))))
   refine Ak rfl (fun h120=>?_) (fun h120=>?_)
   ·rw [h120] at hlo
    refine Al (Ad rfl (Ac (Ah rfl) (Ac (Ab rfl) (AJ (Ag rfl rfl) (Ad rfl ?_)))))
    refine Aw (AA (Rf q di hcl.ok (hcl.few Ax) s) rfl rfl AC) ?_
    rintro v126 L1 ⟨rfl,rfl⟩
    refine Aj (Be [0,1,103,104,105] rfl (AH (AR (Af (Al (Ac (AO ((i+1:Nat):Int) rfl rfl Ax Ax Ax) (Ad rfl (Be [0,1,103,104,105] rfl (AH ?_)))))))))
    refine Af ⟨i+1,⟨⟨rfl,rfl,rfl,rfl,rfl,trivial⟩,?_,h106'⟩,by omega⟩
    rw [hF,EA,if_pos hlo]
    exact Split.ent' AC
   ·refine Am (AR (Af (Al (Ac (AO ((i+1:Nat):Int) rfl rfl Ax Ax Ax) (Ad rfl (Be [0,1,103,104,105] rfl (AH ?_)))))))
    refine Af ⟨i+1,⟨⟨rfl,rfl,rfl,rfl,rfl,trivial⟩,?_,h106'⟩,by omega⟩
    rw [h120] at hlo
    rw [hF,EA,if_neg (by rw [hlo]; decide)]
    exact Split.ent' AC
  ·replace hlo:=hlo (l0++[x])
   rw [h115,Bool.false_and] at hlo
   refine AI rfl rfl rfl (AI rfl rfl rfl (AI rfl rfl rfl (AI rfl rfl rfl (Ac (AT rfl rfl) (AE [0,1,14,103,104,105,120] rfl ?_)))))
   refine Ak rfl (fun h120=>by cases h120) (fun h120=>?_)
   refine Am (AR (Af (Al (Ac (AO ((i+1:Nat):Int) rfl rfl Ax Ax Ax) (Ad rfl (Be [0,1,103,104,105] rfl (AH ?_)))))))
   refine Af ⟨i+1,⟨⟨rfl,rfl,rfl,rfl,rfl,trivial⟩,?_,h106'⟩,by omega⟩
   rw [hF,EA,if_neg (by rw [hlo]; decide)]
   exact Split.ent' AC
 ·have h106':=of_decide_eq_false h106
  obtain rfl:i=(Ct dd).length:=by omega
  rw [List.take_length,show (Ct dd).foldl (EA (l0++[x])) dd=IF (l0++[x]) dd from rfl]
  refine AY (AS (AS (AV rfl (Af (A0 (As [8] rfl rfl (Ar ?_)))))))
  refine Aq [xB p q (.slice A41 (l0++[x]).length c41) v94,FSA q (IF (l0++[x]) dd),ro μ4] (.tmp rfl .nil) ⟨μ4,(.slice A41 (l0++[x]).length c41),v94,_,k14,⟨(hrow.le k3).le k4,hrowG.le k4,fun y hy=>?_⟩,?_,hlog,rfl,rfl⟩ AC
  ·rcases List.mem_append.1 hy with hy | hy
   ·exact (hI0.rs y hy).le k14
   ·rw [List.mem_singleton.1 hy]; exact hg.le k14
  ·unfold Gy
   rw [List.map_append]
   exact hxd
structure PSt where
 d:Dk
 s:O8
 dead:Bool
def LG (x:PSt)(e0:Int)(n:Nat)(f:Fm)(s':O8):PSt×Int×Int :=
 if x.dead=true then (x,0,8) else if e0≠0 then (x,0,e0) else if 65536≤n then (x,0,7) else
 if (writeD x.d f).2≠0 then (⟨(writeD x.d f).1,x.s,decide ((writeD x.d f).2=8)⟩,0,(writeD x.d f).2) else (⟨(writeD x.d f).1,s',false⟩,(n:Nat),0)
def addT (x:PSt)(t:List En):PSt×Int×Int:=LG x (Ee t) x.s.1.length (1,EJ t) (x.s.1++[t],x.s.2)
def addC (x:PSt)(c:Cm):PSt×Int×Int:=LG x (if CR c≠0 then CR c else if Fv x.s.1.length x.s.2.length c=false then 9 else 0) x.s.2.length (2,De c) (x.s.1,x.s.2++[c])
section
variable {x:PSt} {e0:Int} {n:Nat} {f:Fm} {s':O8}
theorem OW (h:x.dead=true):LG x e0 n f s'=(x,0,8):=by unfold LG; rw [if_pos h]
theorem NC (h:x.dead=false)(h2:e0≠0):LG x e0 n f s'=(x,0,e0):=by unfold LG; rw [if_neg (by rw [h]; decide),if_pos h2]
theorem OX (h:x.dead=false)(h2:e0=0)(h3:65536≤n):LG x e0 n f s'=(x,0,7):=by unfold LG; rw [if_neg (by rw [h]; decide),if_neg (not_not_intro h2),if_pos h3]
theorem Uo (h:x.dead=false)(h2:e0=0)(h3:n<65536)(h4:(writeD x.d f).2≠0):LG x e0 n f s'=((⟨(writeD x.d f).1,x.s,decide ((writeD x.d f).2=8)⟩:PSt),(0:Int),(writeD x.d f).2):=by unfold LG; rw [if_neg (by rw [h]; decide),if_neg (not_not_intro h2),if_neg Ax,if_pos h4]
theorem M0 (h:x.dead=false)(h2:e0=0)(h3:n<65536)(h4:(writeD x.d f).2=0):LG x e0 n f s'=((⟨(writeD x.d f).1,s',false⟩:PSt),((n:Nat):Int),(0:Int)):=by unfold LG; rw [if_neg (by rw [h]; decide),if_neg (not_not_intro h2),if_neg Ax,if_neg (not_not_intro h4)]
end
def A1X (μ:PH)(W:SW)(y:PSt×Int×Int)(r:Value)(W':SW)(μ':PH):Prop:=Le μ μ'∧W'.Ok μ'∧W'.q=W.q∧W'.pl=y.1.s∧W'.dead=y.1.dead∧r=.tuple #[.int .i64 y.2.1,.int .i64 y.2.2]
theorem OY {t:List En}(h:Ee t=0):t.length≤1024∧EX t=0:=by
 unfold Ee at h
 split at h
 ·cases h
 ·exact ⟨by omega,h⟩
theorem YZ {t:List En}(h:Ee t=0):(EJ t).length≤1048567:=by
 obtain ⟨h1,h2⟩:=OY h
 have:=IZ [] t fun e he=>(Lp h2 e he).1
 unfold EJ
 rw [List.length_append,Br]
 omega
theorem Z0 {c:Cm}(h:CR c=0):(De c).length≤1048567:=by
 obtain ⟨h1,_⟩:=KA h
 unfold De
 simp only [List.length_append,Br,KB]
 omega
theorem SW.Ok.dead{μ:PH}{W:SW}(h:W.Ok μ)(b:Bool):SW.Ok μ { W with dead:=b}:=⟨h.tf,h.cf,h.tr,h.cr,h.tl,h.cl⟩
set_option maxHeartbeats 4000000 in
theorem Qc (μ:PH)(p:Nat)(W:SW)(hW:W.Ok μ)(d:Dk)(hd:d.Ok)(v:Value)(t:List En)(hv:Row μ v 2 t.length (DC t))(hu:Jg t):Spec prog 53 [pv p,v] [FSA W.q d,Cy p W,Df W,Dc W,ro μ]
  (fun r L=>∃ W' μ',A1X μ W (addT ⟨d,W.pl,W.dead⟩ t) r W' μ'∧L=[FSA W'.q (addT ⟨d,W.pl,W.dead⟩ t).1.d,Cy p W',Df W',Dc W',ro μ']):=by
 have hW0:=hW
 obtain ⟨⟨A1,c1,e1⟩,⟨A2,c2,e2⟩,_,_,hT,hC⟩:=hW
 obtain ⟨q,tv,cv,T,C,dead⟩:=W
 dsimp only at e1 e2 hT hC
 subst e1 e2
 have hlen:(SW.pl ⟨q,.slice A1 T.length c1,.slice A2 C.length c2,T,C,dead⟩).1.length=T.length:=List.length_map _
 generalize hy:addT ⟨d,SW.pl ⟨q,.slice A1 T.length c1,.slice A2 C.length c2,T,C,dead⟩,dead⟩ t=y
 refine Spec.of 54 func53 rfl rfl rfl ?_
 refine A0 (AX rfl (As [0,1] rfl rfl (Ae (A0 (Ad rfl ?_)))))
 refine Aw (AA (OS p ⟨q,.slice A1 T.length c1,.slice A2 C.length c2,T,C,dead⟩) rfl rfl AC) ?_
 rintro v10 L1 ⟨rfl,rfl⟩
 refine Aj (As [0,1,6] rfl rfl (A0 (Ad rfl (Ac (Bm rfl rfl) (AE [0,1,6,12] rfl ?_)))))
 refine Ak rfl (fun h12=>?_) (fun h12=>?_)
 ·refine A0 (Ad rfl (AX rfl (As [4,5] rfl rfl (Ar (AN ?_)))))
  have hdd:dead=true:=by
   cases dead with
   | true=>rfl
   | false=>simp at h12
  have ha:(⟨d,SW.pl ⟨q,.slice A1 T.length c1,.slice A2 C.length c2,T,C,dead⟩,dead⟩,0,8)=y:=by rw [← hy]; exact (OW (x:=⟨d,SW.pl ⟨q,.slice A1 T.length c1,.slice A2 C.length c2,T,C,dead⟩,dead⟩) hdd).symm
  subst ha
  exact Aq [FSA q d,Cy p ⟨q,.slice A1 T.length c1,.slice A2 C.length c2,T,C,dead⟩,Df ⟨q,.slice A1 T.length c1,.slice A2 C.length c2,T,C,dead⟩,Dc ⟨q,.slice A1 T.length c1,.slice A2 C.length c2,T,C,dead⟩,ro μ] (.tmp rfl (.tmp rfl .nil)) ⟨⟨q,.slice A1 T.length c1,.slice A2 C.length c2,T,C,dead⟩,μ,⟨Le.refl _,hW0,rfl,rfl,rfl,by rw [if_pos hdd]; rfl⟩,rfl⟩ AC
 ·have hdd:dead=false:=by
   cases dead with
   | true=>simp at h12
   | false=>rfl
  refine Am (Af (A0 (Ad rfl ?_)))
  refine Aw (AA (Vo μ v t hv hu) rfl rfl AC) ?_
  rintro v16 L1 ⟨rfl,rfl⟩
  refine Aj (Ad rfl (Ac (Ai rfl) (Ac (Ai rfl) (AX rfl (As [0,1,7,8] rfl rfl (Ae (A0 (Ad rfl (Ac (Bp rfl rfl) (Ad rfl ?_))))))))))
  refine B7 21 rfl (fun h21=>?_) (fun h21=>?_)
  ·have h21':Ee t=0:=of_decide_eq_true h21
   obtain ⟨hl1,hl2⟩:=OY h21'
   have hev:O7 t=EJ t:=by unfold O7; rw [if_pos h21']
   refine AQ rfl rfl (Ad rfl (AQ rfl rfl (Ac (Ah rfl) (AQ rfl rfl (Ac (Ab rfl) (AQ rfl rfl (AJ (Ag rfl rfl) (AQ rfl rfl (Ac (BI rfl) (AQ rfl rfl (Ac (CA rfl rfl) (Ac (B4 rfl rfl) (AE [0,1,7,8,28] rfl ?_)))))))))))))
   refine Ak rfl (fun h28=>?_) (fun h28=>?_)
   ·have h28':65536≤T.length:=by have:=of_decide_eq_true h28; omega
    refine Al (As [0,1,7,8] rfl rfl (Ae (A0 (Ad rfl (Ac (Bp rfl rfl) (AE [0,1,7,8,30] rfl ?_))))))
    refine Ak rfl (fun h30=>by cases h30) (fun h30=>?_)
    refine Am (Af (Ae (A0 (Ad rfl (Ac (Bm rfl rfl) (AE [0,1,8,35] rfl ?_))))))
    refine Ak rfl (fun h35=>?_) (fun h35=>by cases h35)
    refine A0 (Ad rfl (AX rfl (As [4,5] rfl rfl (Ar (AN ?_)))))
    have ha:(⟨d,SW.pl ⟨q,.slice A1 T.length c1,.slice A2 C.length c2,T,C,dead⟩,dead⟩,0,7)=y:=by rw [← hy]; exact (OX (x:=⟨d,SW.pl ⟨q,.slice A1 T.length c1,.slice A2 C.length c2,T,C,dead⟩,dead⟩) hdd h21' (by first | (show (SW.pl ⟨q,.slice A1 T.length c1,.slice A2 C.length c2,T,C,dead⟩).1.length<65536; rw [hlen]; exact h28') | (show 65536≤(SW.pl ⟨q,.slice A1 T.length c1,.slice A2 C.length c2,T,C,dead⟩).1.length; rw [hlen]; exact h28'))).symm
    subst ha
    exact Aq [FSA q d,Cy p ⟨q,.slice A1 T.length c1,.slice A2 C.length c2,T,C,dead⟩,Df ⟨q,.slice A1 T.length c1,.slice A2 C.length c2,T,C,dead⟩,Dc ⟨q,.slice A1 T.length c1,.slice A2 C.length c2,T,C,dead⟩,ro μ] (.tmp rfl (.tmp rfl .nil)) ⟨⟨q,.slice A1 T.length c1,.slice A2 C.length c2,T,C,dead⟩,μ,⟨Le.refl _,hW0,rfl,rfl,rfl,rfl⟩,rfl⟩ AC
   ·have h28':T.length<65536:=by have:=of_decide_eq_false h28; omega
    refine Am (Af (Ae (A0 (Ad rfl (Ac (Bp rfl rfl) (AE [0,1,7,8,30] rfl ?_))))))
    refine Ak rfl (fun h30=>?_) (fun h30=>by rw [h21'] at h30; cases h30)
    refine Al (Ad rfl (Ad rfl ?_))
    refine Aw (AA (Nr p ⟨q,.slice A1 T.length c1,.slice A2 C.length c2,T,C,dead⟩ d hd (1,O7 t) (by show 0<1; decide) (by show 1<256; decide) (by rw [hev]; exact YZ h21')) rfl rfl AC) ?_
    rintro v33 L1 ⟨rfl,rfl⟩
    rw [hev]
    refine Aj ?_
    dsimp only
    refine As [0,1,8] rfl rfl (Ae (A0 (Ad rfl (Ac (Bm rfl rfl) (AE [0,1,8,35] rfl ?_)))))
    refine Ak rfl (fun h35=>?_) (fun h35=>?_)
    ·refine A0 (Ad rfl (AX rfl (As [4,5] rfl rfl (Ar (AN ?_)))))
     have h35':(writeD d (1,EJ t)).2≠0:=by simpa using h35
     have ha:(⟨(writeD d (1,EJ t)).1,SW.pl ⟨q,.slice A1 T.length c1,.slice A2 C.length c2,T,C,dead⟩,decide ((writeD d (1,EJ t)).2=8)⟩,0,(writeD d (1,EJ t)).2)=y:=by rw [← hy]; exact (Uo (x:=⟨d,SW.pl ⟨q,.slice A1 T.length c1,.slice A2 C.length c2,T,C,dead⟩,dead⟩) hdd h21' (by first | (show (SW.pl ⟨q,.slice A1 T.length c1,.slice A2 C.length c2,T,C,dead⟩).1.length<65536; rw [hlen]; exact h28') | (show 65536≤(SW.pl ⟨q,.slice A1 T.length c1,.slice A2 C.length c2,T,C,dead⟩).1.length; rw [hlen]; exact h28')) h35').symm
     subst ha
     exact Aq [FSA q (writeD d (1,EJ t)).1,Cy p ⟨q,.slice A1 T.length c1,.slice A2 C.length c2,T,C,decide ((writeD d (1,EJ t)).2=8)⟩,Df ⟨q,.slice A1 T.length c1,.slice A2 C.length c2,T,C,dead⟩,Dc ⟨q,.slice A1 T.length c1,.slice A2 C.length c2,T,C,dead⟩,ro μ] (.tmp rfl (.tmp rfl .nil)) ⟨⟨q,.slice A1 T.length c1,.slice A2 C.length c2,T,C,decide ((writeD d (1,EJ t)).2=8)⟩,μ,⟨Le.refl _,SW.Ok.dead hW0 _,rfl,rfl,rfl,rfl⟩,rfl⟩ AC
    ·have h35':(writeD d (1,EJ t)).2=0:=by simpa using h35
     have ha:(⟨(writeD d (1,EJ t)).1,((SW.pl ⟨q,.slice A1 T.length c1,.slice A2 C.length c2,T,C,dead⟩).1++[t],(SW.pl ⟨q,.slice A1 T.length c1,.slice A2 C.length c2,T,C,dead⟩).2),false⟩,((SW.pl ⟨q,.slice A1 T.length c1,.slice A2 C.length c2,T,C,dead⟩).1.length:Int),0)=y:=by rw [← hy]; exact (M0 (x:=⟨d,SW.pl ⟨q,.slice A1 T.length c1,.slice A2 C.length c2,T,C,dead⟩,dead⟩) hdd h21' (by first | (show (SW.pl ⟨q,.slice A1 T.length c1,.slice A2 C.length c2,T,C,dead⟩).1.length<65536; rw [hlen]; exact h28') | (show 65536≤(SW.pl ⟨q,.slice A1 T.length c1,.slice A2 C.length c2,T,C,dead⟩).1.length; rw [hlen]; exact h28')) h35').symm
     have hd8:decide ((writeD d (1,EJ t)).2=8)=false:=by rw [h35']; rfl
     rw [hd8]
     subst ha
     refine Am (Af (Ae ?_))
     refine Ba [4] ([Cy p ⟨q,.slice A1 T.length c1,.slice A2 C.length c2,T,C,false⟩]) ([FSA q (writeD d (1,EJ t)).1,ro μ,Df ⟨q,.slice A1 T.length c1,.slice A2 C.length c2,T,C,dead⟩,Dc ⟨q,.slice A1 T.length c1,.slice A2 C.length c2,T,C,dead⟩]) (Split.ent AC) AK ?_
     refine AD 0 rfl (AG rfl) (AD 1 rfl (AG rfl) (AD 2 rfl (Ah rfl) (AD 3 rfl (Ab rfl) (Bc 4 rfl (Ag rfl rfl) rfl (AD 5 rfl (AG rfl) ?_)))))
     refine CC 6 rfl AK (AA (IB μ v t hv Ax) rfl rfl AC) ?_
     rintro v43 L1 ⟨A3,c3,rfl,rfl⟩
     refine ⟨_,BL (Split.ent AC),?_⟩
     refine CC 7 rfl AK (Bg (qs:=[(0,_)]) rfl rfl rfl) fun b44=>?_
     refine ⟨_,Split.ent AC,?_⟩
     refine BT 8 rfl AK AK (B9 (l:=T.length) (m:=1) rfl rfl AC (by simp only [maxLen]; omega) Ax) ?_
     rintro v45 -
     refine ED (fun m h=>Bz h) fun ⟨A45,c45,hv45⟩=>?_
     subst hv45
     refine AD 9 rfl (Ah rfl) (AD 10 rfl (Ab rfl) (Cj 11 rfl AK AK (AW rfl rfl rfl) (C0 [0] rfl (Bs AK (Af (Ae ?_))))))
     refine BC (μ:=μ) (v:=.slice A3 t.length c3) (e:=111) (n:=2) AC fun μ' hle hrow=>?_
     refine Al (Ad rfl (Ac (Ah rfl) (Ac (Ab rfl) (AJ (Ag rfl rfl) (Ac (BI rfl) (Ac (BY ((T.length:Nat):Int) rfl rfl Ax Ax Ax) (AX rfl (As [4,5] rfl rfl (Ar ?_)))))))))
     refine Aq [FSA q (writeD d (1,EJ t)).1,Cy p ⟨q,.slice A45 (T.length+1) c45,.slice A2 C.length c2,T++[(.slice A3 t.length c3,t)],C,false⟩,own 27 1 (.slice A45 (T.length+1) c45) (T.length+1) (T.flatMap Zy++[.slice A3 t.length c3]),Dc ⟨q,.slice A1 T.length c1,.slice A2 C.length c2,T,C,dead⟩,ro μ'] (.tmp rfl (.tmp rfl .nil)) ⟨⟨q,.slice A45 (T.length+1) c45,.slice A2 C.length c2,T++[(.slice A3 t.length c3,t)],C,false⟩,μ',⟨hle,SW.Ok.dead (Ok.addT hW0 hle hrow h28') false,rfl,?_,rfl,?_⟩,?_⟩ AC
     ·unfold SW.pl; rw [List.map_append]; rfl
     ·rw [hlen]; rfl
     ·simp only [Df,List.length_append,List.length_singleton,List.flatMap_append]; rfl
  ·have h21':Ee t≠0:=of_decide_eq_false h21
   refine AI rfl rfl rfl (AI rfl rfl rfl (AI rfl rfl rfl (AI rfl rfl rfl (AI rfl rfl rfl (AI rfl rfl rfl (Ac (AT rfl rfl) (AE [0,1,7,8,28] rfl ?_)))))))
   refine Ak rfl (fun h28=>by cases h28) (fun h28=>?_)
   refine Am (Af (Ae (A0 (Ad rfl (Ac (Bp rfl rfl) (AE [0,1,7,8,30] rfl ?_))))))
   refine Ak rfl (fun h30=>by exact absurd (of_decide_eq_true h30) h21') (fun h30=>?_)
   refine Am (Af (Ae (A0 (Ad rfl (Ac (Bm rfl rfl) (AE [0,1,8,35] rfl ?_))))))
   refine Ak rfl (fun h35=>?_) (fun h35=>by rw [decide_eq_false h21'] at h35; cases h35)
   refine A0 (Ad rfl (AX rfl (As [4,5] rfl rfl (Ar (AN ?_)))))
   have ha:(⟨d,SW.pl ⟨q,.slice A1 T.length c1,.slice A2 C.length c2,T,C,dead⟩,dead⟩,0,Ee t)=y:=by rw [← hy]; exact (NC (x:=⟨d,SW.pl ⟨q,.slice A1 T.length c1,.slice A2 C.length c2,T,C,dead⟩,dead⟩) hdd h21').symm
   subst ha
   exact Aq [FSA q d,Cy p ⟨q,.slice A1 T.length c1,.slice A2 C.length c2,T,C,dead⟩,Df ⟨q,.slice A1 T.length c1,.slice A2 C.length c2,T,C,dead⟩,Dc ⟨q,.slice A1 T.length c1,.slice A2 C.length c2,T,C,dead⟩,ro μ] (.tmp rfl (.tmp rfl .nil)) ⟨⟨q,.slice A1 T.length c1,.slice A2 C.length c2,T,C,dead⟩,μ,⟨Le.refl _,hW0,rfl,rfl,rfl,rfl⟩,rfl⟩ AC
theorem Up {c:Cm}(h:CR c=0):QO c=De c:=by unfold QO; rw [if_pos h]
set_option maxHeartbeats 4000000 in
theorem ND (μ:PH)(p:Nat)(W:SW)(hW:W.Ok μ)(d:Dk)(hd:d.Ok)(v:Value)(c:Cm)(hv:Row μ v 1 c.1.length (c.1.flatMap (Bj .i64))):Spec prog 56 [pv p,cmV v c.2] [FSA W.q d,Cy p W,Df W,Dc W,ro μ]
  (fun r L=>∃ W' μ',A1X μ W (addC ⟨d,W.pl,W.dead⟩ c) r W' μ'∧L=[FSA W'.q (addC ⟨d,W.pl,W.dead⟩ c).1.d,Cy p W',Df W',Dc W',ro μ']):=by
 have hW0:=hW
 obtain ⟨⟨A1,c1,e1⟩,⟨A2,c2,e2⟩,_,_,hT,hC⟩:=hW
 obtain ⟨A5,c5,rfl⟩:=hv.sl
 obtain ⟨q,tv,cv,T,C,dead⟩:=W
 dsimp only at e1 e2 hT hC
 subst e1 e2
 have hlen:(SW.pl ⟨q,.slice A1 T.length c1,.slice A2 C.length c2,T,C,dead⟩).1.length=T.length:=List.length_map _
 have hlen2:(SW.pl ⟨q,.slice A1 T.length c1,.slice A2 C.length c2,T,C,dead⟩).2.length=C.length:=List.length_map _
 generalize hy:addC ⟨d,SW.pl ⟨q,.slice A1 T.length c1,.slice A2 C.length c2,T,C,dead⟩,dead⟩ c=y
 unfold addC at hy
 dsimp only at hy
 rw [hlen,hlen2] at hy
 refine Spec.of 61 func56 rfl rfl rfl ?_
 refine A0 (Aw (Bi rfl rfl) (fun b3=>?_))
 refine AX rfl (As [0,3] rfl rfl (Ae (A0 (Ad rfl ?_))))
 refine Aw (AA (OS p ⟨q,.slice A1 T.length c1,.slice A2 C.length c2,T,C,dead⟩) rfl rfl AC) ?_
 rintro v10 L1 ⟨rfl,rfl⟩
 refine Aj (As [0,3,6] rfl rfl (A0 (Ad rfl (Ac (Bm rfl rfl) (AE [0,3,6,12] rfl ?_)))))
 refine Ak rfl (fun h12=>?_) (fun h12=>?_)
 ·refine A0 (Ad rfl (AX rfl (As [4,5] rfl rfl (Ar (AN ?_)))))
  have hdd:dead=true:=by
   cases dead with
   | true=>rfl
   | false=>simp at h12
  have ha:(⟨d,SW.pl ⟨q,.slice A1 T.length c1,.slice A2 C.length c2,T,C,dead⟩,dead⟩,0,8)=y:=by rw [← hy]; exact (OW (x:=⟨d,SW.pl ⟨q,.slice A1 T.length c1,.slice A2 C.length c2,T,C,dead⟩,dead⟩) hdd).symm
  subst ha
  exact Aq [FSA q d,Cy p ⟨q,.slice A1 T.length c1,.slice A2 C.length c2,T,C,dead⟩,Df ⟨q,.slice A1 T.length c1,.slice A2 C.length c2,T,C,dead⟩,Dc ⟨q,.slice A1 T.length c1,.slice A2 C.length c2,T,C,dead⟩,ro μ] (.tmp rfl (.tmp rfl .nil)) ⟨⟨q,.slice A1 T.length c1,.slice A2 C.length c2,T,C,dead⟩,μ,⟨Le.refl _,hW0,rfl,rfl,rfl,by rw [if_pos hdd]; rfl⟩,rfl⟩ AC
 ·have hdd:dead=false:=by
   cases dead with
   | true=>simp at h12
   | false=>rfl
  refine Am (Af (A0 (AJ (BP rfl rfl) ?_)))
  refine Aw (AA (Vv μ (.slice A5 c.1.length c5) c hv) rfl rfl AC) ?_
  rintro v16 L1 ⟨rfl,rfl⟩
  refine Aj (Ad rfl (Ac (Ai rfl) (Ac (Ai rfl) (AX rfl (As [0,3,7,8] rfl rfl (Ae (Au (A0 (Ad rfl (Ac (Bm rfl rfl) (As [0,3,7,8,22] rfl rfl ?_)))))))))))
  refine Ak rfl (fun h22=>?_) (fun h22=>?_)
  ·have h22':CR c≠0:=by simpa using h22
   rw [if_pos h22'] at hy
   refine Am (AR (Af (Ae (A0 (Ad rfl (Ac (Bm rfl rfl) (AE [0,3,8,38] rfl ?_)))))))
   refine Ak rfl (fun h38=>?_) (fun h38=>by rw [decide_eq_false h22'] at h38; cases h38)
   refine A0 (Ad rfl (AX rfl (As [4,5] rfl rfl (Ar (AN ?_)))))
   have ha:(⟨d,SW.pl ⟨q,.slice A1 T.length c1,.slice A2 C.length c2,T,C,dead⟩,dead⟩,0,CR c)=y:=by rw [← hy]; exact (NC (x:=⟨d,SW.pl ⟨q,.slice A1 T.length c1,.slice A2 C.length c2,T,C,dead⟩,dead⟩) hdd h22').symm
   subst ha
   exact Aq [FSA q d,Cy p ⟨q,.slice A1 T.length c1,.slice A2 C.length c2,T,C,dead⟩,Df ⟨q,.slice A1 T.length c1,.slice A2 C.length c2,T,C,dead⟩,Dc ⟨q,.slice A1 T.length c1,.slice A2 C.length c2,T,C,dead⟩,ro μ] (.tmp rfl (.tmp rfl .nil)) ⟨⟨q,.slice A1 T.length c1,.slice A2 C.length c2,T,C,dead⟩,μ,⟨Le.refl _,hW0,rfl,rfl,rfl,rfl⟩,rfl⟩ AC
  ·have h22':CR c=0:=by simpa using h22
   rw [if_neg (not_not_intro h22')] at hy
   refine A0 (Ad rfl (AJ (BP rfl rfl) ?_))
   refine Aw (AA (Nc μ p ⟨q,.slice A1 T.length c1,.slice A2 C.length c2,T,C,dead⟩ hW0 (.slice A5 c.1.length c5) c hv) rfl rfl AC) ?_
   rintro v28 L1 ⟨rfl,rfl⟩
   refine Aj (Ac (BO rfl) (As [0,3,7,25] rfl rfl ?_))
   refine Ak rfl (fun h25=>?_) (fun h25=>?_)
   ·have h25':Fv T.length C.length c=false:=by simpa using h25
    rw [if_pos h25'] at hy
    refine Al (AX rfl (Be [0,3,8] rfl (AH (AR (Af (Ae (A0 (Ad rfl (Ac (Bm rfl rfl) (AE [0,3,8,38] rfl ?_))))))))))
    refine Ak rfl (fun h38=>?_) (fun h38=>by cases h38)
    refine A0 (Ad rfl (AX rfl (As [4,5] rfl rfl (Ar (AN ?_)))))
    have ha:(⟨d,SW.pl ⟨q,.slice A1 T.length c1,.slice A2 C.length c2,T,C,dead⟩,dead⟩,0,9)=y:=by rw [← hy]; exact (NC (x:=⟨d,SW.pl ⟨q,.slice A1 T.length c1,.slice A2 C.length c2,T,C,dead⟩,dead⟩) hdd (by decide)).symm
    subst ha
    exact Aq [FSA q d,Cy p ⟨q,.slice A1 T.length c1,.slice A2 C.length c2,T,C,dead⟩,Df ⟨q,.slice A1 T.length c1,.slice A2 C.length c2,T,C,dead⟩,Dc ⟨q,.slice A1 T.length c1,.slice A2 C.length c2,T,C,dead⟩,ro μ] (.tmp rfl (.tmp rfl .nil)) ⟨⟨q,.slice A1 T.length c1,.slice A2 C.length c2,T,C,dead⟩,μ,⟨Le.refl _,hW0,rfl,rfl,rfl,rfl⟩,rfl⟩ AC
   ·have h25':Fv T.length C.length c=true:=by simpa using h25
    rw [if_neg (by rw [h25']; decide)] at hy
    refine A0 (Ad rfl (Ac (Ah rfl) (Ac (Ab rfl) (AJ (Ag rfl rfl) (Ac (BI rfl) (Ac (CA rfl rfl) (As [0,3,7,30] rfl rfl ?_)))))))
    refine Ak rfl (fun h30=>?_) (fun h30=>?_)
    ·have h30':65536≤C.length:=by have:=of_decide_eq_true h30; omega
     refine Al (AX rfl (Be [0,3,8] rfl (AH (AR (Af (Ae (A0 (Ad rfl (Ac (Bm rfl rfl) (AE [0,3,8,38] rfl ?_))))))))))
     refine Ak rfl (fun h38=>?_) (fun h38=>by cases h38)
     refine A0 (Ad rfl (AX rfl (As [4,5] rfl rfl (Ar (AN ?_)))))
     have ha:(⟨d,SW.pl ⟨q,.slice A1 T.length c1,.slice A2 C.length c2,T,C,dead⟩,dead⟩,0,7)=y:=by rw [← hy]; exact (OX (x:=⟨d,SW.pl ⟨q,.slice A1 T.length c1,.slice A2 C.length c2,T,C,dead⟩,dead⟩) hdd rfl h30').symm
     subst ha
     exact Aq [FSA q d,Cy p ⟨q,.slice A1 T.length c1,.slice A2 C.length c2,T,C,dead⟩,Df ⟨q,.slice A1 T.length c1,.slice A2 C.length c2,T,C,dead⟩,Dc ⟨q,.slice A1 T.length c1,.slice A2 C.length c2,T,C,dead⟩,ro μ] (.tmp rfl (.tmp rfl .nil)) ⟨⟨q,.slice A1 T.length c1,.slice A2 C.length c2,T,C,dead⟩,μ,⟨Le.refl _,hW0,rfl,rfl,rfl,rfl⟩,rfl⟩ AC
    ·have h30':C.length<65536:=by have:=of_decide_eq_false h30; omega
     have hbl:=(KA h22').1
     refine Al (Ad rfl (Ad rfl ?_))
     refine Aw (AA (Nr p ⟨q,.slice A1 T.length c1,.slice A2 C.length c2,T,C,dead⟩ d hd (2,QO c) (by show 0<2; decide) (by show 2<256; decide) (by rw [Up h22']; exact Z0 h22')) rfl rfl AC) ?_
     rintro v21 L1 ⟨rfl,rfl⟩
     rw [Up h22']
     refine Aj ?_
     dsimp only
     refine AX rfl (Be [0,3,8] rfl (AH (AR (Af (Ae (A0 (Ad rfl (Ac (Bm rfl rfl) (AE [0,3,8,38] rfl ?_)))))))))
     refine Ak rfl (fun h38=>?_) (fun h38=>?_)
     ·refine A0 (Ad rfl (AX rfl (As [4,5] rfl rfl (Ar (AN ?_)))))
      have h38':(writeD d (2,De c)).2≠0:=by simpa using h38
      have ha:(⟨(writeD d (2,De c)).1,SW.pl ⟨q,.slice A1 T.length c1,.slice A2 C.length c2,T,C,dead⟩,decide ((writeD d (2,De c)).2=8)⟩,0,(writeD d (2,De c)).2)=y:=by rw [← hy]; exact (Uo (x:=⟨d,SW.pl ⟨q,.slice A1 T.length c1,.slice A2 C.length c2,T,C,dead⟩,dead⟩) hdd rfl h30' h38').symm
      subst ha
      exact Aq [FSA q (writeD d (2,De c)).1,Cy p ⟨q,.slice A1 T.length c1,.slice A2 C.length c2,T,C,decide ((writeD d (2,De c)).2=8)⟩,Df ⟨q,.slice A1 T.length c1,.slice A2 C.length c2,T,C,dead⟩,Dc ⟨q,.slice A1 T.length c1,.slice A2 C.length c2,T,C,dead⟩,ro μ] (.tmp rfl (.tmp rfl .nil)) ⟨⟨q,.slice A1 T.length c1,.slice A2 C.length c2,T,C,decide ((writeD d (2,De c)).2=8)⟩,μ,⟨Le.refl _,SW.Ok.dead hW0 _,rfl,rfl,rfl,rfl⟩,rfl⟩ AC
     ·have h38':(writeD d (2,De c)).2=0:=by simpa using h38
      have ha:(⟨(writeD d (2,De c)).1,((SW.pl ⟨q,.slice A1 T.length c1,.slice A2 C.length c2,T,C,dead⟩).1,(SW.pl ⟨q,.slice A1 T.length c1,.slice A2 C.length c2,T,C,dead⟩).2++[c]),false⟩,((C.length:Nat):Int),0)=y:=by rw [← hy]; exact (M0 (x:=⟨d,SW.pl ⟨q,.slice A1 T.length c1,.slice A2 C.length c2,T,C,dead⟩,dead⟩) hdd rfl h30' h38').symm
      have hd8:decide ((writeD d (2,De c)).2=8)=false:=by rw [h38']; rfl
      rw [hd8]
      subst ha
      refine Am (Af (Ae ?_))
      refine Ba [4,6,9] ([Cy p ⟨q,.slice A1 T.length c1,.slice A2 C.length c2,T,C,false⟩,B1 b3 88 [.slice A5 c.1.length c5,.int .i64 c.2]]) ([FSA q (writeD d (2,De c)).1,ro μ,Df ⟨q,.slice A1 T.length c1,.slice A2 C.length c2,T,C,dead⟩,Dc ⟨q,.slice A1 T.length c1,.slice A2 C.length c2,T,C,dead⟩]) (Split.ent AC) AK ?_
      refine AD 0 rfl (AG rfl) (AD 1 rfl (AG rfl) (AD 2 rfl (Ah rfl) (AD 3 rfl (Ab rfl) (Bc 4 rfl (Ag rfl rfl) rfl (AD 5 rfl (Ab rfl) (Bc 6 rfl (Ag rfl rfl) rfl (AD 8 rfl (Ab rfl) (Bc 9 rfl (Ag rfl rfl) rfl ?_))))))))
      refine CC 7 rfl AK (AA (FQ μ (.slice A5 c.1.length c5) c.1 hv Ax) rfl rfl AC) ?_
      rintro v47 L1 ⟨A3,c3,rfl,rfl⟩
      refine ⟨_,BL (Split.ent AC),?_⟩
      refine AD 10 rfl (Bo (qs:=[(0,_),(1,_)]) rfl) (CC 11 rfl AK (Bg (qs:=[(0,_)]) rfl rfl rfl) (fun b51=>?_))
      refine ⟨_,Split.ent AC,?_⟩
      refine BT 12 rfl AK AK (B9 (l:=C.length) (m:=1) rfl rfl AC (by simp only [maxLen]; omega) Ax) ?_
      rintro v52 -
      refine ED (fun m h=>Bz h) fun ⟨A45,c45,hv45⟩=>?_
      subst hv45
      refine AD 13 rfl (Ah rfl) (AD 14 rfl (Ab rfl) (Cj 15 rfl AK AK (AW rfl rfl rfl) (C0 [0] rfl (Bs AK (Af (Ae ?_))))))
      refine BC (μ:=μ) (v:=.slice A3 c.1.length c3) (e:=3) (n:=1) AC fun μ' hle hrow=>?_
      refine Al (Ad rfl (Ac (Ah rfl) (Ac (Ab rfl) (AJ (Ag rfl rfl) (Ac (BI rfl) (Ac (BY ((C.length:Nat):Int) rfl rfl Ax Ax Ax) (AX rfl (As [4,5] rfl rfl (Ar ?_)))))))))
      refine Aq [FSA q (writeD d (2,De c)).1,Cy p ⟨q,.slice A1 T.length c1,.slice A45 (C.length+1) c45,T,C++[(.slice A3 c.1.length c3,c)],false⟩,Df ⟨q,.slice A1 T.length c1,.slice A2 C.length c2,T,C,dead⟩,own 88 2 (.slice A45 (C.length+1) c45) (C.length+1) (C.flatMap Yw++[.slice A3 c.1.length c3,.int .i64 c.2]),ro μ'] (.tmp rfl (.tmp rfl .nil)) ⟨⟨q,.slice A1 T.length c1,.slice A45 (C.length+1) c45,T,C++[(.slice A3 c.1.length c3,c)],false⟩,μ',⟨hle,SW.Ok.dead (Ok.addC hW0 hle hrow h30') false,rfl,?_,rfl,rfl⟩,?_⟩ AC
      ·unfold SW.pl; rw [List.map_append]; rfl
      ·simp only [Dc,List.length_append,List.length_singleton,List.flatMap_append]; rfl
def HV (ts:List (List En))(n:Int):List En×Int:=if 0≤n then match ts[n.toNat]? with | some t=>(t,0) | none=>([],9) else ([],9)
def Jw (cs:List Cm)(n:Int):Cm×Int:=if 0≤n then match cs[n.toNat]? with | some c=>(c,0) | none=>(([],0),9) else (([],0),9)
theorem OZ {ts:List (List En)}{n:Int}(h:n<0∨(ts.length:Int)≤n):HV ts n=([],9):=by
 unfold HV
 split
 ·rw [List.getElem?_eq_none Ax]
 ·rfl
theorem Rs {cs:List Cm}{n:Int}(h:n<0∨(cs.length:Int)≤n):Jw cs n=(([],0),9):=by
 unfold Jw
 split
 ·rw [List.getElem?_eq_none Ax]
 ·rfl
theorem P0 {ts:List (List En)}{k:Nat}{t:List En}(h:ts[k]? = some t):HV ts (k:Nat)=(t,0):=by
 unfold HV
 rw [if_pos (Int.natCast_nonneg k),Int.toNat_natCast,h]
theorem Kk {cs:List Cm}{k:Nat}{c:Cm}(h:cs[k]? = some c):Jw cs (k:Nat)=(c,0):=by
 unfold Jw
 rw [if_pos (Int.natCast_nonneg k),Int.toNat_natCast,h]
theorem Fy (p:Nat)(W:SW)(μ:PH)(hW:W.Ok μ):Spec prog 43 [pv p] [Cy p W] (fun r L=>r=.int .i64 (W.C.length:Nat)∧L=[Cy p W]):=by
 obtain ⟨⟨A1,c1,e1⟩,⟨A2,c2,e2⟩,_,_,hT,hC⟩:=hW
 obtain ⟨q,tv,cv,T,C,dead⟩:=W
 dsimp only at e1 e2 hT hC
 subst e1 e2
 refine Spec.of 10 func43 rfl rfl rfl ?_
 refine A0 (As [0] rfl rfl (Ae (A0 (Ad rfl (Ac (Bd rfl rfl) (AE [0,4] rfl (Dz rfl (Am (Af (A0 (Ad rfl (Ac (Ah rfl) (Ac (Ab rfl) (AJ (Ag rfl rfl) (Ac (BI rfl) (As [2] rfl rfl (Ar ?_)))))))))))))))))
 exact Aq [Cy p ⟨q,.slice A1 T.length c1,.slice A2 C.length c2,T,C,dead⟩] (.tmp rfl .nil) ⟨rfl,rfl⟩ AC
theorem A0k{T:List (Value×List En)}{k:Nat}{x:Value×List En}(h:T[k]? = some x):(T.flatMap Zy)[k*1]? = some x.1:=by
 have:=C1 (f:=Zy) (k:=1) (fun x=>(rfl:(Zy x).length=1)) T [] k x h 0 x.1 rfl
 rwa [List.append_nil,Nat.add_zero] at this
theorem A0l{C:List (Value×Cm)}{k:Nat}{x:Value×Cm}(h:C[k]? = some x):(C.flatMap Yw)[k*2]? = some x.1∧(C.flatMap Yw)[k*2+1]? = some (.int .i64 x.2.2):=by
 have h0:=C1 (f:=Yw) (k:=2) (fun x=>(rfl:(Yw x).length=2)) C [] k x h 0 x.1 rfl
 have h1:=C1 (f:=Yw) (k:=2) (fun x=>(rfl:(Yw x).length=2)) C [] k x h 1 (.int .i64 x.2.2) rfl
 rw [List.append_nil] at h0 h1
 exact ⟨h0,h1⟩
set_option maxHeartbeats 2000000 in
theorem WB (p:Nat)(W:SW)(μ:PH)(hW:W.Ok μ)(hlt:∀ x∈W.T,x.2.length≤1048576)(n:Int):Spec prog 226 [pv p,.int .i64 n] [Cy p W,Df W,ro μ] (fun r L=>∃ A c,r=.tuple #[.slice A (HV W.pl.1 n).1.length c,.int .i64 (HV W.pl.1 n).2]∧L=[own 111 2 (.slice A (HV W.pl.1 n).1.length c) (HV W.pl.1 n).1.length (DC (HV W.pl.1 n).1),Cy p W,Df W,ro μ]):=by
 have hW0:=hW
 obtain ⟨⟨A1,c1,e1⟩,⟨A2,c2,e2⟩,htr,hcr,hT,hC⟩:=hW
 obtain ⟨q,tv,cv,T,C,dead⟩:=W
 dsimp only at e1 e2 htr hcr hT hC hlt
 subst e1 e2
 have hlen:(SW.pl ⟨q,.slice A1 T.length c1,.slice A2 C.length c2,T,C,dead⟩).1.length=T.length:=List.length_map _
 refine Spec.of 29 func226 rfl rfl rfl ?_
 refine A0 (AX rfl (As [0,1] rfl rfl (Ae (Au (A0 (Ad rfl (Ac (Bd rfl rfl) (As [0,1,6] rfl rfl (Dz rfl (A0 (Ad rfl (Ac (Bb rfl rfl) (Ad rfl ?_)))))))))))))
 refine B7 12 rfl (fun h12=>?_) (fun h12=>?_)
 ·have h12':n<0:=of_decide_eq_true h12
  rw [OZ (.inl h12')]
  refine AI rfl rfl rfl (AI rfl rfl rfl (AI rfl rfl rfl (AI rfl rfl rfl (AI rfl rfl rfl (AI rfl rfl rfl (AI rfl rfl rfl (Ac (B4 rfl rfl) (As [0,1,9] rfl rfl ?_))))))))
  refine Ak rfl (fun h9=>?_) (fun h9=>by cases h9)
  refine A0 (AX rfl (As [4,5] rfl rfl (Ar (B6 (AN ?_)))))
  exact B8 [own 111 2 (.slice none 0 0) 0 [],Cy p ⟨q,.slice A1 T.length c1,.slice A2 C.length c2,T,C,dead⟩,Df ⟨q,.slice A1 T.length c1,.slice A2 C.length c2,T,C,dead⟩,ro μ] (.tmp rfl (.tmp rfl .nil)) ⟨none,0,rfl,rfl⟩ own_nil_ent
 ·have h12':0≤n:=by have:=of_decide_eq_false h12; omega
  refine AQ rfl rfl (Ad rfl (AQ rfl rfl (Ad rfl (AQ rfl rfl (Ac (Ah rfl) (AQ rfl rfl (Ac (Ab rfl) (AQ rfl rfl (AJ (Ag rfl rfl) (AQ rfl rfl (Ac (BI rfl) (AQ rfl rfl (Ac (CA rfl rfl) (Ac (AT rfl rfl) (As [0,1,9] rfl rfl ?_)))))))))))))))
  refine Ak rfl (fun h9=>?_) (fun h9=>?_)
  ·refine A0 (AX rfl (As [4,5] rfl rfl (Ar (B6 (AN ?_)))))
   have h9':(T.length:Int)≤n:=of_decide_eq_true h9
   rw [OZ (.inr (by rw [hlen]; exact h9'))]
   exact B8 [own 111 2 (.slice none 0 0) 0 [],Cy p ⟨q,.slice A1 T.length c1,.slice A2 C.length c2,T,C,dead⟩,Df ⟨q,.slice A1 T.length c1,.slice A2 C.length c2,T,C,dead⟩,ro μ] (.tmp rfl (.tmp rfl .nil)) ⟨none,0,rfl,rfl⟩ own_nil_ent
  ·have h9':¬ (T.length:Int)≤n:=of_decide_eq_false h9
   obtain ⟨k,rfl⟩:∃ k:Nat,n=(k:Int):=⟨n.toNat,by omega⟩
   have hk:k<T.length:=by omega
   obtain ⟨x,hx⟩:∃ x,T[k]? = some x:=⟨_,List.getElem?_eq_getElem hk⟩
   have hxt:(SW.pl ⟨q,.slice A1 T.length c1,.slice A2 C.length c2,T,C,dead⟩).1[k]? = some x.2:=by show (T.map (·.2))[k]? = _; rw [List.getElem?_map,hx]; rfl
   rw [P0 hxt]
   have hxm:=List.mem_of_getElem? hx
   have hxr:=htr x hxm
   refine CG (fun m h=>Ku (e:=27) (n:=1) (v:=.slice A1 T.length c1) (l:=T.length) (xs:=T.flatMap Zy) K3 h) fun hs=>?_
   obtain ⟨b,rfl⟩:∃ b,A1=some ⟨b,0,none⟩:=by
    rcases hs with ⟨_,h⟩ | ⟨b,cap,h,_⟩
    ·omega
    ·injection h with h1; exact ⟨b,h1⟩
   refine Am (AR (Af (A0 (Ad rfl (Ac (Ah rfl) (Ac (Ab rfl) (AJ (Ag rfl rfl) (Ad rfl ?_))))))))
   refine Ac (AB (0+k*1) rfl rfl Ax Ax (by rw [Int.toNat_natCast])) ?_
   refine AJ (Dt rfl (by rw [Nat.zero_add]; exact ZO (e:=27) (n:=1) K3 (A0k hx))) ?_
   refine Aw (AA (IB μ x.1 x.2 hxr (hlt x hxm)) rfl rfl AC) ?_
   rintro v28 L1 ⟨A3,c3,rfl,rfl⟩
   refine Aj (AX rfl (As [4,5] rfl rfl (Ar ?_)))
   exact Aq [own 111 2 (.slice A3 x.2.length c3) x.2.length (DC x.2),Cy p ⟨q,.slice (some ⟨b,0,none⟩) T.length c1,.slice A2 C.length c2,T,C,dead⟩,Df ⟨q,.slice (some ⟨b,0,none⟩) T.length c1,.slice A2 C.length c2,T,C,dead⟩,ro μ] (.tmp rfl (.tmp rfl .nil)) ⟨A3,c3,rfl,rfl⟩ AC
theorem A0m{C:List (Value×Cm)}{k:Nat}{x:Value×Cm}(h:C[k]? = some x):∀ j v,[x.1,.int .i64 x.2.2][j]? = some v→(C.flatMap Yw)[0+k*2+j]? = some v:=fun j v hv=>by
 obtain ⟨h0,h1⟩:=A0l h
 rw [Nat.zero_add]
 match j,hv with
 | 0,hv=>cases hv; exact h0
 | 1,hv=>cases hv; exact h1
 | j+2,hv=>cases hv
set_option maxHeartbeats 2000000 in
theorem IG (p:Nat)(W:SW)(μ:PH)(hW:W.Ok μ)(hlt:∀ x∈W.C,x.2.1.length≤1048576)(n:Int):Spec prog 297 [pv p,.int .i64 n] [Cy p W,Dc W,ro μ] (fun r L=>∃ A c,r=.tuple #[cmV (.slice A (Jw W.pl.2 n).1.1.length c) (Jw W.pl.2 n).1.2,.int .i64 (Jw W.pl.2 n).2]∧L=[own 3 1 (.slice A (Jw W.pl.2 n).1.1.length c) (Jw W.pl.2 n).1.1.length ((Jw W.pl.2 n).1.1.flatMap (Bj .i64)),Cy p W,Dc W,ro μ]):=by
 have hW0:=hW
 obtain ⟨⟨A1,c1,e1⟩,⟨A2,c2,e2⟩,htr,hcr,hT,hC⟩:=hW
 obtain ⟨q,tv,cv,T,C,dead⟩:=W
 dsimp only at e1 e2 htr hcr hT hC hlt
 subst e1 e2
 have hlen:(SW.pl ⟨q,.slice A1 T.length c1,.slice A2 C.length c2,T,C,dead⟩).2.length=C.length:=List.length_map _
 refine Spec.of 37 func297 rfl rfl rfl ?_
 refine A0 (Aw (AZ) (fun b4=>?_))
 refine As [0,1,4] rfl rfl (Ae (Au (A0 (Ad rfl (Ac (Bd rfl rfl) (As [0,1,4,7] rfl rfl (Dz rfl (A0 (Ad rfl (Ac (Bb rfl rfl) (Ad rfl ?_)))))))))))
 refine B7 14 rfl (fun h14=>?_) (fun h14=>?_)
 ·have h12':n<0:=of_decide_eq_true h14
  rw [Rs (.inl h12')]
  refine AI rfl rfl rfl (AI rfl rfl rfl (AI rfl rfl rfl (AI rfl rfl rfl (AI rfl rfl rfl (AI rfl rfl rfl (AI rfl rfl rfl (Ac (B4 rfl rfl) (As [0,1,4,11] rfl rfl ?_))))))))
  refine Ak rfl (fun h11=>?_) (fun h11=>by cases h11)
  refine A0 (Ac (Bo (qs:=[]) rfl) (B5 (AU rfl rfl rfl rfl) (As [4,5] rfl rfl (Ar (B6 (AN ?_))))))
  exact B8 [own 3 1 (.slice none 0 0) 0 [],Cy p ⟨q,.slice A1 T.length c1,.slice A2 C.length c2,T,C,dead⟩,Dc ⟨q,.slice A1 T.length c1,.slice A2 C.length c2,T,C,dead⟩,ro μ] (.cell rfl (Bn rfl) (.tmp rfl .nil)) ⟨none,0,rfl,rfl⟩ ((Split.ent' (K:=[Cy p ⟨q,.slice A1 T.length c1,.slice A2 C.length c2,T,C,dead⟩,Dc ⟨q,.slice A1 T.length c1,.slice A2 C.length c2,T,C,dead⟩,ro μ]) AC).trans own_nil_ent)
 ·have h12':0≤n:=by have:=of_decide_eq_false h14; omega
  refine AQ rfl rfl (Ad rfl (AQ rfl rfl (Ad rfl (AQ rfl rfl (Ac (Ah rfl) (AQ rfl rfl (Ac (Ab rfl) (AQ rfl rfl (AJ (Ag rfl rfl) (AQ rfl rfl (Ac (BI rfl) (AQ rfl rfl (Ac (CA rfl rfl) (Ac (AT rfl rfl) (As [0,1,4,11] rfl rfl ?_)))))))))))))))
  refine Ak rfl (fun h11=>?_) (fun h11=>?_)
  ·refine A0 (Ac (Bo (qs:=[]) rfl) (B5 (AU rfl rfl rfl rfl) (As [4,5] rfl rfl (Ar (B6 (AN ?_))))))
   have h9':(C.length:Int)≤n:=of_decide_eq_true h11
   rw [Rs (.inr (by rw [hlen]; exact h9'))]
   exact B8 [own 3 1 (.slice none 0 0) 0 [],Cy p ⟨q,.slice A1 T.length c1,.slice A2 C.length c2,T,C,dead⟩,Dc ⟨q,.slice A1 T.length c1,.slice A2 C.length c2,T,C,dead⟩,ro μ] (.cell rfl (Bn rfl) (.tmp rfl .nil)) ⟨none,0,rfl,rfl⟩ ((Split.ent' (K:=[Cy p ⟨q,.slice A1 T.length c1,.slice A2 C.length c2,T,C,dead⟩,Dc ⟨q,.slice A1 T.length c1,.slice A2 C.length c2,T,C,dead⟩,ro μ]) AC).trans own_nil_ent)
  ·have h9':¬ (C.length:Int)≤n:=of_decide_eq_false h11
   obtain ⟨k,rfl⟩:∃ k:Nat,n=(k:Int):=⟨n.toNat,by omega⟩
   have hk:k<C.length:=by omega
   obtain ⟨x,hx⟩:∃ x,C[k]? = some x:=⟨_,List.getElem?_eq_getElem hk⟩
   have hxt:(SW.pl ⟨q,.slice A1 T.length c1,.slice A2 C.length c2,T,C,dead⟩).2[k]? = some x.2:=by show (C.map (·.2))[k]? = _; rw [List.getElem?_map,hx]; rfl
   rw [Kk hxt]
   have hxm:=List.mem_of_getElem? hx
   have hxr:=hcr x hxm
   obtain ⟨A6,c6,hx1⟩:=hxr.sl
   have hrow:=A0m hx
   rw [hx1] at hrow hxr
   refine CG (fun m h=>Ku (e:=88) (n:=2) (v:=.slice A2 C.length c2) (l:=C.length) (xs:=C.flatMap Yw) K3 h) fun hs=>?_
   obtain ⟨b,rfl⟩:∃ b,A2=some ⟨b,0,none⟩:=by
    rcases hs with ⟨_,h⟩ | ⟨b,cap,h,_⟩
    ·omega
    ·injection h with h1; exact ⟨b,h1⟩
   refine Am (AR (Af (A0 (Ad rfl (Ac (Ah rfl) (Ac (Ab rfl) (AJ (Ag rfl rfl) (Ad rfl ?_))))))))
   refine Ac (AB (0+k*2) rfl rfl Ax Ax (by rw [Int.toNat_natCast])) ?_
   refine AJ (Dt rfl (U2 (e:=88) (n:=2) (vs:=[.slice A6 x.2.1.length c6,.int .i64 x.2.2]) K3 rfl hrow)) ?_
   refine Aw (AZ) fun b6=>?_
   refine B5 (AU rfl rfl rfl rfl) (AE [4,6] rfl (Ae ?_))
   refine Ba [1,4] ([B1 b6 88 [.slice A6 x.2.1.length c6,.int .i64 x.2.2]]) ([B1 b4 88 [.slice none 0 0,.int .i64 0],Cy p ⟨q,.slice A1 T.length c1,.slice (some ⟨b,0,none⟩) C.length c2,T,C,dead⟩,Dc ⟨q,.slice A1 T.length c1,.slice (some ⟨b,0,none⟩) C.length c2,T,C,dead⟩,ro μ]) (Split.ent AC) AK ?_
   refine AD 0 rfl (Ab rfl) (Bc 1 rfl (Ag rfl rfl) rfl (AD 3 rfl (Ab rfl) (Bc 4 rfl (Ag rfl rfl) rfl ?_)))
   refine CC 2 rfl AK (AA (FQ μ (.slice A6 x.2.1.length c6) x.2.1 hxr (hlt x hxm)) rfl rfl AC) ?_
   rintro v33 L1 ⟨A3,c3,rfl,rfl⟩
   refine ⟨_,BL (Split.ent AC),?_⟩
   refine AD 5 rfl (Bo (qs:=[(0,_),(1,_)]) rfl) (Cs 6 rfl AK AK (AU rfl rfl rfl rfl) (AD 7 rfl (Bl rfl) (C0 [4,5] rfl (Bs AK (Af (Ar ?_))))))
   exact Aq [own 3 1 (.slice A3 x.2.1.length c3) x.2.1.length (x.2.1.flatMap (Bj .i64)),Cy p ⟨q,.slice A1 T.length c1,.slice (some ⟨b,0,none⟩) C.length c2,T,C,dead⟩,Dc ⟨q,.slice A1 T.length c1,.slice (some ⟨b,0,none⟩) C.length c2,T,C,dead⟩,ro μ] (.cell rfl (Bn rfl) (.tmp rfl .nil)) ⟨A3,c3,rfl,rfl⟩ AC


theorem Z1 {μ:PH}{v:Value}{G:List (Value×List Int)}(hG:Graph μ v G){i:Nat}(hi:i<G.length):∃ gb off cap x,v=.slice (some ⟨gb,off,none⟩) G.length cap∧G[i]? = some x∧CellAt μ gb (off+i*1) x.1∧Row μ x.1 1 x.2.length (x.2.flatMap (Bj .i64))∧(EI G)[i]? = some x.2:=by
 obtain ⟨gb,off,cap,hv,_,_,hr⟩:=hG.1.pos Ax
 have hx:G[i]? = some G[i]:=List.getElem?_eq_getElem hi
 exact ⟨gb,off,cap,G[i],hv,hx,(hr.elem TT hx).cell,hG.2 _ (List.mem_of_getElem? hx),by rw [List.getElem?_map,hx]; rfl⟩

theorem HW (n:Int):Spec prog 185 [.int .i64 n] [] (fun r L=>r=.int .i64 (cnt n)∧L=[]):=by
 refine Spec.of 7 func185 rfl rfl rfl ?_
 refine A0 (As [0] rfl rfl (Ae (A0 (Ad rfl (Ac (BA rfl rfl) (AE [0,4] rfl ?_))))))
 refine Ak rfl (fun h4=>?_) (fun h4=>?_)
 ·refine A0 (As [2] rfl rfl (Ar (AN ?_)))
  have h:=of_decide_eq_true h4
  exact Aq [] (.tmp rfl .nil) ⟨by unfold cnt; rw [if_pos h]; rfl,rfl⟩ AC
 ·refine Am (Af (A0 (Ad rfl (Ac (FC rfl rfl) (As [2] rfl rfl (Ar ?_))))))
  have h:=of_decide_eq_false h4
  exact Aq [] (.tmp rfl .nil) ⟨by unfold cnt; rw [if_neg h]; rfl,rfl⟩ AC
theorem WC (v:Value)(xs:List Int)(L0:List AF)(hv:Ints prog 3 L0 v xs):Spec prog 108 [v] L0 (fun r L=>r=.int .i64 (C4 xs)∧L=L0):=by
 obtain ⟨A,cap,rfl,hl,ha⟩:=hv
 refine Spec.of 22 func108 rfl rfl rfl ?_
 refine A0 (As [0] rfl rfl (A0 (As [0,3] rfl rfl (Ae (A0 (Ad rfl (Ac (BI rfl) (Ad rfl (AE [3,6,7,8] rfl (Au ?_))))))))))
 refine B0 (ι:=Nat) (fun k env L=>env=[(3,.int .i64 (X6 (xs.take k))),(6,.slice A xs.length cap),(7,.int .i64 (xs.length:Nat)),(8,.int .i64 (k:Nat))]∧L=L0∧k≤xs.length) (fun k=>xs.length-k) 0 ⟨rfl,rfl,Nat.zero_le _⟩ ?_
 rintro k env L ⟨rfl,rfl,hk⟩
 refine A0 (Ac (Bb rfl rfl) (AE [3,6,7,8,9] rfl (Ae ?_)))
 refine Ak rfl (fun h9=>?_) (fun h9=>?_)
 ·have h9':k<xs.length:=by have:=of_decide_eq_true h9; omega
  obtain ⟨b,off,rfl,hld⟩:=ha Ax
  obtain ⟨x,hx⟩:∃ x,xs[k]? = some x:=⟨_,List.getElem?_eq_getElem h9'⟩
  refine Am (Af (Ae (Au (A0 ?_))))
  refine Ac (AB (off+k*1) rfl rfl Ax Ax (by rw [Int.toNat_natCast])) ?_
  refine AJ (Dt rfl (by rw [Nat.mul_one]; exact hld k x hx)) ?_
  refine As [3,5,6,7,8] rfl rfl (Al (Ad rfl (Ad rfl ?_)))
  refine Aw (AA (HW x) rfl rfl AC) ?_
  rintro v1 L1 ⟨rfl,rfl⟩
  refine Aj (Ac (FC rfl rfl) (AX rfl (Be [3,6,7,8] rfl (AH (AR (Af (Al (Ac (AO ((k+1:Nat):Int) rfl rfl Ax Ax Ax) (Ad rfl (Be [3,6,7,8] rfl (AH ?_)))))))))))
  exact Af ⟨k+1,⟨by rw [List.take_add_one,hx]; show _=[(3,Value.int .i64 (X6 (xs.take k++[x]))),_,_,_]; rw [Si],rfl,h9'⟩,by omega⟩
 ·have h9':=of_decide_eq_false h9
  obtain rfl:k=xs.length:=by omega
  rw [List.take_length]
  refine AY (AS (AS (AV rfl (Af (Ae (A0 (Ad rfl (Ac (CA rfl rfl) (AE [3,18] rfl ?_)))))))))
  refine Ak rfl (fun h18=>?_) (fun h18=>?_)
  ·refine A0 (Ad rfl (As [2] rfl rfl (Ar (AN ?_))))
   have h:=of_decide_eq_true h18
   exact Aq _ (.tmp rfl .nil) ⟨by unfold C4; rw [if_pos h]; rfl,rfl⟩ Split.all
  ·refine Am (Af (Ae ?_))
   have hr:=Ow xs
   refine Al (Ad rfl (Ac (H3 rfl rfl Ax Ax) (As [2] rfl rfl (Ar ?_))))
   have h:=of_decide_eq_false h18
   exact Aq _ (.tmp rfl .nil) ⟨by unfold C4; rw [if_neg h]; rfl,rfl⟩ Split.all
theorem Z2 (a b:Int):Spec prog 198 [.int .i64 a,.int .i64 b] [] (fun r L=>r=.bool (MD a b)∧L=[]):=by
 refine Spec.of 21 func198 rfl rfl rfl ?_
 refine A0 (As [0,1] rfl rfl (A0 (Ad rfl ?_)))
 refine Aw (AA (HW a) rfl rfl AC) ?_
 rintro v1 L1 ⟨rfl,rfl⟩
 refine Aj (Ad rfl ?_)
 refine Aw (AA (HW b) rfl rfl AC) ?_
 rintro v1 L1 ⟨rfl,rfl⟩
 refine Aj (AX rfl (As [0,1] rfl rfl (Ae (Au (A0 (Ad rfl (Ac (Bp rfl rfl) (As [0,1,9] rfl rfl ?_))))))))
 refine Ak rfl (fun h9=>?_) (fun h9=>?_)
 ·refine A0 (As [4] rfl rfl (Ar (B6 (AN ?_))))
  have h:=of_decide_eq_true h9
  exact Aq [] (.tmp rfl .nil) ⟨by unfold MD; rw [if_pos h]; rfl,rfl⟩ AC
 ·refine A0 (Ad rfl (Ac (Bp rfl rfl) (As [0,1,12] rfl rfl ?_)))
  refine Ak rfl (fun h12=>?_) (fun h12=>?_)
  ·refine A0 (As [4] rfl rfl (Ar (B6 (AN ?_))))
   have h:=of_decide_eq_false h9
   have h':=of_decide_eq_true h12
   exact Aq [] (.tmp rfl .nil) ⟨by unfold MD; rw [if_neg h,if_pos h']; rfl,rfl⟩ AC
  ·refine A0 (Ad rfl (Ac (Bp rfl rfl) (As [0,1,15] rfl rfl ?_)))
   refine Ak rfl (fun h15=>?_) (fun h15=>?_)
   ·refine A0 (As [4] rfl rfl (Ar (B6 (AN ?_))))
    have h:=of_decide_eq_false h9
    have h':=of_decide_eq_false h12
    have h'':=of_decide_eq_true h15
    exact Aq [] (.tmp rfl .nil) ⟨by unfold MD; rw [if_neg h,if_neg h',if_pos h'']; rfl,rfl⟩ AC
   ·refine Am (AR (Af (A0 (Ad rfl (Ad rfl (Ac (BA rfl rfl) (As [4] rfl rfl (Ar ?_))))))))
    have h:=of_decide_eq_false h9
    have h':=of_decide_eq_false h12
    have h'':=of_decide_eq_false h15
    exact Aq [] (.tmp rfl .nil) ⟨by unfold MD; rw [if_neg h,if_neg h',if_neg h'']; rfl,rfl⟩ AC
structure SOk (W:SW):Prop where
 gc:GC W.pl.2
 tr:∀ c∈W.pl.2,0≤c.2∧c.2<(W.pl.1.length:Int)
 tg:∀ t∈W.pl.1,t.length≤30∧Ti t
theorem SOk.cl{W:SW}(h:SOk W):∀ x∈W.C,x.2.1.length≤1048576:=fun x hx=>by
 obtain ⟨i,hi⟩:=List.getElem?_of_mem hx
 have:=(h.gc.row i x.2 (by show (W.C.map (·.2))[i]? = _; rw [List.getElem?_map,hi]; rfl)).2.1
 omega
theorem SOk.tl{W:SW}(h:SOk W):∀ x∈W.T,x.2.length≤1048576:=fun x hx=>by
 have:=(h.tg x.2 (List.mem_map.2 ⟨x,hx,rfl⟩)).1
 omega
theorem HX (W:SW):W.pl.2.length=W.C.length:=List.length_map _
set_option maxHeartbeats 1000000 in
theorem KX (p:Nat)(W:SW)(μ:PH)(hW:W.Ok μ)(hS:SOk W)(n:Nat)(hn:n<W.pl.2.length):Spec prog 106 [.iface 39 (pv p),.int .i64 (n:Nat)] [Cy p W,Df W,Dc W,ro μ] (fun r L=>∃ A c t,r=.slice A t.length c∧(t.length≤30∧Ti t)∧L=[own 111 2 (.slice A t.length c) t.length (DC t),Cy p W,Df W,Dc W,ro μ]):=by
 obtain ⟨cm,hcm⟩:∃ cm,W.pl.2[n]? = some cm:=⟨_,List.getElem?_eq_getElem hn⟩
 obtain ⟨k0,k1⟩:=hS.tr cm (List.mem_of_getElem? hcm)
 obtain ⟨ti,hti⟩:∃ ti:Nat,cm.2=ti:=⟨cm.2.toNat,by omega⟩
 obtain ⟨t,ht⟩:∃ t,W.pl.1[ti]? = some t:=⟨_,List.getElem?_eq_getElem Ax⟩
 have hc:=IG p W μ hW hS.cl n
 rw [Kk hcm] at hc
 have hr:=WB p W μ hW hS.tl ti
 rw [P0 ht] at hr
 obtain ⟨ps,tr⟩:=cm
 dsimp only at hti hc hr
 subst hti
 refine Spec.of 23 func106 rfl rfl rfl ?_
 refine A0 (As [0,1] rfl rfl (A0 (Ad rfl (Ad rfl ?_))))
 refine Aw (DU rfl (Nat.zero_le _) (InvS.of hc) rfl AC) ?_
 rintro v12 L1 ⟨A1,c1,rfl,rfl⟩
 refine Aj (Ad rfl (Ac (Ai rfl) (Ac (Ai rfl) (Aw (AZ) (fun b5=>?_)))))
 refine B5 (AU rfl rfl rfl rfl) (As [0,5] rfl rfl (A0 (Ad rfl (Ac (Ab rfl) (AJ (Ag rfl rfl) ?_)))))
 refine Aw (DU rfl (Nat.zero_le _) (InvS.of hr) rfl AC) ?_
 rintro v19 L1 ⟨A2,c2,rfl,rfl⟩
 refine Aj (Ad rfl (Ac (Ai rfl) (Ac (Ai rfl) (AX rfl (As [7] rfl rfl (A0 (Ad rfl (As [4] rfl rfl (Ar ?_)))))))))
 exact Aq [own 111 2 (.slice A2 t.length c2) t.length (DC t),Cy p W,Df W,Dc W,ro μ] (.tmp rfl .nil) ⟨A2,c2,t,rfl,hS.tg t (List.mem_of_getElem? ht),rfl⟩ AC
theorem Tp {V:List GV}{i:Nat}{x:GV}(h:V[i]? = some x):D4 (Gy V)=D4 (Gy (V.take i))++(DZ x.2.2++D4 (Gy (V.drop (i+1)))):=by
 conv=>lhs; rw [← List.take_append_drop i V,Hj h]
 unfold Gy
 rw [List.map_append,Ht]; rfl
theorem WD {V:List GV}{i:Nat}{x:GV}(h:V[i]? = some x):D4 (Gy (V.take (i+1)))=D4 (Gy (V.take i))++DZ x.2.2:=by
 rw [BE h]
 unfold Gy
 rw [List.map_append,Ht]
 show _++D4 [(x.1,DZ x.2.2)]=_
 rw [Jc]
theorem Z3 {μ:PH}{v:Value}{V:List GV}(h:Row μ v 6 V.length (V.flatMap To)){i:Nat}{x:GV}(hi:V[i]? = some x):∃ b off cap,v=.slice (some ⟨b,off,none⟩) V.length cap∧RowAt μ b (off+i*6) (LF x.1 x.2.1):=by
 have hl:=(List.getElem?_eq_some_iff.1 hi).1
 obtain ⟨b,off,cap,hv,_,_,hr⟩:=h.pos Ax
 exact ⟨b,off,cap,hv,hr.elem (f:=To) (n:=6) (fun _=>rfl) hi⟩
def Gz (R:List GR):List Int:=R.map (·.gn)
theorem Kl (R:List GR):(Gz R).length=R.length:=List.length_map _
theorem Z4 (R:List (Value×GR)){j:Nat}{x:Value×GR}(h:R[j]? = some x):Gz (DZ (R.take (j+1)))=Gz (DZ (R.take j))++[x.2.gn]:=by
 rw [BE h]
 unfold Gz DZ
 rw [List.map_append,List.map_append]; rfl
set_option maxHeartbeats 4000000 in
theorem WE (μ:PH)(p q:Nat)(lv gv:Value)(l:List Lk)(V:List GV)(hI:IX μ lv gv l V)(hB:(D4 (Gy V)).length≤65536):Spec prog 61 [pv p] [xB p q lv gv,ro μ] (fun r L=>L=[own 3 1 r (Gz (D4 (Gy V))).length ((Gz (D4 (Gy V))).flatMap (Bj .i64)),xB p q lv gv,ro μ]):=by
 have hsmV:=hI.gr.small
 refine Spec.of 32 func61 rfl rfl rfl ?_
 refine A0 (As [0] rfl rfl (A0 (As [0,3] rfl rfl (Ae (A0 (Ad rfl (Ac (Ah rfl) (Ac (Ab rfl) (AJ (Ag rfl rfl) (Ac (B2 hI.gr rfl) (Ad rfl (AE [3,11,12,13] rfl (Au (AP (own_nil_ent (e:=3) (n:=1)) ?_))))))))))))))
 refine B0 (ι:=Nat×Value) (fun z env L=>Sub env [(3,z.2),(11,gv),(12,.int .i64 (V.length:Nat)),(13,.int .i64 (z.1:Nat))]∧Ent L [own 3 1 z.2 (Gz (D4 (Gy (V.take z.1)))).length ((Gz (D4 (Gy (V.take z.1)))).flatMap (Bj .i64)),xB p q lv gv,ro μ]∧z.1≤V.length) (fun z=>V.length-z.1) (0,.slice none 0 0) ⟨⟨rfl,rfl,rfl,rfl,trivial⟩,by show Ent _ [own 3 1 (.slice none 0 0) 0 [],xB p q lv gv,ro μ]; exact Split.ent' AC,Nat.zero_le _⟩ ?_
 rintro ⟨i,av⟩ env L ⟨hsub,hE,hi⟩
 dsimp only at hsub hE hi
 refine B3 _ hsub (AP hE ?_)
 clear hsub hE env L
 refine A0 (Ac (Bb rfl rfl) (AE [3,11,12,13,14] rfl (Ae ?_)))
 refine Ak rfl (fun h14=>?_) (fun h14=>?_)
 ·have h14':i<V.length:=by have:=of_decide_eq_true h14; omega
  obtain ⟨x,hx⟩:∃ x,V[i]? = some x:=⟨_,List.getElem?_eq_getElem h14'⟩
  obtain ⟨gb,off,cap,hv,hra⟩:=Z3 hI.gr hx
  obtain ⟨base,rv,R⟩:=x
  have hgr:=hI.rs _ (List.mem_of_getElem? hx)
  dsimp only at hra hgr
  obtain ⟨Arv,crv,rfl⟩:=hgr.row.sl
  have hsp:=congrArg List.length (Tp hx)
  rw [List.length_append,List.length_append] at hsp
  have hsu:=WD hx
  have hRl:(DZ R).length=R.length:=List.length_map _
  dsimp only at hsp hsu
  generalize D4 (Gy (V.take i))=T0 at *
  refine Am (Af (Ae (Au (A0 ?_))))
  refine Ac (AB (off+i*6) (congrArg some hv) rfl Ax Ax (by rw [Int.toNat_natCast])) ?_
  refine AJ (CZ (vs:=LF base (.slice Arv R.length crv)) rfl rfl hra) (Aw (AZ) (fun b5=>?_))
  refine B5 (AU rfl rfl rfl rfl) (AE [3,5,11,12,13] rfl (A0 (Ac (Ab rfl) (AJ (Ag rfl rfl) (Ac (B2 hgr.row rfl) (Ad rfl (AE [3,11,12,13,18,19,20] rfl (Au ?_))))))))
  refine B0 (ι:=Nat×Value) (fun z env L=>Sub env [(3,z.2),(11,gv),(12,.int .i64 (V.length:Nat)),(13,.int .i64 (i:Nat)),(18,.slice Arv R.length crv),(19,.int .i64 (R.length:Nat)),(20,.int .i64 (z.1:Nat))]∧Ent L [own 3 1 z.2 (Gz (T0++DZ (R.take z.1))).length ((Gz (T0++DZ (R.take z.1))).flatMap (Bj .i64)),xB p q lv gv,ro μ]∧z.1≤R.length) (fun z=>R.length-z.1) (0,av) ⟨⟨rfl,rfl,rfl,rfl,rfl,rfl,rfl,trivial⟩,by dsimp only; rw [List.take_zero,show DZ []=[] from rfl,List.append_nil]; exact Split.ent' AC,Nat.zero_le _⟩ ?_
  rintro ⟨j,bv⟩ env L ⟨hsub,hE,hj⟩
  dsimp only at hsub hE hj
  refine B3 _ hsub (AP hE ?_)
  clear hsub hE env L
  refine A0 (Ac (Bb rfl rfl) (AE [3,11,12,13,18,19,20,21] rfl (Ae ?_)))
  refine Ak rfl (fun h21=>?_) (fun h21=>?_)
  ·have h21':j<R.length:=by have:=of_decide_eq_true h21; omega
   obtain ⟨y,hy⟩:∃ y,R[j]? = some y:=⟨_,List.getElem?_eq_getElem h21'⟩
   obtain ⟨rb,ro1,rcap,Ay,cy,hrv,hry,-,-⟩:=PN hgr hy
   obtain ⟨yv,r⟩:=y
   have hT:Gz (T0++DZ (R.take (j+1)))=Gz (T0++DZ (R.take j))++[r.gn]:=by
    unfold Gz
    rw [List.map_append,List.map_append,List.append_assoc]
    congr 1
    exact Z4 R hy
   have hTl:(Gz (T0++DZ (R.take j))).length≤65536:=by
    rw [Kl,List.length_append]
    have:(DZ (R.take j)).length=j:=by unfold DZ; rw [List.length_map,List.length_take]; omega
    omega
   generalize Gz (T0++DZ (R.take j))=T1 at *
   refine Am (Af (Ae (Au (A0 ?_))))
   refine Ac (AB (ro1+j*5) (congrArg some hrv) rfl Ax Ax (by rw [Int.toNat_natCast])) ?_
   refine AJ (CZ (vs:=grl Ay cy r) rfl rfl hry) (Aw (AZ) (fun b7=>?_))
   refine B5 (AU rfl rfl rfl rfl) (AE [3,7,11,12,13,18,19,20] rfl (Al (Ad rfl (Ac (Ab rfl) (AJ (Ag rfl rfl) (Aw (Bg (qs:=[(0,_)]) rfl rfl rfl) (fun b27=>?_)))))))
   refine Aw (B9 (l:=T1.length) (m:=1) rfl rfl AC (by simp only [maxLen]; omega) Ax) ?_
   rintro v28 -
   skip
   refine AX rfl (Be [3,11,12,13,18,19,20] rfl (AH (AR (Af (Al (Ac (AO ((j+1:Nat):Int) rfl rfl Ax Ax Ax) (Ad rfl (Be [3,11,12,13,18,19,20] rfl (AH ?_)))))))))
   refine Af ⟨(j+1,v28),⟨⟨rfl,rfl,rfl,rfl,rfl,rfl,rfl,trivial⟩,?_,h21'⟩,by show R.length-(j+1)<R.length-j; omega⟩
   dsimp only
   rw [hT,List.length_append,List.flatMap_append]
   show Ent _ [own 3 1 v28 (T1.length+1) (T1.flatMap (Bj .i64)++[.int .i64 r.gn]),xB p q lv gv,ro μ]
   exact Split.ent' AC
  ·have h21':=of_decide_eq_false h21
   obtain rfl:j=R.length:=by omega
   rw [List.take_length]
   refine AY (AS (AS (AV rfl (AR (Af (Al (Ac (AO ((i+1:Nat):Int) rfl rfl Ax Ax Ax) (Ad rfl (Be [3,11,12,13] rfl (AH ?_))))))))))
   refine Af ⟨(i+1,bv),⟨⟨rfl,rfl,rfl,rfl,trivial⟩,?_,h14'⟩,by show V.length-(i+1)<V.length-i; omega⟩
   dsimp only
   rw [hsu]
   exact Split.ent' AC
 ·have h14':=of_decide_eq_false h14
  obtain rfl:i=V.length:=by omega
  rw [List.take_length]
  refine AY (AS (AS (AV rfl (Af (A0 (Ad rfl (As [2] rfl rfl (Ar ?_))))))))
  exact Aq [own 3 1 av (Gz (D4 (Gy V))).length ((Gz (D4 (Gy V))).flatMap (Bj .i64)),xB p q lv gv,ro μ] (.tmp rfl .nil) rfl AC
theorem HY {P:Program}{rn:Option Nat}{ops:Array Oper}{Q:DP}{N:Nat}{rds:List Nat}{fuel:Nat}{listed:Array Bool}{env:CQ}{Lr L L0:List AF}{μ:PH}{e n l:Nat}{v:Value}{xs:List Value}(hL:Split L0 [own e n v l xs,ro μ] L)
  (h:∀ μ',Le μ μ'→Row μ' v n l xs→EO P rn ops Q N rds fuel listed true env Lr (ro μ'::L)):EO P rn ops Q N rds fuel listed true env Lr L0:=fun E D a w hD hf hh hc=>by
 have hh':H (E.add D) w (Lr++L0):=hh
 have hp:(Lr++L0).Perm (own e n v l xs::ro μ::(Lr++L)):=(List.Perm.append_left Lr hL.perm).trans (List.perm_middle.trans (List.Perm.cons _ List.perm_middle))
 obtain ⟨μ',h1,h2,h3⟩:=(hh'.ent (Ent.perm hp)).share_own
 exact h μ' h1 h2 E D a w hD hf (h3.ent (Ent.perm List.perm_middle.symm)) hc
structure RV (μ:PH) (C:List Cm) (k:Nat) (V:List (Value×GR)):Prop where
 ps:∀ x∈V,Row μ x.1 1 x.2.ps.length (x.2.ps.flatMap (Bj .i64))
 row:∀ (i:Nat) (x:Value×GR),V[i]? = some x→C[k+i]? = some (x.2.ps,x.2.tr)∧(Ce C)[k+i]? = some x.2.gn∧Wt x.2.st x.2.bt
theorem RV.le{μ μ':PH}{C:List Cm}{k:Nat}{V:List (Value×GR)}(h:RV μ C k V)(hl:Le μ μ'):RV μ' C k V:=⟨fun x hx=>(h.ps x hx).le hl,h.row⟩
theorem RV.nil(μ:PH)(C:List Cm)(k:Nat):RV μ C k []:=⟨fun x hx=>(by cases hx),fun i x hx=>(by cases hx)⟩
theorem RV.snoc{μ:PH}{C:List Cm}{k:Nat}{V:List (Value×GR)}(h:RV μ C k V){x:Value×GR}(hp:Row μ x.1 1 x.2.ps.length (x.2.ps.flatMap (Bj .i64)))(h1:C[k+V.length]? = some (x.2.ps,x.2.tr))(h2:(Ce C)[k+V.length]? = some x.2.gn)(h3:Wt x.2.st x.2.bt):RV μ C k (V++[x]):=by
 refine ⟨fun y hy=>?_,fun i y hy=>?_⟩
 ·rcases List.mem_append.1 hy with hy | hy
  ·exact h.ps y hy
  ·rw [List.mem_singleton.1 hy]; exact hp
 ·by_cases hi:i<V.length
  ·rw [List.getElem?_append_left hi] at hy; exact h.row i y hy
  ·have hl:=(List.getElem?_eq_some_iff.1 hy).1
   rw [List.length_append,List.length_singleton] at hl
   obtain rfl:i=V.length:=by omega
   rw [List.getElem?_append_right (Nat.le_refl _),Nat.sub_self] at hy
   obtain rfl:=Option.some.inj hy
   exact ⟨h1,h2,h3⟩
theorem RV.rn{μ:PH}{C:List Cm}{k:Nat}{V:List (Value×GR)}(h:RV μ C k V)(hl:k+V.length≤C.length):RN C k (DZ V):=⟨by rw [List.length_map]; exact hl,fun i r hr=>by
 rw [List.getElem?_map] at hr
 cases hv:V[i]? with
 | none=>rw [hv] at hr; cases hr
 | some x=>rw [hv] at hr; obtain rfl:=Option.some.inj hr; exact h.row i x hv⟩
set_option maxHeartbeats 16000000 in
theorem NE (p:Nat)(W:SW)(μ:PH)(hW:W.Ok μ)(hS:SOk W)(kv:Value)(ks:List Int)(hk:Row μ kv 1 ks.length (ks.flatMap (Bj .i64)))(hks:ks=(Ce W.pl.2).take ks.length)(hkl:ks.length≤W.pl.2.length) :
  Spec prog 60 [.iface 39 (pv p),.agg setC.toArray,kv] [Cy p W,Df W,Dc W,ro μ] (fun r L=>∃ μ' V,Le μ μ'∧GRows μ' r V∧RN W.pl.2 ks.length (DZ V)∧ks.length+V.length=W.pl.2.length∧L=[Cy p W,Df W,Dc W,ro μ']):=by
 have hC16:=hS.gc.len
 have hgl:=hS.gc.glen
 have hpl:=HX W
 have hkv:=hk.sl
 obtain ⟨C,hC⟩:∃ C,C=W.pl.2:=⟨_,rfl⟩
 rw [← hC] at hks hkl hC16 hgl hpl ⊢
 refine Spec.of 92 func60 rfl rfl rfl ?_
 refine A0 (Aw (Bi rfl rfl) (fun b4=>?_))
 refine As [0,2,4] rfl rfl (A0 (As [0,2,4,7] rfl rfl (A0 (Ad rfl ?_))))
 refine Aw (AA (FQ μ kv ks hk Ax) rfl rfl AC) ?_
 rintro v19 L1 ⟨A19,c19,rfl,rfl⟩
 refine Aj (As [0,2,4,7,8] rfl rfl (Ae (A0 (Ad rfl (Ac (B2 hk rfl) (As [0,4,7,8,9] rfl rfl (Au (AP (own_nil_ent (e:=211) (n:=5)) ?_))))))))
 refine B0 (ι:=Nat×List (Value×GR)×PH×(Option Addr×Nat)×Value) (fun z env L=>Sub env [(0,.iface 39 (pv p)),(4,pv b4),(7,z.2.2.2.2),(8,.slice z.2.2.2.1.1 z.1 z.2.2.2.1.2),(9,.int .i64 (z.1:Nat))]∧Ent L [own 3 1 (.slice z.2.2.2.1.1 z.1 z.2.2.2.1.2) z.1 (((Ce C).take z.1).flatMap (Bj .i64)),own 211 5 z.2.2.2.2 z.2.1.length (z.2.1.flatMap QR),B1 b4 43 [.int .i64 3,.int .i64 10,.int .i64 2,.int .u32 7],Cy p W,Df W,Dc W,ro z.2.2.1]∧ks.length+z.2.1.length=z.1∧z.1≤C.length∧Le μ z.2.2.1∧RV z.2.2.1 C ks.length z.2.1) (fun z=>C.length-z.1) (ks.length,[],μ,(A19,c19),.slice none 0 0) ⟨⟨rfl,rfl,rfl,rfl,rfl,trivial⟩,by dsimp only; rw [← hks]; show Ent _ [own 3 1 (.slice A19 ks.length c19) ks.length (ks.flatMap (Bj .i64)),own 211 5 (.slice none 0 0) 0 [],B1 b4 43 setC,Cy p W,Df W,Dc W,ro μ]; exact Split.ent' AC,rfl,hkl,Le.refl _,RV.nil _ _ _⟩ ?_
 rintro ⟨n,V,μ1,⟨Aa,ca⟩,ov⟩ env L ⟨hsub,hE,hn,hnl,k1,hV⟩
 dsimp only at hsub hE hn hnl k1 hV
 refine B3 _ hsub (AP hE ?_)
 clear hsub hE env L
 refine Ae (A0 (Ad rfl (Ad rfl ?_)))
 refine Aw (DU rfl (Nat.zero_le _) (InvS.of (Fy p W μ1 (hW.le k1))) rfl AC) ?_
 rintro v24 L1 ⟨rfl,rfl⟩
 refine Aj (Ac (Bb rfl rfl) (AE [0,4,7,8,9,25] rfl ?_))
 refine Ak rfl (fun h25=>?_) (fun h25=>?_)
 ·have h25':n<C.length:=by have:=of_decide_eq_true h25; omega
  obtain ⟨c,hc⟩:∃ c,C[n]? = some c:=⟨_,List.getElem?_eq_getElem h25'⟩
  obtain ⟨g1,g2,g3,g4⟩:=hS.gc.row n c (by rw [← hC]; exact hc)
  obtain ⟨o1,o2⟩:=EC.1 g1
  have hcom:=IG p W μ1 (hW.le k1) hS.cl n
  rw [← hC,Kk hc] at hcom
  obtain ⟨hga,-⟩:=LO hS.gc.more (i:=n) (r:=c.1) (by rw [← hC,List.getElem?_map,hc]; rfl)
  rw [← hC] at hga
  obtain ⟨ps,tr⟩:=c
  dsimp only at g2 g3 g4 o1 o2 hcom hga
  refine Am (Af (Ae (Au (A0 (Ad rfl (Ad rfl ?_))))))
  refine Aw (DU rfl (Nat.zero_le _) (InvS.of hcom) rfl AC) ?_
  rintro v31 L1 ⟨Ap,cp,rfl,rfl⟩
  refine Aj ?_
  refine C5 (v:=.slice Ap ps.length cp) (μ:=μ1) AC fun μ2 k2 hps=>?_
  have hfst:∀ (xs:List Int),xs=(Ce C).take n→xs.length=n:=fun xs e=>by rw [e,List.length_take]; omega
  refine Ad rfl (Ac (Ai rfl) (Ac (Ai rfl) (Aw (AZ) (fun b10=>?_))))
  refine B5 (AU rfl rfl rfl rfl) (As [0,4,7,8,9,10] rfl rfl (A0 (As [0,4,7,8,9,10,12] rfl rfl (A0 (As [0,4,7,8,9,10,12,13] rfl rfl (Ae (A0 (Ac (Ab rfl) (AJ (Ag rfl rfl) (Ac (BI rfl) (Ad rfl (AE [0,4,7,8,9,10,12,13,35,36,37] rfl (Au (AP (own_nil_ent (e:=3) (n:=1)) ?_))))))))))))))
  refine B0 (ι:=Nat×List En×PH×Value×Value) (fun z env L=>Sub env [(0,.iface 39 (pv p)),(4,pv b4),(7,ov),(8,.slice Aa n ca),(9,.int .i64 (n:Nat)),(10,pv b10),(12,z.2.2.2.1),(13,z.2.2.2.2),(35,.slice Ap ps.length cp),(36,.int .i64 (ps.length:Nat)),(37,.int .i64 (z.1:Nat))]∧Ent L [own 3 1 z.2.2.2.2 z.1 ((CP (Ce C) (ps.take z.1)).flatMap (Bj .i64)),own 3 1 (.slice Aa n ca) n (((Ce C).take n).flatMap (Bj .i64)),own 211 5 ov V.length (V.flatMap QR),B1 b10 88 [.slice Ap ps.length cp,.int .i64 tr],B1 b4 43 [.int .i64 3,.int .i64 10,.int .i64 2,.int .u32 7],Cy p W,Df W,Dc W,ro z.2.2.1]∧z.1≤ps.length∧Le μ2 z.2.2.1∧Row z.2.2.1 z.2.2.2.1 2 z.2.1.length (DC z.2.1)∧z.2.1.length≤30∧Ti z.2.1) (fun z=>ps.length-z.1) (0,[],μ2,.slice none 0 0,.slice none 0 0) ⟨⟨rfl,rfl,rfl,rfl,rfl,rfl,rfl,rfl,rfl,rfl,rfl,trivial⟩,by show Ent _ [own 3 1 (.slice none 0 0) 0 [],own 3 1 (.slice Aa n ca) n (((Ce C).take n).flatMap (Bj .i64)),own 211 5 ov V.length (V.flatMap QR),B1 b10 88 [.slice Ap ps.length cp,.int .i64 tr],B1 b4 43 [.int .i64 3,.int .i64 10,.int .i64 2,.int .u32 7],Cy p W,Df W,Dc W,ro μ2]; exact Split.ent' AC,Nat.zero_le _,Le.refl _,Row.nil _ _,Nat.zero_le _,fun x hx=>(by cases hx)⟩ ?_
  rintro ⟨j,old,μ3,dv,uv⟩ env L ⟨hsub,hE,hj,k3,hold,hol,hos⟩
  dsimp only at hsub hE hj k3 hold hol hos
  refine B3 _ hsub (AP hE ?_)
  clear hsub hE env L
  refine A0 (Ac (Bb rfl rfl) (AE [0,4,7,8,9,10,12,13,35,36,37,38] rfl (Ae ?_)))
  refine Ak rfl (fun h38=>?_) (fun h38=>?_)
  ·have h38':j<ps.length:=by have:=of_decide_eq_true h38; omega
   obtain ⟨pi,hpi⟩:∃ q,ps[j]? = some q:=⟨_,List.getElem?_eq_getElem h38'⟩
   obtain ⟨q0,q1⟩:=o1 pi (List.mem_of_getElem? hpi)
   obtain ⟨pn,rfl⟩:∃ k:Nat,pi=(k:Int):=⟨pi.toNat,by omega⟩
   obtain ⟨gb,off,cap,hv,_,_,hra⟩:=(hps.le k3).pos Ax
   have hcell:=(hra.elem (f:=Bj .i64) (n:=1) (fun _=>rfl) hpi).cell
   have hvt:CP (Ce C) (ps.take (j+1))=CP (Ce C) (ps.take j)++[(Ce C).getD pn 0]:=by rw [BE hpi,PA,Int.toNat_natCast]
   have hgv:((Ce C).take n)[pn]? = some ((Ce C).getD pn 0):=by
    rw [List.getElem?_take_of_lt Ax,List.getD_eq_getElem?_getD]
    obtain ⟨u,hu⟩:∃ u,(Ce C)[pn]? = some u:=⟨_,List.getElem?_eq_getElem Ax⟩
    rw [hu]; rfl
   have hvl:(CP (Ce C) (ps.take j)).length=j:=by unfold CP; rw [List.length_map,List.length_take]; omega
   generalize CP (Ce C) (ps.take j)=T1 at *
   refine Am (Af (Ae (Au (A0 (Ad rfl ?_)))))
   refine Ac (AB (off+j*1) (congrArg some hv) rfl Ax Ax (by rw [Int.toNat_natCast])) ?_
   refine AJ (C3 rfl hcell) (AX rfl (As [0,4,7,8,9,10,12,13,14,15,35,36,37] rfl rfl (Ae (A0 (Ad rfl (Ac (Bb rfl rfl) (Ad rfl ?_)))))))
   refine B7 44 rfl (fun h44=>by have:=of_decide_eq_true h44; omega) (fun h44=>?_)
   refine AQ rfl rfl (Ad rfl (AQ rfl rfl (Ad rfl (AQ rfl rfl (Ac (BI rfl) (AQ rfl rfl (Ac (CA rfl rfl) (Ac (AT rfl rfl) (AE [0,4,7,8,9,10,12,13,14,15,35,36,37,49] rfl ?_)))))))))
   refine Ak rfl (fun h49=>by have:=of_decide_eq_true h49; omega) (fun h49=>?_)
   refine Am (Af ?_)
   refine Cb (fun env L=>∃ (old':List En) (μ4:PH) (dv':Value),Sub env [(0,.iface 39 (pv p)),(4,pv b4),(7,ov),(8,.slice Aa n ca),(9,.int .i64 (n:Nat)),(10,pv b10),(12,dv'),(13,uv),(15,.int .i64 (pn:Nat)),(35,.slice Ap ps.length cp),(36,.int .i64 (ps.length:Nat)),(37,.int .i64 (j:Nat))]∧Ent L [own 3 1 uv j (T1.flatMap (Bj .i64)),own 3 1 (.slice Aa n ca) n (((Ce C).take n).flatMap (Bj .i64)),own 211 5 ov V.length (V.flatMap QR),B1 b10 88 [.slice Ap ps.length cp,.int .i64 tr],B1 b4 43 [.int .i64 3,.int .i64 10,.int .i64 2,.int .u32 7],Cy p W,Df W,Dc W,ro μ4]∧Le μ3 μ4∧Row μ4 dv' 2 old'.length (DC old')∧old'.length≤30∧Ti old') ?_ ?_
   ·refine A0 (Ad rfl (Ac (Bp rfl rfl) (AE [0,4,7,8,9,10,12,13,15,35,36,37,52] rfl ?_)))
    refine Ak rfl (fun h52=>?_) (fun h52=>?_)
    ·refine Al (Ad rfl (Ad rfl ?_))
     refine Aw (AA (KX p W μ3 (hW.le (k1.trans (k2.trans k3))) hS pn (by rw [← hC]; omega)) rfl rfl AC) ?_
     rintro v55 L1 ⟨Ao,co,ol,rfl,⟨hol2,hos2⟩,rfl⟩
     refine Aj ?_
     refine C5 (v:=.slice Ao ol.length co) (μ:=μ3) AC fun μ4 k4 hol4=>?_
     refine AX rfl (Be [0,4,7,8,9,10,12,13,15,35,36,37] rfl (AH ?_))
     exact Af ⟨ol,μ4,_,⟨rfl,rfl,rfl,rfl,rfl,rfl,rfl,rfl,rfl,rfl,rfl,rfl,trivial⟩,Split.ent' AC,k4,hol4,hol2,hos2⟩
    ·refine Am ?_
     exact Af ⟨old,μ3,dv,⟨rfl,rfl,rfl,rfl,rfl,rfl,rfl,rfl,rfl,rfl,rfl,rfl,trivial⟩,Split.ent' AC,Le.refl _,hold,hol,hos⟩
   rintro env L ⟨old',μ4,dv',hsub,hE,k4,hold4,hol4,hos4⟩
   refine B3 _ hsub (AP hE ?_)
   clear hsub hE env L
   refine AP (Split.ent' (K:=[own 3 1 (.slice Aa n ca) n (((Ce C).take n).flatMap (Bj .i64)),own 3 1 uv j (T1.flatMap (Bj .i64)),own 211 5 ov V.length (V.flatMap QR),B1 b10 88 [.slice Ap ps.length cp,.int .i64 tr],B1 b4 43 [.int .i64 3,.int .i64 10,.int .i64 2,.int .u32 7],Cy p W,Df W,Dc W,ro μ4]) AC) ?_
   refine CG (fun m h=>Iu h) fun hcA=>?_
   obtain ⟨bA,rfl⟩:∃ b:Nat,Aa=some ⟨b,0,none⟩:=by
    obtain ⟨A',c',e,e1,e2,e3,e4⟩:=hcA
    cases e
    cases Aa with
    | none=>have:=e3 rfl; omega
    | some a=>obtain ⟨b,rfl⟩:=e4 a rfl; exact ⟨b,rfl⟩
   refine Al (Ad rfl (Ad rfl (Ad rfl ?_)))
   refine Ac (AB pn rfl rfl Ax Ax (by rw [Int.toNat_natCast]; omega)) ?_
   refine AJ (PL rfl K3 (by have:=LU (f:=Bj .i64) (n:=1) (fun _=>rfl) hgv 0 _ rfl; rwa [Nat.mul_one,Nat.add_zero] at this)) ?_
   refine Aw (Bg (qs:=[(0,_)]) rfl rfl rfl) fun b61=>?_
   refine Aw (B9 (l:=j) (m:=1) rfl rfl AC (by simp only [maxLen]; omega) Ax) ?_
   rintro v62 -
   skip
   refine AX rfl (Be [0,4,7,8,9,10,12,13,35,36,37] rfl (AH (AR (Af (Al (Ac (AO ((j+1:Nat):Int) rfl rfl Ax Ax Ax) (Ad rfl (Be [0,4,7,8,9,10,12,13,35,36,37] rfl (AH ?_)))))))))
   refine Af ⟨(j+1,old',μ4,dv',v62),⟨⟨rfl,rfl,rfl,rfl,rfl,rfl,rfl,rfl,rfl,rfl,rfl,trivial⟩,?_,h38',k3.trans k4,hold4,hol4,hos4⟩,by show ps.length-(j+1)<ps.length-j; omega⟩
   dsimp only
   rw [hvt,List.flatMap_append]
   show Ent _ [own 3 1 v62 (j+1) (T1.flatMap (Bj .i64)++[.int .i64 ((Ce C).getD pn 0)]),own 3 1 (.slice (some ⟨bA,0,none⟩) n ca) n (((Ce C).take n).flatMap (Bj .i64)),own 211 5 ov V.length (V.flatMap QR),B1 b10 88 [.slice Ap ps.length cp,.int .i64 tr],B1 b4 43 [.int .i64 3,.int .i64 10,.int .i64 2,.int .u32 7],Cy p W,Df W,Dc W,ro μ4]
   exact Split.ent' AC
  ·have h38':=of_decide_eq_false h38
   obtain rfl:j=ps.length:=by omega
   rw [List.take_length]
   refine AY (AS (AS (AV rfl (Af ?_))))
   refine Cb (fun env L=>∃ (b16:Nat) (μ5:PH) (st:Int) (bt:List UInt8),Sub env [(0,.iface 39 (pv p)),(4,pv b4),(7,ov),(8,.slice Aa n ca),(9,.int .i64 (n:Nat)),(10,pv b10),(13,uv),(16,pv b16)]∧Ent L [own 3 1 uv ps.length ((CP (Ce C) ps).flatMap (Bj .i64)),own 3 1 (.slice Aa n ca) n (((Ce C).take n).flatMap (Bj .i64)),own 211 5 ov V.length (V.flatMap QR),B1 b16 206 [.int .i64 st,.string (str bt)],B1 b10 88 [.slice Ap ps.length cp,.int .i64 tr],B1 b4 43 [.int .i64 3,.int .i64 10,.int .i64 2,.int .u32 7],Cy p W,Df W,Dc W,ro μ5]∧Le μ3 μ5∧Wt st bt) ?_ ?_
   ·refine Ba [0] ([B1 b4 43 [.int .i64 3,.int .i64 10,.int .i64 2,.int .u32 7]]) ([own 3 1 uv ps.length ((CP (Ce C) ps).flatMap (Bj .i64)),own 3 1 (.slice Aa n ca) n (((Ce C).take n).flatMap (Bj .i64)),own 211 5 ov V.length (V.flatMap QR),B1 b10 88 [.slice Ap ps.length cp,.int .i64 tr],Cy p W,Df W,Dc W,ro μ3]) (Split.ent AC) AK ?_
    refine Bc 0 rfl (BG (vs:=setC) rfl rfl rfl) rfl (AD 1 rfl (AG rfl) (AD 2 rfl (AG rfl) (AD 3 rfl (AG rfl) ?_)))
    refine FG [4,9] AK rfl ⟨?_,?_⟩
    ·refine E3 4 rfl GOn.none (AA (KX p W μ3 (hW.le (k1.trans (k2.trans k3))) hS n (by rw [← hC]; omega)) rfl rfl AC) ?_
     rintro v69 L1 ⟨At,ct,tl,rfl,⟨htl,hts⟩,rfl⟩
     refine ⟨_,BL (Split.ent AC),?_⟩
     refine HY (e:=111) (n:=2) (v:=.slice At tl.length ct) (μ:=μ3) AC fun μ4 k4 htr=>?_
     refine FG [5,9] AK rfl ⟨?_,?_⟩
     ·refine E3 5 rfl GOn.none (AA (Ny μ4 dv _ old tl (hold.le k4) htr hos hts Ax Ax) rfl rfl AC) ?_
      rintro v70 L1 ⟨μ5,st,bt,k5,hfl,rfl,rfl⟩
      refine ⟨_,BL (Split.ent AC),?_⟩
      refine AD 6 rfl (AG rfl) (AD 7 rfl (Ai rfl) (AD 8 rfl (Ai rfl) (CC 9 rfl AK (AZ) (fun b16=>?_))))
      refine ⟨_,Split.ent AC,?_⟩
      refine Cs 10 rfl AK AK (AU rfl rfl rfl rfl) (AD 11 rfl (Bl rfl) (C0 [0,4,7,8,9,10,13,16] rfl (Bs AK ?_)))
      exact Af ⟨_,μ5,st,bt,⟨rfl,rfl,rfl,rfl,rfl,rfl,rfl,rfl,trivial⟩,Split.ent' AC,k4.trans k5,hfl⟩
     ·refine E3 9 rfl GOn.none (AZ) fun b16=>?_
      refine ⟨_,Split.ent AC,?_⟩
      refine BT 5 rfl AK AK (AA (Ny μ4 dv _ old tl (hold.le k4) htr hos hts Ax Ax) rfl rfl AC) ?_
      rintro v70 L1 ⟨μ5,st,bt,k5,hfl,rfl,rfl⟩
      refine Cc (AD 6 rfl (AG rfl) (AD 7 rfl (Ai rfl) (AD 8 rfl (Ai rfl) (Cj 10 rfl AK AK (AU rfl rfl rfl rfl) (AD 11 rfl (Bl rfl) (C0 [0,4,7,8,9,10,13,16] rfl (Bs AK ?_)))))))
      exact Af ⟨_,μ5,st,bt,⟨rfl,rfl,rfl,rfl,rfl,rfl,rfl,rfl,trivial⟩,Split.ent' AC,k4.trans k5,hfl⟩
    ·refine E3 9 rfl GOn.none (AZ) fun b16=>?_
     refine ⟨_,Split.ent AC,?_⟩
     refine CC 4 rfl AK (AA (KX p W μ3 (hW.le (k1.trans (k2.trans k3))) hS n (by rw [← hC]; omega)) rfl rfl AC) ?_
     rintro v69 L1 ⟨At,ct,tl,rfl,⟨htl,hts⟩,rfl⟩
     refine ⟨_,BL (Split.ent AC),?_⟩
     refine HY (e:=111) (n:=2) (v:=.slice At tl.length ct) (μ:=μ3) AC fun μ4 k4 htr=>?_
     refine BT 5 rfl AK AK (AA (Ny μ4 dv _ old tl (hold.le k4) htr hos hts Ax Ax) rfl rfl AC) ?_
     rintro v70 L1 ⟨μ5,st,bt,k5,hfl,rfl,rfl⟩
     refine Cc (AD 6 rfl (AG rfl) (AD 7 rfl (Ai rfl) (AD 8 rfl (Ai rfl) (Cj 10 rfl AK AK (AU rfl rfl rfl rfl) (AD 11 rfl (Bl rfl) (C0 [0,4,7,8,9,10,13,16] rfl (Bs AK ?_)))))))
     exact Af ⟨_,μ5,st,bt,⟨rfl,rfl,rfl,rfl,rfl,rfl,rfl,rfl,trivial⟩,Split.ent' AC,k4.trans k5,hfl⟩
   rintro env L ⟨b16,μ5,st,bt,hsub,hE,k5,hfl⟩
   refine B3 _ hsub (AP hE ?_)
   clear hsub hE env L
   refine CG (fun m h=>Ku .here h) fun hsh=>?_
   have hvl:(CP (Ce C) ps).length=ps.length:=by unfold CP; rw [List.length_map]
   refine A0 (Ad rfl (Ad rfl ?_))
   refine Aw (AA (R:=[]) (WC uv (CP (Ce C) ps) _ (XI (by rw [hvl]; exact hsh) (by rw [hvl]; exact K3))) rfl rfl Split.all) ?_
   rintro v75 L1 ⟨rfl,rfl⟩
   rw [List.append_nil]
   refine Aw (Bg (qs:=[(0,_)]) rfl rfl rfl) fun b76=>?_
   refine Aw (B9 (l:=n) (m:=1) rfl rfl AC (by simp only [maxLen]; omega) Ax) ?_
   rintro v77 -
   refine Cv (fun m h=>Iu h) fun hcA=>?_
   obtain ⟨bA,cA,rfl⟩:∃ b c:Nat,v77=.slice (some ⟨b,0,none⟩) (n+1) c:=by
    obtain ⟨A',c',e,e1,e2,e3,e4⟩:=hcA
    cases A' with
    | none=>have:=e3 rfl; omega
    | some a=>obtain ⟨b,rfl⟩:=e4 a rfl; exact ⟨b,c',e⟩
   have hgs:((Ce C).take n).flatMap (Bj .i64)++[.int .i64 (C4 (CP (Ce C) ps))]=((Ce C).take (n+1)).flatMap (Bj .i64):=by rw [BE hga,List.flatMap_append]; rfl
   rw [hgs]
   have hgn:((Ce C).take (n+1))[n]? = some (C4 (CP (Ce C) ps)):=by rw [List.getElem?_take_of_lt Ax]; exact hga
   refine As [0,4,7,8,9,10,16] rfl rfl ?_
   refine Ba [2,4,8,9] ([own 3 1 (.slice (some ⟨bA,0,none⟩) (n+1) cA) (n+1) (((Ce C).take (n+1)).flatMap (Bj .i64)),B1 b16 206 [.int .i64 st,.string (str bt)],B1 b10 88 [.slice Ap ps.length cp,.int .i64 tr]]) ([own 3 1 uv ps.length ((CP (Ce C) ps).flatMap (Bj .i64)),own 211 5 ov V.length (V.flatMap QR),B1 b4 43 [.int .i64 3,.int .i64 10,.int .i64 2,.int .u32 7],Cy p W,Df W,Dc W,ro μ5]) (Split.ent AC) AK ?_
   refine AD 0 rfl (AG rfl) (AD 1 rfl (Ab rfl) (Bc 2 rfl (Ag rfl rfl) rfl (AD 3 rfl (Ab rfl) (Bc 4 rfl (Ag rfl rfl) rfl (AD 5 rfl (AG rfl) (AD 6 rfl (AG rfl) ?_))))))
   refine AD 7 rfl (AB n rfl rfl Ax Ax (by rw [Int.toNat_natCast]; omega)) ?_
   refine Bc 8 rfl (PL rfl K3 (by have:=LU (f:=Bj .i64) (n:=1) (fun _=>rfl) hgn 0 _ rfl; rwa [Nat.mul_one,Nat.add_zero] at this)) rfl ?_
   refine Bc 9 rfl (BG (vs:=[.int .i64 st,.string (str bt)]) rfl rfl rfl) rfl (AD 10 rfl (Bo (qs:=[(0,_),(1,_),(2,_),(3,_)]) rfl) (BT 11 rfl AK AK (Bg (qs:=[(0,_)]) rfl rfl rfl) (fun b89=>?_)))
   refine Mo 12 rfl AK AK (B9 (l:=V.length) (m:=1) rfl rfl AC (by simp only [maxLen]; omega) Ax) ?_
   rintro v90 -
   skip
   refine AD 13 rfl (Bl rfl) (C0 [0,4,7,8,9] rfl (Bs AK (AR (Af (Al (Ad rfl (Ac (AO ((n+1:Nat):Int) rfl rfl Ax Ax Ax) (AX rfl (Be [0,4,7,8,9] rfl (AH ?_))))))))))
   refine Af ⟨(n+1,V++[(.slice Ap ps.length cp,⟨ps,tr,C4 (CP (Ce C) ps),st,bt⟩)],μ5,(some ⟨bA,0,none⟩,cA),v90),⟨⟨rfl,rfl,rfl,rfl,rfl,trivial⟩,?_,?_,h25',k1.trans (k2.trans (k3.trans k5)),?_⟩,by show C.length-(n+1)<C.length-n; omega⟩
   ·dsimp only
    rw [List.length_append,List.flatMap_append]
    show Ent _ [own 3 1 (.slice (some ⟨bA,0,none⟩) (n+1) cA) (n+1) (((Ce C).take (n+1)).flatMap (Bj .i64)),own 211 5 v90 (V.length+1) (V.flatMap QR++[.slice Ap ps.length cp,.int .i64 tr,.int .i64 (C4 (CP (Ce C) ps)),.int .i64 st,.string (str bt)]),B1 b4 43 [.int .i64 3,.int .i64 10,.int .i64 2,.int .u32 7],Cy p W,Df W,Dc W,ro μ5]
    exact Split.ent' AC
   ·dsimp only
    rw [List.length_append,List.length_singleton]; omega
   ·exact (hV.le (k2.trans (k3.trans k5))).snoc (x:=(.slice Ap ps.length cp,⟨ps,tr,C4 (CP (Ce C) ps),st,bt⟩)) (hps.le (k3.trans k5)) (by rw [hn]; exact hc) (by rw [hn]; exact hga) hfl
 ·have h25':=of_decide_eq_false h25
  obtain rfl:n=C.length:=by omega
  refine BC (e:=211) (n:=5) (v:=ov) (μ:=μ1) AC fun μ2 k2 hor=>?_
  refine AY (AS (AS (AV rfl (Af (A0 (Ad rfl (As [6] rfl rfl (Ar ?_))))))))
  exact Aq [Cy p W,Df W,Dc W,ro μ2] (.tmp rfl .nil) ⟨μ2,V,k1.trans k2,⟨hor,(hV.le k2).ps⟩,hV.rn Ax,by omega,rfl⟩ AC
instance tif_xs:TIface prog 131:=⟨⟨_,underlying131⟩⟩
theorem NF (μ:PH)(p q:Nat)(lv gv:Value)(l:List Lk)(ps:Nat)(W:SW)(hW:W.Ok μ)(hl:Row μ lv 3 l.length (l.flatMap Er))(ht:BB l≤W.pl.2.length)(hc:W.pl.2.length≤16) :
  Spec prog 58 [pv p,.iface 39 (pv ps),.agg setC.toArray] [xB p q lv gv,Cy ps W,ro μ] (fun r L=>r=.int .i64 0∧L=[xB p q lv gv,Cy ps W,ro μ]):=by
 have hpl:=HX W
 refine Spec.of 25 func58 rfl rfl rfl ?_
 refine A0 (Aw (Bi rfl rfl) (fun b5=>?_))
 refine As [0,1,5] rfl rfl (Ae (A0 (Ad rfl (Ac (Bd rfl rfl) (Ad rfl ?_)))))
 refine B7 9 rfl (fun h9=>by cases h9) (fun h9=>?_)
 refine AQ rfl rfl (Ad rfl (AQ rfl rfl (Ac (FZ rfl rfl) (Ac (AT rfl rfl) (Ad rfl ?_)))))
 refine B7 13 rfl (fun h13=>by cases h13) (fun h13=>?_)
 refine AQ rfl rfl (AJ (BG (vs:=setC) rfl rfl rfl) (AQ rfl rfl ?_))
 refine Aw (AA Gs rfl rfl AC) ?_
 rintro v15 L1 ⟨rfl,rfl⟩
 refine Aj (AQ rfl rfl (Ac (Bm rfl rfl) (Ac (AT rfl rfl) (Ad rfl ?_))))
 refine B7 18 rfl (fun h18=>by cases h18) (fun h18=>?_)
 refine AQ rfl rfl (Ad rfl (AQ rfl rfl ?_))
 refine Aw (DU rfl (Nat.zero_le _) (InvS.of (Fy ps W μ hW)) rfl AC) ?_
 rintro v20 L1 ⟨rfl,rfl⟩
 refine Aj (AQ rfl rfl (Ad rfl (AQ rfl rfl ?_)))
 refine Aw (AA (Ga p q lv gv [ro μ] l (.row hl) Ax) rfl rfl AC) ?_
 rintro v22 L1 ⟨rfl,rfl⟩
 refine Aj (AQ rfl rfl (Ac (Bb rfl rfl) (Ac (AT rfl rfl) (AE [24] rfl ?_))))
 refine Ak rfl (fun h24=>by have:=of_decide_eq_true h24; omega) (fun h24=>?_)
 refine Am (Af (A0 (As [6] rfl rfl (Ar ?_))))
 exact Aq [xB p q lv gv,Cy ps W,ro μ] (.tmp rfl .nil) ⟨rfl,rfl⟩ AC
theorem A1n{C:List Cm}{R:List GR}(h:RW C R)(hC:GC C):Gz R=(Ce C).take (Gz R).length:=by
 rw [Kl]
 apply List.ext_getElem?
 intro i
 have hl:=h.len
 have hg:=hC.glen
 by_cases hi:i<R.length
 ·rw [List.getElem?_take_of_lt hi]
  have hr:R[i]? = some R[i]:=List.getElem?_eq_getElem hi
  rw [(h.row i _ hr).2]
  unfold Gz
  rw [List.getElem?_map,hr]; rfl
 ·rw [List.getElem?_take_eq_none Ax,List.getElem?_eq_none (by rw [Kl]; omega)]
structure XS (μ:PH) (m c:Nat) (W:SW) (d:Dk) (lv gv:Value) (l:List Lk) (V:List GV):Prop where
 xd:XD m c d l (Gy V)
 ix:IX μ lv gv l V
 rw:RW W.pl.2 (D4 (Gy V))
theorem XS.tot{μ:PH}{m c:Nat}{W:SW}{d:Dk}{lv gv:Value}{l:List Lk}{V:List GV}(h:XS μ m c W d lv gv l V):BB l=(D4 (Gy V)).length∧BB l≤W.pl.2.length:=by
 have a:=h.xd.rall
 have b:=h.rw.len
 omega
theorem XS.le{μ μ':PH}{m c:Nat}{W:SW}{d:Dk}{lv gv:Value}{l:List Lk}{V:List GV}(h:XS μ m c W d lv gv l V)(k:Le μ μ'):XS μ' m c W d lv gv l V:=⟨h.xd,h.ix.le k,h.rw⟩
abbrev Z5 (p ps q:Nat)(W:SW)(d:Dk)(lv gv:Value)(μ:PH):List AF:=[xB p q lv gv,FSA q d,Cy ps W,Df W,Dc W,ro μ]
def XQ (p ps q m c:Nat)(W:SW)(μ:PH)(d:Dk)(r:Value)(L:List AF):Prop:=∃ μ' lv gv d' l V,Le μ μ'∧XS μ' (m+22) (c+1) W d' lv gv l V∧El d' logN=El d logN∧r=.int .i64 0∧L=Z5 p ps q W d' lv gv μ'
set_option maxHeartbeats 4000000 in
theorem P1 (μ:PH)(hs:SynOk μ)(m c p q ps:Nat)(d:Dk)(l:List Lk)(V:List GV)(lv gv:Value)(W:SW)(hX:XS μ m c W d lv gv l V)(hW:W.Ok μ)(hS:SOk W)(h0:1≤W.pl.2.length)(hc:c<13)(hm:m≤40000) :
  Spec prog 45 [pv p,.iface 39 (pv ps),.agg setC.toArray] (Z5 p ps q W d lv gv μ) (XQ p ps q m c W μ d):=by
 have hC16:=hS.gc.len
 have hpl:=HX W
 obtain ⟨ht,ht2⟩:=hX.tot
 refine Spec.of 27 func45 rfl rfl rfl ?_
 refine A0 (Aw (Bi rfl rfl) (fun b5=>?_))
 refine As [0,1,5] rfl rfl (Ae (A0 (Ad rfl (Ad rfl (AJ (BG (vs:=setC) rfl rfl rfl) ?_)))))
 refine Aw (AA (NF μ p q lv gv l ps W hW hX.ix.lr ht2 hC16) rfl rfl AC) ?_
 rintro v11 L1 ⟨rfl,rfl⟩
 refine Aj (As [0,1,5,7] rfl rfl (A0 (Ad rfl (Ac (Bm rfl rfl) (Ad rfl ?_)))))
 refine B7 14 rfl (fun h14=>by cases h14) (fun h14=>?_)
 refine AQ rfl rfl (Ad rfl (AQ rfl rfl ?_))
 refine Aw (DU rfl (Nat.zero_le _) (InvS.of (Fy ps W μ hW)) rfl AC) ?_
 rintro v16 L1 ⟨rfl,rfl⟩
 refine Aj (AQ rfl rfl (Ac (Bp rfl rfl) (Ac (AT rfl rfl) (AE [0,1,5,7,18] rfl ?_))))
 refine Ak rfl (fun h18=>by have:=of_decide_eq_true h18; omega) (fun h18=>?_)
 refine Am (Af (Ae ?_))
 refine Ba [1,3] ([B1 b5 43 setC]) ([Cy ps W,xB p q lv gv,ro μ,FSA q d,Df W,Dc W]) (Split.ent AC) AK ?_
 refine AD 0 rfl (AG rfl) (Bc 1 rfl (BG (vs:=setC) rfl rfl rfl) rfl (AD 2 rfl (AG rfl) (Bc 3 rfl (BG (vs:=setC) rfl rfl rfl) rfl ?_)))
 refine CC 4 rfl AK (AA (NE ps W μ hW hS (.slice none 0 0) [] (Row.nil _ _) (by simp) (Nat.zero_le _)) rfl rfl AC) ?_
 rintro v24 L1 ⟨μ1,R,k1,hg,hn,hl,rfl⟩
 refine ⟨_,BL (Split.ent AC),?_⟩
 obtain ⟨A24,c24,rfl⟩:=hg.row.sl
 refine AD 5 rfl (Bo (qs:=[(1,_),(2,_)]) rfl) ?_
 have hl':R.length=W.pl.2.length:=by simpa using hl
 refine BT 6 rfl AK AK (AA (Rr μ1 (hs.le k1) m c p q d l V lv gv hX.xd (hX.ix.le k1) hc hm [] [] (.slice none 0 0) (.slice none 0 0) (IX.none μ1) (.inr ⟨rfl,rfl⟩) rfl 0 _ R rfl hg (hn.ok hS.gc) Ax (by decide) (by show 0+R.length≤_; omega) _ rfl) rfl rfl AC) ?_
 rintro v26 L1 ⟨μ2,lv',gv',d',k2,hI',hX',hlog,rfl,rfl⟩
 refine Cc (AD 7 rfl (Bl rfl) (C0 [6] rfl (Bs AK (Af (Ar ?_)))))
 refine Aq (Z5 p ps q W d' lv' gv' μ2) (.tmp rfl .nil) ⟨μ2,lv',gv',d',_,_,k1.trans k2,⟨hX',hI',?_⟩,hlog,rfl,rfl⟩ AC
 have e:D4 (Gy [(0,Value.slice A24 R.length c24,R)])=DZ R:=Jc _ _
 rw [List.nil_append,e]
 exact hn.whole
theorem XS.up{μ:PH}{m c:Nat}{W:SW}{d:Dk}{lv gv:Value}{l:List Lk}{V:List GV}(h:XS μ m c W d lv gv l V):XS μ (m+22) (c+1) W d lv gv l V:=⟨⟨h.xd.dv.mono Ax,h.xd.nm,h.xd.ch,h.xd.len,h.xd.gf,h.xd.lk,by have:=h.xd.nx; omega⟩,h.ix,h.rw⟩
set_option maxHeartbeats 8000000 in
theorem WF (μ:PH)(hs:SynOk μ)(m c p q ps:Nat)(d:Dk)(l:List Lk)(V:List GV)(lv gv:Value)(W:SW)(hX:XS μ m c W d lv gv l V)(hW:W.Ok μ)(hS:SOk W)(h0:1≤W.pl.2.length)(hc:c<13)(hm:m≤40000) :
  Spec prog 31 [pv p,.iface 39 (pv ps),.agg setC.toArray] (Z5 p ps q W d lv gv μ) (XQ p ps q m c W μ d):=by
 have hC16:=hS.gc.len
 have hpl:=HX W
 obtain ⟨ht,ht2⟩:=hX.tot
 refine Spec.of 51 func31 rfl rfl rfl ?_
 refine A0 (Aw (Bi rfl rfl) (fun b5=>?_))
 refine As [0,1,5] rfl rfl (Ae (A0 (Ad rfl (Ad rfl (AJ (BG (vs:=setC) rfl rfl rfl) ?_)))))
 refine Aw (AA (NF μ p q lv gv l ps W hW hX.ix.lr ht2 hC16) rfl rfl AC) ?_
 rintro v11 L1 ⟨rfl,rfl⟩
 refine Aj (As [0,1,5,7] rfl rfl (A0 (Ad rfl (Ac (Bm rfl rfl) (Ad rfl ?_)))))
 refine B7 14 rfl (fun h14=>by cases h14) (fun h14=>?_)
 refine AQ rfl rfl (Ad rfl (AQ rfl rfl ?_))
 refine Aw (DU rfl (Nat.zero_le _) (InvS.of (Fy ps W μ hW)) rfl AC) ?_
 rintro v16 L1 ⟨rfl,rfl⟩
 refine Aj (AQ rfl rfl (Ad rfl (AQ rfl rfl ?_)))
 refine Aw (AA (Ga p q lv gv [ro μ] l (.row hX.ix.lr) Ax) rfl rfl AC) ?_
 rintro v18 L1 ⟨rfl,rfl⟩
 refine Aj (AQ rfl rfl (Ac (Bp rfl rfl) (Ac (AT rfl rfl) (AE [0,1,5,7,20] rfl ?_))))
 refine Ak rfl (fun h20=>?_) (fun h20=>?_)
 ·refine A0 (Ad rfl (As [6] rfl rfl (Ar (AN ?_))))
  exact Aq (Z5 p ps q W d lv gv μ) (.tmp rfl .nil) ⟨μ,lv,gv,d,l,V,Le.refl _,hX.up,rfl,rfl,rfl⟩ AC
 ·have h20':=of_decide_eq_false h20
  refine Am (Af (Ae (A0 (Ad rfl (Ac (Ah rfl) (Ac (Ab rfl) (AJ (Ag rfl rfl) (Ac (B2 hX.ix.lr rfl) (Ac (CA rfl rfl) (AE [0,1,5,27] rfl ?_))))))))))
  refine Ak rfl (fun h27=>?_) (fun h27=>?_)
  ·refine A0 (Ad rfl (Ad rfl (AJ (BG (vs:=setC) rfl rfl rfl) ?_)))
   refine Aw (AA (P1 μ hs m c p q ps d l V lv gv W hX hW hS h0 hc hm) rfl rfl AC) ?_
   rintro v31 L1 ⟨μ',lv',gv',d',l',V',k1,hX',hlog,rfl,rfl⟩
   refine Aj (As [6] rfl rfl (Ar (AN ?_)))
   exact Aq (Z5 p ps q W d' lv' gv' μ') (.tmp rfl .nil) ⟨μ',lv',gv',d',l',V',k1,hX',hlog,rfl,rfl⟩ AC
  ·have h27':=of_decide_eq_false h27
   refine Am (Af (Ae ?_))
   refine Ba [4,8,11,13] ([xB p q lv gv,B1 b5 43 setC]) ([ro μ,Cy ps W,FSA q d,Df W,Dc W]) (Split.ent AC) AK ?_
   refine AD 0 rfl (AG rfl) (AD 1 rfl (AG rfl) (AD 2 rfl (Ah rfl) (AD 3 rfl (Ab rfl) (Bc 4 rfl (Ag rfl rfl) rfl (AD 5 rfl (AG rfl) (AD 6 rfl (Ah rfl) (AD 7 rfl (Ab rfl) (Bc 8 rfl (Ag rfl rfl) rfl (AD 9 rfl (AG rfl) (Bc 11 rfl (BG (vs:=setC) rfl rfl rfl) rfl (AD 12 rfl (AG rfl) (Bc 13 rfl (BG (vs:=setC) rfl rfl rfl) rfl (AD 14 rfl (AG rfl) ?_)))))))))))))
   refine CC 10 rfl AK (AA (Ga p q lv gv [ro μ] l (.row hX.ix.lr) Ax) rfl rfl AC) ?_
   rintro v42 L1 ⟨rfl,rfl⟩
   refine ⟨_,BL (Split.ent AC),?_⟩
   refine CC 15 rfl AK (AA (WE μ p q lv gv l V hX.ix Ax) rfl rfl AC) ?_
   rintro v47 L1 rfl
   refine ⟨_,BL (Split.ent AC),?_⟩
   refine HY (v:=v47) (μ:=μ) AC fun μ1 k1 hk=>?_
   have hgl:=Kl (D4 (Gy V))
   refine CC 16 rfl AK (AA (NE ps W μ1 (hW.le k1) hS v47 (Gz (D4 (Gy V))) hk (A1n hX.rw hS.gc) Ax) rfl rfl AC) ?_
   rintro v48 L1 ⟨μ2,R,k2,hg,hn,hl,rfl⟩
   refine ⟨_,BL (Split.ent AC),?_⟩
   obtain ⟨A48,c48,rfl⟩:=hg.row.sl
   refine AD 17 rfl (Bo (qs:=[(0,_),(1,_),(2,_)]) rfl) ?_
   have hbase:BB l=(Gz (D4 (Gy V))).length:=by omega
   have hlen:V.length=l.length:=by have:=hX.xd.len; unfold Gy at this; rwa [List.length_map] at this
   rw [hgl] at hn hl
   refine BT 18 rfl AK AK (AA (Rr μ2 (hs.le (k1.trans k2)) m c p q d l V lv gv hX.xd (hX.ix.le (k1.trans k2)) hc hm l V lv gv (hX.ix.le (k1.trans k2)) (.inl ⟨rfl,rfl⟩) hlen (BB l) _ R rfl hg (by rw [ht]; exact hn.ok hS.gc) Ax Ax Ax _ rfl) rfl rfl AC) ?_
   rintro v50 L1 ⟨μ3,lv',gv',d',k3,hI',hX',hlog,rfl,rfl⟩
   refine Cc (AD 19 rfl (Bl rfl) (C0 [6] rfl (Bs AK (Af (Ar ?_)))))
   refine Aq (Z5 p ps q W d' lv' gv' μ3) (.tmp rfl .nil) ⟨μ3,lv',gv',d',_,_,(k1.trans k2).trans k3,⟨hX',hI',?_⟩,hlog,rfl,rfl⟩ AC
   have e:D4 (Gy (V++[(BB l,Value.slice A48 R.length c48,R)]))=D4 (Gy V)++DZ R:=by
    unfold Gy
    rw [List.map_append,Ht]
    exact congrArg (_++·) (Jc _ _)
   rw [e]
   exact RN.join hX.rw hn
abbrev grZ:List Value:=[.slice none 0 0,.int .i64 0,.int .i64 0,.int .i64 0,.string ⟨#[]⟩]
abbrev stZ:List Value:=[.int .i64 0,.int .i64 0,.int .i64 0,.int .u32 0]
set_option maxHeartbeats 4000000 in
theorem Tq (μ:PH)(m c p q:Nat)(d:Dk)(l:List Lk)(V:List GV)(lv gv:Value)(hX:XD m c d l (Gy V))(hI:IX μ lv gv l V)(ht:BB l≤65536)(n:Nat)(hn:n<BB l) :
  Spec prog 351 [pv p,.int .i64 (n:Nat)] [xB p q lv gv,ro μ] (fun r L=>∃ A c0 R,(D4 (Gy V))[n]? = some R∧Row μ (.slice A R.ps.length c0) 1 R.ps.length (R.ps.flatMap (Bj .i64))∧r=.tuple #[.agg (grl A c0 R).toArray,.agg setC.toArray,.bool true]∧L=[xB p q lv gv,ro μ]):=by
 have hVl:V.length=l.length:=by have:=hX.len; unfold Gy at this; rwa [List.length_map] at this
 have hsm:=hI.gr.small
 refine Spec.of 47 func351 rfl rfl rfl ?_
 refine A0 (Aw (AZ) (fun b4=>?_))
 refine Aw (AZ) fun b5=>?_
 refine As [0,1,4,5] rfl rfl (Ae (A0 (Ad rfl (Ac (CA rfl rfl) (Ad rfl ?_)))))
 refine B7 11 rfl (fun h11=>?_) (fun h11=>by have:=of_decide_eq_false h11; omega)
 refine AQ rfl rfl (Ad rfl (AQ rfl rfl (Ad rfl (AQ rfl rfl ?_))))
 refine Aw (AA (Ga p q lv gv [ro μ] l (.row hI.lr) Ax) rfl rfl AC) ?_
 rintro v14 L1 ⟨rfl,rfl⟩
 refine Aj (AQ rfl rfl (Ac (Bb rfl rfl) (Ac (B4 rfl rfl) (AE [0,1,4,5,16] rfl ?_))))
 refine Ak rfl (fun h16=>?_) (fun h16=>by have:=of_decide_eq_false h16; omega)
 refine A0 (Ad rfl (Ac (Ah rfl) (Ac (Ab rfl) (AJ (Ag rfl rfl) (Ac (B2 hI.gr rfl) (Ad rfl (AE [1,4,5,20,21,22] rfl (Au ?_))))))))
 refine B0 (ι:=Nat) (fun i env L=>Sub env [(1,.int .i64 (n:Nat)),(4,pv b4),(5,pv b5),(20,gv),(21,.int .i64 (V.length:Nat)),(22,.int .i64 (i:Nat))]∧Ent L [B1 b4 211 grZ,B1 b5 43 stZ,xB p q lv gv,ro μ]∧i≤V.length∧BB (l.take i)≤n) (fun i=>V.length-i) 0 ⟨⟨rfl,rfl,rfl,rfl,rfl,rfl,trivial⟩,Split.ent' AC,Nat.zero_le _,Nat.zero_le _⟩ ?_
 rintro i env L ⟨hsub,hE,hi,hti⟩
 refine B3 _ hsub (AP hE ?_)
 clear hsub hE env L
 refine A0 (Ac (Bb rfl rfl) (AE [1,4,5,20,21,22,23] rfl (Ae ?_)))
 refine Ak rfl (fun h23=>?_) (fun h23=>?_)
 ·have h23':i<V.length:=by have:=of_decide_eq_true h23; omega
  obtain ⟨x,hx⟩:∃ x,V[i]? = some x:=⟨_,List.getElem?_eq_getElem h23'⟩
  obtain ⟨y,hy⟩:∃ y,l[i]? = some y:=⟨_,List.getElem?_eq_getElem Ax⟩
  obtain ⟨gb,off,cap,hv,hra⟩:=Z3 hI.gr hx
  have hgr:=hI.rs x (List.mem_of_getElem? hx)
  have hpx:(Gy V)[i]? = some (x.1,DZ x.2.2):=by unfold Gy; rw [List.getElem?_map,hx]; rfl
  obtain ⟨-,-,f3,f4,-⟩:=hX.gf i y _ hy hpx
  have hts:=GO hy
  have hle:=Ja (l:=l) (i+1)
  have hRl:(DZ x.2.2).length=x.2.2.length:=List.length_map _
  have hfind:=hX.find (n:=n) hpx hti
  obtain ⟨base,rv,R⟩:=x
  dsimp only at hra hgr f3 f4 hRl hfind
  obtain ⟨Arv,crv,rfl⟩:=hgr.row.sl
  refine Am (Af (Ae (Au (A0 ?_))))
  refine Ac (AB (off+i*6) (congrArg some hv) rfl Ax Ax (by rw [Int.toNat_natCast])) ?_
  refine AJ (CZ (vs:=LF base (.slice Arv R.length crv)) rfl rfl hra) (Aw (AZ) (fun b8=>?_))
  refine B5 (AU rfl rfl rfl rfl) (AE [1,4,5,8,20,21,22] rfl (A0 (Ad rfl (Ac (Ab rfl) (AJ (Ag rfl rfl) (Ac (Ab rfl) (AJ (Ag rfl rfl) (Ac (B2 hgr.row rfl) (Ac (AO ((base+R.length:Nat):Int) rfl rfl Ax Ax Ax) (Ac (Bb rfl rfl) (AE [1,4,5,8,20,21,22,33] rfl ?_)))))))))))
  refine Ak rfl (fun h33=>?_) (fun h33=>?_)
  ·have h33':n<base+R.length:=by have:=of_decide_eq_true h33; omega
   obtain ⟨hb,hrow⟩:=hfind Ax
   obtain ⟨z,hz⟩:∃ z,R[n-base]? = some z:=⟨_,List.getElem?_eq_getElem Ax⟩
   obtain ⟨rb,ro1,rcap,Az,cz,hrv,hrz,hrp,-⟩:=PN hgr hz
   rw [Sw hz] at hrow
   obtain ⟨zv,z⟩:=z
   dsimp only at hrz hrp hrow
   refine Ae ?_
   refine Ba [1,4,7,9] ([B1 b8 141 (LF base (.slice Arv R.length crv)),ro μ]) ([B1 b4 211 grZ,B1 b5 43 stZ,xB p q lv gv]) (Split.ent AC) AK ?_
   refine AD 0 rfl (Ab rfl) (Bc 1 rfl (Ag rfl rfl) rfl (AD 2 rfl (AG rfl) (AD 3 rfl (Ab rfl) (Bc 4 rfl (Ag rfl rfl) rfl (AD 5 rfl (BY ((n-base:Nat):Int) rfl rfl Ax Ax Ax) ?_)))))
   refine AD 6 rfl (AB (ro1+(n-base)*5) (congrArg some hrv) rfl Ax Ax (by rw [Int.toNat_natCast])) ?_
   refine Bc 7 rfl (CZ (vs:=grl Az cz z) rfl rfl hrz) rfl (AD 8 rfl (Ab rfl) (Bc 9 rfl (BG (vs:=setC) rfl rfl rfl) rfl (Mq 10 rfl AK (AU rfl rfl rfl rfl) ?_)))
   refine ⟨_,Split.ent AC,?_⟩
   refine Cs 11 rfl AK AK (AU rfl rfl rfl rfl) (AD 12 rfl (Bl rfl) (C0 [4,5,6] rfl (Bs AK (Af (Ar (B6 (AN (AN (B6 (AN ?_))))))))))
   exact Aq [xB p q lv gv,ro μ] (.cell rfl (Bn rfl) (.cell rfl (Bn rfl) (.tmp rfl .nil))) ⟨Az,cz,z,hrow,hrp,rfl,rfl⟩ AC
  ·have h33':=of_decide_eq_false h33
   refine Am (AR (Af (Al (Ac (AO ((i+1:Nat):Int) rfl rfl Ax Ax Ax) (Ad rfl (Be [1,4,5,20,21,22] rfl (AH ?_)))))))
   exact Af ⟨i+1,⟨⟨rfl,rfl,rfl,rfl,rfl,rfl,trivial⟩,Split.ent' AC,h23',by omega⟩,by omega⟩
 ·have h23':=of_decide_eq_false h23
  obtain rfl:i=V.length:=by omega
  rw [hVl,List.take_length] at hti
  refine AY (AS (AS (AV rfl (Af (A0 (Ac (Bo (qs:=[]) rfl) (Ac (Bo (qs:=[]) rfl) (B5 (AU rfl rfl rfl rfl) (B5 (AU rfl rfl rfl rfl) (As [4,5,6] rfl rfl (Ar ?_)))))))))))
  omega
abbrev rwO (A:Option Addr)(c0:Nat)(R:GR):AF:=own 3 1 (.slice A R.ps.length c0) R.ps.length (R.ps.flatMap (Bj .i64))
set_option maxHeartbeats 2000000 in
theorem WG (μ:PH)(m c p q:Nat)(d:Dk)(l:List Lk)(V:List GV)(lv gv:Value)(hX:XD m c d l (Gy V))(hI:IX μ lv gv l V)(ht:BB l≤65536)(n:Nat)(hn:n<BB l)(hps:∀ R,(D4 (Gy V))[n]? = some R→R.ps.length≤16) :
  Spec prog 296 [pv p,.int .i64 (n:Nat)] [xB p q lv gv,ro μ] (fun r L=>∃ A c0 R,(D4 (Gy V))[n]? = some R∧r=.tuple #[.agg (grl A c0 R).toArray,.bool true]∧L=[rwO A c0 R,xB p q lv gv,ro μ]):=by
 refine Spec.of 22 func296 rfl rfl rfl ?_
 refine A0 ?_
 refine Aw (AZ) fun b4=>?_
 refine As [0,1,4] rfl rfl (A0 (Ad rfl (Ad rfl ?_)))
 refine Aw (AA (Tq μ m c p q d l V lv gv hX hI ht n hn) rfl rfl AC) ?_
 rintro v12 L1 ⟨A,c0,R,hR,hrow,rfl,rfl⟩
 refine Aj (Ad rfl (Ac (Ai rfl) (Ac (Ai rfl) (Ac (Ai rfl) ?_))))
 refine Aw (AZ) fun b6=>?_
 refine Aw (AZ) fun b7=>?_
 refine B5 (AU rfl rfl rfl rfl) ?_
 refine B5 (AU rfl rfl rfl rfl) ?_
 refine As [4,6,8] rfl rfl (A0 (Ac (Ab rfl) (AJ (Ag rfl rfl) ?_)))
 refine Aw (AA (FQ μ _ R.ps hrow (by have:=hps R hR; omega)) rfl rfl AC) ?_
 rintro v18 L1 ⟨A18,c18,rfl,rfl⟩
 refine Aj (Ac (Ab rfl) ?_)
 refine B5 (AW rfl rfl rfl) ?_
 refine AE [4,6,8] rfl (A0 ?_)
 refine AJ (BP rfl rfl) ?_
 refine Ad rfl ?_
 refine B5 (AU rfl rfl rfl rfl) ?_
 refine As [4,5] rfl rfl (Ar ?_)
 exact Aq [rwO A18 c18 R,xB p q lv gv,ro μ] (.cell rfl (Bn rfl) (.tmp rfl .nil)) ⟨A18,c18,R,hR,rfl,rfl⟩ AC

def tabV:List Value:=Lib.deBruijn64tab.map fun n=>Value.int .u8 (n:Nat)
theorem A0n{μ:PH}{g:Nat}(h:RowAt μ g 0 tabV){j k:Nat}(hj:j<64)(hk:Lib.deBruijn64tab.getD j 0=k):CellAt μ g j (.int .u8 (k:Nat)):=by
 have hlen:Lib.deBruijn64tab.length=64:=rfl
 have:=h j (.int .u8 (k:Nat)) (by
  unfold tabV
  rw [List.getElem?_map,List.getElem?_eq_getElem Ax]
  simp only [Option.map_some]
  rw [← hk,List.getD_eq_getElem?_getD,List.getElem?_eq_getElem Ax]; rfl)
 rwa [Nat.zero_add] at this

theorem A0o(μ:PH)(w:BitVec 64)(hT:RowAt μ 2 0 tabV)(hw:w≠0#64):Spec prog 344 [wv w] [ro μ] (fun v L=>v=.int .i64 (ctz w:Nat)∧L=[ro μ]):=by
 obtain ⟨h1,h2⟩:=ZC hw
 have hc:=A0n hT h1 h2
 have hz:=(Qw hw).1
 have hn:¬ ((w.toNat:Int)=0):=fun e=>hw (BitVec.eq_of_toNat_eq (by simpa using e))
 refine Spec.of 14 func344 rfl rfl rfl ?_
 refine A0 (As [0] rfl rfl (Ae (A0 (Ad rfl (Ac (Bp rfl rfl) (AE [0,4] rfl ?_))))))
 refine Ak rfl (fun h4=>absurd (of_decide_eq_true h4) hn) (fun h4=>?_)
 refine Am (Af (A0 (Ad rfl (Ad rfl (Ac (Xs (a:=w) rfl) (Ac (Qv (a:=w) (b:=-w) rfl rfl) (Ac (Xr (a:=w &&& -w) (b:=285870213051353865#64) rfl rfl) ?_)))))))
 refine Ac (K6 (a:=(w &&& -w)*285870213051353865#64) 58 rfl rfl (by decide)) ?_
 refine Ac (Fi (((w &&& -w)*285870213051353865#64) >>> 58).toNat rfl rfl Ax Ax (by rw [Int.toNat_natCast]; omega)) ?_
 refine AJ (C3 rfl hc) (Ac (Bw rfl Ax Ax) (As [2] rfl rfl (Ar ?_)))
 exact Aq [ro μ] (.tmp rfl .nil) ⟨rfl,rfl⟩ AC

def ucs (w:BitVec 64):List Value:=[wv w]
theorem Uq (w:BitVec 64):(ucs w).length=1:=rfl
def CU (ws:List (BitVec 64)):List Value:=ws.flatMap ucs
theorem Fz (ws:List (BitVec 64)):(CU ws).length=ws.length:=by unfold CU; rw [Ca Uq,Nat.mul_one]
theorem FA {ws:List (BitVec 64)}{ex:List Value}{i:Nat}{w:BitVec 64}(h:ws[i]? = some w):(CU ws++ex)[i]? = some (wv w):=by
 have:=C1 Uq ws ex i w h 0 (wv w) rfl
 rwa [Nat.mul_one,Nat.add_zero] at this
theorem Tr {ws:List (BitVec 64)}{ex:List Value}{i:Nat}{w:BitVec 64}(h:i<ws.length):(CU ws++ex).set i (wv w)=CU (ws.set i w)++ex:=by
 rw [List.set_append_left _ _ (by rw [Fz]; exact h)]
 congr 1
 apply List.ext_getElem?
 intro j
 have key:∀ (ws:List (BitVec 64)) (j:Nat),(CU ws)[j]? = (ws[j]?).map wv:=by
  intro ws j
  cases hj:ws[j]? with
  | none =>
   rw [List.getElem?_eq_none_iff] at hj
   simp only [Option.map_none]
   rw [List.getElem?_eq_none_iff,Fz]; exact hj
  | some w=>have:=FA (ex:=[]) hj; rwa [List.append_nil] at this
 rw [key,List.getElem?_set,List.getElem?_set,key,Fz]
 split
 ·simp
 ·rfl
def FS (ws:List (BitVec 64))(k:Nat):Bool:=(ws.getD (k / 64) 0#64).getLsbD (k % 64)
theorem Qd {ws:List (BitVec 64)}{i:Nat}{w:BitVec 64}(h:ws[i]? = some w){k:Nat}(hk:k / 64=i):FS ws k=w.getLsbD (k % 64):=by
 unfold FS; rw [hk,List.getD_eq_getElem?_getD,h]; rfl
theorem Rt (w:BitVec 64)(r:Nat):(decide ((((w >>> r) &&& 1#64).toNat:Int)=0)) = !w.getLsbD r:=by
 have e:((w >>> r) &&& 1#64).toNat=(w.getLsbD r).toNat:=by
  rw [BitVec.toNat_and,BitVec.toNat_ushiftRight,show (1#64:BitVec 64).toNat=1 from rfl,Nat.and_one_is_mod,Nat.shiftRight_eq_div_pow]
  show _=(w.toNat.testBit r).toNat
  rw [Nat.testBit_eq_decide_div_mod_eq]
  rcases Nat.mod_two_eq_zero_or_one (w.toNat / 2 ^ r) with h | h <;> simp [h]
 rw [e]
 cases w.getLsbD r <;> simp

abbrev WH (p n:Nat)(v:Value)(ws:List (BitVec 64)):List AF:=[B1 p 396 [.int .i64 (n:Nat),v],own 215 1 v ws.length (CU ws)]
def Wf (n:Nat)(ws:List (BitVec 64))(S:Nat→Bool):Prop:=ws.length=(n+63) / 64∧n≤1048576∧(∀ k,FS ws k=S k)∧∀ k,n≤k→S k=false
def CN (p n:Nat)(S:Nat→Bool):AF:=exA fun x : {x:Value×List (BitVec 64) // Wf n x.2 S}=>WH p n x.1.1 x.1.2
theorem HZ {p n:Nat}{S:Nat→Bool}{v:Value}{ws:List (BitVec 64)}{L:List AF}(h:Wf n ws S):Ent (B1 p 396 [.int .i64 (n:Nat),v]::own 215 1 v ws.length (CU ws)::L) (CN p n S::L) :=
 Fg (F:=fun x : {x:Value×List (BitVec 64) // Wf n x.2 S}=>WH p n x.1.1 x.1.2) ⟨(v,ws),h⟩ AC
theorem Gt {b cap:Nat}{ws:List (BitVec 64)}{ex:List Value}{L:List AF}(h1:ws.length≤cap)(h2:cap≤maxLen)(h4:ex.length=(cap-ws.length)*1) :
  Ent (B1 b 215 (CU ws++ex)::L) (own 215 1 (.slice (some ⟨b,0,none⟩) ws.length cap) ws.length (CU ws)::L):=Ec (by rw [Fz,Nat.mul_one]) h4 h1 h2

theorem Ts (p n:Nat)(v:Value):Spec prog 215 [.pointer (some ⟨p,0,none⟩)] [B1 p 396 [.int .i64 (n:Nat),v]] (fun r L=>r=.int .i64 (n:Nat)∧L=[B1 p 396 [.int .i64 (n:Nat),v]]):=by
 refine Spec.of 9 func215 rfl rfl rfl ?_
 refine A0 (As [0] rfl rfl (Ae (A0 (Ad rfl (Ac (Bd rfl rfl) (AE [0,4] rfl (Dz rfl (Am (Af (A0 (Ad rfl (Ac (Ah rfl) (Ac (Ab rfl) (AJ (Ag rfl rfl) (As [2] rfl rfl (Ar ?_))))))))))))))))
 exact Aq _ (.tmp rfl .nil) ⟨rfl,rfl⟩ AC
theorem A0T(p n:Nat)(v:Value)(ws:List (BitVec 64))(k:Int)(hl:ws.length=(n+63) / 64)(hn:n≤1048576) :
  Spec prog 205 [.pointer (some ⟨p,0,none⟩),.int .i64 k] (WH p n v ws) (fun r L=>r=.bool (decide (0≤k)&&(decide (k<n)&&FS ws k.toNat))∧L=WH p n v ws):=by
 refine Spec.of 28 func205 rfl rfl rfl ?_
 refine A0 (As [0,1] rfl rfl (A0 (Ad rfl (Ac (CA rfl rfl) (Ad rfl ?_)))))
 refine B7 7 rfl (fun h7=>?_) (fun h7=>?_)
 ·refine AQ rfl rfl (Ad rfl (AQ rfl rfl (Ad rfl (AQ rfl rfl ?_))))
  refine Aw (AA (Ts p n v) rfl rfl AC) ?_
  rintro v1 L1 ⟨rfl,rfl⟩
  refine Aj (AQ rfl rfl (Ac (Bb rfl rfl) (Ac (B4 rfl rfl) (Ad rfl ?_))))
  refine B7 13 rfl (fun h13=>?_) (fun h13=>?_)
  ·have h7':=of_decide_eq_true h7
   have h13':=of_decide_eq_true h13
   obtain ⟨m,rfl⟩:∃ m:Nat,k=m:=⟨k.toNat,by omega⟩
   have hmi:m / 64<ws.length:=by omega
   obtain ⟨w,hw⟩:∃ w,ws[m / 64]? = some w:=⟨_,List.getElem?_eq_getElem hmi⟩
   refine Pm K3 (fun h0 l0 _=>by omega) (fun b cap ex hv h1 h2 h3 h4=>?_)
   subst hv
   refine AQ rfl rfl (Ad rfl (AQ rfl rfl (Ac (Ah rfl) (AQ rfl rfl (Ac (Ab rfl) (AQ rfl rfl (AJ (Ag rfl rfl) (AQ rfl rfl (Ad rfl (AQ rfl rfl (Ac (EB ((m / 64:Nat):Int) rfl rfl Ax Ax Ax Ax) (AQ rfl rfl (Ac (AB (m / 64) rfl rfl Ax Ax Ax) (AQ rfl rfl (AJ (Ag rfl (FA hw)) (AQ rfl rfl (Ad rfl (AQ rfl rfl (Ac (IR ((m % 64:Nat):Int) rfl rfl Ax Ax Ax) (AQ rfl rfl (Ac (K6 (a:=w) (m % 64) rfl rfl Ax) (AQ rfl rfl (Ac (Qv (b:=1#64) rfl rfl) (AQ rfl rfl (Ac (Bm rfl rfl) (Ac (B4 rfl rfl) (As [4] rfl rfl (Ar ?_))))))))))))))))))))))))))))
   exact B8 (WH p n _ ws) (.tmp rfl .nil) ⟨by simp only [H7,h7,h13,Bool.true_and,Int.toNat_natCast]; rw [Rt w _,Bool.not_not,Qd hw rfl],rfl⟩
    ((Split.ent' (K:=[B1 b 215 (CU ws++ex),B1 p 396 [.int .i64 (n:Nat),.slice (some ⟨b,0,none⟩) ws.length cap]]) AC).trans ((Gt h1 h2 h4).trans Ent.swap))
  ·refine AI rfl rfl rfl (AI rfl rfl rfl (AI rfl rfl rfl (AI rfl rfl rfl (AI rfl rfl rfl (AI rfl rfl rfl (AI rfl rfl rfl (AI rfl rfl rfl (AI rfl rfl rfl (AI rfl rfl rfl (AI rfl rfl rfl (AI rfl rfl rfl (AI rfl rfl rfl (Ac (AT rfl rfl) (As [4] rfl rfl (Ar ?_)))))))))))))))
   exact Aq (WH p n v ws) (.tmp rfl .nil) ⟨by simp [H7, *],rfl⟩ AC
 ·refine AI rfl rfl rfl (AI rfl rfl rfl (AI rfl rfl rfl (AI rfl rfl rfl (Ac (AT rfl rfl) (Ad rfl (AI rfl rfl rfl (AI rfl rfl rfl (AI rfl rfl rfl (AI rfl rfl rfl (AI rfl rfl rfl (AI rfl rfl rfl (AI rfl rfl rfl (AI rfl rfl rfl (AI rfl rfl rfl (AI rfl rfl rfl (AI rfl rfl rfl (AI rfl rfl rfl (AI rfl rfl rfl (Ac (AT rfl rfl) (As [4] rfl rfl (Ar ?_)))))))))))))))))))))
  exact Aq (WH p n v ws) (.tmp rfl .nil) ⟨by simp [H7, *],rfl⟩ AC
def IH (k:Int):Nat:=(min (max k 0) 1048576).toNat
theorem Ur (k:Int):Spec prog 202 [.int .i64 k] [] (fun r L=>∃ p,r=.pointer (some ⟨p,0,none⟩)∧L=[CN p (IH k) (fun _=>false)]):=by
 have hc:min (max k 0) 1048576=((IH k:Nat):Int):=by unfold IH; omega
 have hle:IH k≤1048576:=by unfold IH; omega
 generalize IH k=n at hc hle
 refine Spec.of 13 func202 rfl rfl rfl ?_
 refine A0 (As [0] rfl rfl (A0 (Ad rfl (Ac (FC rfl rfl) (Ac (Ep rfl rfl) (AX rfl (Be [0] rfl ?_)))))))
 rw [hc]
 refine Dp (A0 (Ad rfl (Ad rfl (Ac (H3 rfl rfl Ax Ax) (Ac (EB (((n+63) / 64:Nat):Int) rfl rfl Ax Ax Ax Ax) ?_)))))
 refine Aw (K5 ((n+63) / 64) rfl rfl rfl Ax (by simp only [maxLen]; omega)) ?_
 rintro b
 skip
 refine Ac (Bo (qs:=[(0,_),(1,_)]) rfl) (Aw (Bi rfl rfl) (fun b12=>?_))
 refine As [2] rfl rfl (Ar ?_)
 refine B8 [CN b12 n (fun _=>false)] (.tmp rfl .nil) ⟨b12,rfl,rfl⟩ ?_
 have hw:CU (List.replicate ((n+63) / 64) 0#64)=List.replicate ((n+63) / 64) (Value.int .u64 0):=by
  apply List.ext_getElem?
  intro j
  rcases Nat.lt_or_ge j ((n+63) / 64) with h | h
  ·have:=FA (ws:=List.replicate ((n+63) / 64) 0#64) (ex:=[]) (i:=j) (w:=0#64) (by simp [h])
   rw [List.append_nil] at this
   rw [this]; simp [h]
  ·rw [List.getElem?_eq_none (by rw [Fz,List.length_replicate]; exact h),List.getElem?_eq_none (by rw [List.length_replicate]; exact h)]
 rw [← hw]
 have hwf:Wf n (List.replicate ((n+63) / 64) 0#64) (fun _=>false):=⟨by simp,hle,fun k=>by
  unfold FS
  rw [List.getD_eq_getElem?_getD]
  rcases Nat.lt_or_ge (k / 64) ((n+63) / 64) with h | h
  ·simp [h]
  ·simp [Nat.not_lt.2 h],fun _ _=>rfl⟩
 have hcl:=Gt (b:=b) (cap:=(n+63) / 64) (ws:=List.replicate ((n+63) / 64) 0#64) (ex:=[]) (L:=[B1 b12 396 [.int .i64 (n:Nat),.slice (some ⟨b,0,none⟩) ((n+63) / 64) ((n+63) / 64)]]) (by simp) (by simp only [maxLen]; omega) (by simp)
 rw [List.append_nil,List.length_replicate] at hcl
 have hmc:=HZ (p:=b12) (v:=.slice (some ⟨b,0,none⟩) ((n+63) / 64) ((n+63) / 64)) (L:=[]) hwf
 rw [List.length_replicate] at hmc
 exact (Split.ent' (K:=[B1 b 215 (CU (List.replicate ((n+63) / 64) 0#64)),B1 b12 396 [.int .i64 (n:Nat),.slice (some ⟨b,0,none⟩) ((n+63) / 64) ((n+63) / 64)]]) AC).trans (hcl.trans (Ent.swap.trans hmc))
end SX
