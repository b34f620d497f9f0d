/- A part of the proof: walks of the program's functions, and the rules by which they go. -/
import Derived.Test.YtbomiailappgpaaGreatDoorBef3a7c8f
import Derived.Test.YtbomiailappgpaaGreatDoorB6cd70474
import Derived.Test.YtbomiailappgpaaGreatDoorB81f29b4b
import Derived.Test.YtbomiailappgpaaGreatDoorRows
import Derived.ProofKit
import Derived.LaidMore
import Derived.LaidLaws
import Derived.OpenShut
import Derived.Stop.Joined
namespace SX
open Go Go.Proofs Go.Proofs.Tryz
theorem Tc {b o t:Int}(hb:U32 b)(ho:U32 o)(ht:U32 t):Spec prog 295 [.int .u32 b,.int .u32 o,.int .u32 t] [] (fun r L=>r=.int .u32 (Qk b o t)∧L=[]):=by
 have:=Vh (BitVec.ofInt 32 b) (BitVec.ofInt 32 o) (BitVec.ofInt 32 t)
 rw [← hb.bv,← ho.bv,← ht.bv] at this; exact this
theorem R6 {b o t:Int}(hb:U32 b)(ho:U32 o)(ht:U32 t):Spec prog 71 [.int .u32 b,.int .u32 o,.int .u32 t] [] (fun r L=>r=.int .u32 (Qk b o t)∧L=[]):=by
 have:=SB (BitVec.ofInt 32 b) (BitVec.ofInt 32 o) (BitVec.ofInt 32 t)
 rw [← hb.bv,← ho.bv,← ht.bv] at this; exact this
set_option maxHeartbeats 1000000 in
theorem YK {b o t:Int}(hb:U32 b)(ho:U32 o)(ht:U32 t):Spec prog 42 [.int .u32 b,.int .u32 o,.int .u32 t] [] (fun r L=>r=.tuple #[.int .u32 (D6 b o t).1,.bool (D6 b o t).2]∧L=[]):=by
 refine Spec.of 25 func42 rfl rfl rfl ?_
 refine Ad (B2 rfl (Au [0,1,2] rfl rfl (Aj (AB (Aj (Ad (Ah rfl (Ah rfl (Af (Bo rfl rfl) (Au [0,1,2,8] rfl rfl ?_))))))))))
 refine Aq rfl (fun h8=>?_) (fun h8=>?_)
 ·have e8:=of_decide_eq_true h8
  refine Ar (Ai ?_)
  refine Aq rfl (fun h8=>?_) (fun h8=>absurd e8 (of_decide_eq_false h8))
  refine Ad (Ah rfl (B2 rfl (Au [6,7] rfl rfl (Av (Bg (AZ ?_))))))
  refine Aw [] (.tmp rfl (.tmp rfl .nil)) ⟨?_,rfl⟩ AG
  unfold D6; rw [if_pos (Or.inl e8)]; rfl
 ·have e8:=of_decide_eq_false h8
  refine Am (Ah rfl (Ah rfl (Af (Bo rfl rfl) (Au [0,1,2,8] rfl rfl ?_))))
  refine Aq rfl (fun h8=>?_) (fun h8=>?_)
  ·refine Ad (Ah rfl (B2 rfl (Au [6,7] rfl rfl (Av (Bg (AZ ?_))))))
   have h8':=of_decide_eq_true h8
   refine Aw [] (.tmp rfl (.tmp rfl .nil)) ⟨?_,rfl⟩ AG
   unfold D6; rw [if_pos (Or.inr h8')]; rfl
  ·refine Ad (Ah rfl (Ah rfl (Af (Bo rfl rfl) (Au [0,1,2,16] rfl rfl ?_))))
   refine Aq rfl (fun h16=>?_) (fun h16=>?_)
   ·refine Ad (Ah rfl (B2 rfl (Au [6,7] rfl rfl (Av (Bg (AZ ?_))))))
    have h8':=of_decide_eq_false h8
    have h16':=of_decide_eq_true h16
    refine Aw [] (.tmp rfl (.tmp rfl .nil)) ⟨?_,rfl⟩ AG
    unfold D6; rw [if_neg (fun k=>k.elim e8 h8'),if_pos h16']; rfl
   ·refine Ar (AV (Ai (Ad (Ah rfl (Ah rfl (Ah rfl ?_))))))
    refine AE (AF (R6 hb ho ht) rfl rfl AG) ?_
    rintro v24 L1 ⟨rfl,rfl⟩
    refine As (B2 rfl (Au [6,7] rfl rfl (Av ?_)))
    have h8':=of_decide_eq_false h8
    have h16':=of_decide_eq_false h16
    refine Aw [] (.tmp rfl (.tmp rfl .nil)) ⟨?_,rfl⟩ AG
    unfold D6; rw [if_neg (fun k=>k.elim e8 h8'),if_neg h16']; rfl
set_option maxHeartbeats 1000000 in
theorem Pz (μ:PH)(v:Value)(l:List En)(p:ByteArray)(h:Row μ v 2 l.length (Ci l))(hsz:l.length≤1048576):Spec prog 41 [v,.string p] [ro μ] (fun r L=>∃ v',r=.tuple #[.int .u32 (Dy l p).1,v']∧Row μ v' 2 (Dy l p).2.length (Ci (Dy l p).2)∧L=[ro μ]):=by
 refine Spec.of 24 func41 rfl rfl rfl ?_
 refine Ad (B2 rfl (Au [0,1] rfl rfl (Aj (Ad (Ah rfl (Af (AW h rfl) (Af (BO rfl rfl) (Ah rfl ?_))))))))
 refine B9 9 rfl (fun h9=>?_) (fun h9=>?_)
 ·have h9':0<l.length:=by have:=of_decide_eq_true h9; omega
  obtain ⟨e,r,rfl⟩:∃ e r,l=e::r:=by cases l with | nil=>simp at h9' | cons e r=>exact ⟨e,r,rfl⟩
  obtain ⟨gb,off,cap,hv,hra,hc0,hc1⟩:=Dc h (i:=0) rfl
  obtain ⟨vlo,hlo1,hlo2⟩:=Row.lo (P:=prog) (t:=27) h 1 h9'
  rw [show (Ci (e::r)).drop (1*2)=Ci r from rfl,show (e::r).length-1=r.length from rfl] at hlo1
  refine AS rfl rfl (Ah rfl (AS rfl rfl ?_))
  refine Af (AA (off+0*2) (congrArg some hv) rfl AC AC (by rfl)) ?_
  refine AS rfl rfl (Af (Bk rfl) (AS rfl rfl (AM (BJ rfl hc0) (AS rfl rfl (Ah rfl (AS rfl rfl (Af (FM rfl rfl) (Af (Bc rfl rfl) (AI [0,16] rfl ?_)))))))))
  refine Aq rfl (fun h16=>?_) (fun h16=>?_)
  ·refine Aj ?_
   refine Bb [3] _ [] (by simp only [List.append_nil]; exact Ent.refl _) AP ?_
   refine AD 0 rfl (AH rfl) ?_
   refine AD 1 rfl (AA (off+0*2) (congrArg some hv) rfl AC AC (by rfl)) ?_
   refine AD 2 rfl (Bk rfl) (Bl 3 rfl (BJ rfl hc1) rfl (AD 4 rfl (AH rfl) (AD 5 rfl (hlo2 _ _ _ .i64 _ rfl rfl rfl) (AD 6 rfl (Bf rfl) (AD 7 rfl (Bf rfl) (BZ [4,5] rfl (De AP (Ai (Av (AZ ?_))))))))))
   have e1:Dy (e::r) p=(e.2,r):=by simp [Dy,h16]
   rw [e1]
   exact Aw [ro μ] (.tmp rfl (.tmp rfl .nil)) ⟨_,rfl,hlo1,rfl⟩ AG
  ·refine Ar (Ai (Ad (Ah rfl (B2 rfl (Au [4,5] rfl rfl (Av ?_))))))
   have e1:Dy (e::r) p=(0,e::r):=by simp [Dy,h16]
   rw [e1]
   exact Aw [ro μ] (.tmp rfl (.tmp rfl .nil)) ⟨_,rfl,h,rfl⟩ AG
 ·refine B1 rfl rfl rfl (B1 rfl rfl rfl (B1 rfl rfl rfl (B1 rfl rfl rfl (B1 rfl rfl rfl (B1 rfl rfl rfl (Af (B0 rfl rfl) (AI [0,16] rfl ?_)))))))
  refine Aq rfl (fun h16=>by cases h16) (fun h16=>?_)
  refine Ar (Ai (Ad (Ah rfl (B2 rfl (Au [4,5] rfl rfl (Av ?_))))))
  have h9':=of_decide_eq_false h9
  obtain rfl:l=[]:=List.eq_nil_of_length_eq_zero AC
  exact Aw [ro μ] (.tmp rfl (.tmp rfl .nil)) ⟨_,rfl,h,rfl⟩ AG
def YL {α:Type}(k:Nat)(a b c:α):α:=if k=2 then c else if k=1 then b else a
def JQ (k:Nat)(a b c:List En):Option ByteArray:=if k=0 then none else if k=1 then E6 none a else if k=2 then E6 (E6 none a) b else DU a b c
theorem Td {k:Nat}(hk:k<3)(a b c:List En):JQ (k+1) a b c=E6 (JQ k a b c) (YL k a b c):=by
 rcases Nat.lt_or_ge k 1 with h | h
 ·obtain rfl:k=0:=by omega
  rfl
 ·rcases Nat.lt_or_ge k 2 with h2 | h2
  ·obtain rfl:k=1:=by omega
   rfl
  ·obtain rfl:k=2:=by omega
   rfl
def YM (m:Option ByteArray):ByteArray:=m.getD ⟨#[]⟩
set_option maxHeartbeats 1000000 in
theorem Te (μ:PH)(va vb vc:Value)(a b c:List En)(ha:Row μ va 2 a.length (Ci a))(hb:Row μ vb 2 b.length (Ci b))(hc:Row μ vc 2 c.length (Ci c))(hsz:a.length≤1048576∧b.length≤1048576∧c.length≤1048576) :
  Spec prog 40 [va,vb,vc] [ro μ] (fun r L=>r=.tuple #[.string (YM (DU a b c)),.bool (DU a b c).isSome]∧L=[ro μ]):=by
 refine Spec.of 44 func40 rfl rfl rfl ?_
 refine Ad (B2 rfl (Au [0,1,2] rfl rfl (Ad (Au [0,1,2,8] rfl rfl (Ad (Au [0,1,2,8,9] rfl rfl (Aj (Ad (Au [0,1,2,8,9,10] rfl rfl (AB ?_))))))))))
 refine B4 (ι:=Nat) (fun k env L=>Sub env [(0,va),(1,vb),(2,vc),(8,.string (YM (JQ k a b c))),(9,.bool (JQ k a b c).isSome),(10,.int .i64 (k:Nat))]∧L=[ro μ]∧k≤3) (fun k=>3-k) 0 ⟨⟨rfl,rfl,rfl,rfl,rfl,rfl,trivial⟩,rfl,Nat.zero_le _⟩ ?_
 rintro k env L ⟨hsub,rfl,hk⟩
 refine B7 _ hsub ?_
 clear hsub env
 generalize hm:JQ k a b c=m
 refine Aj (Ad (Ah rfl (Af (Be rfl rfl) (AI [0,1,2,8,9,10,13] rfl ?_))))
 refine Aq rfl (fun h13=>?_) (fun h13=>?_)
 ·have h13':k<3:=by have:=of_decide_eq_true h13; omega
  have hrow:Row μ (YL k va vb vc) 2 (YL k a b c).length (Ci (YL k a b c))∧(YL k a b c).length≤1048576:=by
   unfold YL; split
   ·exact ⟨hc,hsz.2.2⟩
   ·split
    ·exact ⟨hb,hsz.2.1⟩
    ·exact ⟨ha,hsz.1⟩
  obtain ⟨hrow,hsl⟩:=hrow
  have hsucc:=Td h13' a b c
  rw [hm] at hsucc
  refine Ar (Ai (Aj (AB (Ad (Ah rfl (Au [0,1,2,8,9,10,11] rfl rfl ?_))))))
  refine Co (fun env L=>Sub env [(0,va),(1,vb),(2,vc),(8,.string (YM m)),(9,.bool m.isSome),(10,.int .i64 (k:Nat)),(11,if k=1 then vb else va)]∧L=[ro μ]) ?_ ?_
  ·refine Ad (Ah rfl (Af (Bo rfl rfl) (AI [0,1,2,8,9,10,11,18] rfl ?_)))
   refine Aq rfl (fun h18=>?_) (fun h18=>?_)
   ·refine Am (Ah rfl (B2 rfl (Bi [0,1,2,8,9,10,11] rfl (AJ ?_))))
    have h18':k=1:=by have:=of_decide_eq_true h18; omega
    exact Ai ⟨⟨rfl,rfl,rfl,rfl,rfl,rfl,by rw [if_pos h18']; rfl,trivial⟩,rfl⟩
   ·refine Ar ?_
    have h18':¬ k=1:=by have:=of_decide_eq_false h18; omega
    exact Ai ⟨⟨rfl,rfl,rfl,rfl,rfl,rfl,by rw [if_neg h18']; rfl,trivial⟩,rfl⟩
  rintro env L ⟨hsub,rfl⟩
  refine B7 _ hsub ?_
  clear hsub env
  refine Co (fun env L=>Sub env [(0,va),(1,vb),(2,vc),(8,.string (YM m)),(9,.bool m.isSome),(10,.int .i64 (k:Nat)),(11,YL k va vb vc)]∧L=[ro μ]) ?_ ?_
  ·refine Ad (Ah rfl (Af (Bo rfl rfl) (AI [0,1,2,8,9,10,11,21] rfl ?_)))
   refine Aq rfl (fun h21=>?_) (fun h21=>?_)
   ·refine Am (Ah rfl (B2 rfl (Bi [0,1,2,8,9,10,11] rfl (AJ ?_))))
    have h21':k=2:=by have:=of_decide_eq_true h21; omega
    exact Ai ⟨⟨rfl,rfl,rfl,rfl,rfl,rfl,by unfold YL; rw [if_pos h21']; rfl,trivial⟩,rfl⟩
   ·refine Ar ?_
    have h21':¬ k=2:=by have:=of_decide_eq_false h21; omega
    exact Ai ⟨⟨rfl,rfl,rfl,rfl,rfl,rfl,by unfold YL; rw [if_neg h21']; rfl,trivial⟩,rfl⟩
  rintro env L ⟨hsub,rfl⟩
  refine B7 _ hsub ?_
  clear hsub env
  generalize YL k va vb vc=v11 at hrow
  generalize YL k a b c=l at hrow hsl hsucc
  refine Ad (Ah rfl (Af (AW hrow rfl) (Af (BO rfl rfl) (Ah rfl ?_))))
  refine B9 26 rfl (fun h26=>?_) (fun h26=>?_)
  ·have h26':0<l.length:=by have:=of_decide_eq_true h26; omega
   obtain ⟨e,r,rfl⟩:∃ e r,l=e::r:=by cases l with | nil=>simp at h26' | cons e r=>exact ⟨e,r,rfl⟩
   obtain ⟨gb,off,cap,hv,hra,hc0,hc1⟩:=Dc hrow (i:=0) rfl
   refine AS rfl rfl (Ah rfl (AS rfl rfl (Af (Cd rfl) (AS rfl rfl (Ah rfl ?_)))))
   refine B9 29 rfl (fun h29=>?_) (fun h29=>?_)
   ·refine B1 rfl rfl rfl (B1 rfl rfl rfl (B1 rfl rfl rfl (B1 rfl rfl rfl (B1 rfl rfl rfl (B1 rfl rfl rfl (AS rfl rfl (Af (Bc rfl rfl) (Af (Bc rfl rfl) (AI [0,1,2,8,9,10,11,37] rfl ?_)))))))))
    refine Aq rfl (fun h37=>?_) (fun h37=>by cases h37)
    refine Ad (Ah rfl ?_)
    refine Af (AA (off+0*2) (congrArg some hv) rfl AC AC (by rfl)) ?_
    refine Af (Bk rfl) (AM (BJ rfl hc0) (Au [0,1,2,8,10] rfl rfl (Am (B2 rfl (Bi [0,1,2,8,9,10] rfl (AJ (AV (Ai (Am (Ah rfl (Af (AQ ((k+1:Nat):Int) rfl rfl AC AC AC) (B2 rfl (Bi [0,1,2,8,9,10] rfl (AJ ?_))))))))))))))
    have e1:JQ (k+1) a b c=some e.1:=by
     rw [hsucc]
     cases m with
     | none=>rfl
     | some q=>cases h29
    exact Ai ⟨k+1,⟨⟨rfl,rfl,rfl,by rw [e1]; rfl,by rw [e1]; rfl,rfl,trivial⟩,rfl,h13'⟩,by omega⟩
   ·refine AS rfl rfl (Ah rfl (AS rfl rfl ?_))
    refine Af (AA (off+0*2) (congrArg some hv) rfl AC AC (by rfl)) ?_
    refine AS rfl rfl (Af (Bk rfl) (AS rfl rfl (AM (BJ rfl hc0) (AS rfl rfl (Ah rfl (AS rfl rfl (Af (J8 rfl rfl) (AS rfl rfl (Af (B0 rfl rfl) (Af (Bc rfl rfl) (AI [0,1,2,8,9,10,11,37] rfl ?_)))))))))))
    refine Aq rfl (fun h37=>?_) (fun h37=>?_)
    ·refine Ad (Ah rfl ?_)
     refine Af (AA (off+0*2) (congrArg some hv) rfl AC AC (by rfl)) ?_
     refine Af (Bk rfl) (AM (BJ rfl hc0) (Au [0,1,2,8,10] rfl rfl (Am (B2 rfl (Bi [0,1,2,8,9,10] rfl (AJ (AV (Ai (Am (Ah rfl (Af (AQ ((k+1:Nat):Int) rfl rfl AC AC AC) (B2 rfl (Bi [0,1,2,8,9,10] rfl (AJ ?_))))))))))))))
     have e1:JQ (k+1) a b c=some e.1:=by
      rw [hsucc]
      cases m with
      | none=>rfl
      | some q =>
       have h37':BE e.1 q=true:=h37
       simp [E6,h37']
     exact Ai ⟨k+1,⟨⟨rfl,rfl,rfl,by rw [e1]; rfl,by rw [e1]; rfl,rfl,trivial⟩,rfl,h13'⟩,by omega⟩
    ·refine Ar (AV (Ai (Am (Ah rfl (Af (AQ ((k+1:Nat):Int) rfl rfl AC AC AC) (B2 rfl (Bi [0,1,2,8,9,10] rfl (AJ ?_))))))))
     have e1:JQ (k+1) a b c=m:=by
      rw [hsucc]
      cases m with
      | none=>cases h29
      | some q =>
       have h37':BE e.1 q=false:=h37
       simp [E6,h37']
     exact Ai ⟨k+1,⟨⟨rfl,rfl,rfl,by rw [e1]; rfl,by rw [e1]; rfl,rfl,trivial⟩,rfl,h13'⟩,by omega⟩
  ·refine B1 rfl rfl rfl (B1 rfl rfl rfl (B1 rfl rfl rfl (B1 rfl rfl rfl (B1 rfl rfl rfl (B1 rfl rfl rfl (B1 rfl rfl rfl (B1 rfl rfl rfl (B1 rfl rfl rfl (B1 rfl rfl rfl (Af (B0 rfl rfl) (AI [0,1,2,8,9,10,11,37] rfl ?_)))))))))))
   refine Aq rfl (fun h37=>by cases h37) (fun h37=>?_)
   refine Ar (AV (Ai (Am (Ah rfl (Af (AQ ((k+1:Nat):Int) rfl rfl AC AC AC) (B2 rfl (Bi [0,1,2,8,9,10] rfl (AJ ?_))))))))
   have h26':=of_decide_eq_false h26
   obtain rfl:l=[]:=List.eq_nil_of_length_eq_zero AC
   have e1:JQ (k+1) a b c=m:=hsucc
   exact Ai ⟨k+1,⟨⟨rfl,rfl,rfl,by rw [e1]; rfl,by rw [e1]; rfl,rfl,trivial⟩,rfl,h13'⟩,by omega⟩
 ·have h13':=of_decide_eq_false h13
  obtain rfl:k=3:=by omega
  have e1:DU a b c=m:=hm
  refine B3 (AU (AU (AY rfl (Ai (Ad (Ah rfl (Ah rfl (B2 rfl (Au [6,7] rfl rfl (Av ?_))))))))))
  exact Aw [ro μ] (.tmp rfl (.tmp rfl .nil)) ⟨by rw [e1]; rfl,rfl⟩ AG
theorem A0g(a b:List Cf):NV (a++b)=NV a++NV b:=List.flatMap_append
theorem R7 (R:List Rw)(p:ByteArray){b o t:Int}(h:¬ (D6 b o t).1=0):(CG (R++[(p,b,o,t)])).length=(CG R).length+1∧Ci (CG (R++[(p,b,o,t)]))=Ci (CG R)++[.string p,.int .u32 (D6 b o t).1]:=by
 have e:Hz (p,b,o,t)=[(p,(D6 b o t).1)]:=if_neg h
 rw [NW,e,Lj,List.length_append]; exact ⟨rfl,rfl⟩
theorem On (R:List Rw)(p:ByteArray){b o t:Int}(h:(D6 b o t).1=0):CG (R++[(p,b,o,t)])=CG R:=by
 have e:Hz (p,b,o,t)=[]:=if_pos h
 rw [NW,e,List.append_nil]
theorem Ug (R:List Rw)(p:ByteArray){b o t:Int}(h:(D6 b o t).2=true):(Fs (R++[(p,b,o,t)])).length=(Fs R).length+1∧NV (Fs (R++[(p,b,o,t)]))=NV (Fs R)++[.string p,.int .u32 b,.int .u32 o,.int .u32 t]:=by
 have e:Ql (p,b,o,t)=[(p,b,o,t)]:=if_pos h
 rw [Qu,e,A0g,List.length_append]; exact ⟨rfl,rfl⟩
theorem JR (R:List Rw)(p:ByteArray){b o t:Int}(h:(D6 b o t).2=false):Fs (R++[(p,b,o,t)])=Fs R:=by
 have e:Ql (p,b,o,t)=[]:=if_neg (fun k=>by rw [show (D6 b o t).2=true from k] at h; cases h)
 rw [Qu,e,List.append_nil]
structure RS22 where
 n:Nat
 a:List En
 b:List En
 c:List En
 va:Value
 vb:Value
 vc:Value
 R:List Rw
 v8:Value
 v9:Value
set_option maxHeartbeats 4000000 in
theorem KP (μ:PH)(va vb vc:Value)(a b c:List En)(ha:Row μ va 2 a.length (Ci a))(hb:Row μ vb 2 b.length (Ci b))(hc:Row μ vc 2 c.length (Ci c))(hsz:a.length≤1048576∧b.length≤1048576∧c.length≤1048576)
  (hu:U32s a∧U32s b∧U32s c):Spec prog 16 [va,vb,vc] [ro μ] (fun r L=>∃ v8 v9 rs,rs=Ez (a.length+b.length+c.length) a b c∧r=.tuple #[v8,v9]∧L=[own 111 2 v8 (CG rs).length (Ci (CG rs)),own 119 4 v9 (Fs rs).length (NV (Fs rs)),ro μ]):=by
 generalize hN:a.length+b.length+c.length=N
 refine Spec.of 70 func16 rfl rfl rfl ?_
 refine Ad (B2 rfl (Au [0,1,2] rfl rfl (Ad (Au [0,1,2,8] rfl rfl (Ad (Au [0,1,2,8,9] rfl rfl (AB (AX (show Ent _ (own 111 2 (.slice none 0 0) (CG []).length (Ci (CG []))::_) from own_nil_ent) (AX (show Ent _ (own 119 4 (.slice none 0 0) (Fs []).length (NV (Fs []))::_) from own_nil_ent) ?_)))))))))
 refine B4 (ι:=RS22) (fun s env L=>Sub env [(0,s.va),(1,s.vb),(2,s.vc),(8,s.v8),(9,s.v9)]∧Ent L [own 111 2 s.v8 (CG s.R).length (Ci (CG s.R)),own 119 4 s.v9 (Fs s.R).length (NV (Fs s.R)),ro μ] ∧
  (Row μ s.va 2 s.a.length (Ci s.a)∧Row μ s.vb 2 s.b.length (Ci s.b)∧Row μ s.vc 2 s.c.length (Ci s.c))∧(s.a.length≤1048576∧s.b.length≤1048576∧s.c.length≤1048576)∧(U32s s.a∧U32s s.b∧U32s s.c) ∧
  s.a.length+s.b.length+s.c.length≤s.n∧s.R++Ez s.n s.a s.b s.c=Ez N a b c∧s.R.length+s.n≤N) (fun s=>s.n) ⟨N,a,b,c,va,vb,vc,[],.slice none 0 0,.slice none 0 0⟩
  ⟨⟨rfl,rfl,rfl,rfl,rfl,trivial⟩,Split.ent' AG,⟨ha,hb,hc⟩,hsz,hu,by rw [hN]; exact Nat.le_refl _,rfl,by simp⟩ ?_
 rintro ⟨n,a1,b1,c1,wa,wb,wc,R,v8,v9⟩ env L ⟨hsub,hE,⟨ra,rb,rc⟩,hs1,⟨ua,ub,uc⟩,hn,hR,hRn⟩
 simp only [] at hsub hE ra rb rc hs1 ua ub uc hn hR hRn
 refine B7 _ hsub (AX hE ?_)
 clear hsub hE env L
 dsimp only
 have hol:=Qm R
 have hcl:=TJ R
 refine AB (Ad (Ah rfl (Ah rfl (Ah rfl ?_))))
 refine AE (AF (Te μ wa wb wc a1 b1 c1 ra rb rc hs1) rfl rfl AG) ?_
 rintro v21 L1 ⟨rfl,rfl⟩
 refine As (Ah rfl (Af (Ax rfl) (Af (Ax rfl) (B2 rfl (Au [0,1,2,8,9,10,11] rfl rfl (Aj (Ad (Ah rfl (Af (Cd rfl) (AI [0,1,2,8,9,10,25] rfl ?_))))))))))
 refine Aq rfl (fun h25=>?_) (fun h25=>?_)
 ·have hno:DU a1 b1 c1=none:=by
   cases hh:DU a1 b1 c1 with
   | none=>rfl
   | some p=>rw [hh] at h25; cases h25
  rw [Sv hno,List.append_nil] at hR
  refine Ad (Ah rfl (Ah rfl (B2 rfl (Au [6,7] rfl rfl (Av (AZ (Bg (AZ (Bg ?_)))))))))
  exact Aw [own 111 2 v8 (CG R).length (Ci (CG R)),own 119 4 v9 (Fs R).length (NV (Fs R)),ro μ] (.tmp rfl (.tmp rfl .nil)) ⟨v8,v9,R,hR,rfl,rfl⟩ AG
 ·obtain ⟨p,hp⟩:∃ p,DU a1 b1 c1=some p:=by
   cases hh:DU a1 b1 c1 with
   | none=>rw [hh] at h25; cases h25
   | some p=>exact ⟨p,rfl⟩
  rw [hp,show YM (some p)=p from rfl]
  have htot:=XC hp
  have la1:=IA a1 p
  have lb1:=IA b1 p
  have lc1:=IA c1 p
  have hrow:=Su (n:=n-1) hp
  rw [show n-1+1=n by omega] at hrow
  rw [hrow] at hR
  refine Ar (Ai (Ad (B2 rfl (B2 rfl (Au [0,1,2,8,9,10] rfl rfl (Ad (Ah rfl (Ah rfl ?_))))))))
  refine AE (AF (Pz μ wa a1 p ra hs1.1) rfl rfl AG) ?_
  rintro v31 L1 ⟨wa',rfl,ra',rfl⟩
  refine As (Ah rfl (Af (Ax rfl) (Af (Ax rfl) (B2 rfl (Au [0,1,2,8,9,10,12] rfl rfl (Ad (Ah rfl (Ah rfl ?_))))))))
  refine AE (AF (Pz μ wb b1 p rb hs1.2.1) rfl rfl AG) ?_
  rintro v37 L1 ⟨wb',rfl,rb',rfl⟩
  refine As (Ah rfl (Af (Ax rfl) (Af (Ax rfl) (B2 rfl (Au [0,1,2,8,9,10,12,13] rfl rfl (Ad (Ah rfl (Ah rfl ?_))))))))
  refine AE (AF (Pz μ wc c1 p rc hs1.2.2) rfl rfl AG) ?_
  rintro v43 L1 ⟨wc',rfl,rc',rfl⟩
  refine As (Ah rfl (Af (Ax rfl) (Af (Ax rfl) (B2 rfl (Au [0,1,2,8,9,10,12,13,14] rfl rfl (Ad (Ah rfl (Ah rfl (Ah rfl ?_)))))))))
  refine AE (AF (YK (ua.at1 p) (ub.at1 p) (uc.at1 p)) rfl rfl AG) ?_
  rintro v50 L1 ⟨rfl,rfl⟩
  refine As (Ah rfl (Af (Ax rfl) (Af (Ax rfl) (B2 rfl (Au [0,1,2,8,9,10,12,13,14,15,16] rfl rfl ?_)))))
  refine Co (fun env L=>∃ v8',Sub env [(0,wa'),(1,wb'),(2,wc'),(8,v8'),(9,v9),(10,.string p),(12,.int .u32 (Dy a1 p).1),(13,.int .u32 (Dy b1 p).1),(14,.int .u32 (Dy c1 p).1),(16,.bool (D6 (Dy a1 p).1 (Dy b1 p).1 (Dy c1 p).1).2)] ∧
    Ent L [own 111 2 v8' (CG (R++[(p,(Dy a1 p).1,(Dy b1 p).1,(Dy c1 p).1)])).length (Ci (CG (R++[(p,(Dy a1 p).1,(Dy b1 p).1,(Dy c1 p).1)]))),own 119 4 v9 (Fs R).length (NV (Fs R)),ro μ]) ?_ ?_
  ·refine Ad (Ah rfl (Af (Bx rfl rfl) (AI [0,1,2,8,9,10,12,13,14,15,16,54] rfl ?_)))
   refine Aq rfl (fun h54=>?_) (fun h54=>?_)
   ·refine Am (Ah rfl (Ah rfl (Ah rfl (Af (Bz (qs:=[(0,_),(1,_)]) rfl) (AE (Bs (qs:=[(0,_)]) rfl rfl rfl) (fun b59=>?_))))))
    refine AE (Bj (l:=(CG R).length) (m:=1) rfl rfl AG (by simp only [maxLen]; omega) AC) ?_
    rintro v60 -
    skip
    refine B2 rfl (Bi [0,1,2,8,9,10,12,13,14,16] rfl (AJ ?_))
    have h54':¬ (D6 (Dy a1 p).1 (Dy b1 p).1 (Dy c1 p).1).1=0:=by simpa using h54
    refine Ai ⟨v60,⟨rfl,rfl,rfl,rfl,rfl,rfl,rfl,rfl,rfl,rfl,trivial⟩,?_⟩
    obtain ⟨q1,q2⟩:=R7 R p h54'
    rw [q1,q2]
    exact Split.ent' AG
   ·refine Ar ?_
    have h54':(D6 (Dy a1 p).1 (Dy b1 p).1 (Dy c1 p).1).1=0:=by simpa using h54
    refine Ai ⟨v8,⟨rfl,rfl,rfl,rfl,rfl,rfl,rfl,rfl,rfl,rfl,trivial⟩,?_⟩
    rw [On R p h54']
    exact Split.ent' AG
  rintro env L ⟨v8',hsub,hE⟩
  refine B7 _ hsub (AX hE ?_)
  clear hsub hE env L
  refine Ad (Ah rfl (AI [0,1,2,8,9,10,12,13,14,61] rfl ?_))
  refine Aq rfl (fun h61=>?_) (fun h61=>?_)
  ·refine Am (Ah rfl (Ah rfl (Ah rfl (Ah rfl (Ah rfl (Af (Bz (qs:=[(0,_),(1,_),(2,_),(3,_)]) rfl) (AE (Bs (qs:=[(0,_)]) rfl rfl rfl) (fun b68=>?_))))))))
   refine AE (Bj (l:=(Fs R).length) (m:=1) rfl rfl AG (by simp only [maxLen]; omega) AC) ?_
   rintro v69 -
   skip
   refine B2 rfl (Bi [0,1,2,8,9] rfl (AJ (AV ?_)))
   refine Ai ⟨⟨n-1,(Dy a1 p).2,(Dy b1 p).2,(Dy c1 p).2,wa',wb',wc',R++[(p,(Dy a1 p).1,(Dy b1 p).1,(Dy c1 p).1)],v8',v69⟩,⟨⟨rfl,rfl,rfl,rfl,rfl,trivial⟩,?_,⟨ra',rb',rc'⟩,by dsimp only; omega,⟨ua.at2 p,ub.at2 p,uc.at2 p⟩,by dsimp only; omega,by rw [List.append_assoc]; exact hR,by rw [List.length_append]; show R.length+1+(n-1)≤N; omega⟩,by show n-1<n; omega⟩
   dsimp only
   obtain ⟨q1,q2⟩:=Ug R p h61
   rw [q1,q2]
   exact Split.ent' AG
  ·refine Ar (AV ?_)
   refine Ai ⟨⟨n-1,(Dy a1 p).2,(Dy b1 p).2,(Dy c1 p).2,wa',wb',wc',R++[(p,(Dy a1 p).1,(Dy b1 p).1,(Dy c1 p).1)],v8',v9⟩,⟨⟨rfl,rfl,rfl,rfl,rfl,trivial⟩,?_,⟨ra',rb',rc'⟩,by dsimp only; omega,⟨ua.at2 p,ub.at2 p,uc.at2 p⟩,by dsimp only; omega,by rw [List.append_assoc]; exact hR,by rw [List.length_append]; show R.length+1+(n-1)≤N; omega⟩,by show n-1<n; omega⟩
   dsimp only
   rw [JR R p h61]
   exact Split.ent' AG
abbrev Wi (l:List ByteArray):List Value:=l.flatMap G3
theorem A0h(a b:List ByteArray):Wi (a++b)=Wi a++Wi b:=List.flatMap_append
def Kw (a b c:List En)(i:Nat):List ByteArray:=([a,b,c].take i).flatMap fun l=>l.map (·.1)
theorem YN {a b c l:List En}{i:Nat}(h:[a,b,c][i]? = some l):Kw a b c (i+1)=Kw a b c i++l.map (·.1):=by
 unfold Kw; rw [List.take_add_one,h,List.flatMap_append]; simp
theorem A0i(a b c:List En):Kw a b c 3=a.map (·.1)++b.map (·.1)++c.map (·.1):=by
 simp [Kw]
theorem Uh {a b c:List En}{m:Nat}(hs:a.length≤m∧b.length≤m∧c.length≤m){i:Nat}(hi:i≤3):(Kw a b c i).length≤i*m:=by
 unfold Kw
 rcases Nat.lt_or_ge i 1 with h | h
 ·obtain rfl:i=0:=by omega
  simp
 ·rcases Nat.lt_or_ge i 2 with h | h
  ·obtain rfl:i=1:=by omega
   simp; omega
  ·rcases Nat.lt_or_ge i 3 with h | h
   ·obtain rfl:i=2:=by omega
    simp; omega
   ·obtain rfl:i=3:=by omega
    simp; omega
set_option maxHeartbeats 2000000 in
theorem R8 (μ:PH)(g:Nat)(va vb vc:Value)(a b c:List En)(ha:Row μ va 2 a.length (Ci a))(hb:Row μ vb 2 b.length (Ci b))(hc:Row μ vc 2 c.length (Ci c))(hsz:a.length≤1048576∧b.length≤1048576∧c.length≤1048576) :
  Spec prog 293 [.slice (some ⟨g,0,none⟩) 3 3] [B5 g 27 [va,vb,vc],ro μ] (fun r L=>L=[own 9 1 r (Jg (Ey (Kw a b c 3))).length (Wi (Jg (Ey (Kw a b c 3)))),ro μ]):=by
 have hT:∀ i,i<3→∃ l v,[a,b,c][i]? = some l∧[va,vb,vc][i]? = some v∧Row μ v 2 l.length (Ci l)∧l.length≤1048576:=by
  intro i hi
  rcases Nat.lt_or_ge i 1 with h | h
  ·obtain rfl:i=0:=by omega
   exact ⟨a,va,rfl,rfl,ha,hsz.1⟩
  ·rcases Nat.lt_or_ge i 2 with h | h
   ·obtain rfl:i=1:=by omega
    exact ⟨b,vb,rfl,rfl,hb,hsz.2.1⟩
   ·obtain rfl:i=2:=by omega
    exact ⟨c,vc,rfl,rfl,hc,hsz.2.2⟩
 refine Spec.of 31 func293 rfl rfl rfl ?_
 refine Ad (Au [0] rfl rfl (Ad (Au [0,3] rfl rfl (Aj (Ad (Ah rfl (Af (BD rfl) (Ah rfl (AI [3,8,9,10] rfl (AB (AX (show Ent _ (own 9 1 (.slice none 0 0) (Kw a b c 0).length (Wi (Kw a b c 0))::_) from own_nil_ent) ?_)))))))))))
 refine B4 (ι:=Nat×Value) (fun k env L=>Sub env [(3,k.2),(8,.slice (some ⟨g,0,none⟩) 3 3),(9,.int .i64 3),(10,.int .i64 (k.1:Nat))]∧Ent L [own 9 1 k.2 (Kw a b c k.1).length (Wi (Kw a b c k.1)),B5 g 27 [va,vb,vc],ro μ]∧k.1≤3) (fun k=>3-k.1) (0,.slice none 0 0) ⟨⟨rfl,rfl,rfl,rfl,trivial⟩,Split.ent' AG,Nat.zero_le _⟩ ?_
 rintro ⟨i,v3⟩ env L ⟨hsub,hE,hi⟩
 simp only [] at hsub hE hi
 refine B7 _ hsub (AX hE ?_)
 clear hsub hE env L
 dsimp only
 refine Ad (Af (Be rfl rfl) (AI [3,8,9,10,11] rfl (Aj ?_)))
 refine Aq rfl (fun h11=>?_) (fun h11=>?_)
 ·have h11':i<3:=by have:=of_decide_eq_true h11; omega
  obtain ⟨l,vl,hl,hvl,hrow,hll⟩:=hT i h11'
  have hpl:=Uh hsz hi
  refine Ar (Ai (Aj (AB (Ad ?_))))
  refine Af (AA i rfl rfl AC AC (by rw [Int.toNat_natCast]; omega)) ?_
  refine AM (Ak rfl hvl) (Au [3,5,8,9,10] rfl rfl (Ad (Ah rfl (Af (AW hrow rfl) (Ah rfl (AI [3,8,9,10,14,15,16] rfl (AB ?_)))))))
  refine AX (show Ent _ [own 9 1 v3 (Kw a b c i++(l.take 0).map (·.1)).length (Wi (Kw a b c i++(l.take 0).map (·.1))),B5 g 27 [va,vb,vc],ro μ] from (by rw [List.take_zero,List.map_nil,List.append_nil]; exact Split.ent' AG)) ?_
  refine B4 (ι:=Nat×Value) (fun k env L=>Sub env [(3,k.2),(8,.slice (some ⟨g,0,none⟩) 3 3),(9,.int .i64 3),(10,.int .i64 (i:Nat)),(14,vl),(15,.int .i64 (l.length:Nat)),(16,.int .i64 (k.1:Nat))]∧Ent L [own 9 1 k.2 (Kw a b c i++(l.take k.1).map (·.1)).length (Wi (Kw a b c i++(l.take k.1).map (·.1))),B5 g 27 [va,vb,vc],ro μ]∧k.1≤l.length) (fun k=>l.length-k.1) (0,v3) ⟨⟨rfl,rfl,rfl,rfl,rfl,rfl,rfl,trivial⟩,Split.ent' AG,Nat.zero_le _⟩ ?_
  rintro ⟨j,v4⟩ env L ⟨hsub,hE,hj⟩
  simp only [] at hsub hE hj
  refine B7 _ hsub (AX hE ?_)
  clear hsub hE env L
  dsimp only
  refine Ad (Af (Be rfl rfl) (AI [3,8,9,10,14,15,16,17] rfl (Aj ?_)))
  refine Aq rfl (fun h17=>?_) (fun h17=>?_)
  ·have h17':j<l.length:=by have:=of_decide_eq_true h17; omega
   obtain ⟨e,he⟩:∃ e,l[j]? = some e:=⟨_,List.getElem?_eq_getElem h17'⟩
   obtain ⟨gb,off,cap,hv,hra,hc0,hc1⟩:=Dc hrow he
   have hql:(Kw a b c i++(l.take j).map (·.1)).length≤4194304:=by rw [List.length_append,List.length_map,List.length_take]; omega
   refine Ar (Ai (Aj (AB (Ad ?_))))
   refine Af (AA (off+j*2) (congrArg some hv) rfl AC AC (by rw [Int.toNat_natCast])) ?_
   refine AM (Cu rfl rfl hra) (AE (Bd) (fun b7=>?_))
   refine Bh (B8 rfl rfl rfl rfl) (AI [3,7,8,9,10,14,15,16] rfl (Am (Ah rfl (Af (Ae rfl) (AM (Ak rfl rfl) (AE (Bs (qs:=[(0,_)]) rfl rfl rfl) (fun b23=>?_)))))))
   refine AE (Bj (m:=1) rfl rfl AG (by simp only [maxLen]; omega) AC) ?_
   rintro v24 -
   skip
   refine B2 rfl (Bi [3,8,9,10,14,15,16] rfl (AJ (AV (Ai (Am (Af (AQ ((j+1:Nat):Int) rfl rfl AC AC AC) (Ah rfl (Bi [3,8,9,10,14,15,16] rfl (AJ ?_)))))))))
   refine Ai ⟨(j+1,v24),⟨⟨rfl,rfl,rfl,rfl,rfl,rfl,rfl,trivial⟩,?_,h17'⟩,by show l.length-(j+1)<l.length-j; omega⟩
   have q0:Kw a b c i++(l.take (j+1)).map (·.1)=(Kw a b c i++(l.take j).map (·.1))++[e.1]:=by
    rw [List.take_add_one,he,List.map_append,List.append_assoc]; rfl
   have q1:∀ q:List ByteArray,(q++[e.1]).length=q.length+1∧Wi (q++[e.1])=Wi q++[.string e.1]:=fun q=>⟨by rw [List.length_append]; rfl,by rw [A0h]; rfl⟩
   show Ent _ [own 9 1 v24 (Kw a b c i++(l.take (j+1)).map (·.1)).length (Wi (Kw a b c i++(l.take (j+1)).map (·.1))),B5 g 27 [va,vb,vc],ro μ]
   rw [q0,(q1 _).1,(q1 _).2]
   exact Split.ent' AG
  ·have h17':=of_decide_eq_false h17
   obtain rfl:j=l.length:=by omega
   rw [List.take_length,← YN hl]
   refine B3 (AU (AU (AY rfl (AV (Ai (Am (Af (AQ ((i+1:Nat):Int) rfl rfl AC AC AC) (Ah rfl (Bi [3,8,9,10] rfl (AJ ?_))))))))))
   exact Ai ⟨(i+1,v4),⟨⟨rfl,rfl,rfl,rfl,trivial⟩,Split.ent' AG,h11'⟩,by show 3-(i+1)<3-i; omega⟩
 ·have h11':=of_decide_eq_false h11
  obtain rfl:i=3:=by omega
  have hpl:=Uh hsz (Nat.le_refl 3)
  refine B3 (AU (AU (AY rfl (Ai (Ad (Ah rfl ?_))))))
  refine AE (AF (NF slices_Sort_string slices_Sort_string_none v3 (Kw a b c 3) AC) rfl rfl AG) ?_
  rintro v28 L1 ⟨rfl,rfl⟩
  refine As (AI [3] rfl (Aj ?_))
  rw [← Gz (Kw a b c 3)]
  refine Am (Ah rfl ?_)
  refine AE (AF (OY (e:=9) slices_Compact_string slices_Compact_string_empty v3 (Ey (Kw a b c 3)) (by rw [Gz]; omega)) rfl rfl AG) ?_
  rintro v30 L1 rfl
  refine As (Au [2] rfl rfl (Av ?_))
  exact Aw [own 9 1 v30 (Jg (Ey (Kw a b c 3))).length (Wi (Jg (Ey (Kw a b c 3)))),ro μ] (.tmp rfl .nil) rfl AG
theorem Tf (μ:PH)(g:Nat)(va vb vc:Value)(a b c:List En)(ha:Row μ va 2 a.length (Ci a))(hb:Row μ vb 2 b.length (Ci b))(hc:Row μ vc 2 c.length (Ci c))(hsz:a.length≤1048576∧b.length≤1048576∧c.length≤1048576) :
  Spec prog 293 [.slice (some ⟨g,0,none⟩) 3 3] [B5 g 27 [va,vb,vc],ro μ] (fun r L=>L=[own 9 1 r (Fe a b c).length (Wi (Fe a b c)),ro μ]):=by
 have:=R8 μ g va vb vc a b c ha hb hc hsz
 rw [A0i] at this; exact this
theorem Tg (a b c:List En):(Fe a b c).length≤a.length+b.length+c.length:=by
 have:=Xn (a.map (·.1)++b.map (·.1)++c.map (·.1))
 rw [List.length_append,List.length_append,List.length_map,List.length_map,List.length_map] at this
 exact this
set_option maxHeartbeats 4000000 in
theorem Th (μ:PH)(va vb vc:Value)(a b c:List En)(ha:Row μ va 2 a.length (Ci a))(hb:Row μ vb 2 b.length (Ci b))(hc:Row μ vc 2 c.length (Ci c))(hsz:a.length≤1048576∧b.length≤1048576∧c.length≤1048576)
  (hu:U32s a∧U32s b∧U32s c):Spec prog 224 [va,vb,vc] [ro μ] (fun r L=>∃ v8 v9 μ',Le μ μ'∧r=.tuple #[v8,v9]∧L=[own 111 2 v8 (CG (D4 a b c)).length (Ci (CG (D4 a b c))),own 119 4 v9 (Fs (D4 a b c)).length (NV (Fs (D4 a b c))),ro μ']):=by
 have hpl:=Tg a b c
 generalize hrs:D4 a b c=rs
 have hrl:rs.length=(Fe a b c).length:=by rw [← hrs]; unfold D4; rw [List.length_map]
 have hrg:∀ i p,(Fe a b c)[i]? = some p→rs[i]? = some (p,lookB a p,lookB b p,lookB c p):=fun i p h=>by
  rw [← hrs]; unfold D4; rw [List.getElem?_map,h]; rfl
 have hps:=fun g=>Tf μ g va vb vc a b c ha hb hc hsz
 generalize Fe a b c=ps at hpl hrl hrg hps
 obtain ⟨Aa,ca,hva⟩:=ha.sl
 obtain ⟨Ab,cb,hvb⟩:=hb.sl
 obtain ⟨Ac,cc,hvc⟩:=hc.sl
 subst hva hvb hvc
 refine Spec.of 73 func224 rfl rfl rfl ?_
 refine Ad (B2 rfl (Au [0,1,2] rfl rfl (Ad (Au [0,1,2,8] rfl rfl (Ad (Au [0,1,2,8,9] rfl rfl (Aj (Ad (Ah rfl (Ah rfl (Ah rfl (AE (Bs (qs:=[(0,_),(1,_),(2,_)]) rfl rfl rfl) (fun b19=>?_)))))))))))))
 refine AE (AF (hps b19) rfl rfl AG) ?_
 rintro v20 L1 rfl
 refine As ?_
 refine C4 (v:=v20) (μ:=μ) AG fun μ1 hle hrow=>?_
 have ra:=ha.le hle
 have rb:=hb.le hle
 have rc:=hc.le hle
 refine Af (AW hrow rfl) (Ah rfl (AI [0,1,2,8,9,20,21,22] rfl (AB (AX (show Ent _ (own 111 2 (.slice none 0 0) (CG (rs.take 0)).length (Ci (CG (rs.take 0)))::_) from own_nil_ent) (AX (show Ent _ (own 119 4 (.slice none 0 0) (Fs (rs.take 0)).length (NV (Fs (rs.take 0)))::_) from own_nil_ent) ?_)))))
 refine B4 (ι:=Nat×Value×Value) (fun k env L=>Sub env [(0,(.slice Aa a.length ca)),(1,(.slice Ab b.length cb)),(2,(.slice Ac c.length cc)),(8,k.2.1),(9,k.2.2),(20,v20),(21,.int .i64 (ps.length:Nat)),(22,.int .i64 (k.1:Nat))]∧Ent L [own 111 2 k.2.1 (CG (rs.take k.1)).length (Ci (CG (rs.take k.1))),own 119 4 k.2.2 (Fs (rs.take k.1)).length (NV (Fs (rs.take k.1))),ro μ1]∧k.1≤ps.length) (fun k=>ps.length-k.1) (0,.slice none 0 0,.slice none 0 0) ⟨⟨rfl,rfl,rfl,rfl,rfl,rfl,rfl,rfl,trivial⟩,Split.ent' AG,Nat.zero_le _⟩ ?_
 rintro ⟨i,v8,v9⟩ env L ⟨hsub,hE,hi⟩
 simp only [] at hsub hE hi
 refine B7 _ hsub (AX hE ?_)
 clear hsub hE env L
 dsimp only
 refine Ad (Af (Be rfl rfl) (AI [0,1,2,8,9,20,21,22,23] rfl (Aj ?_)))
 refine Aq rfl (fun h23=>?_) (fun h23=>?_)
 ·have h23':i<ps.length:=by have:=of_decide_eq_true h23; omega
  obtain ⟨p,hp⟩:∃ p,ps[i]? = some p:=⟨_,List.getElem?_eq_getElem h23'⟩
  obtain ⟨gb,off,cap,hv,_,_,hr⟩:=hrow.pos AC
  have hcp:=hr.elem (f:=G3) (n:=1) LO hp
  have hgp:=hrg i p hp
  have htk:rs.take (i+1)=rs.take i++[(p,lookB a p,lookB b p,lookB c p)]:=by rw [List.take_add_one,hgp]; rfl
  have ua:=hu.1.lookB p
  have ub:=hu.2.1.lookB p
  have uc:=hu.2.2.lookB p
  have hol:(CG (rs.take i)).length≤4194304:=by have:=Qm (rs.take i); rw [List.length_take] at this; omega
  have hcl:(Fs (rs.take i)).length≤4194304:=by have:=TJ (rs.take i); rw [List.length_take] at this; omega
  refine Ar (Ai (Aj (AB (Ad ?_))))
  refine Af (AA (off+i*1) (congrArg some hv) rfl AC AC (by rw [Int.toNat_natCast])) ?_
  refine AM (BJ rfl hcp.cell) (Au [0,1,2,8,9,11,20,21,22] rfl rfl (Ad (Ah rfl (Ah rfl ?_))))
  refine AE (AF (Kg μ1 (.slice Aa a.length ca) a p ra hsz.1) rfl rfl AG) ?_
  rintro v28 L1 ⟨rfl,rfl⟩
  refine As (Ah rfl (Ah rfl ?_))
  refine AE (AF (Kg μ1 (.slice Ab b.length cb) b p rb hsz.2.1) rfl rfl AG) ?_
  rintro v31 L1 ⟨rfl,rfl⟩
  refine As (Ah rfl (Ah rfl ?_))
  refine AE (AF (Kg μ1 (.slice Ac c.length cc) c p rc hsz.2.2) rfl rfl AG) ?_
  rintro v34 L1 ⟨rfl,rfl⟩
  refine As (B2 rfl (B2 rfl (Au [0,1,2,8,9,11,12,13,14,20,21,22] rfl rfl (Aj ?_))))
  generalize lookB a p=xb at ua htk
  generalize lookB b p=xo at ub htk
  generalize lookB c p=xt at uc htk
  refine Am (Ah rfl (Au [0,1,2,8,9,11,12,13,14,15,20,21,22] rfl rfl ?_))
  refine Co (fun env L=>∃ v9',Sub env [(0,(.slice Aa a.length ca)),(1,(.slice Ab b.length cb)),(2,(.slice Ac c.length cc)),(8,v8),(9,v9'),(11,.string p),(15,.int .u32 (D6 xb xo xt).1),(20,v20),(21,.int .i64 (ps.length:Nat)),(22,.int .i64 (i:Nat))]∧Ent L [own 111 2 v8 (CG (rs.take i)).length (Ci (CG (rs.take i))),own 119 4 v9' (Fs (rs.take (i+1))).length (NV (Fs (rs.take (i+1)))),ro μ1]) ?_ ?_
  ·refine AB (Ad (Ah rfl (Ah rfl (Af (Bo rfl rfl) (Ah rfl ?_)))))
   refine B9 52 rfl (fun h52=>?_) (fun h52=>?_)
   ·refine B1 rfl rfl rfl (B1 rfl rfl rfl (B1 rfl rfl rfl (Af (Bc rfl rfl) (Au [0,1,2,8,9,11,12,13,14,15,20,21,22,48] rfl rfl ?_))))
    refine Aq rfl (fun h48=>?_) (fun h48=>by cases h48)
    refine Ar (AV ?_)
    have e1:D6 xb xo xt=(xo,false):=if_pos (Or.inl (of_decide_eq_true h52))
    refine Ai ⟨v9,⟨rfl,rfl,rfl,rfl,rfl,rfl,by rw [e1]; rfl,rfl,rfl,rfl,trivial⟩,?_⟩
    rw [htk,JR (rs.take i) p (show (D6 xb xo xt).2=false by rw [e1])]
    exact Split.ent' AG
   ·refine AS rfl rfl (Ah rfl (AS rfl rfl (Ah rfl (AS rfl rfl (Af (Bo rfl rfl) (Af (B0 rfl rfl) (Au [0,1,2,8,9,11,12,13,14,15,20,21,22,48] rfl rfl ?_)))))))
    refine Aq rfl (fun h48=>?_) (fun h48=>?_)
    ·refine Ar (AV ?_)
     have e1:D6 xb xo xt=(xo,false):=if_pos (Or.inr (of_decide_eq_true h48))
     refine Ai ⟨v9,⟨rfl,rfl,rfl,rfl,rfl,rfl,by rw [e1]; rfl,rfl,rfl,rfl,trivial⟩,?_⟩
     rw [htk,JR (rs.take i) p (show (D6 xb xo xt).2=false by rw [e1])]
     exact Split.ent' AG
    ·have k0:¬ (xo=xt∨xb=xt):=fun k=>k.elim (of_decide_eq_false h52) (of_decide_eq_false h48)
     refine Ad (Ah rfl (Ah rfl (Af (Bo rfl rfl) (Au [0,1,2,8,9,11,12,13,14,20,21,22,57] rfl rfl ?_))))
     refine Aq rfl (fun h57=>?_) (fun h57=>?_)
     ·refine Am (Ah rfl (B2 rfl (Bi [0,1,2,8,9,11,15,20,21,22] rfl (AJ (AV ?_)))))
      have e1:D6 xb xo xt=(xt,false):=by unfold D6; rw [if_neg k0,if_pos (of_decide_eq_true h57)]
      refine Ai ⟨v9,⟨rfl,rfl,rfl,rfl,rfl,rfl,by rw [e1]; rfl,rfl,rfl,rfl,trivial⟩,?_⟩
      rw [htk,JR (rs.take i) p (show (D6 xb xo xt).2=false by rw [e1])]
      exact Split.ent' AG
     ·refine Ad (Ah rfl (Ah rfl (Ah rfl ?_)))
      refine AE (AF (Tc ua ub uc) rfl rfl AG) ?_
      rintro v39 L1 ⟨rfl,rfl⟩
      refine As (Au [0,1,2,8,9,11,12,13,14,15,20,21,22] rfl rfl (Am (Ah rfl (Ah rfl (Ah rfl (Ah rfl (Ah rfl (Af (Bz (qs:=[(0,_),(1,_),(2,_),(3,_)]) rfl) (AE (Bs (qs:=[(0,_)]) rfl rfl rfl) (fun b46=>?_))))))))))
      refine AE (Bj (l:=(Fs (rs.take i)).length) (m:=1) rfl rfl AG (by simp only [maxLen]; omega) AC) ?_
      rintro v47 -
      skip
      refine B2 rfl (Bi [0,1,2,8,9,11,15,20,21,22] rfl (AJ (AV ?_)))
      have e1:D6 xb xo xt=(Qk xb xo xt,true):=by unfold D6; rw [if_neg k0,if_neg (of_decide_eq_false h57)]
      refine Ai ⟨v47,⟨rfl,rfl,rfl,rfl,rfl,rfl,by rw [e1]; rfl,rfl,rfl,rfl,trivial⟩,?_⟩
      obtain ⟨q1,q2⟩:=Ug (rs.take i) p (show (D6 xb xo xt).2=true by rw [e1])
      rw [htk,q1,q2]
      exact Split.ent' AG
  rintro env L ⟨v9',hsub,hE⟩
  refine B7 _ hsub (AX hE ?_)
  clear hsub hE env L
  refine Ad (Ah rfl (Af (Bx rfl rfl) (AI [0,1,2,8,9,11,15,20,21,22,63] rfl ?_)))
  refine Aq rfl (fun h63=>?_) (fun h63=>?_)
  ·refine Am (Ah rfl (Ah rfl (Ah rfl (Af (Bz (qs:=[(0,_),(1,_)]) rfl) (AE (Bs (qs:=[(0,_)]) rfl rfl rfl) (fun b68=>?_))))))
   refine AE (Bj (l:=(CG (rs.take i)).length) (m:=1) rfl rfl AG (by simp only [maxLen]; omega) AC) ?_
   rintro v69 -
   skip
   refine B2 rfl (Bi [0,1,2,8,9,20,21,22] rfl (AJ (AV (Ai (Am (Af (AQ ((i+1:Nat):Int) rfl rfl AC AC AC) (Ah rfl (Bi [0,1,2,8,9,20,21,22] rfl (AJ ?_)))))))))
   have h63':¬ (D6 xb xo xt).1=0:=by simpa using h63
   refine Ai ⟨(i+1,v69,v9'),⟨⟨rfl,rfl,rfl,rfl,rfl,rfl,rfl,rfl,trivial⟩,?_,h23'⟩,by show ps.length-(i+1)<ps.length-i; omega⟩
   obtain ⟨q1,q2⟩:=R7 (rs.take i) p h63'
   have e2:CG (rs.take (i+1))=CG (rs.take i++[(p,xb,xo,xt)]):=by rw [htk]
   show Ent _ [own 111 2 v69 (CG (rs.take (i+1))).length (Ci (CG (rs.take (i+1)))),own 119 4 v9' (Fs (rs.take (i+1))).length (NV (Fs (rs.take (i+1)))),ro μ1]
   rw [e2,q1,q2]
   exact Split.ent' AG
  ·refine Ar (AV (Ai (Am (Af (AQ ((i+1:Nat):Int) rfl rfl AC AC AC) (Ah rfl (Bi [0,1,2,8,9,20,21,22] rfl (AJ ?_)))))))
   have h63':(D6 xb xo xt).1=0:=by simpa using h63
   refine Ai ⟨(i+1,v8,v9'),⟨⟨rfl,rfl,rfl,rfl,rfl,rfl,rfl,rfl,trivial⟩,?_,h23'⟩,by show ps.length-(i+1)<ps.length-i; omega⟩
   have e2:CG (rs.take (i+1))=CG (rs.take i):=by rw [htk,On (rs.take i) p h63']
   show Ent _ [own 111 2 v8 (CG (rs.take (i+1))).length (Ci (CG (rs.take (i+1)))),own 119 4 v9' (Fs (rs.take (i+1))).length (NV (Fs (rs.take (i+1)))),ro μ1]
   rw [e2]
   exact Split.ent' AG
 ·have h23':=of_decide_eq_false h23
  obtain rfl:i=ps.length:=by omega
  rw [← hrl,List.take_length]
  refine B3 (AU (AU (AY rfl (Ai (Ad (Ah rfl (Ah rfl (B2 rfl (Au [6,7] rfl rfl (Av ?_))))))))))
  exact Aw [own 111 2 v8 (CG rs).length (Ci (CG rs)),own 119 4 v9 (Fs rs).length (NV (Fs rs)),ro μ1] (.tmp rfl (.tmp rfl .nil)) ⟨v8,v9,μ1,hle,rfl,rfl⟩ AG
theorem A0j{b o t:Int}(ho:U32 o)(ht:U32 t):U32 (D6 b o t).1:=by
 unfold D6
 split
 ·exact ho
 ·split
  ·exact ht
  ·have h:=(TB (BitVec.ofInt 32 b) (BitVec.ofInt 32 o) (BitVec.ofInt 32 t)).isLt
   unfold Qk U32
   dsimp only
   omega
theorem R9 {α:Type}:∀ {xs U:List α},xs.Nodup→(∀ x∈xs,x∈U)→xs.length≤U.length
 | [],_,_,_=>Nat.zero_le _
 | x::xs,U,hn,hs=>by
  obtain ⟨h1,h2⟩:=List.nodup_cons.1 hn
  obtain ⟨s,t,rfl⟩:=List.append_of_mem (hs x (List.mem_cons_self ..))
  have h3:=R9 (U:=s++t) h2 fun y hy=>by
   rcases List.mem_append.1 (hs y (List.mem_cons_of_mem _ hy)) with k | k
   ·exact List.mem_append_left _ k
   ·rcases List.mem_cons.1 k with rfl | k
    ·exact absurd hy h1
    ·exact List.mem_append_right _ k
  rw [List.length_append] at h3
  rw [List.length_cons,List.length_append,List.length_cons]
  omega
structure TOk (U:List ByteArray) (t:List En):Prop where
 good:GoodT t
 u32:U32s t
 sub:∀ e∈t,e.1∈U
theorem TOk.nil(U:List ByteArray):TOk U []:=⟨Qf,(fun _ h=>by cases h),fun _ h=>by cases h⟩
theorem TOk.len{U:List ByteArray}{t:List En}(h:TOk U t):t.length≤U.length:=by
 have hn:(t.map (·.1)).Nodup:=by
  rw [List.Nodup,List.pairwise_map]
  exact h.good.rises.imp fun k=>Gu k
 have:=R9 (U:=U) hn fun p hp=>by
  obtain ⟨e,he,rfl⟩:=List.mem_map.1 hp
  exact h.sub e he
 rwa [List.length_map] at this
def VM (a b c:List En):List En:=CG (D4 a b c)
theorem TOk.merge{U:List ByteArray}{a b c:List En}(ha:TOk U a)(hb:TOk U b)(hc:TOk U c):TOk U (VM a b c) where
 good:=XK ha.good hb.good hc.good
 u32:=fun e he=>by
  obtain ⟨r,hr,h1,_⟩:=GI he
  unfold D4 at hr
  obtain ⟨p,_,rfl⟩:=List.mem_map.1 hr
  rw [h1]
  exact A0j (hb.u32.lookB p) (hc.u32.lookB p)
 sub:=fun e he=>by
  obtain ⟨r,hr,h1,_⟩:=GI he
  unfold D4 at hr
  obtain ⟨p,hp,rfl⟩:=List.mem_map.1 hr
  rw [h1]
  have hm:∀ t,TOk U t→p∈t.map (·.1)→p∈U:=fun t ht hq=>by
   obtain ⟨x,hx,rfl⟩:=List.mem_map.1 hq
   exact ht.sub x hx
  rcases (Hi a b c p).1 hp with k | k | k
  ·exact hm a ha k
  ·exact hm b hb k
  ·exact hm c hc k
theorem A1h{n:Nat}{S:Nat→Bool}{c:Int}(h:c∈BW n S):0≤c∧c<n:=by
 unfold BW Og at h
 obtain ⟨k,hk,rfl⟩:=List.mem_map.1 h
 have:=List.mem_range.1 (List.mem_filter.1 hk).1
 omega
theorem Oo {g:List (List Int)}{xs ys:List Int}{c:Int}(h:c∈C0 g xs ys):0≤c∧c<g.length:=by
 unfold C0 Gm at h
 split at h
 ·exact A1h h
 ·cases h
theorem Oq (g:List (List Int))(xs ys:List Int):(C0 g xs ys).length≤g.length:=by
 unfold C0
 split
 ·exact YJ _ _
 ·exact Nat.zero_le _
abbrev VWt.n(X:VWt):Nat:=X.g.length
abbrev VWt.sv(X:VWt):Value:=.iface 38 (pv X.pw)
def VWt.tr (X:VWt)(c:Nat):List En:=(FV X.W.pl.1 ((X.W.pl.2[c]?).getD ([],0)).2).1
def VWt.U (X:VWt):List ByteArray:=X.W.pl.1.flatMap fun t=>t.map (·.1)
structure TG (X:VWt):Prop where
 good:∀ t∈X.W.pl.1,GoodT t∧U32s t∧t.length≤30
 few:X.W.pl.1.length≤16
theorem Ui {α:Type}(f:α→Nat)(m:Nat):∀ (l:List α),(∀ x∈l,f x≤m)→(l.map f).sum≤l.length*m
 | [],_=>Nat.zero_le _
 | x::l,h=>by
  rw [List.map_cons,List.sum_cons,List.length_cons,Nat.succ_mul]
  have h1:=h x (List.mem_cons_self ..)
  have h2:=Ui f m l fun y hy=>h y (List.mem_cons_of_mem _ hy)
  omega
theorem TG.len{X:VWt}(h:TG X):X.U.length≤480:=by
 unfold VWt.U
 rw [List.length_flatMap]
 have h1:=Ui (fun t:List En=>(t.map (·.1)).length) 30 X.W.pl.1 fun t ht=>by rw [List.length_map]; exact (h.good t ht).2.2
 have h2:=h.few
 omega
def VT (W:VWt)(c:Int):List En:=W.tr c.toNat
def VS (W:VWt)(x:List Int)(y:Int):List Int:=C0 W.g x [y]
theorem VWt.com{X:VWt}{μ:PH}(h:X.Ok μ){c:Nat}(hc:c<X.n):∃ cm k t,X.W.pl.2[c]? = some cm∧cm.2=(k:Nat)∧X.W.pl.1[k]? = some t∧X.tr c=t:=by
 have hc':c<X.W.pl.2.length:=by have e:X.n=X.W.pl.2.length:=List.length_map _; omega
 have hcm:X.W.pl.2[c]? = some X.W.pl.2[c]:=List.getElem?_eq_getElem hc'
 have htr:=h.s.tr _ (List.mem_of_getElem? hcm)
 have hk:(X.W.pl.2[c]).2.toNat<X.W.pl.1.length:=by omega
 have hk2:(X.W.pl.2[c]).2=(((X.W.pl.2[c]).2.toNat:Nat):Int):=by omega
 refine ⟨_,_,_,hcm,hk2,List.getElem?_eq_getElem hk,?_⟩
 unfold VWt.tr
 have ht:=GX (List.getElem?_eq_getElem hk)
 rw [← hk2] at ht
 rw [hcm,Option.getD_some,ht]
theorem Il {X:VWt}{μ:PH}(hg:TG X)(h:X.Ok μ){c:Nat}(hc:c<X.n):TOk X.U (X.tr c):=by
 obtain ⟨cm,k,t,_,_,h3,h4⟩:=X.com h hc
 have ht:=hg.good t (List.mem_of_getElem? h3)
 rw [h4]
 exact ⟨ht.1,ht.2.1,fun x hx=>List.mem_flatMap.2 ⟨t,List.mem_of_getElem? h3,List.mem_map.2 ⟨x,hx,rfl⟩⟩⟩
theorem J4 (X:VWt)(μ:PH)(h:X.Ok μ)(c:Nat)(hc:c<X.n):Spec prog 129 [pv X.pw,.int .i64 (c:Nat)] (X.LR μ) (fun r L=>(∃ A k,r=.slice A (X.tr c).length k)∧L=own 111 2 r (X.tr c).length (Ci (X.tr c))::X.LR μ):=by
 obtain ⟨cm,k,t,h1,h2,h3,h4⟩:=X.com h hc
 have htree:=Of X.ps X.W μ h.w (fun x hx=>by have:=(h.s.tg x.2 (List.mem_map.2 ⟨x,hx,rfl⟩)).1; omega) cm.2
 rw [show FV X.W.pl.1 cm.2=(t,0) by rw [h2,GX h3]] at htree
 dsimp only at htree
 rw [h4]
 refine Spec.of 28 func129 rfl rfl rfl ?_
 refine Ad (Au [0,1] rfl rfl (Ad (Ah rfl (Ah rfl ?_))))
 refine AE (AF (Ue X μ h c cm h1) rfl rfl AG) ?_
 rintro v10 L1 ⟨A,c0,st,bt,rfl,rfl⟩
 refine As (Ah rfl (Af (Ax rfl) (Af (Ax rfl) (AE (Bd) (fun b5=>?_)))))
 refine Bh (B8 rfl rfl rfl rfl) (Au [0,5,6] rfl rfl (Aj (Ad (Ah rfl (Af (Cd rfl) (AI [0,5,16] rfl (Dw rfl (Ar (Ai (Aj ?_))))))))))
 refine Bb [3,5] ([B5 X.pw 102 [pv X.ps,pv X.px],B5 b5 211 [.slice A cm.1.length c0,.int .i64 cm.2,.int .i64 (Uc X.gs (c:Nat)),.int .i64 st,.string bt]]) ([own 3 1 (.slice A cm.1.length c0) cm.1.length (cm.1.flatMap (Bw .i64)),xB X.px X.q X.lv X.gv,CT X.ps X.W,DY X.W,DJ X.W,ro μ]) (Split.ent AG) AP ?_
 refine AD 0 rfl (AH rfl) (AD 1 rfl (Al rfl) (AD 2 rfl (Ae rfl) (Bl 3 rfl (Ak rfl rfl) rfl (AD 4 rfl (Ae rfl) (Bl 5 rfl (Ak rfl rfl) rfl ?_)))))
 refine BX 6 rfl AP AP (AF htree rfl rfl AG) ?_
 rintro v22 L1 ⟨A2,c2,rfl,rfl⟩
 refine C5 (AD 7 rfl (AH rfl) (AD 8 rfl (Ax rfl) (AD 9 rfl (Ax rfl) (AD 10 rfl (Bf rfl) (AD 11 rfl (Bf rfl) (BZ [7] rfl (Bv AP (Ai (Ad (Ah rfl (Au [4] rfl rfl (Av ?_))))))))))))
 exact Aw (own 111 2 (.slice A2 t.length c2) t.length (Ci t)::X.LR μ) (.tmp rfl .nil) ⟨⟨_,_,rfl⟩,rfl⟩ AG
structure VV where
 rest:Value
 node:Value
 tree:Value
 f:VF (List En)
 own:Bool
abbrev Cv (x:VV):List Value:=[x.rest,x.node,x.tree]
abbrev E8 (l:List Int):List Value:=l.flatMap (Bw .i64)
def Ra (x:VV):List AK:=if x.own=true then [own 3 1 x.node x.f.node.length (E8 x.f.node)] else []
abbrev CW (x:VV):AK:=own 111 2 x.tree x.f.tree.length (Ci x.f.tree)
structure VV.Ok (n:Nat) (U:List ByteArray) (μ:PH) (x:VV):Prop where
 rest:Row μ x.rest 1 x.f.rest.length (E8 x.f.rest)
 node:x.own=false→Row μ x.node 1 x.f.node.length (E8 x.f.node)∧∃ A,x.node=.slice A x.f.node.length x.f.node.length
 one:(∃ A c,x.node=.slice A x.f.node.length c)∧∃ A c,x.tree=.slice A x.f.tree.length c
 ins:∀ c∈x.f.node++x.f.rest,0≤c∧c<n
 len:x.f.node.length+x.f.rest.length≤n
 tree:TOk U x.f.tree
theorem VV.Ok.le{n:Nat}{U:List ByteArray}{μ μ':PH}{x:VV}(h:x.Ok n U μ)(k:Le μ μ'):x.Ok n U μ':=⟨h.rest.le k,fun e=>⟨(h.node e).1.le k,(h.node e).2⟩,h.one,h.ins,h.len,h.tree⟩
abbrev Gh (w:Nat)(sv st:Value)(steps limit:Nat):AK:=B5 w 337 [sv,st,.int .i64 (steps:Nat),.int .i64 (limit:Nat)]
def FH (x:VV):AK:=PO (Ra x)
theorem PA {x:VV}(h:x.own=false){L:List AK}:Ent L (FH x::L):=by
 have e:Ra x=[]:=by unfold Ra; rw [if_neg (by rw [h]; decide)]
 unfold FH
 rw [e]
 exact CZ (K:=[])
theorem YO {x:VV}(h:x.own=true){L:List AK}:Ent (FH x::L) (own 3 1 x.node x.f.node.length (E8 x.f.node)::L):=by
 have e:Ra x=[own 3 1 x.node x.f.node.length (E8 x.f.node)]:=if_pos h
 unfold FH
 rw [e]
 exact star_ent
theorem Wj {x:VV}(h:x.own=true){L:List AK}:Ent (own 3 1 x.node x.f.node.length (E8 x.f.node)::L) (FH x::L):=by
 have e:Ra x=[own 3 1 x.node x.f.node.length (E8 x.f.node)]:=if_pos h
 unfold FH
 rw [e]
 exact CZ (K:=[own 3 1 x.node x.f.node.length (E8 x.f.node)])
theorem YP (X : VWt) (μ : PH) (h : X.Ok μ) (c : Nat) (hc : c < X.n) : InvS prog 0 38 (pv X.pw) "Content" [.int .i64 (c : Nat)] [X.A, ro μ]
  (fun r L=>(∃ A k,r=.slice A (X.tr c).length k)∧L=[own 111 2 r (X.tr c).length (Ci (X.tr c)),X.A,ro μ]):=InvS.of (by
 refine Spec.exA' fun _=>?_
 exact Spec.ent3 (show Spec prog 129 [pv X.pw,.int .i64 (c:Nat)] (X.LR μ) _ from J4 X μ h c hc) fun r L ⟨e1,e2⟩=>⟨[own 111 2 r (X.tr c).length (Ci (X.tr c)),X.A,ro μ],by rw [e2]; exact Ent.cons VWt.close,e1,rfl⟩)
theorem KQ (W:VWt)(μ:PH)(h:W.Ok μ)(v u:Value)(xs ys:List Int)(hT:RowAt μ 2 0 tabV)(hv:Row μ v 1 xs.length (E8 xs))(hu:Row μ u 1 ys.length (E8 ys)) :
  Spec prog 207 [W.sv,v,u] [W.A,ro μ] (fun r L=>∃ lv μ',Le μ μ'∧r=.tuple #[lv,.int .i64 (Fc W.g xs ys)]∧L=[own 3 1 lv (C0 W.g xs ys).length (E8 (C0 W.g xs ys)),W.A,ro μ']) :=
 (Ta (A0f W μ h) () μ v u xs ys hT hv hu (Le.refl _) (We W μ h ())).mono fun _ _ ⟨lv,_,μ',_,h2,h3,h4⟩=>⟨lv,μ',h2,h3,h4⟩
theorem Rb (W:VWt)(μ:PH)(h:W.Ok μ)(x:VV)(u:Value)(ys:List Int)(hT:RowAt μ 2 0 tabV)(hx:x.own=false→Row μ x.node 1 x.f.node.length (E8 x.f.node))(hu:Row μ u 1 ys.length (E8 ys)) :
  Spec prog 207 [W.sv,x.node,u] [FH x,W.A,ro μ] (fun r L=>∃ lv μ',Le μ μ'∧r=.tuple #[lv,.int .i64 (Fc W.g x.f.node ys)]∧L=[own 3 1 lv (C0 W.g x.f.node ys).length (E8 (C0 W.g x.f.node ys)),FH x,W.A,ro μ']):=by
 intro E w hh
 cases ho:x.own with
 | false =>
  refine ((KQ W μ h x.node u x.f.node ys hT (hx ho) hu) E w (hh.ent Ent.drop)).mono fun e w' ⟨v,L',he,⟨lv,μ',q2,q3,q4⟩,h5⟩=>?_
  subst q4
  exact ⟨v,_,he,⟨lv,μ',q2,q3,rfl⟩,h5.ent ((PA ho).trans Ent.swap)⟩
 | true =>
  have hh1:=hh.ent ((YO ho).trans (Split.ent' (K:=[own 3 1 x.node x.f.node.length (E8 x.f.node),ro μ,W.A]) AG))
  obtain ⟨μL,hl,hrow,hh2,hback⟩:=hh1.lend_own
  refine ((KQ W μL (h.le hl) x.node u x.f.node ys (hT.le hl) hrow (hu.le hl)) E w (hh2.ent Ent.swap)).mono fun e w' ⟨v,L',he,⟨lv,μ',q2,q3,q4⟩,h5⟩=>?_
  subst q4
  obtain ⟨μ3,b1,b2⟩:=hback μ' q2
  refine ⟨v,_,he,⟨lv,μ3,b1,q3,rfl⟩,h5.ent ?_⟩
  refine (Split.ent' (K:=[ro μ',own 3 1 lv (C0 W.g x.f.node ys).length (E8 (C0 W.g x.f.node ys)),W.A]) AG).trans ?_
  refine (b2 _).trans ((Wj ho).trans (Split.ent' AG))
theorem Ot {x:VV}{n:Nat}{U:List ByteArray}{μ:PH}(h:x.Ok n U μ):(Cv x).all Value.oneCell'=true:=by
 obtain ⟨_,A,c,e1,_⟩:=h.rest
 obtain ⟨⟨A2,c2,e2⟩,A3,c3,e3⟩:=h.one
 show ([x.rest,x.node,x.tree]).all _=true
 rw [e1,e2,e3]; rfl
set_option maxHeartbeats 8000000 in
theorem Wl (W:VWt)(hg:TG W)(μ:PH)(hW:W.Ok μ)(hT:RowAt μ 2 0 tabV)(w:Nat)(A:Option Addr)(cap:Nat)(xs:List VV)(steps limit:Nat)(hsl:xs.length≤steps)(hlim:limit≤4096)
  (tv:VV) (y:Int) (hx:tv.own=false→Row μ tv.node 1 tv.f.node.length (E8 tv.f.node)) :
  Spec prog 222 [.pointer (some ⟨w,0,none⟩),tv.node,.int .i64 y] [FH tv,Gh w W.sv (.slice A xs.length cap) steps limit,own 340 3 (.slice A xs.length cap) xs.length (xs.flatMap Cv),W.A,ro μ]
   (fun r L=>(limit≤steps∧r=.int .i64 12∧L=[FH tv,Gh w W.sv (.slice A xs.length cap) steps limit,own 340 3 (.slice A xs.length cap) xs.length (xs.flatMap Cv),W.A,ro μ]) ∨
    (steps<limit∧r=.int .i64 0∧∃ (nv:VV) (A2:Option Addr) (cap2:Nat) (μ2:PH),nv.own=false∧nv.f=XL (VT W) [] (VS W tv.f.node y)∧nv.Ok W.n W.U μ2∧Le μ μ2 ∧
     L=[FH tv,Gh w W.sv (.slice A2 (xs.length+1) cap2) (steps+1) limit,own 340 3 (.slice A2 (xs.length+1) cap2) (xs.length+1) (xs.flatMap Cv++Cv nv),CW nv,W.A,ro μ2])):=by
 refine Spec.of 66 func222 rfl rfl rfl ?_
 refine Ad (Au [0,1,2] rfl rfl (Aj (Aj ?_)))
 refine Bb [3,7] _ [] (by simp only [List.append_nil]; exact Ent.refl _) AP ?_
 refine AD 0 rfl (AH rfl) (AD 1 rfl (Al rfl) (AD 2 rfl (Ae rfl) (Bl 3 rfl (Ak rfl rfl) rfl (AD 4 rfl (AH rfl) (AD 5 rfl (Al rfl) (AD 6 rfl (Ae rfl) (Bl 7 rfl (Ak rfl rfl) rfl (AD 8 rfl (Cs rfl rfl) (BZ [0,1,2,18] rfl (De AP (Ai ?_)))))))))))
 refine Aq rfl (fun h18=>?_) (fun h18=>?_)
 ·refine Ad (Au [6] rfl rfl (Av (AZ ?_)))
  have h18':=of_decide_eq_true h18
  exact Aw [FH tv,Gh w W.sv (.slice A xs.length cap) steps limit,own 340 3 (.slice A xs.length cap) xs.length (xs.flatMap Cv),W.A,ro μ] (.tmp rfl .nil) (.inl ⟨by omega,rfl,rfl⟩) AG
 ·have h18':steps<limit:=by have:=of_decide_eq_false h18; omega
  refine Ar (Ai (Ad (Ah rfl (Af (Al rfl) (Af (Ae rfl) (AM (Ak rfl rfl) (Af (AQ ((steps+1:Nat):Int) rfl rfl AC AC AC) (Af (Al rfl) (Af (Ae rfl) (Bh (Ba rfl rfl rfl) (AI [0,1,2] rfl (Ad (Ah rfl (Af (Al rfl) (Af (Ae rfl) (AM (Ak rfl rfl) (Ah rfl (Ah rfl (AE (Bs (qs:=[(0,_)]) rfl rfl rfl) (fun b33=>?_))))))))))))))))))))
  refine ER (b:=b33) (μ:=μ) AG fun μ1 h1 k1=>?_
  have r2:Row μ1 (.slice (some ⟨b33,0,none⟩) 1 1) 1 1 (E8 [y]):=Ed (n:=1) (l:=1) (cs:=[y].flatMap (Bw .i64)) k1 (by rfl) (by decide)
  refine AE (AF (Rb W μ1 (hW.le h1) tv _ [y] (hT.le h1) (fun e=>(hx e).le h1) r2) rfl rfl AG) ?_
  rintro v34 L1 ⟨lv,μ2,h2,rfl,rfl⟩
  refine As (Ah rfl (Af (Ax rfl) (Af (Ax rfl) (B2 rfl (Au [0,7] rfl rfl (Aj ?_))))))
  rw [show C0 W.g tv.f.node [y]=VS W tv.f.node y from rfl]
  have hin:∀ c∈VS W tv.f.node y,0≤c∧c<(W.n:Int):=fun c hc=>by
   have:=Oo hc
   rwa [show W.g.length=W.n from rfl] at this
  have hle:(VS W tv.f.node y).length≤W.n:=by
   have:=Oq W.g tv.f.node [y]
   rwa [show W.g.length=W.n from rfl] at this
  generalize hbs:VS W tv.f.node y=bs at *
  refine BA (e:=3) (n:=1) (v:=lv) (μ:=μ2) AG fun μ3 h3 hrow=>?_
  refine Am (Af (Bz (qs:=[]) rfl) (AE (Bd) (fun b9=>?_)))
  refine Bh (B8 rfl rfl rfl rfl) (AI [0,7,9] rfl ?_)
  refine Co (fun env L=>∃ (nv:VV),Sub env [(0,.pointer (some ⟨w,0,none⟩)),(9,.pointer (some ⟨b9,0,none⟩))]∧Ent L [B5 b9 340 (Cv nv),CW nv,FH tv,Gh w W.sv (.slice A xs.length cap) (steps+1) limit,own 340 3 (.slice A xs.length cap) xs.length (xs.flatMap Cv),W.A,ro μ3]∧nv.own=false∧nv.f=XL (VT W) [] bs∧nv.Ok W.n W.U μ3) ?_ ?_
  ·refine Ad (Ah rfl (Af (AW hrow rfl) (Af (BO rfl rfl) (AI [0,7,9,40] rfl ?_))))
   refine Aq rfl (fun h40=>?_) (fun h40=>?_)
   ·have h40':0<bs.length:=by have:=of_decide_eq_true h40; omega
    obtain ⟨b0,bl,rfl⟩:∃ b0 bl,bs=b0::bl:=by
     cases bs with
     | nil=>exact absurd h40' (by decide)
     | cons b0 bl=>exact ⟨b0,bl,rfl⟩
    obtain ⟨k0,hk0⟩:∃ k:Nat,b0=(k:Int):=⟨b0.toNat,by have:=(hin b0 (List.mem_cons_self ..)).1; omega⟩
    subst hk0
    have hk0n:k0<W.n:=by have:=(hin _ (List.mem_cons_self ..)).2; omega
    have hW3:=hW.le (h1.trans (h2.trans h3))
    obtain ⟨gb,go,gc,hlv,hlc,hcm,hra⟩:=hrow.pos h40'
    obtain ⟨v',hr',hlo⟩:=Row.lo (P:=prog) (t:=60) hrow 1 AC
    obtain ⟨AR,cR,rfl⟩:∃ A c,v'=.slice A bl.length c:=by obtain ⟨_,A,c,e,_⟩:=hr'; exact ⟨A,c,e⟩
    have hcell:CellAt μ3 gb (go+0*1) (.int .i64 (k0:Nat)):=(hra.elem (f:=Bw .i64) (n:=1) (fun _=>rfl) (show ((k0:Int)::bl)[0]? = some (k0:Int) from rfl)).cell
    refine AX (Split.ent' (K:=[Gh w W.sv (.slice A xs.length cap) (steps+1) limit,ro μ3,B5 b9 340 [.slice none 0 0,.slice none 0 0,.slice none 0 0],W.A,FH tv,own 340 3 (.slice A xs.length cap) xs.length (xs.flatMap Cv)]) AG) ?_
    refine Bb [7,10] ([Gh w W.sv (.slice A xs.length cap) (steps+1) limit,ro μ3]) ([B5 b9 340 [.slice none 0 0,.slice none 0 0,.slice none 0 0],W.A,FH tv,own 340 3 (.slice A xs.length cap) xs.length (xs.flatMap Cv)]) (Split.ent AG) AP ?_
    refine AD 0 rfl (AH rfl) (AD 1 rfl (hlo _ _ _ .i64 1 rfl rfl rfl) (AD 2 rfl (AH rfl) ?_))
    refine AD 3 rfl (UO 1 1 (congrArg some hlv) rfl rfl rfl rfl (Nat.le_refl _) (by rw [List.length_cons] at hlc; omega)) ?_
    refine AD 4 rfl (AH rfl) (AD 5 rfl (Al rfl) (AD 6 rfl (Ae rfl) (Bl 7 rfl (Ak rfl rfl) rfl (AD 8 rfl (AH rfl) ?_))))
    refine AD 9 rfl (AA (go+0*1) (congrArg some hlv) rfl AC (by rw [List.length_cons]; omega) rfl) ?_
    refine Bl 10 rfl (BJ rfl hcell) rfl (AD 11 rfl (LB rfl) (AD 12 rfl (AH rfl) ?_))
    refine BX 13 rfl AP AP (DD rfl (Nat.zero_le _) (YP W μ3 hW3 k0 hk0n) rfl AG) ?_
    rintro v54 L1 ⟨⟨AT,cT,rfl⟩,rfl⟩
    refine C5 (AD 14 rfl (Bz (qs:=[(0,_),(1,_),(2,_)]) rfl) (Cy 15 rfl AP AP (B8 rfl rfl rfl rfl) (BZ [0,9] rfl (Bv AP ?_))))
    refine Ai ⟨⟨.slice AR bl.length cR,.slice (some ⟨gb,go,none⟩) 1 1,.slice AT (W.tr k0).length cT,⟨bl,[(k0:Int)],W.tr k0⟩,false⟩,⟨rfl,rfl,trivial⟩,Split.ent' AG,rfl,?_,⟨hr',fun _=>⟨⟨rfl,some ⟨gb,go,none⟩,1,rfl,Nat.le_refl _,by decide,(fun h=>by cases h),fun _=>⟨gb,go,rfl,fun j u hj=>hra j u ?_⟩⟩,_,rfl⟩,⟨⟨_,_,rfl⟩,_,_,rfl⟩,?_,?_,Il hg hW3 hk0n⟩⟩
    ·rfl
    ·have hj0:j=0:=by
      have:=(List.getElem?_eq_some_iff.1 hj).1
      rw [show (E8 [(k0:Int)]).length=1 from rfl] at this
      omega
     subst hj0
     exact hj
    ·intro c hc
     exact hin c hc
    ·rw [List.length_cons] at hle
     show 1+bl.length≤W.n
     omega
   ·have h40':bs=[]:=by
     have:=of_decide_eq_false h40
     cases bs with
     | nil=>rfl
     | cons _ _=>exfalso; rw [List.length_cons] at this; omega
    refine Ar ?_
    subst h40'
    refine Ai ⟨⟨.slice none 0 0,.slice none 0 0,.slice none 0 0,⟨[],[],[]⟩,false⟩,⟨rfl,rfl,trivial⟩,?_,rfl,rfl,⟨Row.nil _ _,fun _=>⟨Row.nil _ _,_,rfl⟩,⟨⟨_,_,rfl⟩,_,_,rfl⟩,(fun c hc=>by cases hc),Nat.zero_le _,TOk.nil _⟩⟩
    exact own_nil_ent.trans (Split.ent' (K:=[B5 b9 340 [.slice none 0 0,.slice none 0 0,.slice none 0 0],own 111 2 (.slice none 0 0) 0 [],FH tv,Gh w W.sv (.slice A xs.length cap) (steps+1) limit,own 340 3 (.slice A xs.length cap) xs.length (xs.flatMap Cv),W.A,ro μ3]) AG)
  rintro env L ⟨nv,hsub,hE,hown,hfr,hok⟩
  refine B7 _ hsub (AX hE ?_)
  clear hsub hE env L
  obtain ⟨nr,nn,nt,nf,no⟩:=nv
  have hok':=hok
  obtain ⟨hq1,_,hq3,_⟩:=hok'
  obtain ⟨_,AR,cR,e1,_⟩:=hq1
  obtain ⟨⟨AN,cN,e2⟩,AT,cT,e3⟩:=hq3
  dsimp only at e1 e2 e3
  subst e1 e2 e3
  refine Aj ?_
  refine Bb [4,5] _ [] (by simp only [List.append_nil]; exact Ent.refl _) AP ?_
  refine AD 0 rfl (AH rfl) (AD 1 rfl (AH rfl) (AD 2 rfl (Al rfl) (AD 3 rfl (Ae rfl) (Bl 4 rfl (Ak rfl rfl) rfl (Bl 5 rfl (Cn rfl rfl) rfl (CQ 6 rfl AP (Bs (qs:=[(0,_)]) rfl rfl rfl) (fun b62=>?_)))))))
  refine ⟨_,Split.ent AG,?_⟩
  refine BX 7 rfl AP AP (Bj (l:=xs.length) (m:=1) (news:=[.slice AR nf.rest.length cR,.slice AN nf.node.length cN,.slice AT nf.tree.length cT]) rfl rfl AG (by simp only [maxLen]; omega) AC) ?_
  rintro st' hst'
  obtain ⟨g7,c7,rfl⟩:=hst' (by decide)
  refine AD 8 rfl (Al rfl) (AD 9 rfl (Ae rfl) (Cy 10 rfl AP AP (Ba rfl rfl rfl) (Nn _ .nil (Bv AP (Ai (Ad (Au [6] rfl rfl (Av ?_))))))))
  refine B6 [FH tv,Gh w W.sv (.slice (some ⟨g7,0,none⟩) (xs.length+1) c7) (steps+1) limit,own 340 3 (.slice (some ⟨g7,0,none⟩) (xs.length+1) c7) (xs.length+1) (xs.flatMap Cv++Cv ⟨.slice AR nf.rest.length cR,.slice AN nf.node.length cN,.slice AT nf.tree.length cT,nf,no⟩),CW ⟨.slice AR nf.rest.length cR,.slice AN nf.node.length cN,.slice AT nf.tree.length cT,nf,no⟩,W.A,ro μ3] (.tmp rfl .nil) (.inr ⟨h18',rfl,_,_,_,μ3,hown,hfr,hok,h1.trans (h2.trans h3),rfl⟩) (Split.ent' AG)
theorem YQ {e n l c:Nat}{A:Option Addr}{xs ys:List Value}{L:List AK}(hx:xs.length=l*n):Ent (own e n (.slice A (l+1) c) (l+1) (xs++ys)::L) (own e n (.slice A l c) l xs::L) :=
 Ent.imp fun m ⟨_,h2⟩=>by
  rcases h2 with ⟨h3,_⟩ | ⟨g,cap,cur,h3,h4,h5,h6,h7,h8⟩
  ·have:=(Value.slice.inj h3).2.1; omega
  ·obtain ⟨rfl,_,rfl⟩:=Value.slice.inj h3
   refine ⟨hx,.inr ⟨g,c,cur,rfl,h4,by omega,h6,h7,?_⟩⟩
   have h9:=congrArg (List.take (l*n)) h8
   rw [List.take_take,Nat.min_eq_left (Nat.mul_le_mul_right n (Nat.le_succ l)),← hx,List.take_left'  rfl] at h9
   rw [← hx]; exact h9
theorem YR {α:Type}{xs ys:List α}{i j:Nat}{v:α}(h:i=xs.length+j):(xs++ys).set i v=xs++ys.set j v:=by
 subst h
 rw [List.set_append_right (h:=Nat.le_add_right _ _),Nat.add_sub_cancel_left]
theorem Spec.rowed{P:Program}{f:FuncId}{args:List Value}{pre:List AK}{e n l:Nat}{xs:List Value}{B:AK}{μ:PH}(h:Spec P f args pre (fun r L=>L=[own e n r l xs,B,ro μ])):Spec P f args pre (fun r L=>∃ μ',Le μ μ'∧Row μ' r n l xs∧L=[B,ro μ']):=fun E w hw =>
 (h E w hw).mono fun e' w' ⟨v,L',he,hl,hh⟩=>by
  subst hl
  obtain ⟨μ',h1,h2,h3⟩:=(hh.ent (Split.ent' (K:=[own e n v l xs,ro μ,B]) AG)).share_own
  exact ⟨v,_,he,⟨μ',h1,h2,rfl⟩,h3.ent Ent.swap⟩
theorem Kx (W : VWt) (μ : PH) (h : W.Ok μ) (c : Nat) (hc : c < W.n) : InvS prog 0 38 (pv W.pw) "Content" [.int .i64 (c : Nat)] [W.A, ro μ]
  (fun r L=>∃ μ',Le μ μ'∧Row μ' r 2 (W.tr c).length (Ci (W.tr c))∧L=[W.A,ro μ']):=InvS.of (by
 refine Spec.exA' fun _=>Spec.rowed (e:=111) ?_
 exact Spec.ent3 (show Spec prog 129 [pv W.pw,.int .i64 (c:Nat)] (W.LR μ) _ from J4 W μ h c hc) fun r L ⟨_,e2⟩=>⟨[own 111 2 r (W.tr c).length (Ci (W.tr c)),W.A,ro μ],by rw [e2]; exact Ent.cons VWt.close,rfl⟩)
theorem N1 (μ:PH)(va vb vc:Value)(a b c:List En)(ha:Row μ va 2 a.length (Ci a))(hb:Row μ vb 2 b.length (Ci b))(hc:Row μ vc 2 c.length (Ci c))(hsz:a.length≤1048576∧b.length≤1048576∧c.length≤1048576)(hu:U32s a∧U32s b∧U32s c) :
  Spec prog 224 [va,vb,vc] [ro μ] (fun r L=>∃ A k v9 μ',Le μ μ'∧r=.tuple #[.slice A (VM a b c).length k,v9]∧L=[own 111 2 (.slice A (VM a b c).length k) (VM a b c).length (Ci (VM a b c)),own 119 4 v9 (Fs (D4 a b c)).length (NV (Fs (D4 a b c))),ro μ']):=fun E w hw =>
 (Th μ va vb vc a b c ha hb hc hsz hu E w hw).mono fun e' w' ⟨v,L',he,⟨v8,v9,μ',h1,h2,h3⟩,hh⟩=>by
  subst h3
  obtain ⟨k1,k2,k3,k4,k5⟩:=hh
  obtain ⟨A,k,hv,_⟩:=GE (Sat.perm (BF (X:=E.X) (.refl _)) _ k5)
  subst hv
  exact ⟨v,_,he,⟨A,k,v9,μ',h1,h2,rfl⟩,k1,k2,k3,k4,k5⟩
def naB (v:Value)(l:List Int)(o:Bool):AK:=PO (if o=true then [own 3 1 v l.length (E8 l)] else [])
theorem A1i(x:VV):FH x=naB x.node x.f.node x.own:=rfl
theorem PB {env:CA}{L R:List AK}{μ:PH}{x y:Operand}{v s:Value}{l:List Int}{c:Int}{o:Bool}(hx:AO env x=some v)(hy:AO env y=some s)(hs:Row μ s 1 1 [.int .i64 c])(hL:Split L [naB v l o,ro μ] R)
  (hv:o=false→Row μ v 1 l.length (E8 l)∧∃ A,v=.slice A l.length l.length) (hl:l.length≤1000000) :
  Ef prog env L (.call { callee:=.builtin .append,args:=#[x,y],argTypes:=#[60,60]}) (fun k=>∀ A cap o',(o'=false→Row μ (.slice A (l++[c]).length cap) 1 (l++[c]).length (E8 (l++[c]))∧∃ A',Value.slice A (l++[c]).length cap=.slice A' (l++[c]).length (l++[c]).length)→k (.slice A (l++[c]).length cap) (naB (.slice A (l++[c]).length cap) (l++[c]) o'::ro μ::R)):=by
 intro ro_ dst tt pos af g N E a w next Q k hf hh hk hn
 have e1:E8 (l++[c])=E8 l++[.int .i64 c]:=by rw [E8,List.flatMap_append]; rfl
 have e2:(l++[c]).length=l.length+1:=by rw [List.length_append]; rfl
 have hcat:Cat μ 3 1 v l.length (E8 l) (if o=true then own 3 1 v l.length (E8 l)::ro μ::R else ro μ::R) R:=by
  cases o with
  | false=>exact .inl ⟨rfl,(hv rfl).1,(hv rfl).2⟩
  | true=>exact .inr rfl
 have hent:Ent L (if o=true then own 3 1 v l.length (E8 l)::ro μ::R else ro μ::R):=by
  refine hL.ent.trans ?_
  cases o with
  | false=>exact Ent.drop
  | true=>exact star_ent
 refine Nf (P:=prog) (t:=60) (env:=env) (x:=x) (y:=y) (m:=1) (news:=[.int .i64 c]) hcat hs hx hy rfl (by simp only [maxLen]; omega) AC rfl (by decide) ro_ dst tt pos af g N E a w next Q (fun u L'=>Cat μ 3 1 u (l.length+1) (E8 l++[.int .i64 c]) L' R) hf (hh.ent hent) (fun _ _ hc=>hc) ?_
 rintro u w' L' hc hh'
 rcases hc with ⟨rfl,hr,A,hA⟩ | rfl
 ·subst hA
  rw [← e1,← e2] at hr
  rw [← e2]
  exact hn _ _ _ (hk A _ false fun _=>⟨hr,A,rfl⟩) (hh'.ent (CZ (K:=[])))
 ·obtain ⟨h1,h2,h3,h4,h5⟩:=hh'
  obtain ⟨A,cap,hu,_⟩:=GE (Sat.perm (BF (X:=E.X) (.refl _)) _ h5)
  subst hu
  rw [← e1,← e2] at h5
  rw [← e2]
  exact hn _ _ _ (hk A cap true fun h=>by cases h) ((show H E w' (own 3 1 (.slice A (l++[c]).length cap) (l++[c]).length (E8 (l++[c]))::ro μ::R) from ⟨h1,h2,h3,h4,h5⟩).ent (CZ (K:=[own 3 1 (.slice A (l++[c]).length cap) (l++[c]).length (E8 (l++[c]))])))
def Hv (xs:List VV):AK:=PO (xs.flatMap fun x=>[CW x,FH x])
theorem vvs_open{ys:List VV}{x:VV}{L:List AK}:Ent (Hv (ys++[x])::L) (CW x::FH x::Hv ys::L):=by
 refine star_ent.trans ?_
 rw [List.flatMap_append]
 refine Ent.trans (Ent.perm ?_) (Ent.under (X:=[CW x,FH x]) CZ)
 show List.Perm ((ys.flatMap (fun x=>[CW x,FH x])++[CW x,FH x])++L) ([CW x,FH x]++(ys.flatMap (fun x=>[CW x,FH x])++L))
 rw [List.append_assoc]
 exact List.perm_append_comm_assoc _ _ _
theorem vvs_close{ys:List VV}{x:VV}{L:List AK}:Ent (CW x::FH x::Hv ys::L) (Hv (ys++[x])::L):=by
 refine Ent.trans ?_ CZ
 rw [List.flatMap_append]
 refine Ent.trans (Ent.under (X:=[CW x,FH x]) star_ent) (Ent.perm ?_)
 show List.Perm ([CW x,FH x]++(ys.flatMap (fun x=>[CW x,FH x])++L)) ((ys.flatMap (fun x=>[CW x,FH x])++[CW x,FH x])++L)
 rw [List.append_assoc]
 exact (List.perm_append_comm_assoc _ _ _)
abbrev Zb (A:Option Addr)(cap:Nat)(zs:List VV)(u:VV):AK:=own 340 3 (.slice A (zs.length+1) cap) (zs.length+1) (zs.flatMap Cv++Cv u)
theorem N2 (zs:List VV):(zs.flatMap Cv).length=zs.length*3:=Cp (f:=Cv) (k:=3) (fun _=>rfl) zs
theorem IL {zs:List VV}{u:VV}{j:Nat}{v:Value}(h:(Cv u)[j]? = some v):(zs.flatMap Cv++Cv u)[0+zs.length*3+j]? = some v:=by
 rw [Nat.zero_add,← N2,List.getElem?_append_right (Nat.le_add_right _ _),Nat.add_sub_cancel_left]; exact h
theorem YS {zs:List VV}{us:List Value}{j:Nat}{v:Value}(h:us[j]? = some v):(zs.flatMap Cv++us)[0+zs.length*3+j]? = some v:=by
 rw [Nat.zero_add,← N2,List.getElem?_append_right (Nat.le_add_right _ _),Nat.add_sub_cancel_left]; exact h
theorem Ti {zs:List VV}{us:List Value}{j:Nat}{v:Value}:(zs.flatMap Cv++us).set (0+zs.length*3+j) v=zs.flatMap Cv++us.set j v:=YR (by rw [N2]; omega)
theorem Tj {zs:List VV}{us:List Value}(h:us.length=3):(zs.flatMap Cv++us).length=zs.length*3+3:=by rw [List.length_append,N2,h]
abbrev Ou (A:Option Addr)(cap:Nat)(xs:List VV):AK:=own 340 3 (.slice A xs.length cap) xs.length (xs.flatMap Cv)
theorem Uj (A:Option Addr)(cap:Nat)(zs:List VV)(u:VV):Ou A cap (zs++[u])=Zb A cap zs u:=by
 have e1:(zs++[u]).length=zs.length+1:=by rw [List.length_append]; rfl
 have e2:(zs++[u]).flatMap Cv=zs.flatMap Cv++Cv u:=by rw [List.flatMap_append]; simp only [List.flatMap_cons,List.flatMap_nil,List.append_nil]
 show own 340 3 _ _ _=_
 rw [e1,e2]
def A1Y (W:VWt)(w:Nat)(tv:VV)(A:Option Addr)(cap:Nat)(xs:List VV)(steps limit:Nat)(μ:PH)(y e:Int)(L:List AK):Prop :=
 (limit≤steps∧e=12∧L=[FH tv,Gh w W.sv (.slice A xs.length cap) steps limit,Ou A cap xs,W.A,ro μ]) ∨
 (steps<limit∧e=0∧∃ (nv:VV) (A2:Option Addr) (cap2:Nat) (μ2:PH),nv.own=false∧nv.f=XL (VT W) [] (VS W tv.f.node y)∧nv.Ok W.n W.U μ2∧Le μ μ2 ∧
  L=[FH tv,Gh w W.sv (.slice A2 (xs++[nv]).length cap2) (steps+1) limit,Ou A2 cap2 (xs++[nv]),CW nv,W.A,ro μ2])
theorem YT (W:VWt)(hg:TG W)(μ:PH)(hW:W.Ok μ)(hT:RowAt μ 2 0 tabV)(w:Nat)(A:Option Addr)(cap:Nat)(xs:List VV)(steps limit:Nat)(hsl:xs.length≤steps)(hlim:limit≤4096)
  (tv:VV) (y:Int) (hx:tv.own=false→Row μ tv.node 1 tv.f.node.length (E8 tv.f.node)) :
  Spec prog 222 [.pointer (some ⟨w,0,none⟩),tv.node,.int .i64 y] [FH tv,Gh w W.sv (.slice A xs.length cap) steps limit,Ou A cap xs,W.A,ro μ] (fun r L=>∃ e,r=.int .i64 e∧A1Y W w tv A cap xs steps limit μ y e L) :=
 (Wl W hg μ hW hT w A cap xs steps limit hsl hlim tv y hx).mono fun r L k=>by
  rcases k with ⟨h1,h2,h3⟩ | ⟨h1,h2,nv,A2,cap2,μ2,h3,h4,h5,h7,h8⟩
  ·exact ⟨12,h2,.inl ⟨h1,rfl,h3⟩⟩
  ·refine ⟨0,h2,.inr ⟨h1,rfl,nv,A2,cap2,μ2,h3,h4,h5,h7,?_⟩⟩
   rw [h8,show (xs++[nv]).length=xs.length+1 by rw [List.length_append]; rfl]
   show _=[_,_,own 340 3 (.slice A2 (xs++[nv]).length cap2) (xs++[nv]).length ((xs++[nv]).flatMap Cv),_,_,_]
   rw [show (xs++[nv]).length=xs.length+1 by rw [List.length_append]; rfl,List.flatMap_append]
   simp only [List.flatMap_cons,List.flatMap_nil,List.append_nil]
def A2f (W:VWt)(w:Nat)(limit:Nat)(μ:PH)(R:Option (List En×Bool)×Nat)(r:Value)(L:List AK):Prop:=∃ (μ':PH),Le μ μ' ∧
 (
 (R.1=none∧r=.tuple #[.agg #[.slice none 0 0,.slice none 0 0,.slice none 0 0],.int .i64 12]∧L=[W.A,ro μ']) ∨
 ∃ (nv:VV) (st:Value) (steps:Nat),R=(some (nv.f.tree,!nv.f.node.isEmpty),limit-steps)∧steps≤limit∧nv.Ok W.n W.U μ'∧r=.tuple #[.agg (Cv nv).toArray,.int .i64 0]∧L=[Gh w W.sv st steps limit,CW nv,W.A,ro μ'])
set_option maxHeartbeats 16000000 in
theorem YU (W:VWt)(hg:TG W)(μ:PH)(hW:W.Ok μ)(hT:RowAt μ 2 0 tabV)(w:Nat)(limit:Nat)(hlim:limit≤4096)(A:Option Addr)(cap:Nat)(nv0:VV)(steps:Nat)(h1:1≤steps)(hsl:steps≤limit)
  (hok:nv0.Ok W.n W.U μ) (R:Option (List En×Bool)×Nat) (hR:N9 (VS W) (VT W) VM [] [nv0.f] (limit-steps)=R) :
  Spec prog 223 [.pointer (some ⟨w,0,none⟩)] [Gh w W.sv (.slice A 1 cap) steps limit,Ou A cap [nv0],CW nv0,FH nv0,W.A,ro μ] (A2f W w limit μ R):=by
 have hUl:=hg.len
 have hWn:W.n≤16:=by have:=hW.s.gc.len; rwa [← List.length_map (f:=(·.1))] at this
 refine Spec.of 120 func223 rfl rfl rfl ?_
 refine Ad (AE (Bd) (fun b2=>?_))
 refine Au [0,2] rfl rfl (AB ?_)
 refine B4 (ι:=Nat×Nat) (fun k env L=>∃ (xs:List VV) (A:Option Addr) (cap:Nat) (μ1:PH),Sub env [(0,.pointer (some ⟨w,0,none⟩)),(2,.pointer (some ⟨b2,0,none⟩))]∧xs.length=k.2∧0<k.2∧k.2≤k.1∧k.1≤limit∧Ent L [Gh w W.sv (.slice A xs.length cap) k.1 limit,Ou A cap xs,Hv xs,B5 b2 340 [.slice none 0 0,.slice none 0 0,.slice none 0 0],W.A,ro μ1]∧Le μ μ1∧(∀ x∈xs,x.Ok W.n W.U μ1)∧(∀ ys y,xs=ys++[y]→∀ x∈ys,x.f.rest≠[])∧N9 (VS W) (VT W) VM [] (xs.reverse.map (·.f)) (limit-k.1)=R) (fun k=>2*(limit-k.1)+k.2) (steps,1) ⟨[nv0],A,cap,μ,⟨rfl,rfl,trivial⟩,rfl,Nat.zero_lt_one,h1,hsl,?_,Le.refl _,?_,?_,hR⟩ ?_
 ·exact Ent.trans (Split.ent' (K:=[CW nv0,FH nv0,Gh w W.sv (.slice A 1 cap) steps limit,Ou A cap [nv0],B5 b2 340 [.slice none 0 0,.slice none 0 0,.slice none 0 0],W.A,ro μ]) AG) ((Ent.under (X:=[CW nv0,FH nv0]) (CZ (K:=[]))).trans ((vvs_close (ys:=[])).trans (show Ent (Hv [nv0]::Gh w W.sv (.slice A 1 cap) steps limit::Ou A cap [nv0]::B5 b2 340 [.slice none 0 0,.slice none 0 0,.slice none 0 0]::W.A::ro μ::[]) [Gh w W.sv (.slice A 1 cap) steps limit,Ou A cap [nv0],Hv [nv0],B5 b2 340 [.slice none 0 0,.slice none 0 0,.slice none 0 0],W.A,ro μ] from Split.ent' AG)))
 ·intro x hx; rw [List.mem_singleton.1 hx]; exact hok
 ·intro ys y e x hx
  cases ys with
  | nil=>cases hx
  | cons z zs =>
   have:=congrArg List.length e
   simp at this
 clear hR hok hsl h1
 rintro ⟨steps,len⟩ env L ⟨xs,A,cap,μ1,hsub,hlen,hl0,hls,hsl,hE,hle,hok,hrs,hR⟩
 dsimp only at hlen hl0 hls hsl hE hR
 refine B7 _ hsub (AX hE ?_)
 clear hsub hE env L
 obtain ⟨ys,top,rfl⟩:∃ ys top,xs=ys++[top]:=by
  rcases List.eq_nil_or_concat xs with rfl | ⟨ys,top,e⟩
  ·rw [List.length_nil] at hlen; omega
  ·exact ⟨ys,top,by rw [e]; simp⟩
 have hyl:len=ys.length+1:=by rw [← hlen,List.length_append]; rfl
 have hxl:(ys++[top]).length=ys.length+1:=by rw [List.length_append]; rfl
 have htop:=hok top (by simp)
 rw [Uj,hxl]
 refine AX (Split.ent' (K:=[Zb A cap ys top,Hv (ys++[top]),Gh w W.sv (.slice A (ys.length+1) cap) steps limit,B5 b2 340 [.slice none 0 0,.slice none 0 0,.slice none 0 0],W.A,ro μ1]) AG) ?_
 refine Er (fun m h=>GE h) fun ⟨A',cap',hA1,hlc,hcm,hAn,hAs⟩=>?_
 obtain ⟨rfl,_,rfl⟩:=Value.slice.inj hA1
 obtain ⟨a,ha⟩:∃ a,A=some a:=by cases A with | none=>have:=hAn rfl; omega | some a=>exact ⟨a,rfl⟩
 obtain ⟨g,rfl⟩:=hAs a ha
 subst ha
 simp only [maxLen] at hcm
 have hW1:=hW.le hle
 have hT1:=hT.le hle
 refine AB (Aj ?_)
 refine Bb [3,7] _ [] (by simp only [List.append_nil]; exact Ent.refl _) AP ?_
 refine AD 0 rfl (AH rfl) (AD 1 rfl (Al rfl) (AD 2 rfl (Ae rfl) (Bl 3 rfl (Ak rfl rfl) rfl (AD 4 rfl (AH rfl) (AD 5 rfl (Al rfl) (AD 6 rfl (Ae rfl) (Bl 7 rfl (Ak rfl rfl) rfl (AD 8 rfl (BD rfl) (AD 9 rfl (BH ((ys.length:Nat):Int) rfl rfl AC AC AC) ?_)))))))))
 refine AD 10 rfl (AA (0+ys.length*3) rfl rfl AC AC (by rw [Int.toNat_natCast])) ?_
 refine AD 11 rfl (Bf rfl) (BZ [0,2,4] rfl (De AP (Ai (Aj (Ad (Ah rfl (Af (Al rfl) (Af (Bk rfl) ?_))))))))
 refine AM (Gk rfl JU (IL (j:=0) rfl)) ?_
 refine Af (AW htop.rest rfl) (Af (BO rfl rfl) (AI [0,2,4,25] rfl ?_))
 refine Aq rfl (fun h25=>?_) (fun h25=>?_)
 ·have h25':0<top.f.rest.length:=by have:=of_decide_eq_true h25; omega
  obtain ⟨c,rs,hrest⟩:∃ c rs,top.f.rest=c::rs:=by
   cases hq:top.f.rest with
   | nil=>rw [hq] at h25'; exact absurd h25' (by decide)
   | cons c rs=>exact ⟨c,rs,rfl⟩
  obtain ⟨rb,ro_,rc,hrv,_,_,hra⟩:=htop.rest.pos h25'
  have hcell:=(hra.elem (f:=Bw .i64) (n:=1) (fun _=>rfl) (show top.f.rest[0]? = some c by rw [hrest]; rfl)).cell
  refine Aj (Aj ?_)
  refine AX ((Split.ent' (K:=[Hv (ys++[top]),Zb (some ⟨g,0,none⟩) cap ys top,Gh w W.sv (.slice (some ⟨g,0,none⟩) (ys.length+1) cap) steps limit,B5 b2 340 [.slice none 0 0,.slice none 0 0,.slice none 0 0],W.A,ro μ1]) AG).trans vvs_open) ?_
  refine Bb [4,8,10] _ [] (by simp only [List.append_nil]; exact Ent.refl _) AP ?_
  refine AD 0 rfl (AH rfl) (AD 1 rfl (AH rfl) (AD 2 rfl (Al rfl) (AD 3 rfl (Bk rfl) ?_)))
  refine Bl 4 rfl (Gk rfl JU (IL (j:=1) rfl)) rfl ?_
  refine AD 5 rfl (AH rfl) (AD 6 rfl (Al rfl) (AD 7 rfl (Bk rfl) ?_))
  refine Bl 8 rfl (Gk rfl JU (IL (j:=0) rfl)) rfl ?_
  refine AD 9 rfl (AA (ro_+0*1) (congrArg some hrv) rfl AC AC rfl) (Bl 10 rfl (BJ rfl hcell) rfl ?_)
  refine BX 11 rfl AP AP (AF (YT W hg μ1 hW1 hT1 w (some ⟨g,0,none⟩) cap (ys++[top]) steps limit AC hlim top c (fun e=>(htop.node e).1)) rfl rfl (by rw [Uj,hxl]; exact AG)) ?_
  rintro v37 L1 ⟨e,rfl,hp⟩
  skip
  refine AD 12 rfl (Bf rfl) (BZ [0,2,5] rfl (Bv AP (Ai (Ad (Ah rfl (Af (Bx rfl rfl) (AI [0,2,5,39] rfl ?_)))))))
  refine Aq rfl (fun h39=>?_) (fun h39=>?_)
  ·obtain ⟨p1,rfl,rfl⟩:limit≤steps∧e=12∧L1=[FH top,Gh w W.sv (.slice (some ⟨g,0,none⟩) (ys++[top]).length cap) steps limit,Ou (some ⟨g,0,none⟩) cap (ys++[top]),W.A,ro μ1]:=by
    rcases hp with k | ⟨_,he,_⟩
    ·exact k
    ·rw [he] at h39; cases h39
   simp only [List.cons_append,List.nil_append]
   refine Ad (Af (Bz (qs:=[]) rfl) (Ah rfl (Bh (B8 rfl rfl rfl rfl) (Au [2,3] rfl rfl (Av (AZ (AZ (Bg (AZ (Bg ?_))))))))))
   refine B6 [W.A,ro μ1] (.cell rfl (BT rfl) (.tmp rfl .nil)) ⟨μ1,hle,.inl ⟨?_,rfl,rfl⟩⟩ (Split.ent' AG)
   have hout:=ZF (VS W) (VT W) VM [] c rs top.f.node top.f.tree (ys.reverse.map (·.f))
   have hte:(⟨c::rs,top.f.node,top.f.tree⟩:VF (List En))=top.f:=by rw [← hrest]
   rw [hte] at hout
   rw [← hR,show limit-steps=0 by omega,List.reverse_append,List.map_append]
   exact hout
  ·obtain ⟨p1,rfl,nv,A2,cap2,μ2,hno,hnf,hnok,hle2,rfl⟩:steps<limit∧e=0∧∃ (nv:VV) (A2:Option Addr) (cap2:Nat) (μ2:PH),nv.own=false∧nv.f=XL (VT W) [] (VS W top.f.node c)∧nv.Ok W.n W.U μ2∧Le μ1 μ2∧L1=[FH top,Gh w W.sv (.slice A2 (ys++[top]++[nv]).length cap2) (steps+1) limit,Ou A2 cap2 (ys++[top]++[nv]),CW nv,W.A,ro μ2]:=by
    rcases hp with ⟨_,he,_⟩ | k
    ·rw [he] at h39; cases h39
    ·exact k
   simp only [List.cons_append,List.nil_append]
   refine Ar (Ai (B3 (AU (AY rfl ?_))))
   refine Ai ⟨(steps+1,len+1),⟨ys++[top]++[nv],A2,cap2,μ2,⟨rfl,rfl,trivial⟩,by rw [List.length_append,hlen]; rfl,by omega,by omega,p1,?_,hle.trans hle2,?_,?_,?_⟩,by dsimp only; omega⟩
   ·dsimp only
    refine (Split.ent' (K:=[CW top,FH top,Hv ys,CW nv,Gh w W.sv (.slice A2 (ys++[top]++[nv]).length cap2) (steps+1) limit,Ou A2 cap2 (ys++[top]++[nv]),B5 b2 340 [.slice none 0 0,.slice none 0 0,.slice none 0 0],W.A,ro μ2]) AG).trans (vvs_close.trans ?_)
    refine (PA hno).trans ?_
    refine (Split.ent' (K:=[CW nv,FH nv,Hv (ys++[top]),Gh w W.sv (.slice A2 (ys++[top]++[nv]).length cap2) (steps+1) limit,Ou A2 cap2 (ys++[top]++[nv]),B5 b2 340 [.slice none 0 0,.slice none 0 0,.slice none 0 0],W.A,ro μ2]) AG).trans ?_
    refine vvs_close.trans ?_
    exact Split.ent' AG
   ·intro x hx
    rcases List.mem_append.1 hx with hx | hx
    ·exact (hok x hx).le hle2
    ·rw [List.mem_singleton.1 hx]; exact hnok
   ·intro ys' y' he x hx
    obtain ⟨e1,_⟩:=List.append_inj' he rfl
    rw [← e1] at hx
    rcases List.mem_append.1 hx with hx | hx
    ·exact hrs ys top rfl x hx
    ·rw [List.mem_singleton.1 hx,hrest]; exact fun h=>by cases h
   ·have hpush:=XM (VS W) (VT W) VM [] c rs top.f.node top.f.tree (ys.reverse.map (·.f)) (limit-steps) AC
    have hte:(⟨c::rs,top.f.node,top.f.tree⟩:VF (List En))=top.f:=by rw [← hrest]
    rw [hte] at hpush
    rw [← hR,List.reverse_append,List.reverse_append,List.map_append,List.map_append]
    show N9 (VS W) (VT W) VM [] (nv.f::top.f::ys.reverse.map (·.f)) (limit-(steps+1))=N9 (VS W) (VT W) VM [] (top.f::ys.reverse.map (·.f)) (limit-steps)
    rw [hpush,hnf]; rfl
 ·have h25':top.f.rest=[]:=by
   have:=of_decide_eq_false h25
   cases hq:top.f.rest with
   | nil=>rfl
   | cons _ _=>rw [hq,List.length_cons] at this; omega
  have hte:top.f=⟨[],top.f.node,top.f.tree⟩:=by rw [← h25']
  refine Ar (Ai (Ad (Ah rfl (Af (Al rfl) ?_))))
  refine AM (Zu (vs:=Cv top) rfl JU rfl (fun j v hj=>IL hj)) ?_
  refine AE (Bd) fun b6=>?_
  refine Bh (B8 rfl rfl (Ot htop) rfl) (AI [0,2,6] rfl (Aj (Ad (Ah rfl (Af (Al rfl) (Af (Ae rfl) (AM (Ak rfl rfl) (Af (BD rfl) (Af (Bo rfl rfl) (AI [0,2,6,50] rfl ?_))))))))))
  refine Aq rfl (fun h50=>?_) (fun h50=>?_)
  ·have h50':ys=[]:=by
    have:=of_decide_eq_true h50
    exact List.eq_nil_of_length_eq_zero AC
   refine Ad (AM (Cn rfl rfl) (Bh (B8 rfl rfl (Ot htop) rfl) (Au [2,3] rfl rfl (Av (AZ (Bg (AZ (Bg ?_))))))))
   subst h50'
   refine B6 [Gh w W.sv (.slice (some ⟨g,0,none⟩) ([]:List VV).length.succ cap) steps limit,CW top,W.A,ro μ1] (.cell rfl (BT rfl) (.tmp rfl .nil)) ⟨μ1,hle,.inr ⟨top,_,steps,?_,hsl,htop,rfl,rfl⟩⟩ ?_
   ·rw [← hR]
    show N9 (VS W) (VT W) VM [] [top.f] (limit-steps)=_
    rw [hte]
    exact ZE _ _ _ _ _ _ _
   ·refine (Split.ent' (K:=[Hv ([]++[top]),Gh w W.sv (.slice (some ⟨g,0,none⟩) (([]:List VV).length+1) cap) steps limit,W.A,ro μ1]) AG).trans (vvs_open.trans (Split.ent' AG))
  ·obtain ⟨zs,up,rfl⟩:∃ zs up,ys=zs++[up]:=by
    rcases List.eq_nil_or_concat ys with rfl | ⟨zs,up,e⟩
    ·exact absurd rfl (of_decide_eq_false h50)
    ·exact ⟨zs,up,by rw [e]; simp⟩
   have hzl:(zs++[up]).length=zs.length+1:=by rw [List.length_append]; rfl
   have hup:=hok up (by simp)
   obtain ⟨c,rs,hrest⟩:∃ c rs,up.f.rest=c::rs:=by
    cases hq:up.f.rest with
    | nil=>exact absurd hq (hrs (zs++[up]) top rfl up (by simp))
    | cons c rs=>exact ⟨c,rs,rfl⟩
   have hcin:=hup.ins c (by rw [hrest]; simp)
   obtain ⟨k,rfl⟩:∃ k:Nat,c=(k:Int):=⟨c.toNat,by omega⟩
   have hkn:k<W.n:=by omega
   obtain ⟨rb,ro_,rc,hrv,_,_,hra⟩:=hup.rest.pos (by rw [hrest]; exact Nat.succ_pos _)
   have hcell:=(hra.elem (f:=Bw .i64) (n:=1) (fun _=>rfl) (show up.f.rest[0]? = some (k:Int) by rw [hrest]; rfl)).cell
   have hrl:up.f.rest.length=rs.length+1:=by rw [hrest]; rfl
   have hupl:=hup.len
   rw [hzl]
   refine Ar (Ai (Aj ?_))
   refine Bb [4,8] _ [] (by simp only [List.append_nil]; exact Ent.refl _) AP ?_
   refine AD 0 rfl (AH rfl) (AD 1 rfl (AH rfl) (AD 2 rfl (Al rfl) (AD 3 rfl (Ae rfl) (Bl 4 rfl (Ak rfl rfl) rfl (AD 5 rfl (AH rfl) (AD 6 rfl (Al rfl) (AD 7 rfl (Ae rfl) (Bl 8 rfl (Ak rfl rfl) rfl (AD 9 rfl (BD rfl) (AD 10 rfl (BH ((zs.length+1:Nat):Int) rfl rfl AC AC AC) (AD 11 rfl (DL (zs.length+1) rfl rfl rfl AC) (AD 12 rfl (Al rfl) (AD 13 rfl (Ae rfl) (Cx 14 rfl AP AP (Ba rfl rfl rfl) (BZ [0,2,6] rfl (Bv AP (Ai (Aj ?_))))))))))))))))))
   refine AX ((Split.ent' (K:=[Zb (some ⟨g,0,none⟩) cap (zs++[up]) top,Hv (zs++[up]++[top]),Gh w W.sv (.slice (some ⟨g,0,none⟩) (zs.length+1) cap) steps limit,B5 b6 340 (Cv top),B5 b2 340 [.slice none 0 0,.slice none 0 0,.slice none 0 0],W.A,ro μ1]) AG).trans (YQ (N2 _))) ?_
   rw [show own 340 3 (.slice (some ⟨g,0,none⟩) (zs++[up]).length cap) (zs++[up]).length ((zs++[up]).flatMap Cv)=Zb (some ⟨g,0,none⟩) cap zs up from Uj _ _ _ _]
   refine AX ((Split.ent' (K:=[Hv (zs++[up]++[top]),Zb (some ⟨g,0,none⟩) cap zs up,Gh w W.sv (.slice (some ⟨g,0,none⟩) (zs.length+1) cap) steps limit,B5 b6 340 (Cv top),B5 b2 340 [.slice none 0 0,.slice none 0 0,.slice none 0 0],W.A,ro μ1]) AG).trans vvs_open) ?_
   refine AX ((Split.ent' (K:=[Hv (zs++[up]),CW top,Zb (some ⟨g,0,none⟩) cap zs up,Gh w W.sv (.slice (some ⟨g,0,none⟩) (zs.length+1) cap) steps limit,B5 b6 340 (Cv top),B5 b2 340 [.slice none 0 0,.slice none 0 0,.slice none 0 0],W.A,ro μ1]) AG).trans vvs_open) ?_
   refine BA (e:=111) (n:=2) (v:=top.tree) (μ:=μ1) AG fun μ3 h3 rtop=>?_
   refine BA (e:=111) (n:=2) (v:=up.tree) (μ:=μ3) AG fun μ4 h4 rup=>?_
   have hW4:=hW1.le (h3.trans h4)
   rw [A1i up]
   refine Bb [3,7] _ [] (by simp only [List.append_nil]; exact Ent.refl _) AP ?_
   refine AD 0 rfl (AH rfl) (AD 1 rfl (Al rfl) (AD 2 rfl (Ae rfl) (Bl 3 rfl (Ak rfl rfl) rfl (AD 4 rfl (AH rfl) (AD 5 rfl (Al rfl) (AD 6 rfl (Ae rfl) (Bl 7 rfl (Ak rfl rfl) rfl (AD 8 rfl (BD rfl) (AD 9 rfl (BH ((zs.length:Nat):Int) rfl rfl AC AC AC) ?_)))))))))
   refine AD 10 rfl (AA (0+zs.length*3) rfl rfl AC AC (by rw [Int.toNat_natCast])) ?_
   refine AD 11 rfl (Bf rfl) (BZ [0,2,6,7] rfl (De AP (Ai (Ad (Ah rfl (Af (Al rfl) (Af (Bk rfl) ?_)))))))
   refine AM (Gk rfl JU (IL (j:=0) rfl)) ?_
   refine Af (AA (ro_+0*1) (congrArg some hrv) rfl AC AC rfl) (AM (BJ rfl (hcell.le (h3.trans h4))) (Au [0,2,6,7,8] rfl rfl (Aj ?_)))
   refine AX (Split.ent' (K:=[Gh w W.sv (.slice (some ⟨g,0,none⟩) (zs.length+1) cap) steps limit,B5 b6 340 (Cv top),Zb (some ⟨g,0,none⟩) cap zs up,W.A,ro μ4,naB up.node up.f.node up.own,Hv zs,B5 b2 340 [.slice none 0 0,.slice none 0 0,.slice none 0 0]]) AG) ?_
   refine Bb [2,6,10] ([Gh w W.sv (.slice (some ⟨g,0,none⟩) (zs.length+1) cap) steps limit,B5 b6 340 (Cv top),Zb (some ⟨g,0,none⟩) cap zs up]) ([W.A,ro μ4,naB up.node up.f.node up.own,Hv zs,B5 b2 340 [.slice none 0 0,.slice none 0 0,.slice none 0 0]]) (Split.ent AG) AP ?_
   refine AD 0 rfl (AH rfl) (AD 1 rfl (Ae rfl) (Bl 2 rfl (Ak rfl rfl) rfl (AD 3 rfl (AH rfl) (AD 4 rfl (Al rfl) (AD 5 rfl (Bk rfl) ?_)))))
   refine Bl 6 rfl (Gk rfl JU (IL (j:=2) rfl)) rfl ?_
   refine AD 7 rfl (AH rfl) (AD 8 rfl (Al rfl) (AD 9 rfl (Ae rfl) (Bl 10 rfl (Ak rfl rfl) rfl (AD 11 rfl (AH rfl) ?_))))
   refine CQ 12 rfl AP (DD rfl (Nat.zero_le _) (Kx W μ4 hW4 k hkn) rfl AG) ?_
   rintro v96 L1 ⟨μ6,h6,rowC,rfl⟩
   refine ⟨_,BU (Split.ent AG),?_⟩
   refine BX 13 rfl AP AP (AF (N1 μ6 top.tree up.tree v96 top.f.tree up.f.tree (W.tr k) (rtop.le (h4.trans h6)) (rup.le h6) rowC ⟨by have:=htop.tree.len; omega,by have:=hup.tree.len; omega,by have:=(Il hg hW4 hkn).len; omega⟩ ⟨htop.tree.u32,hup.tree.u32,(Il hg hW4 hkn).u32⟩) rfl rfl AG) ?_
   rintro v97 L1 ⟨A8,k8,v9,μ7,h7,rfl,rfl⟩
   refine C5 (AD 14 rfl (AH rfl) (AD 15 rfl (Ax rfl) (AD 16 rfl (Ax rfl) (AD 17 rfl (Al rfl) (AD 18 rfl (Bk rfl) ?_)))))
   refine Cy 19 rfl AP AP (Hf rfl rfl AG (by rw [Tj rfl]; omega) rfl) ?_
   refine BZ [0,2,7,8] rfl (Bv AP (Ai (Aj ?_)))
   rw [Ti]
   refine Am (Ah rfl (Ah rfl (Af (Al rfl) (Af (Bk rfl) ?_))))
   refine AM (Gk rfl JU (YS (j:=1) rfl)) ?_
   refine Ah rfl (AE (Bs (qs:=[(0,_)]) rfl rfl rfl) (fun b108=>?_))
   refine ER (b:=b108) (μ:=μ7) AG fun μ8 h8 k108=>?_
   have rn:Row μ8 (.slice (some ⟨b108,0,none⟩) 1 1) 1 1 [.int .i64 (k:Nat)]:=Ed (n:=1) (l:=1) (cs:=[.int .i64 (k:Nat)]) k108 (by rfl) (by decide)
   have h18:Le μ1 μ8:=h3.trans (h4.trans (h6.trans (h7.trans h8)))
   refine AE (PB (o:=up.own) (v:=up.node) (l:=up.f.node) rfl rfl rn AG (fun e=>⟨(hup.node e).1.le h18,(hup.node e).2⟩) AC) ?_
   rintro A9 c9 o9 ho9
   skip
   refine Af (Al rfl) (Af (Bk rfl) ?_)
   refine Bh (Hf rfl rfl AG (by rw [Tj rfl]; omega) rfl) ?_
   refine AI [0,2,7] rfl ?_
   rw [Ti]
   obtain ⟨v',hr',hlo⟩:=Row.lo (P:=prog) (t:=60) (hup.rest.le h18) 1 AC
   obtain ⟨AR,cR,hv'⟩:∃ A c,v'=.slice A (up.f.rest.length-1) c:=by obtain ⟨_,A,c,e,_⟩:=hr'; exact ⟨A,c,e⟩
   refine Am (Ah rfl (Ah rfl (Af (Al rfl) (Af (Bk rfl) ?_))))
   refine AM (Gk rfl JU (YS (j:=0) rfl)) ?_
   refine Af (hlo _ _ _ .i64 1 rfl rfl rfl) (Af (Al rfl) (Af (Bk rfl) ?_))
   refine Bh (Hf rfl rfl AG (by rw [Tj rfl]; omega) (by rw [hv']; rfl)) ?_
   refine Bi [0,2] rfl (AJ (AV ?_))
   rw [Ti]
   have hvok:VV.Ok W.n W.U μ8 (⟨v',.slice A9 (up.f.node++[(k:Int)]).length c9,.slice A8 (VM top.f.tree up.f.tree (W.tr k)).length k8,⟨rs,up.f.node++[(k:Int)],VM top.f.tree up.f.tree (W.tr k)⟩,o9⟩:VV):=by
    refine ⟨?_,ho9,⟨⟨_,_,rfl⟩,_,_,rfl⟩,fun c hc=>?_,?_,?_⟩
    ·have e:(E8 up.f.rest).drop (1*1)=E8 rs:=by rw [hrest]; rfl
     rw [e,hrl,Nat.add_sub_cancel] at hr'
     exact hr'
    ·refine hup.ins c ?_
     rw [hrest]
     simpa using hc
    ·show (up.f.node++[(k:Int)]).length+rs.length≤W.n
     rw [List.length_append,List.length_singleton]; omega
    ·exact htop.tree.merge hup.tree (Il hg hW4 hkn)
   have hul:(zs++[(⟨v',.slice A9 (up.f.node++[(k:Int)]).length c9,.slice A8 (VM top.f.tree up.f.tree (W.tr k)).length k8,⟨rs,up.f.node++[(k:Int)],VM top.f.tree up.f.tree (W.tr k)⟩,o9⟩:VV)]).length=zs.length+1:=by rw [List.length_append]; rfl
   refine Ai ⟨(steps,zs.length+1),⟨zs++[(⟨v',.slice A9 (up.f.node++[(k:Int)]).length c9,.slice A8 (VM top.f.tree up.f.tree (W.tr k)).length k8,⟨rs,up.f.node++[(k:Int)],VM top.f.tree up.f.tree (W.tr k)⟩,o9⟩:VV)],(some ⟨g,0,none⟩),cap,μ8,⟨rfl,rfl,trivial⟩,hul,Nat.succ_pos _,by omega,hsl,?_,hle.trans h18,?_,?_,?_⟩,by dsimp only; omega⟩
   ·dsimp only
    rw [Uj,hul]
    refine (Split.ent' (K:=[own 111 2 (.slice A8 (VM top.f.tree up.f.tree (W.tr k)).length k8) (VM top.f.tree up.f.tree (W.tr k)).length (Ci (VM top.f.tree up.f.tree (W.tr k))),naB (.slice A9 (up.f.node++[(k:Int)]).length c9) (up.f.node++[(k:Int)]) o9,Hv zs,Gh w W.sv (.slice (some ⟨g,0,none⟩) (zs.length+1) cap) steps limit,own 340 3 (.slice (some ⟨g,0,none⟩) (zs.length+1) cap) (zs.length+1) (zs.flatMap Cv++(((Cv up).set 2 (.slice A8 (VM top.f.tree up.f.tree (W.tr k)).length k8)).set 1 (.slice A9 (up.f.node++[(k:Int)]).length c9)).set 0 v'),B5 b2 340 [.slice none 0 0,.slice none 0 0,.slice none 0 0],W.A,ro μ8]) AG).trans ?_
    refine Ent.trans (show Ent _ (CW (⟨v',.slice A9 (up.f.node++[(k:Int)]).length c9,.slice A8 (VM top.f.tree up.f.tree (W.tr k)).length k8,⟨rs,up.f.node++[(k:Int)],VM top.f.tree up.f.tree (W.tr k)⟩,o9⟩:VV)::FH (⟨v',.slice A9 (up.f.node++[(k:Int)]).length c9,.slice A8 (VM top.f.tree up.f.tree (W.tr k)).length k8,⟨rs,up.f.node++[(k:Int)],VM top.f.tree up.f.tree (W.tr k)⟩,o9⟩:VV)::Hv zs::Gh w W.sv (.slice (some ⟨g,0,none⟩) (zs.length+1) cap) steps limit::Zb (some ⟨g,0,none⟩) cap zs (⟨v',.slice A9 (up.f.node++[(k:Int)]).length c9,.slice A8 (VM top.f.tree up.f.tree (W.tr k)).length k8,⟨rs,up.f.node++[(k:Int)],VM top.f.tree up.f.tree (W.tr k)⟩,o9⟩:VV)::B5 b2 340 [.slice none 0 0,.slice none 0 0,.slice none 0 0]::W.A::ro μ8::[]) from Ent.refl _) (vvs_close.trans ?_)
    exact Split.ent' AG
   ·intro x hx
    rcases List.mem_append.1 hx with hx | hx
    ·exact (hok x (by simp [hx])).le h18
    ·rw [List.mem_singleton.1 hx]; exact hvok
   ·intro ys' y' he x hx
    obtain ⟨e1,_⟩:=List.append_inj' he rfl
    rw [← e1] at hx
    exact hrs (zs++[up]) top rfl x (by simp [hx])
   ·have hpop:=ZD (VS W) (VT W) VM [] top.f.node top.f.tree up.f (zs.reverse.map (·.f)) (limit-steps)
    rw [← hte] at hpop
    rw [← hR,List.reverse_append,List.reverse_append,List.reverse_append,List.map_append,List.map_append,List.map_append]
    show N9 (VS W) (VT W) VM [] (⟨rs,up.f.node++[(k:Int)],VM top.f.tree up.f.tree (W.tr k)⟩::zs.reverse.map (·.f)) (limit-steps)=N9 (VS W) (VT W) VM [] (top.f::up.f::zs.reverse.map (·.f)) (limit-steps)
    rw [hpop]
    unfold vup
    rw [hrest]; rfl
theorem A1Z(W:VWt)(hg:TG W)(μ:PH)(hW:W.Ok μ)(hT:RowAt μ 2 0 tabV)(w:Nat)(limit:Nat)(hlim:limit≤4096)(A:Option Addr)(cap:Nat)(nv0:VV)(steps:Nat)(h1:1≤steps)(hsl:steps≤limit)
  (hok:nv0.Ok W.n W.U μ) (R:Option (List En×Bool)×Nat) (hR:N9 (VS W) (VT W) VM [] [nv0.f] (limit-steps)=R) :
  Spec prog 223 [.pointer (some ⟨w,0,none⟩)] [Gh w W.sv (.slice A 1 cap) steps limit,Ou A cap [nv0],CW nv0,FH nv0,W.A,ro μ] (fun r L=>∃ (A0 A1 A2:Option Addr) (l0 l1 l2 c0 c1 c2:Nat) (e:Int),r=.tuple #[.agg #[.slice A0 l0 c0,.slice A1 l1 c1,.slice A2 l2 c2],.int .i64 e]∧∃ (μ':PH),Le μ μ' ∧
   (
   (R.1=none∧e=12∧L=[W.A,ro μ']) ∨
   (e=0∧∃ (t:List En) (st:Value) (steps:Nat),R=(some (t,decide (0<l1)),limit-steps)∧steps≤limit∧TOk W.U t∧l2=t.length∧L=[Gh w W.sv st steps limit,own 111 2 (.slice A2 l2 c2) l2 (Ci t),W.A,ro μ']))) :=
 (YU W hg μ hW hT w limit hlim A cap nv0 steps h1 hsl hok R hR).mono fun r L ⟨μ',k1,k3⟩=>by
  rcases k3 with ⟨h1,h2,h3⟩ | ⟨nv,st,steps,h1,h2,h3,h4,h5⟩
  ·exact ⟨none,none,none,0,0,0,0,0,0,12,h2,μ',k1,.inl ⟨h1,rfl,h3⟩⟩
  ·obtain ⟨_,A0,c0,e0,_⟩:=h3.rest
   obtain ⟨⟨A1,c1,e1⟩,A2,c2,e2⟩:=h3.one
   refine ⟨A0,A1,A2,nv.f.rest.length,nv.f.node.length,nv.f.tree.length,c0,c1,c2,0,?_,μ',k1,.inr ⟨rfl,nv.f.tree,st,steps,?_,h2,h3.tree,rfl,?_⟩⟩
   ·rw [h4]
    show Value.tuple #[.agg #[nv.rest,nv.node,nv.tree],_]=_
    rw [e0,e1,e2]
   ·rw [h1]
    cases nv.f.node <;> rfl
   ·rw [h5,← e2]
def D3 (n:Nat)(a b:Int):Int:=if min a b<0∨min (n:Int) 65536≤max a b then 9 else 0
instance:TIface prog 332:=⟨⟨_,underlying332⟩⟩
theorem Re (W:VWt)(μ:PH)(hW:W.Ok μ)(a b:Int):Spec prog 221 [W.sv,.int .i64 a,.int .i64 b] [W.A,ro μ] (fun r L=>r=.int .i64 (D3 W.n a b)∧L=[W.A,ro μ]):=by
 have hc : InvS prog 0 38 (pv W.pw) "Commits" [] [W.A] (fun r L => r = .int .i64 (W.n : Nat) ∧ L = [W.A]) := (A0f W μ hW).commits () μ
 refine Spec.of 24 func221 rfl rfl rfl ?_
 refine Ad (Au [0,1,2] rfl rfl (Aj (Ad (Ah rfl (Af (Hh rfl rfl) (AI [0,1,2,9] rfl (Dw rfl (Ar (Ai (Ad (Ah rfl ?_)))))))))))
 refine AE (DD rfl (Nat.zero_le _) hc rfl AG) ?_
 rintro v11 L1 ⟨rfl,rfl⟩
 refine As (Af (DE rfl rfl) (Au [1,2,7] rfl rfl (Aj (Ad (Ah rfl (Ah rfl (Af (DE rfl rfl) (Af (Be rfl rfl) (Ah rfl ?_)))))))))
 refine B9 17 rfl (fun h17=>?_) (fun h17=>?_)
 ·refine B1 rfl rfl rfl (B1 rfl rfl rfl (B1 rfl rfl rfl (B1 rfl rfl rfl (B1 rfl rfl rfl (Af (Bc rfl rfl) (AI [23] rfl ?_))))))
  refine Aq rfl (fun h23=>?_) (fun h23=>by cases h23)
  refine Ad (Au [6] rfl rfl (Av (AZ ?_)))
  have h17':=of_decide_eq_true h17
  exact Aw [W.A,ro μ] (.tmp rfl .nil) ⟨by show Value.int .i64 _=_; unfold D3; rw [if_pos (.inl h17')],rfl⟩ AG
 ·refine AS rfl rfl (Ah rfl (AS rfl rfl (Ah rfl (AS rfl rfl (Af (Ea rfl rfl) (AS rfl rfl (Ah rfl (AS rfl rfl (Af (Cs rfl rfl) (Af (B0 rfl rfl) (AI [23] rfl ?_)))))))))))
  refine Aq rfl (fun h23=>?_) (fun h23=>?_)
  ·refine Ad (Au [6] rfl rfl (Av (AZ ?_)))
   have h23':=of_decide_eq_true h23
   exact Aw [W.A,ro μ] (.tmp rfl .nil) ⟨by show Value.int .i64 _=_; unfold D3; rw [if_pos (.inr h23')],rfl⟩ AG
  ·refine Ar (Ai (Ad (Au [6] rfl rfl (Av ?_))))
   have h17':=of_decide_eq_false h17
   have h23':=of_decide_eq_false h23
   exact Aw [W.A,ro μ] (.tmp rfl .nil) ⟨by show Value.int .i64 _=_; unfold D3; rw [if_neg (fun h=>h.elim h17' h23')],rfl⟩ AG
theorem Tk {P:Program}{env:CA}{k:IntKind}{ts:Array TypeId}{x y:Operand}{a b:Int}(z:Int)(hx:AO env x=some (.int k a))(hy:AO env y=some (.int k b))(h:min a b=z):Pu P env (.call { callee:=.builtin .min,args:=#[x,y],argTypes:=ts}) (.int k z):=by
 have:=DE (P:=P) (ts:=ts) hx hy
 rwa [h] at this
def BB (W:VWt)(a b limit:Int):List En×Bool×Int×Int :=
 if D3 W.n a b≠0 then ([],false,0,D3 W.n a b) else
 match D7 (VS W) (VT W) VM [] (min (max limit 0) 4096).toNat [a] b with
 | (none,_)=>([],false,0,12)
 | (some (t,ok),left)=>(t,ok,(((min (max limit 0) 4096).toNat-left:Nat):Int),0)
theorem A20(W:VWt)(hg:TG W)(μ:PH)(hW:W.Ok μ)(hT:RowAt μ 2 0 tabV)(w:Nat)(limit:Nat)(hlim:limit≤4096)(v:Value)(a b:Int)(hv:Row μ v 1 1 (E8 [a])) :
  Spec prog 222 [.pointer (some ⟨w,0,none⟩),v,.int .i64 b] [B5 w 337 [W.sv,.slice none 0 0,.int .i64 0,.int .i64 (limit:Nat)],W.A,ro μ] (fun r L=>∃ e,r=.int .i64 e∧∃ (μ2:PH),Le μ μ2 ∧
   (
   (limit=0∧e=12∧L=[Gh w W.sv (.slice none 0 0) 0 limit,W.A,ro μ2]) ∨
   (0<limit∧e=0∧∃ (nv:VV) (A2:Option Addr) (cap2:Nat),nv.f=XL (VT W) [] (VS W [a] b)∧nv.Ok W.n W.U μ2∧L=[Gh w W.sv (.slice A2 1 cap2) 1 limit,Ou A2 cap2 [nv],CW nv,FH nv,W.A,ro μ2]))):=by
 intro E w' hw
 have hpre:Ent [B5 w 337 [W.sv,.slice none 0 0,.int .i64 0,.int .i64 (limit:Nat)],W.A,ro μ] [FH (⟨.slice none 0 0,v,.slice none 0 0,⟨[],[a],[]⟩,false⟩:VV),Gh w W.sv (.slice none 0 0) 0 limit,Ou none 0 [],W.A,ro μ] :=
  (own_nil_ent (e:=340) (n:=3)).trans ((PA (x:=(⟨.slice none 0 0,v,.slice none 0 0,⟨[],[a],[]⟩,false⟩:VV)) rfl).trans (show Ent (FH (⟨.slice none 0 0,v,.slice none 0 0,⟨[],[a],[]⟩,false⟩:VV)::Ou none 0 []::Gh w W.sv (.slice none 0 0) 0 limit::W.A::ro μ::[]) _ from Split.ent' AG))
 refine (YT W hg μ hW hT w none 0 [] 0 limit (Nat.le_refl _) hlim ⟨.slice none 0 0,v,.slice none 0 0,⟨[],[a],[]⟩,false⟩ b (fun _=>hv) E w' (hw.ent hpre)).mono fun e w'' ⟨r,L',he,⟨e2,hr,hp⟩,hh⟩=>?_
 rcases hp with ⟨k1,k2,k3⟩ | ⟨k1,k2,nv,A2,cap2,μ2,k3,k4,k5,k7,k8⟩
 ·subst k3
  refine ⟨r,_,he,⟨e2,hr,μ,Le.refl _,.inl ⟨by omega,k2,rfl⟩⟩,(hh.ent Ent.drop).ent ?_⟩
  exact show Ent (Gh w W.sv (.slice none 0 0) 0 limit::Ou none 0 []::W.A::ro μ::[]) [Gh w W.sv (.slice none 0 0) 0 limit,W.A,ro μ] from Split.ent' AG
 ·subst k8
  refine ⟨r,_,he,⟨e2,hr,μ2,k7,.inr ⟨k1,k2,nv,A2,cap2,k4,k5,rfl⟩⟩,(hh.ent Ent.drop).ent ?_⟩
  exact (PA k3).trans (show Ent (FH nv::Gh w W.sv (.slice A2 1 cap2) 1 limit::Ou A2 cap2 [nv]::CW nv::W.A::ro μ2::[]) _ from Split.ent' AG)
set_option maxHeartbeats 4000000 in
theorem JS (W:VWt)(hg:TG W)(μ:PH)(hW:W.Ok μ)(hT:RowAt μ 2 0 tabV)(a b limit:Int) :
  Spec prog 127 [W.sv,.int .i64 a,.int .i64 b,.int .i64 limit] [W.A,ro μ] (fun r L=>∃ (tv:Value) (μ':PH),Le μ μ'∧TOk W.U (BB W a b limit).1∧r=.tuple #[tv,.bool (BB W a b limit).2.1,.int .i64 (BB W a b limit).2.2.1,.int .i64 (BB W a b limit).2.2.2] ∧
   L=[own 111 2 tv (BB W a b limit).1.length (Ci (BB W a b limit).1),W.A,ro μ']):=by
 obtain ⟨lim,hlim⟩:∃ k:Nat,min (max limit 0) 4096=(k:Int):=⟨(min (max limit 0) 4096).toNat,by omega⟩
 have hl4:lim≤4096:=by omega
 have hlt:(min (max limit 0) 4096).toNat=lim:=by omega
 refine Spec.of 55 func127 rfl rfl rfl ?_
 refine Ad (B2 rfl (B2 rfl (B2 rfl (Au [0,1,2,3] rfl rfl (Aj (Ad (Ah rfl (Ah rfl (Ah rfl ?_)))))))))
 refine AE (AF (Re W μ hW a b) rfl rfl AG) ?_
 rintro v19 L1 ⟨rfl,rfl⟩
 refine As (Au [0,1,2,3,12] rfl rfl (Ad (Ah rfl (Af (Bx rfl rfl) (AI [0,1,2,3,12,21] rfl ?_)))))
 refine Aq rfl (fun h21=>?_) (fun h21=>?_)
 ·refine Ad (Ah rfl (B2 rfl (B2 rfl (B2 rfl (Au [8,9,10,11] rfl rfl (Av (AZ ?_)))))))
  have h21':D3 W.n a b≠0:=fun e=>by rw [e] at h21; exact absurd h21 (by decide)
  have e:BB W a b limit=([],false,0,D3 W.n a b):=by unfold BB; rw [if_pos h21']
  rw [e]
  exact B6 [own 111 2 (.slice none 0 0) 0 [],W.A,ro μ] (.tmp rfl (.tmp rfl (.tmp rfl (.tmp rfl .nil)))) ⟨_,μ,Le.refl _,TOk.nil _,rfl,rfl⟩ own_nil_ent
 ·have h21':D3 W.n a b=0:=by
   by_cases e:D3 W.n a b=0
   ·exact e
   ·rw [decide_eq_false e] at h21; cases h21
  have hR:=V8 (VS W) (VT W) VM [] [a] b lim
  have hV:BB W a b limit=match D7 (VS W) (VT W) VM [] lim [a] b with | (none,_)=>([],false,0,12) | (some (t,ok),left)=>(t,ok,((lim-left:Nat):Int),0):=by unfold BB; rw [if_neg (not_not_intro h21'),hlt]
  refine Ar (Ai (Ad (Ah rfl (Ah rfl (Af (Ea rfl rfl) (Af (Tk (lim:Int) rfl rfl hlim) (Af (Bz (qs:=[(0,_),(3,_)]) rfl) (AE (Bp rfl rfl) (fun b28=>?_)))))))))
  refine Au [1,2,13] rfl rfl (Ad (Ah rfl (Ah rfl (AE (Bs (qs:=[(0,_)]) rfl rfl rfl) (fun b31=>?_)))))
  refine Ah rfl ?_
  refine ER (b:=b31) (μ:=μ) AG fun μ1 h1 k1=>?_
  have r2:Row μ1 (.slice (some ⟨b31,0,none⟩) 1 1) 1 1 (E8 [a]):=Ed (n:=1) (l:=1) (cs:=[a].flatMap (Bw .i64)) k1 (by rfl) (by decide)
  refine AE (AF (A20 W hg μ1 (hW.le h1) (hT.le h1) b28 lim hl4 _ a b r2) rfl rfl AG) ?_
  rintro v33 L1 ⟨e,rfl,μ2,h2,hp⟩
  skip
  refine Au [13,14] rfl rfl (Aj (Ad (Ah rfl (Af (Bx rfl rfl) (AI [13,14,35] rfl ?_)))))
  refine Aq rfl (fun h35=>?_) (fun h35=>?_)
  ·refine Ad (Ah rfl (B2 rfl (B2 rfl (B2 rfl (Au [8,9,10,11] rfl rfl (Av (AZ ?_)))))))
   have h35':e≠0:=fun e1=>by rw [e1] at h35; exact absurd h35 (by decide)
   rcases hp with ⟨k1,rfl,rfl⟩ | ⟨_,k2,_⟩
   ·have e1:BB W a b limit=([],false,0,12):=by rw [hV,k1]; rfl
    rw [e1]
    simp only [List.cons_append,List.nil_append]
    exact B6 [own 111 2 (.slice none 0 0) 0 [],W.A,ro μ2] (.tmp rfl (.tmp rfl (.tmp rfl (.tmp rfl .nil)))) ⟨_,μ2,h1.trans h2,TOk.nil _,rfl,rfl⟩ (own_nil_ent.trans (Split.ent' (K:=[own 111 2 (.slice none 0 0) 0 [],W.A,ro μ2]) AG))
   ·exact absurd k2 h35'
  ·have h35':e=0:=by
    by_cases e1:e=0
    ·exact e1
    ·rw [decide_eq_false e1] at h35; cases h35
   obtain ⟨k1,nv,A2,cap2,k3,k4,rfl⟩:0<lim∧∃ (nv:VV) (A2:Option Addr) (cap2:Nat),nv.f=XL (VT W) [] (VS W [a] b)∧nv.Ok W.n W.U μ2∧L1=[Gh b28 W.sv (.slice A2 1 cap2) 1 lim,Ou A2 cap2 [nv],CW nv,FH nv,W.A,ro μ2]:=by
    rcases hp with ⟨_,k2,_⟩ | ⟨k1,_,k3⟩
    ·rw [k2] at h35'; cases h35'
    ·exact ⟨k1,k3⟩
   clear hp
   have hR2:=hR AC
   rw [← k3] at hR2
   simp only [List.cons_append,List.nil_append]
   refine Ar (Ai (Ad (Ah rfl ?_)))
   refine AE (AF (A1Z W hg μ2 (hW.le (h1.trans h2)) (hT.le (h1.trans h2)) b28 lim hl4 A2 cap2 nv 1 (Nat.le_refl _) AC k4 _ hR2.symm) rfl rfl AG) ?_
   rintro v39 L2 ⟨A0,A1,A3,l0,l1,l2,c0,c1,c2,e3,rfl,μ3,h3,hp⟩
   skip
   refine Ah rfl (Af (Ax rfl) (Af (Ax rfl) (AE (Bd) (fun b15=>?_))))
   refine Bh (B8 rfl rfl rfl rfl) (Au [13,14,15] rfl rfl (Aj (Ad (Ah rfl (Af (Bx rfl rfl) (AI [13,14,15,43] rfl ?_))))))
   refine Aq rfl (fun h43=>?_) (fun h43=>?_)
   ·refine Ad (Ah rfl (B2 rfl (B2 rfl (B2 rfl (Au [8,9,10,11] rfl rfl (Av (AZ ?_)))))))
    have h43':e3≠0:=fun e1=>by rw [e1] at h43; exact absurd h43 (by decide)
    rcases hp with ⟨k1,rfl,rfl⟩ | ⟨k2,_⟩
    ·have e1:BB W a b limit=([],false,0,12):=by
      rw [hV]
      generalize D7 (VS W) (VT W) VM [] lim [a] b=q at k1
      obtain ⟨q1,q2⟩:=q
      dsimp only at k1
      subst k1; rfl
     rw [e1]
     simp only [List.cons_append,List.nil_append]
     exact B6 [own 111 2 (.slice none 0 0) 0 [],W.A,ro μ3] (.tmp rfl (.tmp rfl (.tmp rfl (.tmp rfl .nil)))) ⟨_,μ3,h1.trans (h2.trans h3),TOk.nil _,rfl,rfl⟩ (own_nil_ent.trans (Split.ent' (K:=[own 111 2 (.slice none 0 0) 0 [],W.A,ro μ3]) AG))
    ·exact absurd k2 h43'
   ·have h43':e3=0:=by
     by_cases e1:e3=0
     ·exact e1
     ·rw [decide_eq_false e1] at h43; cases h43
    obtain ⟨t,st,steps,q1,q2,q3,rfl,rfl⟩:∃ (t:List En) (st:Value) (steps:Nat),D7 (VS W) (VT W) VM [] lim [a] b=(some (t,decide (0<l1)),lim-steps)∧steps≤lim∧TOk W.U t∧l2=t.length∧L2=[Gh b28 W.sv st steps lim,own 111 2 (.slice A3 l2 c2) l2 (Ci t),W.A,ro μ3]:=by
     rcases hp with ⟨_,k2,_⟩ | ⟨_,k3⟩
     ·rw [k2] at h43'; cases h43'
     ·exact k3
    clear hp
    have e1:BB W a b limit=(t,decide (0<l1),((steps:Nat):Int),0):=by
     rw [hV,q1]
     show (t,decide (0<l1),((lim-(lim-steps):Nat):Int),0)=_
     rw [show lim-(lim-steps)=steps by omega]
    rw [e1]
    simp only [List.cons_append,List.nil_append]
    refine Ar (Ai (Aj ?_))
    refine Bb [1,3,9] _ [] (by simp only [List.append_nil]; exact Ent.refl _) AP ?_
    refine AD 0 rfl (Ae rfl) (Bl 1 rfl (Ak rfl rfl) rfl (AD 2 rfl (Ae rfl) (Bl 3 rfl (Ak rfl rfl) rfl (AD 4 rfl (BD rfl) (AD 5 rfl (BO rfl rfl) (AD 6 rfl (AH rfl) (AD 7 rfl (Al rfl) (AD 8 rfl (Ae rfl) (Bl 9 rfl (Ak rfl rfl) rfl (AD 10 rfl (Bf rfl) (AD 11 rfl (Bf rfl) (AD 12 rfl (Bf rfl) (AD 13 rfl (Bf rfl) (BZ [8,9,10,11] rfl (De AP (Ai (Av ?_)))))))))))))))))
    refine B6 [own 111 2 (.slice A3 t.length c2) t.length (Ci t),W.A,ro μ3] (.tmp rfl (.tmp rfl (.tmp rfl (.tmp rfl .nil)))) ⟨_,μ3,h1.trans (h2.trans h3),q3,?_,rfl⟩ (Split.ent' AG)
    show Value.tuple #[_,.bool _,_,_]=_
    simp
theorem YV {W:VWt}{a b limit:Int}(h:(BB W a b limit).2.2.2=0):∃ i j:Nat,a=(i:Int)∧b=(j:Int)∧i<W.n∧j<W.n:=by
 have h1:D3 W.n a b=0:=by
  by_cases e:D3 W.n a b=0
  ·exact e
  ·unfold BB at h; rw [if_pos e] at h; exact absurd h e
 unfold D3 at h1
 have h2:¬ (min a b<0∨min (W.n:Int) 65536≤max a b):=fun hc=>by rw [if_pos hc] at h1; cases h1
 exact ⟨a.toNat,b.toNat,by omega,by omega,by omega,by omega⟩
def Dh (W:VWt)(a b limit:Int):List En×List Cf×Int×Int :=
 if (BB W a b limit).2.2.2≠0 then ([],[],0,(BB W a b limit).2.2.2) else
 (VM (BB W a b limit).1 (VT W a) (VT W b),Fs (D4 (BB W a b limit).1 (VT W a) (VT W b)),(BB W a b limit).2.2.1,0)
set_option maxHeartbeats 4000000 in
theorem Rf (W:VWt)(hg:TG W)(μ:PH)(hW:W.Ok μ)(hT:RowAt μ 2 0 tabV)(a b limit:Int) :
  Spec prog 128 [W.sv,.int .i64 a,.int .i64 b,.int .i64 limit] [W.A,ro μ] (fun r L=>∃ (tv cv:Value) (μ':PH),Le μ μ'∧TOk W.U (Dh W a b limit).1∧r=.tuple #[tv,cv,.int .i64 (Dh W a b limit).2.2.1,.int .i64 (Dh W a b limit).2.2.2] ∧
   L=[own 111 2 tv (Dh W a b limit).1.length (Ci (Dh W a b limit).1),own 119 4 cv (Dh W a b limit).2.1.length (NV (Dh W a b limit).2.1),W.A,ro μ']):=by
 have hUl:=hg.len
 refine Spec.of 45 func128 rfl rfl rfl ?_
 refine Ad (B2 rfl (B2 rfl (B2 rfl (Au [0,1,2,3] rfl rfl (Ad (Ah rfl (Ah rfl (Ah rfl (Ah rfl ?_)))))))))
 refine AE (AF (JS W hg μ hW hT a b limit) rfl rfl AG) ?_
 rintro v23 L1 ⟨tv,μ1,h1,ht,rfl,rfl⟩
 refine As (Ah rfl (Af (Ax rfl) (Af (Ax rfl) (Af (Ax rfl) (Af (Ax rfl) (B2 rfl (B2 rfl (B2 rfl (Au [0,1,2,12,14,15] rfl rfl (Aj (Ad (Ah rfl (Af (Bx rfl rfl) (AI [0,1,2,12,14,15,29] rfl ?_))))))))))))))
 refine Aq rfl (fun h29=>?_) (fun h29=>?_)
 ·refine Ad (Ah rfl (B2 rfl (B2 rfl (B2 rfl (Au [8,9,10,11] rfl rfl (Av (AZ ?_)))))))
  have h29':(BB W a b limit).2.2.2≠0:=fun e=>by rw [e] at h29; exact absurd h29 (by decide)
  have e:Dh W a b limit=([],[],0,(BB W a b limit).2.2.2):=by unfold Dh; rw [if_pos h29']
  rw [e]
  exact B6 [own 111 2 (.slice none 0 0) 0 [],own 119 4 (.slice none 0 0) 0 [],W.A,ro μ1] (.tmp rfl (.tmp rfl (.tmp rfl (.tmp rfl .nil)))) ⟨_,_,μ1,h1,TOk.nil _,rfl,rfl⟩ (own_nil_ent.trans (own_nil_ent.trans (Split.ent' (K:=[own 111 2 (.slice none 0 0) 0 [],own 119 4 (.slice none 0 0) 0 [],W.A,ro μ1]) AG)))
 ·have h29':(BB W a b limit).2.2.2=0:=by
   by_cases e:(BB W a b limit).2.2.2=0
   ·exact e
   ·rw [decide_eq_false e] at h29; cases h29
  obtain ⟨i,j,ha,hb,hi,hj⟩:=YV h29'
  have e:Dh W a b limit=(VM (BB W a b limit).1 (VT W a) (VT W b),Fs (D4 (BB W a b limit).1 (VT W a) (VT W b)),(BB W a b limit).2.2.1,0):=by unfold Dh; rw [if_neg (not_not_intro h29')]
  rw [e]
  have eT:∀ k:Nat,VT W (k:Int)=W.tr k:=fun k=>rfl
  generalize BB W a b limit=V at *
  subst ha hb
  rw [eT,eT]
  refine BA (e:=111) (n:=2) (v:=tv) (μ:=μ1) AG fun μ2 h2 rT=>?_
  have hW2:=hW.le (h1.trans h2)
  refine Ar (Ai (Ad (Ah rfl (Ah rfl (Ah rfl ?_)))))
  refine AE (DD rfl (Nat.zero_le _) (Kx W μ2 hW2 i hi) rfl AG) ?_
  rintro v35 L1 ⟨μ3,h3,rA,rfl⟩
  refine As (Ah rfl (Ah rfl ?_))
  refine AE (DD rfl (Nat.zero_le _) (Kx W μ3 (hW2.le h3) j hj) rfl AG) ?_
  rintro v38 L1 ⟨μ4,h4,rB,rfl⟩
  refine As ?_
  refine AE (AF (N1 μ4 tv v35 v38 V.1 (W.tr i) (W.tr j) (rT.le (h3.trans h4)) (rA.le h4) rB ⟨by have:=ht.len; omega,by have:=(Il hg hW2 hi).len; omega,by have:=(Il hg hW2 hj).len; omega⟩ ⟨ht.u32,(Il hg hW2 hi).u32,(Il hg hW2 hj).u32⟩) rfl rfl AG) ?_
  rintro v39 L1 ⟨A8,k8,v9,μ5,h5,rfl,rfl⟩
  refine As (Ah rfl (Af (Ax rfl) (Af (Ax rfl) (B2 rfl (Au [14,16,17] rfl rfl (Ad (Ah rfl (Ah rfl (Ah rfl (B2 rfl (B2 rfl (B2 rfl (Au [8,9,10,11] rfl rfl (Av ?_))))))))))))))
  exact B6 [own 111 2 (.slice A8 (VM V.1 (W.tr i) (W.tr j)).length k8) (VM V.1 (W.tr i) (W.tr j)).length (Ci (VM V.1 (W.tr i) (W.tr j))),own 119 4 v9 (Fs (D4 V.1 (W.tr i) (W.tr j))).length (NV (Fs (D4 V.1 (W.tr i) (W.tr j)))),W.A,ro μ5] (.tmp rfl (.tmp rfl (.tmp rfl (.tmp rfl .nil)))) ⟨_,_,μ5,h1.trans (h2.trans (h3.trans (h4.trans h5))),ht.merge (Il hg hW2 hi) (Il hg hW2 hj),rfl,rfl⟩ (Split.ent' AG)
abbrev Rg (V:List En×Bool×Int×Int):AnW:=⟨V.2.2.2,V.2.1,V.2.2.1,[],V.1⟩
abbrev Uk (M:List En×List Cf×Int×Int):AnW:=⟨M.2.2.2,decide (M.2.2.2=0)&&decide (M.2.1=[]),M.2.2.1,[],M.1⟩
def fV (X:VWt)(q:Qn):AnW:=if q.k=9 then Rg (BB X q.a q.b q.lim) else Uk (Dh X q.a q.b q.lim)
section
variable (X:VWt) (hg:TG X) (μ:PH) (h:X.Ok μ) (hT:RowAt μ 2 0 tabV)
include hg h hT
theorem Wm (a b lim:Int)(A:Option Addr)(ci:Nat):Spec prog 67 [pv X.pw,.agg (Uf ⟨9,a,b,[],lim⟩ (.slice A 0 ci)).toArray] [X.A,ro μ] (fun r L=>∃ μ' an,Le μ μ'∧AnOk μ' an (Rg (BB X a b lim))∧r=.agg (Lg an).toArray∧L=[X.A,ro μ']):=by
 have hvs:=JS X hg μ h hT a b lim
 have hl:=hg.len
 generalize BB X a b lim=V at *
 refine Spec.of 196 func67 rfl rfl rfl ?_
 refine Ad (AE (Bp rfl rfl) (fun b3=>?_))
 refine AE (Bd) fun b4=>?_
 refine AI [0,3,4] rfl (Ad (AE (Bd) (fun b5=>?_)))
 refine AI [0,3,4,5] rfl (Aj (Ad (Af (Ae rfl) (AM (Ak rfl rfl) (AI [0,3,4,5,8] rfl (AB (Ad (Af (Bo rfl rfl) (Au [0,3,4,5,8,10] rfl rfl (Dw rfl (Ad (Af (Bo rfl rfl) (Au [0,3,4,5,8,24] rfl rfl (Dw rfl (Ad (Af (Bo rfl rfl) (Au [0,3,4,5,8,36] rfl rfl (Dw rfl (Ad (Af (Bo rfl rfl) (Au [0,3,4,5,8,52] rfl rfl (Dw rfl (Ad (Af (Bo rfl rfl) (Au [0,3,4,5,8,66] rfl rfl (Dw rfl (Ad (Af (Bo rfl rfl) (Au [0,3,4,5,8,78] rfl rfl (Dw rfl (Ad (Af (Bo rfl rfl) (Au [0,3,4,5,8,90] rfl rfl (Dw rfl (Ad (Af (Bo rfl rfl) (Au [0,3,4,5,8,104] rfl rfl (Dw rfl (Ad (Af (Bo rfl rfl) (Au [0,3,4,5,8,118] rfl rfl (Tv rfl (Am (Ah rfl (Af (Gq rfl) (Af (Ae rfl) (AM (Ak rfl rfl) (Af (Ae rfl) (AM (Ak rfl rfl) (Af (Ae rfl) (AM (Ak rfl rfl) ?_)))))))))))))))))))))))))))))))))))))))))))))))))))
 refine AE (AF hvs rfl rfl AG) ?_
 rintro v129 L1 ⟨tv,μ',k1,hTO,rfl,rfl⟩
 refine As ?_
 refine C4 (v:=tv) (μ:=μ') AG fun μ2 k2 hr=>?_
 obtain ⟨A2,c2,rfl⟩:=hr.sl
 refine Ah rfl (Af (Ax rfl) (Af (Ax rfl) (Af (Ax rfl) (Af (Ax rfl) (Af (Ae rfl) (Bh (Ba rfl rfl rfl) (Af (Ae rfl) (Bh (Ba rfl rfl rfl) (Af (Ae rfl) (Bh (Ba rfl rfl rfl) (Af (Ae rfl) (Bh (Ba rfl rfl rfl) (Bi [4,5] rfl (AJ (AV (Ai (Ad (AM (Cn rfl rfl) (Bh (B8 rfl rfl rfl rfl) (AI [4] rfl (Av ?_)))))))))))))))))))))
 exact Aw [X.A,ro μ2] (.cell rfl (BT rfl) .nil) ⟨μ2,⟨V.2.2.1,V.2.1,V.2.2.2,(none,0,0),(A2,_,c2)⟩,k1.trans k2,⟨rfl,rfl,rfl,Row.nil _ _,hr,Nat.zero_le _,by have:=hTO.len; show V.1.length≤_; omega⟩,rfl,rfl⟩ AG
theorem Rh (a b lim:Int)(A:Option Addr)(ci:Nat):Spec prog 67 [pv X.pw,.agg (Uf ⟨10,a,b,[],lim⟩ (.slice A 0 ci)).toArray] [X.A,ro μ] (fun r L=>∃ μ' an,Le μ μ'∧AnOk μ' an (Uk (Dh X a b lim))∧r=.agg (Lg an).toArray∧L=[X.A,ro μ']):=by
 have hvs:=Rf X hg μ h hT a b lim
 have hl:=hg.len
 generalize Dh X a b lim=V at *
 refine Spec.of 196 func67 rfl rfl rfl ?_
 refine Ad (AE (Bp rfl rfl) (fun b3=>?_))
 refine AE (Bd) fun b4=>?_
 refine AI [0,3,4] rfl (Ad (AE (Bd) (fun b5=>?_)))
 refine AI [0,3,4,5] rfl (Aj (Ad (Af (Ae rfl) (AM (Ak rfl rfl) (AI [0,3,4,5,8] rfl (AB (Ad (Af (Bo rfl rfl) (Au [0,3,4,5,8,10] rfl rfl (Dw rfl (Ad (Af (Bo rfl rfl) (Au [0,3,4,5,8,24] rfl rfl (Dw rfl (Ad (Af (Bo rfl rfl) (Au [0,3,4,5,8,36] rfl rfl (Dw rfl (Ad (Af (Bo rfl rfl) (Au [0,3,4,5,8,52] rfl rfl (Dw rfl (Ad (Af (Bo rfl rfl) (Au [0,3,4,5,8,66] rfl rfl (Dw rfl (Ad (Af (Bo rfl rfl) (Au [0,3,4,5,8,78] rfl rfl (Dw rfl (Ad (Af (Bo rfl rfl) (Au [0,3,4,5,8,90] rfl rfl (Dw rfl (Ad (Af (Bo rfl rfl) (Au [0,3,4,5,8,104] rfl rfl (Dw rfl (Ad (Af (Bo rfl rfl) (Au [0,3,4,5,8,118] rfl rfl (Dw rfl (Ad (Af (Bo rfl rfl) (Au [0,3,4,5,8,138] rfl rfl (Tv rfl (Ad (Au [0,3,4,5] rfl rfl (Ad (Ah rfl (Af (Gq rfl) (Af (Ae rfl) (AM (Ak rfl rfl) (Af (Ae rfl) (AM (Ak rfl rfl) (Af (Ae rfl) (AM (Ak rfl rfl) ?_)))))))))))))))))))))))))))))))))))))))))))))))))))))))))
 refine AE (AF hvs rfl rfl AG) ?_
 rintro v149 L1 ⟨tv,cv,μ',k1,hTO,rfl,rfl⟩
 refine As ?_
 refine C4 (v:=tv) (μ:=μ') AG fun μ2 k2 hr=>?_
 refine C4 (v:=cv) (μ:=μ2) AG fun μ3 k3 hc=>?_
 obtain ⟨A2,c2,rfl⟩:=hr.sl
 refine Ah rfl (Af (Ax rfl) (Af (Ax rfl) (Af (Ax rfl) (Af (Ax rfl) (Af (Ae rfl) (Bh (Ba rfl rfl rfl) (B2 rfl (Af (Ae rfl) (Bh (Ba rfl rfl rfl) (Af (Ae rfl) (Bh (Ba rfl rfl rfl) (AI [4,5,6] rfl (Am (Af (Ae rfl) (AM (Ak rfl rfl) (Af (Bo rfl rfl) (Ah rfl ?_)))))))))))))))))
 refine B9 160 rfl (fun h160=>?_) (fun h160=>?_)
 ·refine AS rfl rfl (Ah rfl (AS rfl rfl (Af (AW hc rfl) (AS rfl rfl (Af (Bo rfl rfl) (Af (Bc rfl rfl) (Af (Ae rfl) (Bh (Ba rfl rfl rfl) (Bi [4,5] rfl (AJ (AV (Ai (Ad (AM (Cn rfl rfl) (Bh (B8 rfl rfl rfl rfl) (AI [4] rfl (Av ?_)))))))))))))))))
  have h160':V.2.2.2=0:=of_decide_eq_true h160
  exact Aw [X.A,ro μ3] (.cell rfl (BT rfl) .nil) ⟨μ3,⟨V.2.2.1,decide ((V.2.1.length:Int)=0),V.2.2.2,(none,0,0),(A2,_,c2)⟩,k1.trans (k2.trans k3),⟨rfl,by show decide ((V.2.1.length:Int)=0)=(decide (V.2.2.2=0)&&decide (V.2.1=[])); rw [decide_eq_true h160',Bool.true_and]; exact decide_eq_decide.2 (by rw [← List.length_eq_zero_iff]; omega),rfl,Row.nil _ _,hr.le k3,Nat.zero_le _,by have:=hTO.len; show V.1.length≤_; omega⟩,rfl,rfl⟩ AG
 ·refine B1 rfl rfl rfl (B1 rfl rfl rfl (B1 rfl rfl rfl (Af (B0 rfl rfl) (Af (Ae rfl) (Bh (Ba rfl rfl rfl) (Bi [4,5] rfl (AJ (AV (Ai (Ad (AM (Cn rfl rfl) (Bh (B8 rfl rfl rfl rfl) (AI [4] rfl (Av ?_))))))))))))))
  exact Aw [X.A,ro μ3] (.cell rfl (BT rfl) .nil) ⟨μ3,⟨V.2.2.1,false,V.2.2.2,(none,0,0),(A2,_,c2)⟩,k1.trans (k2.trans k3),⟨rfl,by show _=(decide (V.2.2.2=0)&&decide (V.2.1=[])); rw [h160]; rfl,rfl,Row.nil _ _,hr.le k3,Nat.zero_le _,by have:=hTO.len; show V.1.length≤_; omega⟩,rfl,rfl⟩ AG
end

def L4 (n:Nat)(xs:List Int):Bool:=!(xs.all (LX n))
theorem Hw (gv lv:Value)(n:Nat)(xs:List Int)(L0:List AK)(hg:∃ A c,gv=.slice A n c)(hv:Ints prog 3 L0 lv xs):Spec prog 37 [gv,lv] L0 (fun r L=>r=.bool (L4 n xs)∧L=L0):=by
 obtain ⟨A,c,rfl⟩:=hg
 obtain ⟨B,cb,rfl,hlb,hb⟩:=hv
 refine Spec.of 26 func37 rfl rfl rfl ?_
 refine Ad (Au [0,1] rfl rfl (Aj (Ad (Au [0,1,5] rfl rfl (AB ?_)))))
 refine B4 (ι:=Nat) (fun i env L=>env=[(0,.slice A n c),(1,.slice B xs.length cb),(5,.int .i64 (i:Nat))]∧L=L0∧i≤xs.length∧(xs.take i).all (LX n)=true) (fun i=>xs.length-i) 0 ⟨rfl,rfl,Nat.zero_le _,rfl⟩ ?_
 rintro i env L ⟨rfl,rfl,hi,hall⟩
 refine Aj (Ad (Ah rfl (Ah rfl (Af (BD rfl) (Af (Be rfl rfl) (AI [0,1,5,9] rfl ?_))))))
 refine Aq rfl (fun h9=>?_) (fun h9=>?_)
 ·have h9':i<xs.length:=by have:=of_decide_eq_true h9; omega
  obtain ⟨x,hx⟩:∃ x,xs[i]? = some x:=⟨_,List.getElem?_eq_getElem h9'⟩
  obtain ⟨bb,bo,rfl,hxl⟩:=hb AC
  have hbad:LX n x=false→xs.all (LX n)=false:=fun h=>by
   rw [List.all_eq_false]
   exact ⟨x,List.mem_of_getElem? hx,by rw [h]; exact Bool.false_ne_true⟩
  refine Ar (Ai (Aj (AB (Ad (Ah rfl (Ah rfl ?_))))))
  refine Af (AA (bo+i*1) rfl rfl AC AC (by rw [Int.toNat_natCast])) ?_
  refine AM (CX rfl (by rw [Nat.mul_one]; exact hxl i x hx)) ?_
  refine Af (Be rfl rfl) (Ah rfl ?_)
  refine B9 17 rfl (fun h17=>?_) (fun h17=>?_)
  ·refine B1 rfl rfl rfl (B1 rfl rfl rfl (B1 rfl rfl rfl (B1 rfl rfl rfl (B1 rfl rfl rfl (B1 rfl rfl rfl (B1 rfl rfl rfl (Af (Bc rfl rfl) (AI [0,1,5,25] rfl ?_))))))))
   refine Aq rfl (fun h25=>?_) (fun h25=>by cases h25)
   refine Ad (Au [4] rfl rfl (Av (Bg (AZ (AZ (Bg (AZ ?_)))))))
   have h17':=of_decide_eq_true h17
   exact Aw _ (.tmp rfl .nil) ⟨by unfold L4; rw [hbad (by unfold LX; rw [decide_eq_false AC]; rfl)]; rfl,rfl⟩ Split.all
  ·refine AS rfl rfl (Ah rfl (AS rfl rfl (Ah rfl (AS rfl rfl ?_))))
   refine Af (AA (bo+i*1) rfl rfl AC AC (by rw [Int.toNat_natCast])) ?_
   refine AS rfl rfl ?_
   refine AM (CX rfl (by rw [Nat.mul_one]; exact hxl i x hx)) ?_
   refine AS rfl rfl (Ah rfl (AS rfl rfl (Af (BD rfl) (AS rfl rfl (Af (Cs rfl rfl) (Af (B0 rfl rfl) (AI [0,1,5,25] rfl ?_)))))))
   refine Aq rfl (fun h25=>?_) (fun h25=>?_)
   ·refine Ad (Au [4] rfl rfl (Av (Bg (AZ (AZ (Bg (AZ ?_)))))))
    have h25':=of_decide_eq_true h25
    exact Aw _ (.tmp rfl .nil) ⟨by unfold L4; rw [hbad (by unfold LX; rw [decide_eq_false (p:=x<(n:Int)) AC,Bool.and_false])]; rfl,rfl⟩ Split.all
   ·refine Ar (AV (Ai (Am (Ah rfl (Af (AQ ((i+1:Nat):Int) rfl rfl AC AC AC) (B2 rfl (Bi [0,1,5] rfl (AJ ?_))))))))
    have h17':=of_decide_eq_false h17
    have h25':=of_decide_eq_false h25
    refine Ai ⟨i+1,⟨rfl,rfl,h9',?_⟩,by omega⟩
    rw [List.take_add_one,hx,List.all_append,hall]
    show (true&&([x].all _))=true
    simp only [List.all_cons,List.all_nil,Bool.and_true,Bool.true_and]
    unfold LX
    rw [decide_eq_true (show 0≤x by omega),decide_eq_true (show x<(n:Int) by omega)]; rfl
 ·have h9':=of_decide_eq_false h9
  obtain rfl:i=xs.length:=by omega
  rw [List.take_length] at hall
  refine B3 (AU (AU (AY rfl (Ai (Ad (Au [4] rfl rfl (Av ?_)))))))
  exact Aw _ (.tmp rfl .nil) ⟨by unfold L4; rw [hall]; rfl,rfl⟩ Split.all
set_option maxHeartbeats 1000000 in
theorem Ri (μ:PH)(v lv:Value)(G:List (Value×List Int))(xs:List Int)(hG:Graph μ v G)(hbig:G.length≤1099511627776)(hg:E5 (C6 G))(hv:Row μ lv 1 xs.length (xs.flatMap (Bw .i64)))(hxs:∀ p∈xs,0≤p∧p<G.length) :
  Spec prog 132 [v,lv] [ro μ] (fun r L=>∃ b,r=.slice (some ⟨b,0,none⟩) G.length G.length∧L=[B5 b 4 (EU G.length (GG (C6 G) G.length xs)),ro μ]):=by
 have hsm:=hv.small
 refine Spec.of 54 func132 rfl rfl rfl ?_
 refine Ad (Au [0,1] rfl rfl (Ad (Ah rfl (Af (AW hG.1 rfl) ?_))))
 refine AE (FK G.length rfl rfl rfl AC (by simp only [maxLen]; omega)) ?_
 rintro b11
 skip
 refine Au [0,1,5] rfl rfl (Aj (Ad (Au [0,1,5,6] rfl rfl (AB ?_))))
 rw [show List.replicate G.length (Value.bool false)=EU G.length (I0 (xs.take 0)) by rw [UH]; exact Fp fun j _=>by simp [I0]]
 refine B4 (ι:=Nat) (fun i env L=>env=[(0,v),(1,lv),(5,.slice (some ⟨b11,0,none⟩) G.length G.length),(6,.int .i64 (i:Nat))]∧L=[B5 b11 4 (EU G.length (I0 (xs.take i))),ro μ]∧i≤xs.length) (fun i=>xs.length-i) 0 ⟨rfl,rfl,Nat.zero_le _⟩ ?_
 rintro i env L ⟨rfl,rfl,hi⟩
 refine Aj (Ad (Ah rfl (Ah rfl (Af (AW hv rfl) (Af (Be rfl rfl) (AI [0,1,5,6,15] rfl ?_))))))
 refine Aq rfl (fun h15=>?_) (fun h15=>?_)
 ·have h15':i<xs.length:=by have:=of_decide_eq_true h15; omega
  obtain ⟨x,hx⟩:∃ x,xs[i]? = some x:=⟨_,List.getElem?_eq_getElem h15'⟩
  obtain ⟨pb,po,pc,hpv,hpc⟩:=hv.at_ hx
  have hxr:=hxs x (List.mem_of_getElem? hx)
  obtain ⟨k,rfl⟩:∃ k:Nat,x=k:=⟨x.toNat,by omega⟩
  refine Ar (Ai (Aj (AB (Am (Ah rfl (Ah rfl (Ah rfl ?_)))))))
  refine Af (AA (po+i*1) (congrArg some hpv) rfl AC AC (by rw [Int.toNat_natCast])) ?_
  refine AM (BJ rfl hpc) (Af (AA k rfl rfl AC AC AC) ?_)
  refine Bh (CB rfl rfl rfl (by rw [Ex]; omega)) ?_
  refine Bi [0,1,5,6] rfl ?_
  rw [Lb (T:=I0 (xs.take (i+1))) (fun y _=>by
   rw [List.take_add_one,hx]
   unfold I0
   by_cases e:y=k
   ·subst e; simp
   ·have:(y:Int)≠k:=by omega
    simp [e,this])]
  refine AJ (AV (Ai (Am (Ah rfl (Af (AQ ((i+1:Nat):Int) rfl rfl AC AC AC) (B2 rfl (Bi [0,1,5,6] rfl (AJ ?_))))))))
  exact Ai ⟨i+1,⟨rfl,rfl,h15'⟩,by omega⟩
 ·have h15':=of_decide_eq_false h15
  obtain rfl:i=xs.length:=by omega
  rw [List.take_length]
  refine B3 (AU (AU (AY rfl (Ai (Aj (Ad (Ah rfl (Af (AW hG.1 rfl) (Af (BH ((G.length:Nat)-1:Int) rfl rfl AC AC AC) (Au [0,5,7] rfl rfl (AB (B7 _ (Ju 0 rfl (Ju 5 rfl (Ju 7 rfl .nil))) ?_))))))))))))
  refine B4 (ι:=Nat×(Nat→Bool)) (fun k env L=>env=[(0,v),(5,.slice (some ⟨b11,0,none⟩) G.length G.length),(7,.int .i64 ((k.1:Nat)-1:Int))]∧L=[B5 b11 4 (EU G.length k.2),ro μ]∧k.1≤G.length∧X9 (C6 G) k.1 k.2=GG (C6 G) G.length xs) (fun k=>k.1) (G.length,I0 xs) ⟨rfl,rfl,Nat.le_refl _,rfl⟩ ?_
  rintro ⟨k,S⟩ env L ⟨rfl,rfl,hk,hup⟩
  dsimp only at hk hup ⊢
  refine Aj (Ad (Ah rfl (Af (Cs rfl rfl) (AI [0,5,7,28] rfl ?_))))
  refine Aq rfl (fun h28=>?_) (fun h28=>?_)
  ·have h28':=of_decide_eq_true h28
   obtain ⟨c,rfl⟩:∃ c,k=c+1:=⟨k-1,by omega⟩
   rw [show (((c+1:Nat):Int)-1)=c by omega]
   obtain ⟨gb,off,cap,x,hgv,hx,hxc,hxr,hnx⟩:=Ys hG (show c<G.length by omega)
   have hxo:=Q7 hnx
   have hxg:=hg c _ hnx
   have hxs':=hxr.small
   replace hup:X9 (C6 G) c (DT (C6 G) c S)=GG (C6 G) G.length xs:=hup
   refine Ar (Ai (Aj (AB (Ad (Ah rfl (Ah rfl (Af (AA c rfl rfl AC AC AC) (AM (Ak rfl (H8 S AC)) (AI [0,5,7,34] rfl ?_)))))))))
   refine Aq rfl (fun h34=>?_) (fun h34=>?_)
   ·refine Ad (Au [0,5,7,8] rfl rfl (AB (B7 _ (Ju 0 rfl (Ju 5 rfl (Ju 7 rfl (Ju 8 rfl .nil)))) ?_)))
    have e0:EU G.length S=EU G.length (fun y=>S y||decide ((y:Int)∈x.2.take 0)):=Fp fun j _=>by simp
    rw [e0]
    refine B4 (ι:=Nat) (fun j env L=>env=[(0,v),(5,.slice (some ⟨b11,0,none⟩) G.length G.length),(7,.int .i64 (c:Nat)),(8,.int .i64 (j:Nat))]∧L=[B5 b11 4 (EU G.length (fun y=>S y||decide ((y:Int)∈x.2.take j))),ro μ]∧j≤x.2.length) (fun j=>x.2.length-j) 0 ⟨rfl,rfl,Nat.zero_le _⟩ ?_
    rintro j env L ⟨rfl,rfl,hj⟩
    refine Aj (Ad (Ah rfl (Ah rfl (Ah rfl ?_))))
    refine Af (AA (off+c*1) (congrArg some hgv) rfl AC AC (by rw [Int.toNat_natCast])) ?_
    refine AM (BJ rfl hxc) (Af (AW hxr rfl) (Af (Be rfl rfl) (AI [0,5,7,8,41] rfl ?_)))
    refine Aq rfl (fun h41=>?_) (fun h41=>?_)
    ·have h41':j<x.2.length:=by have:=of_decide_eq_true h41; omega
     obtain ⟨p,hp⟩:∃ p,x.2[j]? = some p:=⟨_,List.getElem?_eq_getElem h41'⟩
     obtain ⟨pb,poff,pcap,hpv,hpk⟩:=hxr.at_ hp
     have hpg:=hxg p (List.mem_of_getElem? hp)
     obtain ⟨i,rfl⟩:∃ i:Nat,p=i:=⟨p.toNat,by omega⟩
     refine Ar (Ai (Aj (AB (Am (Ah rfl (Ah rfl (Ah rfl ?_)))))))
     refine Af (AA (off+c*1) (congrArg some hgv) rfl AC AC (by rw [Int.toNat_natCast])) ?_
     refine AM (BJ rfl hxc) (Ah rfl ?_)
     refine Af (AA (poff+j*1) (congrArg some hpv) rfl AC AC (by rw [Int.toNat_natCast])) ?_
     refine AM (BJ rfl hpk) (Af (AA i rfl rfl AC AC AC) ?_)
     refine Bh (CB rfl rfl rfl (by rw [Ex]; omega)) ?_
     refine Bi [0,5,7,8] rfl ?_
     rw [Lb (T:=fun y=>S y||decide ((y:Int)∈x.2.take (j+1))) (fun y hy=>by
      rw [List.take_add_one,hp]
      by_cases e:y=i
      ·subst e; simp
      ·have:(y:Int)≠i:=by omega
       simp [e,this])]
     refine AJ (AV (Ai (Am (Ah rfl (Af (AQ ((j+1:Nat):Int) rfl rfl AC AC AC) (B2 rfl (Bi [0,5,7,8] rfl (AJ ?_))))))))
     exact Ai ⟨j+1,⟨rfl,rfl,h41'⟩,by omega⟩
    ·have h41':=of_decide_eq_false h41
     obtain rfl:j=x.2.length:=by omega
     have e1:EU G.length (fun y=>S y||decide ((y:Int)∈x.2.take x.2.length))=EU G.length (DT (C6 G) c S):=Fp fun j _=>by
      unfold DT; rw [h34,hxo,List.take_length,Bool.true_and]
     rw [e1]
     refine B3 (AU (AU (AY rfl (AV (Ai (Am (Ah rfl (Af (BH ((c:Nat)-1:Int) rfl rfl AC AC AC) (B2 rfl (Bi [0,5,7] rfl (AJ ?_)))))))))))
     exact Ai ⟨(c,DT (C6 G) c S),⟨rfl,rfl,by omega,hup⟩,by show c<c+1; omega⟩
   ·have e1:EU G.length S=EU G.length (DT (C6 G) c S):=Fp fun j _=>by unfold DT; rw [h34,Bool.false_and,Bool.or_false]
    rw [e1]
    refine Ar (AV (Ai (Am (Ah rfl (Af (BH ((c:Nat)-1:Int) rfl rfl AC AC AC) (B2 rfl (Bi [0,5,7] rfl (AJ ?_))))))))
    exact Ai ⟨(c,DT (C6 G) c S),⟨rfl,rfl,by omega,hup⟩,by show c<c+1; omega⟩
  ·refine B3 (AU (AU (AY rfl (Ai (Ad (Ah rfl (Au [4] rfl rfl (Av ?_))))))))
   have h28':=of_decide_eq_false h28
   obtain rfl:k=0:=by omega
   replace hup:S=GG (C6 G) G.length xs:=hup
   subst hup
   exact Aw [B5 b11 4 (EU G.length (GG (C6 G) G.length xs)),ro μ] (.tmp rfl .nil) ⟨b11,rfl,rfl⟩ AG
theorem Ov {n:Nat}{S T:Nat→Bool}(h:∀ k,k<n→S k=T k):BW n S=BW n T:=by
 unfold BW
 rw [List.filter_congr fun k hk=>h k (List.mem_range.1 hk)]
theorem Hx (n:Nat)(l m:List Int):Gl n [l,m]=if (L4 n l||L4 n m)=true then 9 else 0:=by
 unfold Gl L4
 cases h:l.all (LX n) <;> cases h2:m.all (LX n) <;> simp [h,h2]

theorem Rj (b n:Nat)(S:Nat→Bool)(hn:n≤1099511627776):Spec prog 227 [.slice (some ⟨b,0,none⟩) n n] [B5 b 4 (EU n S)] (fun r L=>L=[own 3 1 r (BW n S).length ((BW n S).flatMap (Bw .i64)),B5 b 4 (EU n S)]):=by
 refine Spec.of 20 func227 rfl rfl rfl ?_
 refine Ad (Au [0] rfl rfl (Ad (B2 rfl (Bi [0,3] rfl (C9 (own_nil_ent (e:=3) (n:=1)) (Dj (Aj (Ad (Au [0,3,4] rfl rfl (AB ?_))))))))))
 refine B4 (ι:=Value×Nat) (fun k env L=>env=[(0,.slice (some ⟨b,0,none⟩) n n),(3,k.1),(4,.int .i64 (k.2:Nat))]∧L=[own 3 1 k.1 (BW k.2 S).length ((BW k.2 S).flatMap (Bw .i64)),B5 b 4 (EU n S)]∧k.2≤n) (fun k=>n-k.2) (.slice none 0 0,0) ⟨rfl,rfl,Nat.zero_le _⟩ ?_
 rintro ⟨v3,j⟩ env L ⟨rfl,rfl,hj⟩
 dsimp only at hj ⊢
 refine Aj (Ad (Ah rfl (Ah rfl (Af (BD rfl) (Af (Be rfl rfl) (AI [0,3,4,8] rfl ?_))))))
 refine Aq rfl (fun h8=>?_) (fun h8=>?_)
 ·have h8':j<n:=by have:=of_decide_eq_true h8; omega
  refine Ar (Ai (Aj (AB (Ad (Ah rfl (Ah rfl (Af (AA j rfl rfl AC AC AC) (AM (Ak rfl (H8 S AC)) (AI [0,3,4,14] rfl ?_)))))))))
  refine Aq rfl (fun h14=>?_) (fun h14=>?_)
  ·have hle:=Oh j S
   refine Am (Ah rfl (Ah rfl (AE (Bs (qs:=[(0,_)]) rfl rfl rfl) (fun b17=>?_))))
   refine AE (Bj (l:=(BW j S).length) (m:=1) rfl rfl AG (by simp only [maxLen]; omega) AC) ?_
   rintro v' hv'
   skip
   refine B2 rfl (Bi [0,3,4] rfl ?_)
   have e1:(BW j S).length+1=(BW (j+1) S).length:=by rw [Ht h14,List.length_append]; rfl
   have e2:(BW j S).flatMap (Bw .i64)++[.int .i64 (j:Nat)]=(BW (j+1) S).flatMap (Bw .i64):=by rw [Ht h14,List.flatMap_append]; rfl
   rw [e1,e2]
   refine AJ (AV (Ai (Am (Ah rfl (Af (AQ ((j+1:Nat):Int) rfl rfl AC AC AC) (B2 rfl (Bi [0,3,4] rfl (AJ ?_))))))))
   exact Ai ⟨(_,j+1),⟨rfl,rfl,by omega⟩,by show n-(j+1)<n-j; omega⟩
  ·have e0:BW (j+1) S=BW j S:=Hs AC (fun i h1 h2=>by rw [show i=j by omega]; exact h14)
   rw [← e0]
   refine Ar (AV (Ai (Am (Ah rfl (Af (AQ ((j+1:Nat):Int) rfl rfl AC AC AC) (B2 rfl (Bi [0,3,4] rfl (AJ ?_))))))))
   exact Ai ⟨(_,j+1),⟨rfl,rfl,by omega⟩,by show n-(j+1)<n-j; omega⟩
 ·have h8':=of_decide_eq_false h8
  obtain rfl:j=n:=by omega
  refine B3 (AU (AU (AY rfl (Ai (Ad (Ah rfl (Au [2] rfl rfl (Av ?_))))))))
  exact Aw [own 3 1 v3 (BW j S).length ((BW j S).flatMap (Bw .i64)),B5 b 4 (EU j S)] (.tmp rfl .nil) rfl AG
set_option maxHeartbeats 1000000 in
theorem Tl (μ:PH)(A:Option Addr)(cap b:Nat)(G:List (Value×List Int))(S:Nat→Bool)(hG:Graph μ (.slice A G.length cap) G)(hbig:G.length≤1099511627776)(hg:E5 (C6 G)) :
  Spec prog 133 [.slice A G.length cap,.slice (some ⟨b,0,none⟩) G.length G.length] [B5 b 4 (EU G.length S),ro μ]
  (fun r L=>L=[own 3 1 r (BW G.length (Db (C6 G) S G.length)).length ((BW G.length (Db (C6 G) S G.length)).flatMap (Bw .i64)),ro μ]):=by
 refine Spec.of 44 func133 rfl rfl rfl ?_
 refine Ad (Au [0,1] rfl rfl (Ad (Ah rfl (Af (BD rfl) ?_))))
 refine AE (FK G.length rfl rfl rfl AC (by simp only [maxLen]; omega)) ?_
 rintro b10
 skip
 refine Au [0,1,5] rfl rfl (Ad (Ah rfl (Ah rfl ?_)))
 refine AE (ZG (EU G.length S) rfl rfl AG (by rw [Ex,Nat.mul_one]; exact (Nat.min_self _).symm) (fun j u h=>by rw [Nat.zero_add]; exact h) (Zl _ _) (by rw [Ex,List.length_replicate]; exact Nat.le_refl _)) ?_
 refine Bi [0,1,5] rfl ?_
 rw [List.drop_eq_nil_of_le (by rw [List.length_replicate,Ex]; exact Nat.le_refl _),List.append_nil]
 have e0:EU G.length S=EU G.length (Db (C6 G) S 0):=Fp fun j _=>by unfold Db; simp
 refine Dj (Aj (Ad (Au [0,1,5,6] rfl rfl (AB ?_))))
 refine AX (L':=[B5 b10 4 (EU G.length (Db (C6 G) S 0)),B5 b 4 (EU G.length S),ro μ]) (by rw [← e0]; exact Ent.refl _) ?_
 refine B4 (ι:=Nat) (fun c env L=>env=[(0,.slice A G.length cap),(1,.slice (some ⟨b,0,none⟩) G.length G.length),(5,.slice (some ⟨b10,0,none⟩) G.length G.length),(6,.int .i64 (c:Nat))]∧L=[B5 b10 4 (EU G.length (Db (C6 G) S c)),B5 b 4 (EU G.length S),ro μ]∧c≤G.length) (fun c=>G.length-c) 0 ⟨rfl,rfl,Nat.zero_le _⟩ ?_
 rintro c env L ⟨rfl,rfl,hc⟩
 refine Aj (Ad (Ah rfl (Ah rfl (Af (AW hG.1 rfl) (Af (Be rfl rfl) (AI [0,1,5,6,17] rfl ?_))))))
 refine Aq rfl (fun h17=>?_) (fun h17=>?_)
 ·have h17':c<G.length:=by have:=of_decide_eq_true h17; omega
  obtain ⟨gb,off,cap',hv,c1,c2,hr⟩:=hG.1.pos AC
  simp only [Value.slice.injEq,true_and] at hv
  obtain ⟨rfl,rfl⟩:=hv
  obtain ⟨x,hx,hxc,hxr,hxo,hxg⟩:=RT hG hg hr c h17'
  have hxs:=hxr.small
  refine Ar (Ai (Aj (AB (Ad (Au [0,1,5,6,7] rfl rfl (AB ?_))))))
  have e0:EU G.length (Db (C6 G) S c)=EU G.length (fun j=>Db (C6 G) S c j&&!(S c&&decide ((j:Int)∈x.2.take 0))):=Fp fun j _=>by simp
  rw [e0]
  refine B4 (ι:=Nat) (fun i env L=>env=[(0,.slice (some ⟨gb,off,none⟩) G.length cap),(1,.slice (some ⟨b,0,none⟩) G.length G.length),(5,.slice (some ⟨b10,0,none⟩) G.length G.length),(6,.int .i64 (c:Nat)),(7,.int .i64 (i:Nat))]∧L=[B5 b10 4 (EU G.length (fun j=>Db (C6 G) S c j&&!(S c&&decide ((j:Int)∈x.2.take i)))),B5 b 4 (EU G.length S),ro μ]∧i≤x.2.length) (fun i=>x.2.length-i) 0 ⟨rfl,rfl,Nat.zero_le _⟩ ?_
  rintro i env L ⟨rfl,rfl,hi⟩
  refine Aj (Ad (Ah rfl (Ah rfl (Ah rfl ?_))))
  refine Af (AA (off+c*1) rfl rfl AC AC (by rw [Int.toNat_natCast])) ?_
  refine AM (BJ rfl hxc) (Af (AW hxr rfl) (Af (Be rfl rfl) (AI [0,1,5,6,7,26] rfl ?_)))
  refine Aq rfl (fun h26=>?_) (fun h26=>?_)
  ·have h26':i<x.2.length:=by have:=of_decide_eq_true h26; omega
   obtain ⟨pb,poff,pcap,hpv,p1,p2,hpr⟩:=hxr.pos AC
   obtain ⟨p,hp⟩:∃ p,x.2[i]? = some p:=⟨_,List.getElem?_eq_getElem h26'⟩
   have hpk:=hpr.elem (FP .i64) hp
   have hpg:=hxg p (List.mem_of_getElem? hp)
   obtain ⟨k,rfl⟩:∃ k:Nat,p=k:=⟨p.toNat,by omega⟩
   refine Ar (Ai (Aj (AB (Ad (Ah rfl (Ah rfl (Af (AA c rfl rfl AC AC AC) (AM (Ak rfl (H8 S h17')) (AI [0,1,5,6,7,32] rfl ?_)))))))))
   refine Aq rfl (fun h32=>?_) (fun h32=>?_)
   ·refine Am (Ah rfl (Ah rfl (Ah rfl ?_)))
    refine Af (AA (off+c*1) rfl rfl AC AC (by rw [Int.toNat_natCast])) ?_
    refine AM (BJ rfl (hpv▸hxc)) (Ah rfl ?_)
    refine Af (AA (poff+i*1) rfl rfl AC AC (by rw [Int.toNat_natCast])) ?_
    refine AM (BJ rfl hpk.cell) (Af (AA k rfl rfl AC AC AC) ?_)
    refine Bh (CB rfl rfl rfl (by rw [Ex]; omega)) ?_
    refine Bi [0,1,5,6,7] rfl ?_
    rw [Lb (T:=fun j=>Db (C6 G) S c j&&!(S c&&decide ((j:Int)∈x.2.take (i+1)))) (fun y hy=>by
     rw [List.take_add_one,hp,h32]
     by_cases e:y=k
     ·subst e; simp
     ·have:(y:Int)≠k:=by omega
      simp [e,this])]
    refine AJ (AV (Ai (Am (Ah rfl (Af (AQ ((i+1:Nat):Int) rfl rfl AC AC AC) (B2 rfl (Bi [0,1,5,6,7] rfl (AJ ?_))))))))
    exact Ai ⟨i+1,⟨rfl,rfl,h26'⟩,by omega⟩
   ·have e1:EU G.length (fun j=>Db (C6 G) S c j&&!(S c&&decide ((j:Int)∈x.2.take i)))=EU G.length (fun j=>Db (C6 G) S c j&&!(S c&&decide ((j:Int)∈x.2.take (i+1)))):=Fp fun j _=>by rw [h32,Bool.false_and,Bool.false_and]
    rw [e1]
    refine Ar (AV (Ai (Am (Ah rfl (Af (AQ ((i+1:Nat):Int) rfl rfl AC AC AC) (B2 rfl (Bi [0,1,5,6,7] rfl (AJ ?_))))))))
    exact Ai ⟨i+1,⟨rfl,rfl,h26'⟩,by omega⟩
  ·have h26':=of_decide_eq_false h26
   obtain rfl:i=x.2.length:=by omega
   have e1:EU G.length (fun j=>Db (C6 G) S c j&&!(S c&&decide ((j:Int)∈x.2.take x.2.length)))=EU G.length (Db (C6 G) S (c+1)):=Fp fun j _=>by
    rw [RR,hxo,List.take_length]
   rw [e1]
   refine B3 (AU (AU (AY rfl (AV (Ai (Am (Ah rfl (Af (AQ ((c+1:Nat):Int) rfl rfl AC AC AC) (B2 rfl (Bi [0,1,5,6] rfl (AJ ?_)))))))))))
   exact Ai ⟨c+1,⟨rfl,rfl,h17'⟩,by omega⟩
 ·have h17':=of_decide_eq_false h17
  obtain rfl:c=G.length:=by omega
  refine B3 (AU (AU (AY rfl (Ai (Ad (Ah rfl ?_))))))
  refine AE (AF (Rj b10 G.length _ hbig) rfl rfl AG) ?_
  rintro v2 L1 rfl
  refine As (Au [4] rfl rfl (Av ?_))
  exact Aw [own 3 1 v2 (BW G.length (Db (C6 G) S G.length)).length ((BW G.length (Db (C6 G) S G.length)).flatMap (Bw .i64)),ro μ] (.tmp rfl .nil) rfl AG
def JT (S T:Nat→Bool)(i:Nat):Nat→Bool:=fun j=>S j&&(decide (i≤j)||T j)
set_option maxHeartbeats 1000000 in
theorem Rk (μ:PH)(v lv uv:Value)(G:List (Value×List Int))(xs ys:List Int)(hG:Graph μ v G)(hbig:G.length≤1048576)(hg:E5 (C6 G))(hv:Row μ lv 1 xs.length (xs.flatMap (Bw .i64)))(hu:Row μ uv 1 ys.length (ys.flatMap (Bw .i64))) :
  Spec prog 70 [v,lv,uv] [ro μ] (fun r L=>∃ rv,r=.tuple #[rv,.int .i64 (Fc (C6 G) xs ys)]∧L=[own 3 1 rv (C0 (C6 G) xs ys).length ((C0 (C6 G) xs ys).flatMap (Bw .i64)),ro μ]):=by
 have hln:(C6 G).length=G.length:=List.length_map _
 obtain ⟨Ag,cg,rfl⟩:=hG.1.sl
 refine Spec.of 47 func70 rfl rfl rfl ?_
 refine Ad (B2 rfl (Au [0,1,2] rfl rfl (Aj (Ad (Ah rfl (Ah rfl ?_))))))
 refine AE (AF (Hw _ lv G.length xs [ro μ] hG.1.sl (Ints.row hv)) rfl rfl AG) ?_
 rintro v13 L1 ⟨rfl,rfl⟩
 refine As (Ah rfl ?_)
 refine B9 14 rfl (fun h14=>?_) (fun h14=>?_)
 ·refine B1 rfl rfl rfl (B1 rfl rfl rfl (B1 rfl rfl rfl (Af (Bc rfl rfl) (AI [0,1,2,18] rfl ?_))))
  refine Aq rfl (fun h18=>?_) (fun h18=>by cases h18)
  refine Ad (B2 rfl (Au [6,7] rfl rfl (Av (AZ ?_))))
  have he:Fc (C6 G) xs ys=9:=by rw [Fc,Hx,hln,h14]; rfl
  refine B6 [own 3 1 (.slice none 0 0) (C0 (C6 G) xs ys).length ((C0 (C6 G) xs ys).flatMap (Bw .i64)),ro μ] (.tmp rfl (.tmp rfl .nil)) ⟨_,by rw [he]; rfl,rfl⟩ ?_
  rw [C0,if_neg (by rw [he]; decide)]
  exact own_nil_ent
 ·refine AS rfl rfl (Ah rfl (AS rfl rfl (Ah rfl (AS rfl rfl ?_))))
  refine AE (AF (Hw _ uv G.length ys [ro μ] hG.1.sl (Ints.row hu)) rfl rfl AG) ?_
  rintro v17 L1 ⟨rfl,rfl⟩
  refine As (Af (B0 rfl rfl) (AI [0,1,2,18] rfl ?_))
  refine Aq rfl (fun h18=>?_) (fun h18=>?_)
  ·refine Ad (B2 rfl (Au [6,7] rfl rfl (Av (AZ ?_))))
   have he:Fc (C6 G) xs ys=9:=by rw [Fc,Hx,hln,h18,Bool.or_true]; rfl
   refine B6 [own 3 1 (.slice none 0 0) (C0 (C6 G) xs ys).length ((C0 (C6 G) xs ys).flatMap (Bw .i64)),ro μ] (.tmp rfl (.tmp rfl .nil)) ⟨_,by rw [he]; rfl,rfl⟩ ?_
   rw [C0,if_neg (by rw [he]; decide)]
   exact own_nil_ent
  ·have he:Fc (C6 G) xs ys=0:=by rw [Fc,Hx,hln,h14,h18]; rfl
   have hx:=IJ (l:=xs) he (by simp)
   have hy:=IJ (l:=ys) he (by simp)
   rw [hln] at hx hy
   refine Ar (Ai (Ad (Ah rfl (Ah rfl ?_))))
   refine AE (AF (Ri μ _ lv G xs hG AC hg hv hx) rfl rfl AG) ?_
   rintro v21 L1 ⟨c,rfl,rfl⟩
   refine As (Au [0,2,8] rfl rfl (Ad (Ah rfl (Ah rfl ?_))))
   refine AE (AF (Ri μ _ uv G ys hG AC hg hu hy) rfl rfl AG) ?_
   rintro v24 L1 ⟨d,rfl,rfl⟩
   refine As (Au [0,8,9] rfl rfl (Aj (Aj ?_)))
   generalize hA:GG (C6 G) G.length xs=A at *
   generalize hB:GG (C6 G) G.length ys=B at *
   rw [show EU G.length A=EU G.length (JT A B 0) from Fp fun j _=>by simp [JT]]
   refine Am (Au [0,8,9,10] rfl rfl (AB ?_))
   refine AX (Split.ent' (K:=[B5 c 4 (EU G.length (JT A B 0)),B5 d 4 (EU G.length B),ro μ]) AG) ?_
   refine B4 (ι:=Nat) (fun i env L=>env=[(0,.slice Ag G.length cg),(8,.slice (some ⟨c,0,none⟩) G.length G.length),(9,.slice (some ⟨d,0,none⟩) G.length G.length),(10,.int .i64 (i:Nat))]∧L=[B5 c 4 (EU G.length (JT A B i)),B5 d 4 (EU G.length B),ro μ]∧i≤G.length) (fun i=>G.length-i) 0 ⟨rfl,rfl,Nat.zero_le _⟩ ?_
   rintro i env L ⟨rfl,rfl,hi⟩
   refine Aj (Ad (Ah rfl (Ah rfl (Af (BD rfl) (Af (Be rfl rfl) (AI [0,8,9,10,28] rfl ?_))))))
   refine Aq rfl (fun h28=>?_) (fun h28=>?_)
   ·have h28':i<G.length:=by have:=of_decide_eq_true h28; omega
    have hst:∀ z:Bool,z=(A i&&B i)→(EU G.length (JT A B i)).set i (.bool z)=EU G.length (JT A B (i+1)):=fun z hz=>Lb (fun j _=>by
     by_cases e:j=i
     ·subst e; rw [if_pos rfl,hz]; unfold JT; rw [decide_eq_false (show ¬ j+1≤j by omega),Bool.false_or]
     ·rw [if_neg e]
      unfold JT
      rw [show decide (i+1≤j)=decide (i≤j) by rw [Bool.eq_iff_iff,decide_eq_true_eq,decide_eq_true_eq]; omega])
    have hci:JT A B i i=A i:=by unfold JT; rw [decide_eq_true (Nat.le_refl i)]; simp
    refine Ar (Ai (Aj (AB (Am (Ah rfl (Ah rfl (Ah rfl (Ah rfl (Af (AA i rfl rfl AC AC AC) (AM (Ak rfl (H8 _ h28')) (Ah rfl ?_)))))))))))
    refine B9 37 rfl (fun h37=>?_) (fun h37=>?_)
    ·refine AS rfl rfl (Ah rfl (AS rfl rfl (Ah rfl (AS rfl rfl (Af (AA i rfl rfl AC AC AC) (AS rfl rfl (AM (Ak rfl (H8 _ h28')) (Af (Bc rfl rfl) (Af (AA i rfl rfl AC AC AC) ?_)))))))))
     refine Bh (CB rfl rfl rfl (by rw [Ex]; omega)) ?_
     refine Bi [0,8,9,10] rfl ?_
     rw [hst _ (by rw [← hci,h37,Bool.true_and])]
     refine AJ (AV (Ai (Am (Ah rfl (Af (AQ ((i+1:Nat):Int) rfl rfl AC AC AC) (B2 rfl (Bi [0,8,9,10] rfl (AJ ?_))))))))
     exact Ai ⟨i+1,⟨rfl,rfl,h28'⟩,by omega⟩
    ·refine B1 rfl rfl rfl (B1 rfl rfl rfl (B1 rfl rfl rfl (B1 rfl rfl rfl (Af (B0 rfl rfl) (Af (AA i rfl rfl AC AC AC) ?_)))))
     refine Bh (CB rfl rfl rfl (by rw [Ex]; omega)) ?_
     refine Bi [0,8,9,10] rfl ?_
     rw [hst _ (by rw [← hci,h37]; rfl)]
     refine AJ (AV (Ai (Am (Ah rfl (Af (AQ ((i+1:Nat):Int) rfl rfl AC AC AC) (B2 rfl (Bi [0,8,9,10] rfl (AJ ?_))))))))
     exact Ai ⟨i+1,⟨rfl,rfl,h28'⟩,by omega⟩
   ·have h28':=of_decide_eq_false h28
    obtain rfl:i=G.length:=by omega
    refine B3 (AU (AU (AY rfl (Ai (Ad (Ah rfl (Ah rfl ?_)))))))
    refine AE (AF (Tl μ Ag cg c G (JT A B G.length) hG AC hg) rfl rfl AG) ?_
    rintro v46 L1 rfl
    refine As (B2 rfl (Au [6,7] rfl rfl (Av ?_)))
    refine B6 [own 3 1 v46 (C0 (C6 G) xs ys).length ((C0 (C6 G) xs ys).flatMap (Bw .i64)),ro μ] (.tmp rfl (.tmp rfl .nil)) ⟨_,by rw [he]; rfl,rfl⟩ ?_
    have e1:BW G.length (Db (C6 G) (JT A B G.length) G.length)=C0 (C6 G) xs ys:=by
     rw [C0,if_pos he]
     unfold Gm
     rw [hln]
     refine Ov fun k hk=>?_
     have e2:∀ j,j<G.length→JT A B G.length j=HB (C6 G) xs ys j:=fun j hj=>by
      unfold JT HB
      rw [hln,hA,hB,decide_eq_false (show ¬ G.length≤j by omega),Bool.false_or]
     unfold Db
     rw [e2 k hk]
     congr 2
     rw [Bool.eq_iff_iff,List.any_eq_true,List.any_eq_true]
     exact ⟨fun ⟨y,h1,h2⟩=>⟨y,h1,by rwa [← e2 y (List.mem_range.1 h1)]⟩,fun ⟨y,h1,h2⟩=>⟨y,h1,by rwa [e2 y (List.mem_range.1 h1)]⟩⟩
    rw [← e1]
    exact Split.ent' AG
theorem Wn (limit:Int)(L0:List AK):Spec prog 38 [.int .i64 limit] L0 (fun r L=>r=.int .i64 (min (max limit 0) 4096)∧L=L0):=by
 refine Spec.of 6 func38 rfl rfl rfl ?_
 refine Ad (Au [0] rfl rfl (Ad (Ah rfl (Af (Ea rfl rfl) (Af (DE rfl rfl) (Au [2] rfl rfl (Av ?_)))))))
 exact B6 L0 (.tmp rfl .nil) ⟨rfl,rfl⟩ (Ent.refl _)
structure DM (W:VWt) (vg vT:Value) (G:List (Value×List Int)) (T:List (Value×List En)) (μ:PH):Prop where
 hG:Graph μ vg G
 hn:C6 G=W.g
 hT:Row μ vT 1 T.length (T.flatMap Y2)
 hTr:∀ x∈T,Row μ x.1 2 x.2.length (Ci x.2)
 hTn:T.map (·.2)=(List.range W.n).map W.tr
theorem DM.le{W:VWt}{vg vT:Value}{G:List (Value×List Int)}{T:List (Value×List En)}{μ μ':PH}(h:DM W vg vT G T μ)(k:Le μ μ'):DM W vg vT G T μ':=⟨h.hG.le k,h.hn,h.hT.le k,fun x hx=>(h.hTr x hx).le k,h.hTn⟩
structure VK (W:VWt):Prop where
 gd:E5 W.g
 n16:W.n≤16
 ok:∀ c:Nat,c<W.n→TOk W.U (W.tr c)
 len:W.U.length≤480
theorem VWt.vk{W:VWt}{μ:PH}(h:W.Ok μ)(hg:TG W):VK W:=⟨K6 h.s.gc.more,by have:=h.s.gc.len; rwa [← List.length_map (f:=(·.1))] at this,fun _ hc=>Il hg h hc,hg.len⟩
section
variable {W:VWt} {vg vT:Value} {G:List (Value×List Int)} {T:List (Value×List En)} (hk:VK W)
include hk
theorem DM.tree{μ:PH}(h:DM W vg vT G T μ){c:Int}(hc:0≤c∧c<(W.n:Int)):∃ b off cap u,vT=.slice (some ⟨b,off,none⟩) T.length cap∧CellAt μ b (off+c.toNat*1) u∧c<(T.length:Int)∧Row μ u 2 (VT W c).length (Ci (VT W c))∧TOk W.U (VT W c):=by
 have hl:T.length=W.n:=by have:=congrArg List.length h.hTn; rwa [List.length_map,List.length_map,List.length_range] at this
 have hlt:c.toNat<T.length:=by omega
 obtain ⟨b,off,cap,hv,_,_,hr⟩:=h.hT.pos AC
 have ht:T[c.toNat]? = some T[c.toNat]:=List.getElem?_eq_getElem hlt
 have e:VT W c=(T[c.toNat]).2:=by
  have h1:=congrArg (·[c.toNat]?) h.hTn
  simp only [List.getElem?_map,ht,List.getElem?_range (show c.toNat<W.n by omega),Option.map_some] at h1
  exact (Option.some.inj h1).symm
 refine ⟨b,off,cap,_,hv,(hr.elem (f:=Y2) (n:=1) (fun _=>rfl) ht).cell,by omega,?_,hk.ok c.toNat AC⟩
 rw [e]; exact h.hTr _ (List.getElem_mem hlt)
def A21 (W:VWt)(vg vT:Value)(m:Nat)(xv:Value)(x:List Int)(R:Option (List En×Bool)×Nat)(steps left:Nat)(μ:PH)(r:Value)(L:List AK):Prop :=
 ∃ μ',Le μ μ'∧((R.1=none∧r=.tuple #[.slice none 0 0,.bool false,.bool false]∧∃ a b:Value,L=[own 3 1 xv x.length (E8 x),B5 m 107 [vg,vT,a,b],ro μ']) ∨
  ∃ (t:List En) (ok:Bool) (l:Nat) (tv:Value),R=(some (t,ok),l)∧l≤left∧r=.tuple #[tv,.bool ok,.bool true]∧Row μ' tv 2 t.length (Ci t)∧TOk W.U t∧L=[own 3 1 xv x.length (E8 x),B5 m 107 [vg,vT,.int .i64 (l:Nat),.int .i64 ((steps+left-l:Nat):Int)],ro μ'])
set_option maxHeartbeats 4000000 in
theorem A0k(m:Nat):∀ (left:Nat) (μ:PH) (_:DM W vg vT G T μ) (steps:Nat) (_:steps+left≤4096) (xv:Value) (x:List Int) (y:Int) (_:x.length≤100000),
  Spec prog 39 [.pointer (some ⟨m,0,none⟩),xv,.int .i64 y] [own 3 1 xv x.length (E8 x),B5 m 107 [vg,vT,.int .i64 (left:Nat),.int .i64 (steps:Nat)],ro μ] (A21 W vg vT m xv x (D7 (VS W) (VT W) VM [] left x y) steps left μ):=by
 intro left
 refine Nat.strongRecOn left fun left ih=>fun μ hW steps hst xv x y hxl=>?_
 have hgl:G.length=W.n:=by have:=congrArg List.length hW.hn; rwa [show (C6 G).length=G.length from List.length_map _] at this
 have h16:=hk.n16
 have hrs:∀ μ2,Le μ μ2→∀ lv uv xs ys,Row μ2 lv 1 xs.length (E8 xs)→Row μ2 uv 1 ys.length (E8 ys)→Spec prog 70 [vg,lv,uv] [ro μ2] (fun r L=>∃ rv,r=.tuple #[rv,.int .i64 (Fc W.g xs ys)]∧L=[own 3 1 rv (C0 W.g xs ys).length (E8 (C0 W.g xs ys)),ro μ2]):=fun μ2 k lv uv xs ys h1 h2=>by
  have:=Rk μ2 vg lv uv G xs ys (hW.hG.le k) AC (by rw [hW.hn]; exact hk.gd) h1 h2
  rwa [hW.hn] at this
 refine Spec.of 106 func39 rfl rfl rfl ?_
 refine Ad (B2 rfl (B2 rfl (Au [0,1,2] rfl rfl (Aj (Ad (Ah rfl (Af (Al rfl) (Af (Ae rfl) (AM (Ak rfl rfl) (Af (Bo rfl rfl) (AI [0,1,2,21] rfl ?_)))))))))))
 refine Aq rfl (fun h21=>?_) (fun h21=>?_)
 ·refine Ad (B2 rfl (B2 rfl (Au [6,7,8] rfl rfl (Av (AZ ?_)))))
  have h0:left=0:=by have:=of_decide_eq_true h21; omega
  refine Aw [own 3 1 xv x.length (E8 x),B5 m 107 [vg,vT,.int .i64 (left:Nat),.int .i64 (steps:Nat)],ro μ] (.tmp rfl (.tmp rfl (.tmp rfl .nil))) ⟨μ,Le.refl _,.inl ⟨by rw [DI,if_pos h0],rfl,_,_,rfl⟩⟩ AG
 ·have h0:left≠0:=by have:=of_decide_eq_false h21; omega
  have hv0:=DI (VS W) (VT W) VM [] left x y
  rw [if_neg h0] at hv0
  refine Ar (Ai (Ad (Ah rfl (Af (Al rfl) (Af (Ae rfl) (AM (Ak rfl rfl) (Af (BH ((left-1:Nat):Int) rfl rfl AC AC AC) (Af (Al rfl) (Af (Ae rfl) (Bh (Ba rfl rfl rfl) (AI [0,1,2] rfl (Ad (Ah rfl (Af (Al rfl) (Af (Ae rfl) (AM (Ak rfl rfl) (Af (AQ ((steps+1:Nat):Int) rfl rfl AC AC AC) (Af (Al rfl) (Af (Ae rfl) (Bh (Ba rfl rfl rfl) (AI [0,1,2] rfl (Ad (Ah rfl (Af (Al rfl) (Af (Ae rfl) (AM (Ak rfl rfl) (Ah rfl (Ah rfl (AE (Bs (qs:=[(0,_)]) rfl rfl rfl) (fun b43=>?_))))))))))))))))))))))))))))))
  refine ER (b:=b43) (μ:=μ) AG fun μ1 h1 k43=>?_
  have r43:Row μ1 (.slice (some ⟨b43,0,none⟩) 1 1) 1 1 (E8 [y]):=Ed (n:=1) (l:=1) (cs:=[y].flatMap (Bw .i64)) k43 (by rfl) (by decide)
  refine P9 (v:=xv) (μ:=μ1) AG fun μ2 h2 rx hback=>?_
  refine AE (AF (hrs μ2 (h1.trans h2) xv _ x [y] rx (r43.le h2)) rfl rfl AG) ?_
  rintro v44 L1 ⟨lv,rfl,rfl⟩
  refine As ?_
  obtain ⟨μ3,h3,hb⟩:=hback μ2 (Le.refl _)
  refine C9 (Split.ent' (K:=[ro μ2,own 3 1 lv (C0 W.g x [y]).length (E8 (C0 W.g x [y])),B5 m 107 [vg,vT,.int .i64 ((left-1:Nat):Int),.int .i64 ((steps+1:Nat):Int)]]) AG) ?_
  refine C9 (hb _) ?_
  have hin:∀ c∈C0 W.g x [y],0≤c∧c<(W.n:Int):=fun c hc=>Oo hc
  have hll:(C0 W.g x [y]).length≤W.n:=Oq _ _ _
  rw [show VS W x y=C0 W.g x [y] from rfl] at hv0
  generalize C0 W.g x [y]=ls at *
  refine C4 (v:=lv) (μ:=μ3) AG fun μ4 h4 rl=>?_
  have l4:Le μ μ4:=h1.trans (h3.trans h4)
  have hW4:=hW.le l4
  refine Ah rfl (Af (Ax rfl) (Af (Ax rfl) (B2 rfl (Au [0,9] rfl rfl (Aj (Ad (Ah rfl (Af (AW rl rfl) (Af (Bo rfl rfl) (AI [0,9,49] rfl ?_))))))))))
  refine Aq rfl (fun h49=>?_) (fun h49=>?_)
  ·obtain rfl:ls=[]:=List.eq_nil_of_length_eq_zero (by have:=of_decide_eq_true h49; omega)
   refine Ad (B2 rfl (B2 rfl (Au [6,7,8] rfl rfl (Av (AZ ?_)))))
   refine Aw [own 3 1 xv x.length (E8 x),B5 m 107 [vg,vT,.int .i64 ((left-1:Nat):Int),.int .i64 ((steps+1:Nat):Int)],ro μ4] (.tmp rfl (.tmp rfl (.tmp rfl .nil))) ⟨μ4,l4,.inr ⟨[],false,left-1,_,hv0,by omega,rfl,Row.nil _ _,TOk.nil _,?_⟩⟩ AG
   rw [show steps+left-(left-1)=steps+1 by omega]
  ·obtain ⟨b,l',rfl⟩:∃ b l',ls=b::l':=by
    cases ls with
    | nil=>cases h49
    | cons b l'=>exact ⟨b,l',rfl⟩
   obtain ⟨pb,po,pc,hpv,hpc⟩:=rl.at_ (i:=0) rfl
   obtain ⟨tb,to,tc,u,hTv,hTc,hTl,hTr,hTO⟩:=DM.tree hk hW4 (hin b List.mem_cons_self)
   have hb0:=hin b List.mem_cons_self
   dsimp only at hv0
   generalize hR:Dm (VT W) VM (D7 (VS W) (VT W) VM []) l' [b] (VT W b) (left-1)=R at hv0
   refine Ar (Ai (Ad (Ah rfl ?_)))
   refine Af (AA (po+0*1) (congrArg some hpv) rfl AC (by simp only [List.length_cons]; omega) rfl) ?_
   refine AM (BJ rfl hpc) (AE (Bs (qs:=[(0,_)]) rfl rfl rfl) (fun b53=>?_))
   refine Au [0,9,11] rfl rfl (Aj ?_)
   refine Bb [3,6,8] _ [] (by simp only [List.append_nil]; exact Ent.refl _) AP ?_
   refine AD 0 rfl (AH rfl) (AD 1 rfl (Al rfl) (AD 2 rfl (Ae rfl) (Bl 3 rfl (Ak rfl rfl) rfl (AD 4 rfl (AH rfl) ?_))))
   refine AD 5 rfl (AA (po+0*1) (congrArg some hpv) rfl AC (by simp only [List.length_cons]; omega) rfl) ?_
   refine Bl 6 rfl (BJ rfl hpc) rfl (AD 7 rfl (AA (to+b.toNat*1) (congrArg some hTv) rfl AC AC rfl) (Bl 8 rfl (BJ rfl hTc) rfl (AD 9 rfl (Bf rfl) (BZ [0,9,11,12] rfl (De AP (Ai (Aj (Ad (Au [0,9,11,12,13] rfl rfl (AB ?_))))))))))
   refine AX (L':=[own 3 1 (.slice (some ⟨b53,0,none⟩) 1 1) 1 (E8 [b]),own 3 1 xv x.length (E8 x),B5 m 107 [vg,vT,.int .i64 ((left-1:Nat):Int),.int .i64 ((steps+1:Nat):Int)],ro μ4]) ((Split.ent' (K:=[B5 b53 3 [.int .i64 b],own 3 1 xv x.length (E8 x),B5 m 107 [vg,vT,.int .i64 ((left-1:Nat):Int),.int .i64 ((steps+1:Nat):Int)],ro μ4]) AG).trans (show Ent (B5 b53 3 (E8 [b]++[])::_) _ from DB rfl rfl (Nat.le_refl _) (by decide))) ?_
   refine B4 (ι:=Nat) (fun i env L=>∃ (nv tv:Value) (t:List En) (cur:Nat) (μ5:PH),Sub env [(0,.pointer (some ⟨m,0,none⟩)),(9,lv),(11,nv),(12,tv),(13,.int .i64 (i:Nat))]∧L=[own 3 1 nv i (E8 ((b::l').take i)),own 3 1 xv x.length (E8 x),B5 m 107 [vg,vT,.int .i64 (cur:Nat),.int .i64 ((steps+left-cur:Nat):Int)],ro μ5]∧Le μ4 μ5∧cur<left∧Row μ5 tv 2 t.length (Ci t)∧TOk W.U t∧1≤i∧i≤(b::l').length∧Dm (VT W) VM (D7 (VS W) (VT W) VM []) ((b::l').drop i) ((b::l').take i) t cur=R) (fun i=>(b::l').length-i) 1
    ⟨.slice (some ⟨b53,0,none⟩) 1 1,u,VT W b,left-1,μ4,⟨rfl,rfl,rfl,rfl,rfl,trivial⟩,by rw [show steps+left-(left-1)=steps+1 by omega]; rfl,Le.refl _,by omega,hTr,hTO,Nat.le_refl _,by simp only [List.length_cons]; omega,hR⟩ ?_
   rintro i env L ⟨nv,tv,t,cur,μ5,hsub,rfl,h5,hcur,rt,ht,hi1,hi,hinv⟩
   refine B7 _ hsub ?_
   clear hsub env
   refine Aj (Ad (Ah rfl (Ah rfl (Af (AW (rl.le h5) rfl) (Af (Be rfl rfl) (AI [0,9,11,12,13,66] rfl ?_))))))
   refine Aq rfl (fun h66=>?_) (fun h66=>?_)
   ·have h66':i<(b::l').length:=by have:=of_decide_eq_true h66; omega
    obtain ⟨c,hc⟩:∃ c,(b::l')[i]? = some c:=⟨_,List.getElem?_eq_getElem h66'⟩
    obtain ⟨pb,po,pc,hpv,hpc⟩:=(rl.le h5).at_ hc
    have hcr:=hin c (List.mem_of_getElem? hc)
    have hdr:(b::l').drop i=c::(b::l').drop (i+1):=by rw [List.drop_eq_getElem_cons h66']; congr 1; rw [List.getElem?_eq_getElem h66'] at hc; exact Option.some.inj hc
    have htk:(b::l').take (i+1)=(b::l').take i++[c]:=by rw [List.take_add_one,hc]; rfl
    have htl:((b::l').take i).length=i:=List.length_take_of_le hi
    rw [hdr,Dm] at hinv
    refine Ar (Ai (Aj (AB (Ad (Ah rfl (Ah rfl (Ah rfl (Ah rfl ?_))))))))
    refine Af (AA (po+i*1) (congrArg some hpv) rfl AC AC (by rw [Int.toNat_natCast])) ?_
    refine AM (BJ rfl hpc) ?_
    have hspec:=ih cur hcur μ5 (hW4.le h5) (steps+left-cur) AC nv ((b::l').take i) c (by rw [htl]; omega)
    rw [htl] at hspec
    refine AE (AF hspec rfl rfl AG) ?_
    rintro v76 L1 ⟨μ6,h6,hp⟩
    have hp2:∃ (o1:Value) (o2 o3:Bool) (a b2:Value),v76=.tuple #[o1,.bool o2,.bool o3]∧L1=[own 3 1 nv ((b::l').take i).length (E8 ((b::l').take i)),B5 m 107 [vg,vT,a,b2],ro μ6]∧((o3=false∧(D7 (VS W) (VT W) VM [] cur ((b::l').take i) c).1=none)∨(o3=true∧∃ (t2:List En) (l2:Nat),D7 (VS W) (VT W) VM [] cur ((b::l').take i) c=(some (t2,o2),l2)∧l2≤cur∧Row μ6 o1 2 t2.length (Ci t2)∧TOk W.U t2∧a=.int .i64 (l2:Nat)∧b2=.int .i64 ((steps+left-cur+cur-l2:Nat):Int))):=by
     rcases hp with ⟨q1,q2,a,b2,q3⟩ | ⟨t2,ok2,l2,tv2,q1,q2,q3,q4,q5,q6⟩
     ·exact ⟨_,false,false,a,b2,q2,q3,.inl ⟨rfl,q1⟩⟩
     ·exact ⟨tv2,ok2,true,_,_,q3,q6,.inr ⟨rfl,t2,l2,q1,q2,q4,q5,rfl,rfl⟩⟩
    clear hp
    obtain ⟨o1,o2,o3,a,b2,rfl,rfl,hp⟩:=hp2
    rw [htl]
    refine As (Ah rfl (Af (Ax rfl) (Af (Ax rfl) (Af (Ax rfl) (B2 rfl (B2 rfl (Au [0,9,11,12,13,14,16] rfl rfl (Aj (Ad (Ah rfl (Af (Cd rfl) (AI [0,9,11,12,13,14,81] rfl ?_))))))))))))
    refine Aq rfl (fun h81=>?_) (fun h81=>?_)
    ·have hp':(D7 (VS W) (VT W) VM [] cur ((b::l').take i) c).1=none:=by
      rcases hp with ⟨_,q⟩ | ⟨rfl,_⟩
      ·exact q
      ·cases h81
     refine Ad (B2 rfl (B2 rfl (Au [6,7,8] rfl rfl (Av (AZ (Bg (AZ (AZ (Bg (AZ ?_))))))))))
     refine Aw [own 3 1 xv x.length (E8 x),B5 m 107 [vg,vT,a,b2],ro μ6] (.tmp rfl (.tmp rfl (.tmp rfl .nil))) ⟨μ6,l4.trans (h5.trans h6),.inl ⟨?_,rfl,_,_,rfl⟩⟩ AG
     rw [hv0]
     generalize D7 (VS W) (VT W) VM [] cur ((b::l').take i) c=q at hinv hp'
     obtain ⟨q1,q2⟩:=q
     dsimp only at hp'
     subst hp'
     dsimp only at hinv
     rw [← hinv]
    ·obtain ⟨t2,l2,q1,q2,q3,q4,rfl,rfl⟩:∃ (t2:List En) (l2:Nat),D7 (VS W) (VT W) VM [] cur ((b::l').take i) c=(some (t2,o2),l2)∧l2≤cur∧Row μ6 o1 2 t2.length (Ci t2)∧TOk W.U t2∧a=.int .i64 (l2:Nat)∧b2=.int .i64 ((steps+left-cur+cur-l2:Nat):Int):=by
      rcases hp with ⟨rfl,_⟩ | ⟨_,q⟩
      ·cases h81
      ·exact q
     clear hp
     rw [q1] at hinv
     dsimp only at hinv
     rw [← htk] at hinv
     have hW6:=hW4.le (h5.trans h6)
     obtain ⟨tb2,to2,tc2,u2,hTv2,hTc2,hTl2,hTr2,hTO2⟩:=DM.tree hk hW6 hcr
     have hU:=hk.len
     refine Ar (Ai (Aj ?_))
     refine Bb [5,9,11] ([B5 m 107 [vg,vT,.int .i64 (l2:Nat),.int .i64 ((steps+left-cur+cur-l2:Nat):Int)],ro μ6]) ([own 3 1 nv i (E8 ((b::l').take i)),own 3 1 xv x.length (E8 x)]) (Split.ent AG) AP ?_
     refine AD 0 rfl (AH rfl) (AD 1 rfl (AH rfl) (AD 2 rfl (AH rfl) (AD 3 rfl (Al rfl) (AD 4 rfl (Ae rfl) (Bl 5 rfl (Ak rfl rfl) rfl (AD 6 rfl (AH rfl) (AD 7 rfl (AH rfl) ?_)))))))
     refine AD 8 rfl (AA (po+i*1) (congrArg some hpv) rfl AC AC (by rw [Int.toNat_natCast])) ?_
     refine Bl 9 rfl (BJ rfl (hpc.le h6)) rfl (AD 10 rfl (AA (to2+c.toNat*1) (congrArg some hTv2) rfl AC AC rfl) (Bl 11 rfl (BJ rfl hTc2) rfl ?_))
     refine BX 12 rfl AP AP (AF (KP μ6 o1 tv u2 t2 t (VT W c) q3 (rt.le h6) hTr2 ⟨by have:=q4.len; omega,by have:=ht.len; omega,by have:=hTO2.len; omega⟩ ⟨q4.u32,ht.u32,hTO2.u32⟩) rfl rfl AG) ?_
     rintro v95 L1 ⟨v8,v9,rs,hrs,rfl,rfl⟩
     refine C5 ?_
     have hVM:CG rs=VM t2 t (VT W c):=by rw [hrs,NX q4.good.1 ht.good.1 hTO2.good.1 (Nat.le_refl _)]; rfl
     rw [hVM]
     clear hrs hVM
     refine AD 13 rfl (AH rfl) (AD 14 rfl (Ax rfl) (AD 15 rfl (Ax rfl) (AD 16 rfl (Bf rfl) (BZ [0,9,11,12,13] rfl (Bv AP (Ai ?_))))))
     refine BA (e:=111) (n:=2) (v:=v8) (μ:=μ6) AG fun μ7 h7 rt7=>?_
     refine Am (Ah rfl (Ah rfl (Ah rfl ?_)))
     refine Af (AA (po+i*1) (congrArg some hpv) rfl AC AC (by rw [Int.toNat_natCast])) ?_
     refine AM (BJ rfl (hpc.le (h6.trans h7))) (AE (Bs (qs:=[(0,_)]) rfl rfl rfl) (fun b103=>?_))
     refine AE (Bj (l:=i) (m:=1) rfl rfl AG (by simp only [maxLen]; omega) AC) ?_
     rintro v' hv'
     skip
     refine B2 rfl (Bi [0,9,11,12,13] rfl (AJ (AV (Ai (Am ?_)))))
     refine C9 (Split.ent' (K:=[own 3 1 v' (i+1) (E8 ((b::l').take i)++[.int .i64 c]),own 3 1 xv x.length (E8 x),B5 m 107 [vg,vT,.int .i64 (l2:Nat),.int .i64 ((steps+left-cur+cur-l2:Nat):Int)],ro μ7]) AG) ?_
     refine Ah rfl (Af (AQ ((i+1:Nat):Int) rfl rfl AC AC AC) (B2 rfl (Bi [0,9,11,12,13] rfl (AJ ?_))))
     refine Ai ⟨i+1,⟨_,_,VM t2 t (VT W c),l2,μ7,⟨rfl,rfl,rfl,rfl,rfl,trivial⟩,?_,h5.trans (h6.trans h7),by omega,rt7,q4.merge ht hTO2,by omega,by omega,hinv⟩,by show (b::l').length-(i+1)<(b::l').length-i; omega⟩
     rw [htk,show steps+left-cur+cur-l2=steps+left-l2 by omega,show E8 ((b::l').take i++[c])=E8 ((b::l').take i)++[.int .i64 c] from List.flatMap_append]
   ·have h66':=of_decide_eq_false h66
    obtain rfl:i=(b::l').length:=by omega
    rw [List.drop_length,Dm] at hinv
    refine B3 (AU (AU (AY rfl (Ai (Ad (Ah rfl (B2 rfl (B2 rfl (Au [6,7,8] rfl rfl (Av ?_))))))))))
    refine Aw [own 3 1 xv x.length (E8 x),B5 m 107 [vg,vT,.int .i64 (cur:Nat),.int .i64 ((steps+left-cur:Nat):Int)],ro μ5] (.tmp rfl (.tmp rfl (.tmp rfl .nil))) ⟨μ5,l4.trans h5,.inr ⟨t,true,cur,_,?_,by omega,rfl,rt,ht,rfl⟩⟩ AG
    rw [hv0,← hinv]
set_option maxHeartbeats 4000000 in
theorem Tm (μ:PH)(hW:DM W vg vT G T μ)(a b limit:Int) :
  Spec prog 14 [vg,vT,.int .i64 a,.int .i64 b,.int .i64 limit] [ro μ] (fun r L=>∃ tv μ',Le μ μ'∧r=.tuple #[tv,.bool (BB W a b limit).2.1,.int .i64 (BB W a b limit).2.2.1,.int .i64 (BB W a b limit).2.2.2]∧Row μ' tv 2 (BB W a b limit).1.length (Ci (BB W a b limit).1)∧TOk W.U (BB W a b limit).1∧L=[ro μ']):=by
 obtain ⟨lim,hlim⟩:∃ k:Nat,min (max limit 0) 4096=(k:Int):=⟨(min (max limit 0) 4096).toNat,by omega⟩
 have hl4:lim≤4096:=by omega
 have hlt:(min (max limit 0) 4096).toNat=lim:=by omega
 have hask0:∀ n:Nat,n≤16→((D3 n a b≠0)↔L4 n [a,b]=true):=fun n this=>by
  unfold D3 L4
  constructor
  ·intro h
   split at h
   ·simp [LX]; omega
   ·exact absurd rfl h
  ·intro h
   rw [if_pos (by simp [LX] at h; omega)]; decide
 have hask:=hask0 W.n hk.n16
 have hgl:G.length=W.n:=by have:=congrArg List.length hW.hn; rwa [show (C6 G).length=G.length from List.length_map _] at this
 refine Spec.of 46 func14 rfl rfl rfl ?_
 refine Ad (B2 rfl (B2 rfl (B2 rfl (Au [0,1,2,3,4] rfl rfl (Aj (Ad (Ah rfl (Ah rfl (Ah rfl (AE (Bs (qs:=[(0,_),(1,_)]) rfl rfl rfl) (fun b21=>?_)))))))))))
 refine ER (b:=b21) (μ:=μ) AG fun μ1 h1 k21=>?_
 have r21:Row μ1 (.slice (some ⟨b21,0,none⟩) 2 2) 1 2 (E8 [a,b]):=Ed (n:=1) (l:=2) (cs:=[a,b].flatMap (Bw .i64)) k21 (by rfl) (by decide)
 refine AE (AF (Hw vg _ W.n [a,b] [ro μ1] (by rw [← hgl]; exact hW.hG.1.sl) (Ints.row r21)) rfl rfl AG) ?_
 rintro v22 L1 ⟨rfl,rfl⟩
 refine As (AI [0,1,2,3,4,22] rfl ?_)
 refine Aq rfl (fun h22=>?_) (fun h22=>?_)
 ·refine Ad (B2 rfl (B2 rfl (B2 rfl (Au [10,11,12,13] rfl rfl (Av (AZ ?_))))))
  have e:BB W a b limit=([],false,0,9):=by
   have h:=hask.2 h22
   unfold BB
   rw [if_pos h]
   unfold D3 at h ⊢
   split
   ·rfl
   ·rename_i k; rw [if_neg k] at h; exact absurd rfl h
  rw [e]
  exact Aw [ro μ1] (.tmp rfl (.tmp rfl (.tmp rfl (.tmp rfl .nil)))) ⟨_,μ1,h1,rfl,Row.nil _ _,TOk.nil _,rfl⟩ AG
 ·have h0:¬ D3 W.n a b≠0:=fun h=>by rw [hask.1 h] at h22; cases h22
  have hV:BB W a b limit=match D7 (VS W) (VT W) VM [] lim [a] b with | (none,_)=>([],false,0,12) | (some (t,ok),left)=>(t,ok,((lim-left:Nat):Int),0):=by
   unfold BB; rw [if_neg h0,hlt]
   all_goals
    generalize D7 (VS W) (VT W) VM [] lim [a] b=q
    obtain ⟨q1,q2⟩:=q
    cases q1 <;> rfl
  obtain ⟨Ag,cg,hvG⟩:=hW.hG.1.sl
  obtain ⟨At,ct,hvT⟩:=hW.hT.sl
  refine Ar (Ai (Aj ?_))
  rw [hvG,hvT]
  refine Am (Ah rfl (Ah rfl (Ah rfl ?_)))
  refine AE (AF (Wn limit []) rfl rfl AG) ?_
  rintro v26 L1 ⟨rfl,rfl⟩
  refine As ?_
  rw [hlim]
  refine Af (Bz (qs:=[(0,_),(1,_),(2,_)]) rfl) (AE (Bp rfl rfl) (fun b28=>?_))
  rw [← hvG,← hvT]
  refine Au [2,3,14] rfl rfl (Ad (Ah rfl (Ah rfl (AE (Bs (qs:=[(0,_)]) rfl rfl rfl) (fun b32=>?_)))))
  refine Ah rfl ?_
  refine C9 (L':=[own 3 1 (.slice (some ⟨b32,0,none⟩) 1 1) [a].length (E8 [a]),B5 b28 107 [vg,vT,.int .i64 (lim:Nat),.int .i64 ((0:Nat):Int)],ro μ1]) ((Split.ent' (K:=[B5 b32 3 [.int .i64 a],B5 b28 107 [vg,vT,.int .i64 (lim:Nat),.int .i64 0],ro μ1]) AG).trans (show Ent (B5 b32 3 (E8 [a]++[])::_) _ from DB rfl rfl (Nat.le_refl _) (by decide))) ?_
  refine AE (AF (A0k hk b28 lim μ1 (hW.le h1) 0 AC _ [a] b (by simp)) rfl rfl AG) ?_
  rintro v34 L1 ⟨μ2,h2,hp⟩
  have hp2:∃ (o1:Value) (o2 o3:Bool) (x1 x2:Value),v34=.tuple #[o1,.bool o2,.bool o3]∧L1=[own 3 1 (.slice (some ⟨b32,0,none⟩) 1 1) [a].length (E8 [a]),B5 b28 107 [vg,vT,x1,x2],ro μ2]∧((o3=false∧(D7 (VS W) (VT W) VM [] lim [a] b).1=none)∨(o3=true∧∃ (t2:List En) (l2:Nat),D7 (VS W) (VT W) VM [] lim [a] b=(some (t2,o2),l2)∧Row μ2 o1 2 t2.length (Ci t2)∧TOk W.U t2∧x2=.int .i64 ((lim-l2:Nat):Int))):=by
   rcases hp with ⟨q1,q2,x1,x2,q3⟩ | ⟨t2,ok2,l2,tv2,q1,_,q3,q4,q5,q6⟩
   ·exact ⟨_,false,false,x1,x2,q2,q3,.inl ⟨rfl,q1⟩⟩
   ·exact ⟨tv2,ok2,true,_,_,q3,q6,.inr ⟨rfl,t2,l2,q1,q4,q5,by rw [Nat.zero_add]⟩⟩
  clear hp
  obtain ⟨o1,o2,o3,x1,x2,rfl,rfl,hp⟩:=hp2
  refine As (Ah rfl (Af (Ax rfl) (Af (Ax rfl) (Af (Ax rfl) (B2 rfl (B2 rfl (Au [14,15,16,17] rfl rfl (Aj (Ad (Ah rfl (Af (Cd rfl) (AI [14,15,16,39] rfl ?_))))))))))))
  refine Aq rfl (fun h39=>?_) (fun h39=>?_)
  ·refine Ad (B2 rfl (B2 rfl (B2 rfl (Au [10,11,12,13] rfl rfl (Av (AZ ?_))))))
   have hp':(D7 (VS W) (VT W) VM [] lim [a] b).1=none:=by
    rcases hp with ⟨_,q⟩ | ⟨rfl,_⟩
    ·exact q
    ·cases h39
   have e:BB W a b limit=([],false,0,12):=by
    rw [hV]
    generalize D7 (VS W) (VT W) VM [] lim [a] b=q at hp'
    obtain ⟨q1,q2⟩:=q
    dsimp only at hp'
    subst hp'; rfl
   rw [e]
   exact Aw [ro μ2] (.tmp rfl (.tmp rfl (.tmp rfl (.tmp rfl .nil)))) ⟨_,μ2,h1.trans h2,rfl,Row.nil _ _,TOk.nil _,rfl⟩ AG
  ·obtain ⟨t2,l2,q1,q3,q4,rfl⟩:∃ (t2:List En) (l2:Nat),D7 (VS W) (VT W) VM [] lim [a] b=(some (t2,o2),l2)∧Row μ2 o1 2 t2.length (Ci t2)∧TOk W.U t2∧x2=.int .i64 ((lim-l2:Nat):Int):=by
    rcases hp with ⟨rfl,_⟩ | ⟨_,q⟩
    ·cases h39
    ·exact q
   clear hp
   have e:BB W a b limit=(t2,o2,((lim-l2:Nat):Int),0):=by rw [hV,q1]
   rw [e]
   refine Ar (Ai (Aj ?_))
   refine Bb [5] _ [] (by simp only [List.append_nil]; exact Ent.refl _) AP ?_
   refine AD 0 rfl (AH rfl) (AD 1 rfl (AH rfl) (AD 2 rfl (AH rfl) (AD 3 rfl (Al rfl) (AD 4 rfl (Ae rfl) (Bl 5 rfl (Ak rfl rfl) rfl (AD 6 rfl (Bf rfl) (AD 7 rfl (Bf rfl) (AD 8 rfl (Bf rfl) (AD 9 rfl (Bf rfl) (BZ [10,11,12,13] rfl (De AP (Ai (Av ?_)))))))))))))
   exact Aw [ro μ2] (.tmp rfl (.tmp rfl (.tmp rfl (.tmp rfl .nil)))) ⟨_,μ2,h1.trans h2,rfl,q3,q4,rfl⟩ AG
end
theorem Wo (g:List (List Int))(xs ys:List Int):Fc g xs ys=if (L4 g.length xs||L4 g.length ys)=true then 9 else 0:=Hx _ _ _
theorem Ow {g:List (List Int)}(hg:E5 g){b:Nat}(hb:b<g.length)(j:Nat):GG g g.length [(b:Int)] j=up g b j:=by
 rw [Bool.eq_iff_iff,UY hg (fun p hp=>by obtain rfl:=List.mem_singleton.1 hp; omega),FQ hg]
 constructor
 ·rintro ⟨q,hq,hr⟩
  obtain rfl:q=b:=by have:=List.mem_singleton.1 hq; omega
  exact hr
 ·exact fun h=>⟨b,List.mem_singleton.2 rfl,h⟩
theorem Wp {n:Nat}{D:List Nat}(h:EL D)(hn:∀ j∈D,j<n):BW n (fun j=>decide (j∈D))=Og D.reverse:=by
 unfold BW
 congr 1
 have key:((List.range n).filter fun j=>decide (j∈D)).reverse=D:=by
  refine NR ?_ h fun j=>?_
  ·unfold EL
   rw [List.pairwise_reverse]
   exact List.pairwise_lt_range.filter _
  ·rw [List.mem_reverse,List.mem_filter,List.mem_range,decide_eq_true_eq]
   exact ⟨fun h=>h.2,fun h=>⟨hn j h,h⟩⟩
 rw [← key,List.reverse_reverse,key]
theorem Tn {g:List (List Int)}(hg:E5 g){c a:Nat}(hc:c<g.length)(ha:a<g.length)(h:up g c a=true):C0 g [(c:Int)] [(a:Int)]=[(a:Int)]:=by
 have he:Fc g [(c:Int)] [(a:Int)]=0:=by
  rw [Wo]
  unfold L4 LX
  simp [hc,ha]
 rw [C0,if_pos he]
 have hF:EL [a]:=by unfold EL; simp
 have:=Wp hF (n:=g.length) (fun j hj=>by rw [List.mem_singleton.1 hj]; exact ha)
 refine Eq.trans ?_ (this.trans rfl)
 unfold Gm
 refine Ov fun j hj=>?_
 rw [Bool.eq_iff_iff,Q8,decide_eq_true_eq,List.mem_singleton]
 have hb:∀ j,HB g [(c:Int)] [(a:Int)] j=true↔up g a j=true:=fun j=>by
  unfold HB
  rw [Ow hg hc,Ow hg ha,Bool.and_eq_true]
  exact ⟨fun h=>h.2,fun h1=>⟨Xa hg h h1,h1⟩⟩
 constructor
 ·rintro ⟨h1,h2⟩
  rcases ((FQ hg a j).1 ((hb j).1 h1)).last with e | ⟨z,hz1,hz2⟩
  ·exact e.symm
  ·exact absurd hz2 (h2 z (by have:=hz1.le hg; omega) ((hb z).2 ((FQ hg a z).2 hz1)))
 ·rintro rfl
  refine ⟨(hb j).2 (Zm hg j),fun y hy h1 h2=>?_⟩
  have:=A1D hg ((hb y).1 h1)
  have:=(Dl hg h2).2.1
  omega
theorem Im (W:VWt)(a b:Int)(L:Nat)(hL:L≤4096) :
  ((BB W a b L).2.2.2≠0→BB W a b L=([],false,0,(BB W a b L).2.2.2)∧((BB W a b L).2.2.2=9∨(BB W a b L).2.2.2=12)) ∧
  ((BB W a b L).2.2.2=0→1≤(BB W a b L).2.2.1∧(BB W a b L).2.2.1≤L∧BB W a b (BB W a b L).2.2.1=BB W a b L∧BB W a b ((BB W a b L).2.2.1-1)=([],false,0,12)):=by
 have hlim:∀ k:Nat,k≤4096→(min (max (k:Int) 0) 4096).toNat=k:=fun k hk=>by omega
 by_cases h0:D3 W.n a b=0
 ·have hV:∀ k:Nat,k≤4096→BB W a b k=match D7 (VS W) (VT W) VM [] k [a] b with | (none,_)=>([],false,0,12) | (some (t,ok),left)=>(t,ok,((k-left:Nat):Int),0):=fun k hk=>by
   unfold BB; rw [if_neg (not_not_intro h0),hlim k hk]; all_goals rfl
  have hVL:=hV L hL
  cases hq:D7 (VS W) (VT W) VM [] L [a] b with
  | mk o l =>
   rw [hq] at hVL
   cases o with
   | none =>
    rw [hVL]
    exact ⟨fun _=>⟨rfl,.inr rfl⟩,fun h=>by cases h⟩
   | some r =>
    obtain ⟨t,ok⟩:=r
    dsimp only at hVL
    rw [hVL]
    obtain ⟨k1,k2⟩:=Sy (VS W) (VT W) VM [] hq
    refine ⟨fun h=>absurd rfl h,fun _=>⟨?_,?_,?_,?_⟩⟩
    ·dsimp only; omega
    ·dsimp only; omega
    ·dsimp only
     rw [hV _ AC,(k2 (L-l)).1 (Nat.le_refl _)]
     dsimp only
     rw [Nat.sub_self,Nat.sub_zero]
    ·dsimp only
     rw [show ((L-l:Nat):Int)-1=((L-l-1:Nat):Int) by omega,hV _ AC]
     have:=(k2 (L-l-1)).2 AC
     generalize D7 (VS W) (VT W) VM [] (L-l-1) [a] b=q at this
     obtain ⟨q1,q2⟩:=q
     dsimp only at this
     subst this; rfl
 ·have hV:∀ k:Int,BB W a b k=([],false,0,D3 W.n a b):=fun k=>by unfold BB; rw [if_pos h0]
  have h9:D3 W.n a b=9:=by
   unfold D3 at h0 ⊢
   split
   ·rfl
   ·rename_i h; rw [if_neg h] at h0; exact absurd rfl h0
  rw [hV]
  exact ⟨fun _=>⟨rfl,.inl h9⟩,fun h=>absurd h h0⟩
theorem Ox {n a b:Nat}(hn:n≤16)(ha:a<n)(hb:b<n):D3 n a b=0:=by
 unfold D3
 rw [if_neg AC]
theorem Wr {W:VWt}(hk:VK W){a b:Nat}(ha:a<W.n)(hb:b<W.n)(h:up W.g a b=true){L:Nat}(hL:L≤4096)(h0:(BB W a b L).2.2.2=0):BB W a b L=(W.tr b,true,1,0):=by
 have hs:=Tn hk.gd ha hb h
 have h1:=(Im W a b L hL).2 h0
 unfold BB at h0 h1 ⊢
 rw [if_neg (not_not_intro (Ox hk.n16 ha hb))] at h0 h1 ⊢
 rw [DI] at h0 h1 ⊢
 have hl0:¬ (min (max (L:Int) 0) 4096).toNat=0:=fun e=>by rw [if_pos e] at h0; cases h0
 rw [if_neg hl0]
 unfold VS
 rw [hs]
 show ((VT W (b:Int),true,(((min (max (L:Int) 0) 4096).toNat-((min (max (L:Int) 0) 4096).toNat-1):Nat):Int),(0:Int)):List En×Bool×Int×Int)=_
 rw [show (min (max (L:Int) 0) 4096).toNat-((min (max (L:Int) 0) 4096).toNat-1)=1 by omega]
 rfl
theorem Ws (fn:FuncId)[Body prog fn](ca:List Value)(b:Nat)(pre:List AK)(n e:Int)(Q:List AK→Prop)(h:Spec prog fn ca pre (fun r L=>r=.tuple #[.int .i64 n,.int .i64 e]∧Q L)) :
  Spec prog 82 [pv b] (B5 b 127 [.func (.func fn) #[] ca.toArray]::pre) (fun r L=>r=.agg #[.int .i64 n,.int .i64 e]∧Q L):=by
 refine Spec.of 12 func82 rfl rfl rfl ?_
 refine Ad (AE (Bd) (fun b1=>?_))
 refine AI [0,1] rfl (Ad (AM (Ak rfl rfl) ?_))
 refine AE (FJ (fi:=[]) (args:=[]) (ca:=ca) (by rw [List.nil_append,List.nil_append]; exact h) rfl rfl (Split.skip (Split.skip Split.all))) ?_
 rintro v6 L1 ⟨rfl,hQ⟩
 refine C9 (Ent.perm List.perm_append_comm) (As (Ah rfl (Af (Ax rfl) (Af (Ax rfl) (B2 rfl (Au [1,2,3] rfl rfl (Ad (Ah rfl (Ah rfl (Af (Bz (qs:=[(0,_),(1,_)]) rfl) (Bh (B8 rfl rfl rfl rfl) (AI [1] rfl (Av ?_)))))))))))))
 exact Aw L1 (.cell rfl (BT rfl) .nil) ⟨rfl,hQ⟩ (.skip (.skip Split.all))
section
variable (sv pw q ps px be bu pa:Nat) (l:List Nd)
abbrev HG:AK:=B5 sv 53 (Rx pw q ps px be bu 0 pa)
theorem Wt (fn:FuncId)[Body prog fn](ca:List Value)(K:List AK)(gv:Value)(n e:Int)(Q:List AK→Prop)(h:Spec prog fn ca (HG sv pw q ps px be bu pa::K) (fun r L=>r=.agg #[.int .i64 n,.int .i64 e]∧Q L)) :
  Spec prog 81 [pv sv,.func (.func fn) #[] ca.toArray,gv] (HG sv pw q ps px be bu pa::Eg pa 64 l::K) (fun r L=>r=.agg #[.int .i64 n,.int .i64 e]∧∃ L',Q L'∧L=Eg pa 64 []::L'):=by
 refine Spec.of 22 func81 rfl rfl rfl ?_
 refine Ad (AE (Bd) (fun b6=>?_))
 refine AI [0,1,2,6] rfl (Aj (Ad (Ah rfl ?_)))
 refine AE (AF (Ku sv pw q ps px be bu 0 pa) rfl rfl AG) ?_
 rintro v9 L1 ⟨rfl,rfl⟩
 refine As (Au [0,1,2,6,7] rfl rfl (Ad (Ah rfl (Af (Bx rfl rfl) (AI [0,1,2,6,7,11] rfl (Dw rfl (Ar (Ai (Ad (Ah rfl (Af (Al rfl) (Af (Ae rfl) (AM (Ak rfl rfl) ?_)))))))))))))
 refine AE (AF (O4 pa 64 l) rfl rfl AG) ?_
 rintro v19 L1 ⟨rfl,rfl⟩
 refine As (AI [1,6] rfl (Ad (Ah rfl ?_)))
 refine AE (FJ (fi:=[]) (args:=[]) (ca:=ca) (by rw [List.nil_append,List.nil_append]; exact h) rfl rfl (Split.skip (.cons .here (.skip Split.all)))) ?_
 rintro v21 L1 ⟨rfl,hQ⟩
 refine C9 (Ent.perm List.perm_append_comm) (As (Bh (B8 rfl rfl rfl rfl) (AI [6] rfl (Av ?_))))
 exact Aw (Eg pa 64 []::L1) (.cell rfl (BT rfl) .nil) ⟨rfl,L1,hQ,rfl⟩ (by first | exact .cons .here (.skip Split.all) | exact .cons (.there .here) (.skip Split.all))
theorem Wu (fn:FuncId)[Body prog fn](ca:List Value)(K:List AK)(gv:Value)(e:Int)(Q:List AK→Prop)(h:Spec prog fn ca (HG sv pw q ps px be bu pa::K) (fun r L=>r=.int .i64 e∧Q L)) :
  Spec prog 29 [pv sv,.func (.func fn) #[] ca.toArray,gv] (HG sv pw q ps px be bu pa::Eg pa 64 l::K) (fun r L=>r=.int .i64 e∧∃ L',Q L'∧L=Eg pa 64 []::L'):=by
 refine Spec.of 22 func29 rfl rfl rfl ?_
 refine Ad (Au [0,1,2] rfl rfl (Aj (Ad (Ah rfl ?_))))
 refine AE (AF (Ku sv pw q ps px be bu 0 pa) rfl rfl AG) ?_
 rintro v9 L1 ⟨rfl,rfl⟩
 refine As (Au [0,1,2,7] rfl rfl (Ad (Ah rfl (Af (Bx rfl rfl) (AI [0,1,2,7,11] rfl (Dw rfl (Ar (Ai (Ad (Ah rfl (Af (Al rfl) (Af (Ae rfl) (AM (Ak rfl rfl) ?_)))))))))))))
 refine AE (AF (O4 pa 64 l) rfl rfl AG) ?_
 rintro v19 L1 ⟨rfl,rfl⟩
 refine As (AI [1] rfl (Ad (Ah rfl ?_)))
 refine AE (FJ (fi:=[]) (args:=[]) (ca:=ca) (by rw [List.nil_append,List.nil_append]; exact h) rfl rfl (Split.skip Split.all)) ?_
 rintro v21 L1 ⟨rfl,hQ⟩
 refine C9 (Ent.perm List.perm_append_comm) (As (Au [6] rfl rfl (Av ?_)))
 exact Aw (Eg pa 64 []::L1) (.tmp rfl .nil) ⟨rfl,L1,hQ,rfl⟩ Split.all
theorem Oy (fn:FuncId)[Body prog fn](ca:List Value)(K:List AK)(n e:Int)(Q:List AK→Prop)(h:Spec prog fn ca (HG sv pw q ps px be bu pa::K) (fun r L=>r=.tuple #[.int .i64 n,.int .i64 e]∧Q L)) :
  Spec prog 51 [pv sv,.func (.func fn) #[] ca.toArray] (HG sv pw q ps px be bu pa::Eg pa 64 l::K) (fun r L=>r=.tuple #[.int .i64 n,.int .i64 e]∧∃ L',Q L'∧L=Eg pa 64 []::L'):=by
 have h1:=fun b=>Ws fn ca b (HG sv pw q ps px be bu pa::K) n e Q h
 have h2:∀ b,Spec prog 82 [pv b] (HG sv pw q ps px be bu pa::B5 b 127 [.func (.func fn) #[] ca.toArray]::K) (fun r L=>r=.agg #[.int .i64 n,.int .i64 e]∧Q L):=fun b=>Spec.pre (h1 b) Ent.swap
 refine Spec.of 14 func51 rfl rfl rfl ?_
 refine Ad (AE (Bp rfl rfl) (fun b3=>?_))
 refine B2 rfl (Au [0,3] rfl rfl (Ad (Ah rfl (Af (Cr (vs:=[]) (us:=[_]) rfl rfl) (AE (AF (Wt sv pw q ps px be bu pa l 82 [pv b3] (B5 b3 127 [.func (.func fn) #[] ca.toArray]::K) _ n e Q (h2 b3)) rfl rfl (Split.cons (.there .here) (.cons (.there .here) Split.all))) ?_)))))
 rintro v9 L1 ⟨rfl,L2,hQ,rfl⟩
 refine C9 (Ent.perm List.perm_append_comm) (As (AE (Bd) (fun b6=>?_)))
 refine Bh (B8 rfl rfl rfl rfl) (AI [6] rfl (Aj ?_))
 refine Bb [1,3] _ [] (by simp only [List.append_nil]; exact Ent.refl _) AP ?_
 refine AD 0 rfl (Ae rfl) (Bl 1 rfl (Ak rfl rfl) rfl (AD 2 rfl (Ae rfl) (Bl 3 rfl (Ak rfl rfl) rfl (AD 4 rfl (Bf rfl) (AD 5 rfl (Bf rfl) (BZ [4,5] rfl (De AP (Ai (Av ?_)))))))))
 exact Aw (Eg pa 64 []::L2) (.tmp rfl (.tmp rfl .nil)) ⟨rfl,L2,hQ,rfl⟩ (.skip Split.all)
end
structure SvW where
 sv:Nat
 pw:Nat
 ps:Nat
 px:Nat
 be:Nat
 bu:Nat
 pa:Nat
 W:SW
 d:Dk
 lv:Value
 gv:Value
 l:List Lk
 V:List GV
 cl:List Nd
abbrev SvW.L(S:SvW)(μ:PH):List AK:=[HG S.sv S.pw S.W.q S.ps S.px S.be S.bu S.pa,Eg S.pa 64 S.cl,B5 S.pw 102 [pv S.ps,pv S.px],xB S.px S.W.q S.lv S.gv,FSA S.W.q S.d,CT S.ps S.W,DY S.W,DJ S.W,ro μ]
structure SvW.Ok (S:SvW) (μ:PH) (m c B:Nat):Prop where
 x:XS μ m c S.W S.d S.lv S.gv S.l S.V
 w:S.W.Ok μ
 s:SOk S.W
 dead:S.W.dead=false
 log:∃ b,Ec S.d logN=some b∧b.length≤B
def SvQ (S:SvW)(μ:PH)(m c B:Nat)(pl:St2)(L:List AK):Prop:=∃ S' μ',Le μ μ'∧SvW.Ok S' μ' m c B∧S'.W.pl=pl∧S'.sv=S.sv∧S'.W.q=S.W.q∧S'.cl=[]∧L=S'.L μ'
theorem Rl (sv pw px be bu pa:Nat)(b2 b3:Nat)(μ:PH)(p:Nat)(W:SW)(hW:W.Ok μ)(d:Dk)(hd:d.Ok)(A:Option Addr)(cc:Nat)(t:List En)(hv:Row μ (.slice A t.length cc) 2 t.length (Ci t))(hu:U32s t) :
  Spec prog 52 [pv b2,pv b3] [HG sv pw W.q p px be bu pa,B5 b2 24 [pv sv],B5 b3 27 [.slice A t.length cc],FSA W.q d,CT p W,DY W,DJ W,ro μ] (fun r L=>r=.tuple #[.int .i64 (addT ⟨d,W.pl,W.dead⟩ t).2.1,.int .i64 (addT ⟨d,W.pl,W.dead⟩ t).2.2]∧∃ W' μ',(Le μ μ'∧W'.Ok μ'∧W'.q=W.q∧W'.pl=(addT ⟨d,W.pl,W.dead⟩ t).1.s∧W'.dead=(addT ⟨d,W.pl,W.dead⟩ t).1.dead)∧L=[HG sv pw W.q p px be bu pa,FSA W'.q (addT ⟨d,W.pl,W.dead⟩ t).1.d,CT p W',DY W',DJ W',ro μ']):=by
 refine Spec.of 12 func52 rfl rfl rfl ?_
 refine Ad (B2 rfl (Au [0,1] rfl rfl (Aj ?_)))
 refine Bb [0,3,4] ([B5 b2 24 [pv sv],HG sv pw W.q p px be bu pa,B5 b3 27 [.slice A t.length cc]]) ([FSA W.q d,CT p W,DY W,DJ W,ro μ]) (Split.ent AG) AP ?_
 refine Bl 0 rfl (Ak rfl rfl) rfl (AD 1 rfl (Al rfl) (AD 2 rfl (Ae rfl) (Bl 3 rfl (Ak rfl rfl) rfl (Bl 4 rfl (Ak rfl rfl) rfl ?_))))
 refine BX 5 rfl AP AP (AF (Pv μ p W hW d hd _ t hv hu) rfl rfl AG) ?_
 rintro v9 L1 ⟨W',μ',⟨h1,h2,h3,h4,h5,rfl⟩,rfl⟩
 refine C5 (AD 6 rfl (Ax rfl) (AD 7 rfl (Ax rfl) (AD 8 rfl (Bf rfl) (AD 9 rfl (Bf rfl) (BZ [2,3] rfl (Bv AP (Ai (Av ?_))))))))
 exact Aw [HG sv pw W.q p px be bu pa,FSA W'.q (addT ⟨d,W.pl,W.dead⟩ t).1.d,CT p W',DY W',DJ W',ro μ'] (.tmp rfl (.tmp rfl .nil)) ⟨rfl,W',μ',⟨h1,h2,h3,h4,h5⟩,rfl⟩ AG
theorem To (sv pw px be bu pa:Nat)(b2 b3:Nat)(μ:PH)(p:Nat)(W:SW)(hW:W.Ok μ)(d:Dk)(hd:d.Ok)(A:Option Addr)(cc:Nat)(c:Cm)(hv:Row μ (.slice A c.1.length cc) 1 c.1.length (c.1.flatMap (Bw .i64))) :
  Spec prog 55 [pv b2,pv b3] [HG sv pw W.q p px be bu pa,B5 b2 24 [pv sv],B5 b3 88 [.slice A c.1.length cc,.int .i64 c.2],FSA W.q d,CT p W,DY W,DJ W,ro μ] (fun r L=>r=.tuple #[.int .i64 (addC ⟨d,W.pl,W.dead⟩ c).2.1,.int .i64 (addC ⟨d,W.pl,W.dead⟩ c).2.2]∧∃ W' μ',(Le μ μ'∧W'.Ok μ'∧W'.q=W.q∧W'.pl=(addC ⟨d,W.pl,W.dead⟩ c).1.s∧W'.dead=(addC ⟨d,W.pl,W.dead⟩ c).1.dead)∧L=[HG sv pw W.q p px be bu pa,FSA W'.q (addC ⟨d,W.pl,W.dead⟩ c).1.d,CT p W',DY W',DJ W',ro μ']):=by
 refine Spec.of 12 func55 rfl rfl rfl ?_
 refine Ad (B2 rfl (Au [0,1] rfl rfl (Aj ?_)))
 refine Bb [0,3,4] ([B5 b2 24 [pv sv],HG sv pw W.q p px be bu pa,B5 b3 88 [.slice A c.1.length cc,.int .i64 c.2]]) ([FSA W.q d,CT p W,DY W,DJ W,ro μ]) (Split.ent AG) AP ?_
 refine Bl 0 rfl (Ak rfl rfl) rfl (AD 1 rfl (Al rfl) (AD 2 rfl (Ae rfl) (Bl 3 rfl (Ak rfl rfl) rfl (Bl 4 rfl (BL (vs:=[.slice A c.1.length cc,.int .i64 c.2]) rfl rfl rfl) rfl ?_))))
 refine BX 5 rfl AP AP (AF (MV μ p W hW d hd _ c hv) rfl rfl AG) ?_
 rintro v9 L1 ⟨W',μ',⟨h1,h2,h3,h4,h5,rfl⟩,rfl⟩
 refine C5 (AD 6 rfl (Ax rfl) (AD 7 rfl (Ax rfl) (AD 8 rfl (Bf rfl) (AD 9 rfl (Bf rfl) (BZ [2,3] rfl (Bv AP (Ai (Av ?_))))))))
 exact Aw [HG sv pw W.q p px be bu pa,FSA W'.q (addC ⟨d,W.pl,W.dead⟩ c).1.d,CT p W',DY W',DJ W',ro μ'] (.tmp rfl (.tmp rfl .nil)) ⟨rfl,W',μ',⟨h1,h2,h3,h4,h5⟩,rfl⟩ AG
theorem A1j{W W':SW}{t:List En}(h:SOk W)(e:W'.pl=(W.pl.1++[t],W.pl.2))(h1:t.length≤30)(h2:ST t):SOk W':=by
 refine ⟨by rw [e]; exact h.gc,fun c hc=>?_,fun u hu=>?_⟩
 ·rw [e] at hc ⊢
  have:=h.tr c hc
  rw [List.length_append,List.length_singleton]
  omega
 ·rw [e] at hu
  rcases List.mem_append.1 hu with hu | hu
  ·exact h.tg u hu
  ·rw [List.mem_singleton.1 hu]; exact ⟨h1,h2⟩
theorem A1k{W W':SW}{c:Cm}(h:SOk W)(e:W'.pl=(W.pl.1,W.pl.2++[c]))(h1:GC (W.pl.2++[c]))(h2:0≤c.2∧c.2<(W.pl.1.length:Int)):SOk W':=by
 refine ⟨by rw [e]; exact h1,fun u hu=>?_,by rw [e]; exact h.tg⟩
 rw [e] at hu ⊢
 rcases List.mem_append.1 hu with hu | hu
 ·exact h.tr u hu
 ·rw [List.mem_singleton.1 hu]; exact h2
theorem Nl (S:SvW)(μ:PH)(m c B:Nat)(h:S.Ok μ m c B)(hc:c<14)(v:Value)(t:List En)(hv:Row μ v 2 t.length (Ci t))(hu:U32s t)(ht:E1 t=0)(hl:t.length≤30)(hz:ST t)(hn:S.W.pl.1.length<65536)(hB:B+((Eo t).length+9)≤EI) :
  Spec prog 25 [pv S.sv,v] (S.L μ) (fun r L=>r=.tuple #[.int .i64 (S.W.pl.1.length:Nat),.int .i64 0]∧SvQ S μ m c (B+((Eo t).length+9)) (S.W.pl.1++[t],S.W.pl.2) L):=by
 obtain ⟨hx,hw,hs,hdead,⟨b,hb,hbl⟩⟩:=h
 obtain ⟨A,cc,rfl⟩:=hv.sl
 obtain ⟨w1,w2,w3⟩:=DV.writeD hx.xd.dv Fx hb (f:=(1,Eo t)) (by show b.length+((Eo t).length+9)≤_; omega)
 have hy:addT ⟨S.d,S.W.pl,S.W.dead⟩ t=(⟨(writeD S.d (1,Eo t)).1,(S.W.pl.1++[t],S.W.pl.2),false⟩,((S.W.pl.1.length:Nat):Int),0):=Lq hdead ht hn w1
 have h1:=fun b2 b3=>Rl S.sv S.pw S.px S.be S.bu S.pa b2 b3 μ S.ps S.W hw S.d hx.xd.dv.ok A cc t hv hu
 rw [hy] at h1
 dsimp only at h1
 obtain ⟨sv,pw,ps,px,be,bu,pa,W,d,lv,gv,l,V,cl⟩:=S
 dsimp only at *
 refine Spec.of 11 func25 rfl rfl rfl ?_
 refine Ad (AE (Bp rfl rfl) (fun b2=>?_))
 refine AE (Bp rfl rfl) fun b3=>?_
 refine B2 rfl (Au [2,3] rfl rfl (Ad (AM (Ak rfl rfl) (Af (Cr (vs:=[]) (us:=[_,_]) rfl rfl) ?_))))
 refine AE (AF (Oy sv pw W.q ps px be bu pa cl 52 [pv b2,pv b3] [B5 b2 24 [pv sv],B5 b3 27 [.slice A t.length cc],FSA W.q d,CT ps W,DY W,DJ W,ro μ] _ 0 _ (h1 b2 b3)) rfl rfl AG) ?_
 rintro v8 L1 ⟨rfl,L2,⟨W',μ',⟨k1,k2,k3,k4,k5⟩,rfl⟩,rfl⟩
 obtain ⟨q',tv,cv,T,C,dead⟩:=W'
 dsimp only at k3
 subst k3
 refine As (Af (Ax rfl) (Af (Ax rfl) (B2 rfl (Au [4,5] rfl rfl (Av ?_)))))
 refine Aw (SvW.L ⟨sv,pw,ps,px,be,bu,pa,⟨W.q,tv,cv,T,C,dead⟩,(writeD d (1,Eo t)).1,lv,gv,l,V,[]⟩ μ') (.tmp rfl (.tmp rfl .nil)) ⟨rfl,⟨sv,pw,ps,px,be,bu,pa,⟨W.q,tv,cv,T,C,dead⟩,(writeD d (1,Eo t)).1,lv,gv,l,V,[]⟩,μ',k1,⟨⟨?_,hx.ix.le k1,?_⟩,k2,?_,k5,⟨b++DF (1,Eo t),?_,?_⟩⟩,k4,rfl,rfl,rfl,rfl⟩ AG
 ·exact hx.xd.other w2 (fun u hu=>by rw [w3,if_neg hu]) AC
 ·dsimp only at k4 ⊢
  rw [k4]; exact hx.rw
 ·exact A1j hs k4 hl hz
 ·exact (w3 logN).trans (if_pos rfl)
 ·rw [List.length_append,GA]
  show b.length+((Eo t).length+9)≤_
  omega
theorem PC (S:SvW)(μ:PH)(m c B:Nat)(h:S.Ok μ m c B)(hc:c<14)(v:Value)(x:Cm)(hv:Row μ v 1 x.1.length (x.1.flatMap (Bw .i64)))(hg:GC (S.W.pl.2++[x]))(he:D1 x=0)(hk:Hk S.W.pl.1.length S.W.pl.2.length x=true)(hx2:0≤x.2∧x.2<(S.W.pl.1.length:Int))(hB:B+((D2 x).length+9)≤EI) :
  Spec prog 27 [pv S.sv,cmV v x.2] (S.L μ) (fun r L=>r=.tuple #[.int .i64 (S.W.pl.2.length:Nat),.int .i64 0]∧SvQ S μ m c (B+((D2 x).length+9)) (S.W.pl.1,S.W.pl.2++[x]) L):=by
 obtain ⟨hx,hw,hs,hdead,⟨b,hb,hbl⟩⟩:=h
 obtain ⟨A,cc,rfl⟩:=hv.sl
 have hn:S.W.pl.2.length<65536:=by have:=hs.gc.len; omega
 obtain ⟨w1,w2,w3⟩:=DV.writeD hx.xd.dv Fx hb (f:=(2,D2 x)) (by show b.length+((D2 x).length+9)≤_; omega)
 have hy:addC ⟨S.d,S.W.pl,S.W.dead⟩ x=(⟨(writeD S.d (2,D2 x)).1,(S.W.pl.1,S.W.pl.2++[x]),false⟩,((S.W.pl.2.length:Nat):Int),0):=by
  unfold addC
  rw [he,if_neg (not_not_intro rfl),hk,if_neg (by decide)]
  exact Lq hdead rfl hn w1
 have h1:=fun b2 b3=>To S.sv S.pw S.px S.be S.bu S.pa b2 b3 μ S.ps S.W hw S.d hx.xd.dv.ok A cc x hv
 rw [hy] at h1
 dsimp only at h1
 obtain ⟨sv,pw,ps,px,be,bu,pa,W,d,lv,gv,l,V,cl⟩:=S
 dsimp only at *
 refine Spec.of 11 func27 rfl rfl rfl ?_
 refine Ad (AE (Bp rfl rfl) (fun b2=>?_))
 refine AE (Bp rfl rfl) fun b3=>?_
 refine B2 rfl (Au [2,3] rfl rfl (Ad (AM (Ak rfl rfl) (Af (Cr (vs:=[]) (us:=[_,_]) rfl rfl) ?_))))
 refine AE (AF (Oy sv pw W.q ps px be bu pa cl 55 [pv b2,pv b3] [B5 b2 24 [pv sv],B5 b3 88 [.slice A x.1.length cc,.int .i64 x.2],FSA W.q d,CT ps W,DY W,DJ W,ro μ] _ 0 _ (h1 b2 b3)) rfl rfl AG) ?_
 rintro v8 L1 ⟨rfl,L2,⟨W',μ',⟨k1,k2,k3,k4,k5⟩,rfl⟩,rfl⟩
 obtain ⟨q',tv,cv,T,C,dead⟩:=W'
 dsimp only at k3
 subst k3
 refine As (Af (Ax rfl) (Af (Ax rfl) (B2 rfl (Au [4,5] rfl rfl (Av ?_)))))
 refine Aw (SvW.L ⟨sv,pw,ps,px,be,bu,pa,⟨W.q,tv,cv,T,C,dead⟩,(writeD d (2,D2 x)).1,lv,gv,l,V,[]⟩ μ') (.tmp rfl (.tmp rfl .nil)) ⟨rfl,⟨sv,pw,ps,px,be,bu,pa,⟨W.q,tv,cv,T,C,dead⟩,(writeD d (2,D2 x)).1,lv,gv,l,V,[]⟩,μ',k1,⟨⟨?_,hx.ix.le k1,?_⟩,k2,?_,k5,⟨b++DF (2,D2 x),?_,?_⟩⟩,k4,rfl,rfl,rfl,rfl⟩ AG
 ·exact hx.xd.other w2 (fun u hu=>by rw [w3,if_neg hu]) AC
 ·dsimp only at k4 ⊢
  rw [k4]; exact hx.rw.snoc hg
 ·exact A1k hs k4 hg hx2
 ·exact (w3 logN).trans (if_pos rfl)
 ·rw [List.length_append,GA]
  show b.length+((D2 x).length+9)≤_
  omega
section
variable (S:SvW) (μ:PH) (m c B:Nat) (h:S.Ok μ m c B)
include h
theorem Tp (hs:SynOk μ)(h0:1≤S.W.pl.2.length)(hc:c<13)(hm:m≤40000)(b1:Nat) :
  Spec prog 30 [pv b1] (HG S.sv S.pw S.W.q S.ps S.px S.be S.bu S.pa::[B5 b1 24 [pv S.sv],xB S.px S.W.q S.lv S.gv,FSA S.W.q S.d,CT S.ps S.W,DY S.W,DJ S.W,ro μ]) (fun r L=>r=.int .i64 0∧∃ μ' lv gv d' l V,(Le μ μ'∧XS μ' (m+22) (c+1) S.W d' lv gv l V∧Ec d' logN=Ec S.d logN)∧L=HG S.sv S.pw S.W.q S.ps S.px S.be S.bu S.pa::xsA S.px S.ps S.W.q S.W d' lv gv μ'):=by
 refine Spec.of 16 func30 rfl rfl rfl ?_
 refine Ad (Au [0] rfl rfl (Aj ?_))
 refine Bb [0,3,4,7,9,12] ([B5 b1 24 [pv S.sv],HG S.sv S.pw S.W.q S.ps S.px S.be S.bu S.pa]) ([xB S.px S.W.q S.lv S.gv,FSA S.W.q S.d,CT S.ps S.W,DY S.W,DJ S.W,ro μ]) (Split.ent AG) AP ?_
 refine Bl 0 rfl (Ak rfl rfl) rfl (AD 1 rfl (Al rfl) (AD 2 rfl (Ae rfl) (Bl 3 rfl (Ak rfl rfl) rfl (Bl 4 rfl (Ak rfl rfl) rfl (AD 5 rfl (Al rfl) (AD 6 rfl (Ae rfl) (Bl 7 rfl (Ak rfl rfl) rfl (AD 8 rfl (Gq rfl) (Bl 9 rfl (Ak rfl rfl) rfl (AD 10 rfl (Al rfl) (AD 11 rfl (Ae rfl) (Bl 12 rfl (BL (vs:=setC) rfl rfl rfl) rfl ?_))))))))))))
 refine BX 13 rfl AP AP (AF (W7 μ hs m c S.px S.W.q S.ps S.d S.l S.V S.lv S.gv S.W h.x h.w h.s h0 hc hm) rfl rfl AG) ?_
 rintro v15 L1 ⟨μ',lv',gv',d',l',V',k1,hX',hlog,rfl,rfl⟩
 refine C5 (AD 14 rfl (Bf rfl) (BZ [1] rfl (Bv AP (Ai (Av ?_)))))
 exact Aw (HG S.sv S.pw S.W.q S.ps S.px S.be S.bu S.pa::xsA S.px S.ps S.W.q S.W d' lv' gv' μ') (.tmp rfl .nil) ⟨rfl,μ',lv',gv',d',l',V',⟨k1,hX',hlog⟩,rfl⟩ AG
theorem Wv (hs:SynOk μ)(h0:1≤S.W.pl.2.length)(hc:c<13)(hm:m≤40000):Spec prog 7 [pv S.sv] (S.L μ) (fun r L=>r=.int .i64 0∧SvQ S μ (m+22) (c+1) B S.W.pl L):=by
 have h1:=fun b1=>Tp S μ m c B h hs h0 hc hm b1
 obtain ⟨hx,hw,hs1,hdead,⟨b,hb,hbl⟩⟩:=h
 obtain ⟨sv,pw,ps,px,be,bu,pa,W,d,lv,gv,l,V,cl⟩:=S
 dsimp only at *
 refine Spec.of 6 func7 rfl rfl rfl ?_
 refine Ad (AE (Bp rfl rfl) (fun b1=>?_))
 refine Au [1] rfl rfl (Ad (AM (Ak rfl rfl) (Af (Cr (vs:=[]) (us:=[_]) rfl rfl) ?_)))
 refine AE (AF (Wu sv pw W.q ps px be bu pa cl 30 [pv b1] [B5 b1 24 [pv sv],xB px W.q lv gv,FSA W.q d,CT ps W,DY W,DJ W,ro μ] _ 0 _ (h1 b1)) rfl rfl AG) ?_
 rintro v5 L1 ⟨rfl,L2,⟨μ',lv',gv',d',l',V',⟨k1,hX',hlog⟩,rfl⟩,rfl⟩
 refine As (Au [2] rfl rfl (Av ?_))
 exact Aw (SvW.L ⟨sv,pw,ps,px,be,bu,pa,W,d',lv',gv',l',V',[]⟩ μ') (.tmp rfl .nil) ⟨rfl,⟨sv,pw,ps,px,be,bu,pa,W,d',lv',gv',l',V',[]⟩,μ',k1,⟨hX',hw.le k1,hs1,hdead,⟨b,hlog.trans hb,hbl⟩⟩,rfl,rfl,rfl,rfl,rfl⟩ AG
end
theorem Oz (ps px:Nat):Spec prog 48 [pv ps,pv px] [] (fun r L=>∃ b,r=pv b∧L=[B5 b 102 [pv ps,pv px]]):=by
 refine Spec.of 9 func48 rfl rfl rfl ?_
 refine Ad (Au [0,1] rfl rfl (Ad (Ah rfl (Ah rfl (Af (Bz (qs:=[(0,_),(1,_)]) rfl) (AE (Bp rfl rfl) (fun b8=>?_)))))))
 refine Au [4] rfl rfl (Av ?_)
 exact Aw [B5 b8 102 [pv ps,pv px]] (.tmp rfl .nil) ⟨b8,rfl,rfl⟩ AG
section
variable (S:SvW) (μ:PH) (m c B:Nat) (h:S.Ok μ m c B)
include h
end
abbrev SvW.vw(S:SvW):VWt:=⟨S.pw,S.ps,S.px,S.W.q,S.W,S.lv,S.gv,S.l,S.V⟩
theorem SvW.Ok.vok{S:SvW}{μ:PH}{m c B:Nat}(h:S.Ok μ m c B):S.vw.Ok μ:=⟨h.w,h.s,m,c,S.d,h.x⟩
section
variable {g:List (List Int)} (hg:E5 g) {n a b:Nat} (hn:n≤g.length) (ha:a<n)
include hg hn ha
end
theorem KR (fn:FuncId)(ca:Array Value):Spec prog 78 [.int .i64 3,.func (.func fn) #[] ca] [] (fun r L=>∃ b,r=pv b∧L=[]):=by
 refine Spec.of 13 func78 rfl rfl rfl ?_
 refine Ad (Au [0,1] rfl rfl (Aj (Ad (Ah rfl (Af (OD rfl rfl) (AI [0,1,6] rfl (Dw rfl (Ar (Ai (Ad (Ah rfl (Af (Ea rfl rfl) (Af (DE rfl rfl) (Ah rfl (Af (Bz (qs:=[(0,_),(1,_)]) rfl) (AE (Bp rfl rfl) (fun b12=>?_)))))))))))))))))
 refine Au [4] rfl rfl (Av ?_)
 exact Aw [] (.tmp rfl .nil) ⟨b12,rfl,rfl⟩ AG
theorem Tq:Spec prog 50 [] [] (fun r L=>r=.agg setC.toArray∧L=[]):=by
 refine Spec.of 2 func50 rfl rfl rfl ?_
 refine Ad (AE (Bd) (fun b0=>?_))
 refine AI [0] rfl (Ad (Af (Bz (qs:=[(0,_),(1,_),(2,_),(3,_)]) rfl) (Bh (B8 rfl rfl rfl rfl) (AI [0] rfl (Av ?_)))))
 exact Aw [] (.cell rfl (BT rfl) .nil) ⟨rfl,rfl⟩ AG
structure StP where
 t:List En
 ps:List Nat
 ix:Nat
def CI (n:Nat)(l:List Int)(p:Nat):List Int:=if n=0∨((n-1-p % n:Nat):Int)∈l then l else l++[((n-1-p % n:Nat):Int)]
def Fh (n:Nat)(ps:List Nat):List Int:=(ps.take 16).foldl (CI n) []
theorem FI (n:Nat)(ps:List Nat):KB n (Fh n ps)=true∧(Fh n ps).length≤16:=by
 have key:∀ (q:List Nat) (l:List Int),(∀ x∈l,0≤x∧x<n)→l.Nodup→(∀ x∈q.foldl (CI n) l,0≤x∧x<n)∧(q.foldl (CI n) l).Nodup∧(q.foldl (CI n) l).length≤l.length+q.length:=by
  intro q
  induction q with
  | nil=>exact fun l h1 h2=>⟨h1,h2,Nat.le_refl _⟩
  | cons p q ih =>
   intro l h1 h2
   rw [List.foldl_cons]
   by_cases hk:n=0∨((n-1-p % n:Nat):Int)∈l
   ·rw [show CI n l p=l from if_pos hk]
    obtain ⟨a,b,c⟩:=ih l h1 h2
    exact ⟨a,b,by rw [List.length_cons]; omega⟩
   ·rw [show CI n l p=l++[((n-1-p % n:Nat):Int)] from if_neg hk]
    obtain ⟨a,b,c⟩:=ih (l++[((n-1-p % n:Nat):Int)]) (fun x hx=>by
     rcases List.mem_append.1 hx with hx | hx
     ·exact h1 x hx
     ·rw [List.mem_singleton.1 hx]; omega) (by
     rw [List.nodup_append]
     exact ⟨h2,by simp,fun a ha b hb e=>hk (.inr (by rw [← List.mem_singleton.1 hb,← e]; exact ha))⟩)
    refine ⟨a,b,?_⟩
    rw [List.length_append,List.length_singleton] at c
    rw [List.length_cons]; omega
 obtain ⟨a,b,c⟩:=key (ps.take 16) [] (fun _ h=>(by cases h)) .nil
 refine ⟨Ek.2 ⟨a,b⟩,?_⟩
 rw [List.length_take,List.length_nil] at c
 unfold Fh
 omega
def EN (t:List En):List En:=NA ((t.take 30).map OU)
theorem IM (t:List En):(EN t).length≤30:=by
 have:=NB ((t.take 30).map OU)
 rw [List.length_map,List.length_take] at this
 unfold EN; omega
theorem Hy (t:List En):GoodT (EN t):=UK _
theorem YW {t:List En}(h:GoodT t)(hl:t.length≤1024):E1 t=0:=by
 unfold E1
 rw [if_neg AC]
 refine O1 fun j hj=>?_
 obtain ⟨e,he⟩:∃ e,t[j]? = some e:=⟨_,List.getElem?_eq_getElem hj⟩
 have hm:=List.mem_of_getElem? he
 unfold Dg
 rw [he]
 dsimp only
 rw [if_neg (by have:=h.short e hm; omega),if_neg (h.full e hm)]
 by_cases h0:j=0
 ·rw [if_pos h0]
 ·rw [if_neg h0]
  obtain ⟨d,hd⟩:∃ d,t[j-1]? = some d:=⟨_,List.getElem?_eq_getElem AC⟩
  rw [hd]
  have hr:=Gv h.rises AC hd he
  have h1:Bt e.1 d.1=false:=Cc.2 fun k=>by rw [k,CF] at hr; cases hr
  have h2:BE e.1 d.1=false:=by
   cases h3:BE e.1 d.1 with
   | false=>rfl
   | true=>exact absurd (Da hr h3) (by rw [CF]; decide)
  dsimp only
  rw [if_neg (by rw [h1]; decide),if_neg (by rw [h2]; decide)]
theorem YX {t:List En}(h:GoodT t)(hl:t.length≤30):(Eo t).length≤7832:=by
 have:=Iw [] t fun e he=>h.short e he
 unfold Eo
 rw [List.length_append,Bu]
 omega
theorem Ww {n k:Nat}(ps:List Nat)(hn:n≤16)(hk:k<65536):D1 (Fh n ps,(k:Int))=0:=by
 obtain ⟨a,b⟩:=FI n ps
 obtain ⟨a1,a2⟩:=Ek.1 a
 unfold D1
 rw [if_neg (by show ¬ 16<(Fh n ps).length; omega),if_neg (by rw [Lf.2 (by show 0≤(k:Int)∧(k:Int)<65536; omega)]; decide)]
 refine M1 fun j hj=>?_
 obtain ⟨p,hp⟩:∃ p,(Fh n ps)[j]? = some p:=⟨_,List.getElem?_eq_getElem hj⟩
 have hpr:=a1 p (List.mem_of_getElem? hp)
 rw [K7 hp,if_neg (by rw [Lf.2 AC]; decide),if_neg]
 intro hc
 rw [List.contains_iff_mem] at hc
 obtain ⟨i,hi⟩:=List.getElem?_of_mem hc
 have hil:=(List.getElem?_eq_some_iff.1 hi).1
 rw [List.length_take] at hil
 rw [List.getElem?_take_of_lt AC] at hi
 have:=(List.getElem?_inj AC a2).1 (hi.trans hp.symm)
 omega
theorem Wx {n:Nat}(ps:List Nat):Hk (n+1) n (Fh n ps,(n:Int))=true:=by
 obtain ⟨a,b⟩:=FI n ps
 obtain ⟨a1,a2⟩:=Ek.1 a
 unfold Hk
 rw [decide_eq_true (by show (n:Int)<((n+1:Nat):Int); omega),Bool.true_and,Bool.not_eq_true']
 rw [List.any_eq_false]
 intro p hp h
 have:=a1 p hp
 have:=of_decide_eq_true h
 omega
def J5 (S:List StP):List Cm:=(List.range S.length).map fun i=>(Fh i (S.getD i ⟨[],[],0⟩).ps,(i:Int))
def Ej (S:List StP):List (List En):=S.map fun s=>EN s.t
theorem Em (S:List StP):(J5 S).length=S.length:=by unfold J5; rw [List.length_map,List.length_range]
theorem GY {S:List StP}{i:Nat}{s:StP}(h:S[i]? = some s):(J5 S)[i]? = some (Fh i s.ps,(i:Int)):=by
 have hl:=(List.getElem?_eq_some_iff.1 h).1
 unfold J5
 rw [List.getElem?_map,List.getElem?_range hl,Option.map_some,List.getD_eq_getElem?_getD,h]; rfl
theorem Rm {S:List StP}(h:S.length≤16):GC (J5 S):=⟨by rw [Em]; exact h,fun i c hc=>by
 have hl:=(List.getElem?_eq_some_iff.1 hc).1
 rw [Em] at hl
 obtain ⟨s,hs⟩:∃ s,S[i]? = some s:=⟨_,List.getElem?_eq_getElem hl⟩
 rw [GY hs] at hc
 obtain rfl:=Option.some.inj hc
 obtain ⟨a,b⟩:=FI i s.ps
 exact ⟨a,b,by show 0≤(i:Int); omega,by show (i:Int)<65536; omega⟩⟩
theorem Js (S:List StP)(k:Nat):J5 (S.take k)=(J5 S).take k:=by
 apply List.ext_getElem?
 intro i
 by_cases hi:i<k
 ·rw [List.getElem?_take_of_lt hi]
  cases hs:S[i]? with
  | none =>
   have:=List.getElem?_eq_none_iff.1 hs
   rw [List.getElem?_eq_none (by rw [Em,List.length_take]; omega),List.getElem?_eq_none (by rw [Em]; omega)]
  | some s=>rw [GY hs,GY (by rw [List.getElem?_take_of_lt hi]; exact hs)]
 ·rw [List.getElem?_take_eq_none AC,List.getElem?_eq_none (by rw [Em,List.length_take]; omega)]
def EZ (S:List StP):List (List Int):=(J5 S).map (·.1)
theorem N3 (S:List StP):(EZ S).length=S.length:=by unfold EZ; rw [List.length_map,Em]
theorem Rn {S:List StP}(h:S.length≤16):E5 (EZ S):=K6 (Rm h).more
theorem KS (S:List StP)(k:Nat):EZ (S.take k)=(EZ S).take k:=by unfold EZ; rw [Js,List.map_take]
set_option maxHeartbeats 1000000 in
theorem N4 (μ:PH)(v:Value)(x:List En)(h:Row μ v 2 x.length (Ci x)) :
  Spec prog 26 [v] [ro μ] (fun r L=>∃ μ',Le μ μ'∧Row μ' r 2 (EN x).length (Ci (EN x))∧L=[ro μ']):=by
 obtain ⟨v12,hr12,hs12⟩:=Row.hi (P:=prog) (t:=27) h (min x.length 30) (Nat.min_le_left _ _)
 rw [← Wg] at hr12
 obtain ⟨y,hy⟩:∃ y,y=x.take (min x.length 30):=⟨_,rfl⟩
 have hyl:y.length=min x.length 30:=by rw [hy,List.length_take]; omega
 have hyt:y=x.take 30:=by
  rw [hy]
  by_cases hx:x.length≤30
  ·rw [Nat.min_eq_left hx,List.take_length,List.take_of_length_le hx]
  ·rw [Nat.min_eq_right AC]
 rw [← hy,← hyl] at hr12
 have hy30:y.length≤30:=by omega
 refine Spec.of 38 func26 rfl rfl rfl ?_
 refine Ad (Au [0] rfl rfl (Ad (Au [0,3] rfl rfl (Aj (Ad (Ah rfl (Ah rfl (Af (AW h rfl) (Af (DE rfl rfl) (Af (hs12 _ _ _ .i64 _ rfl rfl AC) (Af (AW hr12 rfl) (Ah rfl (Bi [3,12,13,14] rfl (C9 (own_nil_ent (e:=111) (n:=2)) (Dj (AB ?_))))))))))))))))
 refine B4 (ι:=Nat×Value) (fun k env L=>Sub env [(3,k.2),(12,v12),(13,.int .i64 (y.length:Nat)),(14,.int .i64 (k.1:Nat))]∧Ent L [own 111 2 k.2 k.1 (Ci ((y.take k.1).map OU)),ro μ]∧k.1≤y.length) (fun k=>y.length-k.1) (0,.slice none 0 0) ⟨⟨rfl,rfl,rfl,rfl,trivial⟩,Ent.refl _,Nat.zero_le _⟩ ?_
 rintro ⟨i,cv⟩ env L ⟨hsub,hE,hi⟩
 simp only [] at hi hE hsub
 refine B7 _ hsub (AX hE ?_)
 clear hsub hE env L
 dsimp only
 refine Ad (Af (Be rfl rfl) (AI [3,12,13,14,15] rfl (Aj ?_)))
 refine Aq rfl (fun h15=>?_) (fun h15=>?_)
 ·have h15':i<y.length:=by have:=of_decide_eq_true h15; omega
  obtain ⟨e,he⟩:∃ e,y[i]? = some e:=⟨_,List.getElem?_eq_getElem h15'⟩
  obtain ⟨gb,off,cap,hv,hra,hc0,hc1⟩:=Dc hr12 he
  refine Ar (Ai (Aj (AB (Ad ?_))))
  refine Af (AA (off+i*2) (congrArg some hv) rfl AC AC (by rw [Int.toNat_natCast])) ?_
  refine AM (Cu rfl rfl hra) (AE (Bd) (fun b5=>?_))
  refine Bh (B8 rfl rfl rfl rfl) (AI [3,5,12,13,14] rfl ?_)
  refine Bb [2,4,9] _ [] (by simp only [List.append_nil]; exact Ent.refl _) AP ?_
  refine AD 0 rfl (AH rfl) (AD 1 rfl (Ae rfl) (Bl 2 rfl (Ak rfl rfl) rfl (AD 3 rfl (Ae rfl) (Bl 4 rfl (Ak rfl rfl) rfl (AD 5 rfl (D8 rfl) (AD 6 rfl (DE rfl rfl) (AD 7 rfl (Ut (min e.1.size 255) rfl rfl AC (Nat.min_le_left _ _)) (AD 8 rfl (Ae rfl) (Bl 9 rfl (Ak rfl rfl) rfl (AD 10 rfl (Bz (qs:=[(0,_),(1,_)]) rfl) (BX 11 rfl AP AP (Bs (qs:=[(0,_)]) rfl rfl rfl) (fun b29=>?_))))))))))))
  refine LH 12 rfl AP AP (Bj (l:=i) (m:=1) rfl rfl AG (by simp only [maxLen]; omega) AC) ?_
  rintro v30 -
  skip
  refine AD 13 rfl (Bf rfl) (BZ [3,12,13,14] rfl (Bv AP (AV (Ai (Am (Af (AQ ((i+1:Nat):Int) rfl rfl AC AC AC) (Ah rfl (Bi [3,12,13,14] rfl (AJ ?_)))))))))
  refine Ai ⟨(i+1,v30),⟨⟨rfl,rfl,rfl,rfl,trivial⟩,?_,h15'⟩,by show y.length-(i+1)<y.length-i; omega⟩
  have e1:Ci ((y.take (i+1)).map OU)=Ci ((y.take i).map OU)++[.string (e.1.extract 0 (min e.1.size 255)),.int .u32 e.2]:=by
   rw [List.take_add_one,he,List.map_append,Lj]; rfl
  show Ent _ [own 111 2 v30 (i+1) (Ci ((y.take (i+1)).map OU)),ro μ]
  rw [e1]
  exact Split.ent' AG
 ·have h15':=of_decide_eq_false h15
  obtain rfl:i=y.length:=by omega
  rw [List.take_length]
  refine B3 (AU (AU (AY rfl (Ai (Aj ?_)))))
  refine BA (v:=cv) (μ:=μ) AG fun μ2 h2 hrow2=>?_
  have hl2:y.length=(y.map OU).length:=by rw [List.length_map]
  rw [hl2] at hrow2
  have hsh:∀ e∈y.map OU,e.1.size≤255:=by
   intro e he
   obtain ⟨d,_,rfl⟩:=List.mem_map.1 he
   show (d.1.extract 0 (min d.1.size 255)).size≤255
   rw [ByteArray.size_extract]; omega
  refine Am (Ah rfl ?_)
  refine AE (AF (Wh μ2 cv (y.map OU) hrow2 (by rw [← hl2]; omega) hsh) rfl rfl AG) ?_
  rintro v34 L1 ⟨μ3,tv,rfl,h3,hrow3,rfl⟩
  refine As (Ah rfl (Af (Ax rfl) (Af (Ax rfl) (B2 rfl (Au [6] rfl rfl (Ad (Ah rfl (Au [2] rfl rfl (Av ?_)))))))))
  refine Aw [ro μ3] (.tmp rfl .nil) ⟨μ3,h2.trans h3,?_,rfl⟩ AG
  unfold EN
  rw [← hyt]; exact hrow3
def JW (n:Nat)(f:Nat→Bool):List Value:=(List.range n).map fun j=>.bool (f j)
theorem EF (n:Nat)(f:Nat→Bool):(JW n f).length=n:=by unfold JW; rw [List.length_map,List.length_range]
theorem Gi {n j:Nat}(f:Nat→Bool)(h:j<n):(JW n f)[j]? = some (.bool (f j)):=by unfold JW; rw [List.getElem?_map,List.getElem?_range h]; rfl
def on1 (f:Nat→Bool)(c:Nat):Nat→Bool:=fun j=>f j||decide (j=c)
theorem A0l{n c:Nat}(f:Nat→Bool):(JW n f).set c (.bool true)=JW n (on1 f c):=by
 apply List.ext_getElem?
 intro j
 by_cases hj:j<n
 ·rw [Gi _ hj]
  by_cases e:c=j
  ·subst e; rw [List.getElem?_set_self (by rw [EF]; exact hj)]; simp [on1]
  ·rw [List.getElem?_set_ne e,Gi _ hj]; simp only [on1,decide_eq_false (fun h:j=c=>e h.symm),Bool.or_false]
 ·rw [List.getElem?_eq_none (by rw [List.length_set,EF]; omega),List.getElem?_eq_none (by rw [EF]; omega)]
theorem Ul (n:Nat):List.replicate n (Value.bool false)=JW n fun _=>false:=by
 apply List.ext_getElem?
 intro j
 by_cases hj:j<n
 ·rw [Gi _ hj,List.getElem?_replicate,if_pos hj]
 ·rw [List.getElem?_eq_none (by rw [List.length_replicate]; omega),List.getElem?_eq_none (by rw [EF]; omega)]
theorem Lu {n:Nat}{f g:Nat→Bool}(h:∀ j,j<n→f j=g j):JW n f=JW n g:=by
 unfold JW
 refine List.map_congr_left fun j hj=>?_
 rw [h j (List.mem_range.1 hj)]
def StA.pl (o:StA):StP:=⟨o.t,o.ps.map Int.toNat,o.ix.toNat⟩
set_option maxHeartbeats 4000000 in
theorem OA (μ:PH)(o:StA)(ho:o.Ok μ)(n:Nat)(hn:n≤16):Spec prog 28 [.agg (IQ o).toArray,.int .i64 (n:Nat)] [ro μ] (fun r L=>L=[own 3 1 r (Fh n o.pl.ps).length ((Fh n o.pl.ps).flatMap (Bw .i64)),ro μ]):=by
 obtain ⟨htr,-,hpr,hpb,-⟩:=ho
 obtain ⟨tv,t,pvv,ps,ix,nm,at_⟩:=o
 dsimp only at htr hpr hpb
 obtain ⟨At,ct,rfl⟩:=htr.sl
 obtain ⟨v12,hr12,hs12⟩:=Row.hi (P:=prog) (t:=28) hpr (min ps.length 16) (Nat.min_le_left _ _)
 obtain ⟨Ap,cp,rfl⟩:=hpr.sl
 rw [Nat.mul_one,Jl (FP .u8)] at hr12
 obtain ⟨y,hy⟩:∃ y,y=ps.take (min ps.length 16):=⟨_,rfl⟩
 have hyl:y.length=min ps.length 16:=by rw [hy,List.length_take]; omega
 have hyt:y=ps.take 16:=by
  rw [hy]
  by_cases hx:ps.length≤16
  ·rw [Nat.min_eq_left hx,List.take_length,List.take_of_length_le hx]
  ·rw [Nat.min_eq_right AC]
 have hyb:∀ x∈y,0≤x∧x≤255:=fun x hx=>by rw [hyt] at hx; exact hpb x (List.mem_of_mem_take hx)
 rw [← hy,← hyl] at hr12
 have hpar:Fh n (StA.pl ⟨.slice At t.length ct,t,.slice Ap ps.length cp,ps,ix,nm,at_⟩).ps=(y.map Int.toNat).foldl (CI n) []:=by
  unfold Fh StA.pl
  rw [hyt,List.map_take]
 rw [hpar]
 have hle:∀ i,((y.map Int.toNat).take i).foldl (CI n) []=Fh n ((y.map Int.toNat).take i):=fun i=>by
  unfold Fh
  rw [List.take_of_length_le (l:=(y.map Int.toNat).take i) (by rw [List.length_take,List.length_map,hyl]; omega)]
 refine Spec.of 47 func28 rfl rfl rfl ?_
 refine Ad (AE (Bp rfl rfl) (fun b2=>?_))
 refine Au [1,2] rfl rfl (Ad (Au [1,2,5] rfl rfl (Ad (Ah rfl ?_))))
 refine AE (FK n rfl rfl rfl AC (by simp only [maxLen]; omega)) ?_
 rintro b11
 skip
 refine Au [1,2,5,6] rfl rfl (Aj (Ad (Af (Ae rfl) (AM (Ak rfl rfl) (Af (Ae rfl) (AM (Ak rfl rfl) (Af (AW hpr rfl) (Af (DE rfl rfl) (Af (hs12 _ _ _ .i64 _ rfl rfl AC) (Af (AW hr12 rfl) (Ah rfl (AI [1,5,6,18,19,20] rfl (AB (AX (own_nil_ent (e:=3) (n:=1)) ?_))))))))))))))
 refine B4 (ι:=Nat×Value) (fun z env L=>Sub env [(1,.int .i64 (n:Nat)),(5,z.2),(6,.slice (some ⟨b11,0,none⟩) n n),(18,v12),(19,.int .i64 (y.length:Nat)),(20,.int .i64 (z.1:Nat))]∧Ent L [own 3 1 z.2 (((y.map Int.toNat).take z.1).foldl (CI n) []).length ((((y.map Int.toNat).take z.1).foldl (CI n) []).flatMap (Bw .i64)),B5 b11 4 (JW n fun j=>decide ((j:Int)∈((y.map Int.toNat).take z.1).foldl (CI n) [])),ro μ]∧z.1≤y.length) (fun z=>y.length-z.1) (0,.slice none 0 0) ⟨⟨rfl,rfl,rfl,rfl,rfl,rfl,trivial⟩,by rw [Ul]; show Ent _ [own 3 1 (.slice none 0 0) 0 [],B5 b11 4 (JW n fun j=>false),ro μ]; exact Split.ent' AG,Nat.zero_le _⟩ ?_
 rintro ⟨i,cv⟩ env L ⟨hsub,hE,hi⟩
 dsimp only at hsub hE hi
 refine B7 _ hsub (AX hE ?_)
 clear hsub hE env L
 refine Ad (Af (Be rfl rfl) (AI [1,5,6,18,19,20,21] rfl (Aj ?_)))
 refine Aq rfl (fun h21=>?_) (fun h21=>?_)
 ·have h21':i<y.length:=by have:=of_decide_eq_true h21; omega
  obtain ⟨x,hx⟩:∃ x,y[i]? = some x:=⟨_,List.getElem?_eq_getElem h21'⟩
  obtain ⟨x0,x1⟩:=hyb x (List.mem_of_getElem? hx)
  obtain ⟨p,rfl⟩:∃ p:Nat,x=(p:Int):=⟨x.toNat,by omega⟩
  have hst:((y.map Int.toNat).take (i+1)).foldl (CI n) []=CI n (((y.map Int.toNat).take i).foldl (CI n) []) p:=by
   rw [Ca (R:=y.map Int.toNat) (r:=p) (by rw [List.getElem?_map,hx]; rfl),List.foldl_append]; rfl
  have hlen:(((y.map Int.toNat).take i).foldl (CI n) []).length≤16:=by rw [hle]; exact (FI n _).2
  obtain ⟨gb,off,cap,hv,_,_,hra⟩:=hr12.pos AC
  have hcell:=(hra.elem (f:=Bw .u8) (n:=1) (fun _=>rfl) hx).cell
  generalize ((y.map Int.toNat).take i).foldl (CI n) []=li at *
  refine Ar (Ai (Aj (AB (Ad ?_))))
  refine Af (AA (off+i*1) (congrArg some hv) rfl AC AC (by rw [Int.toNat_natCast])) ?_
  refine AM (BJ rfl hcell) (Au [1,5,6,8,18,19,20] rfl rfl (Ad (Ah rfl (Af (BO rfl rfl) (AI [1,5,6,8,18,19,20,25] rfl ?_)))))
  refine Aq rfl (fun h25=>?_) (fun h25=>?_)
  ·have h25':0<n:=by have:=of_decide_eq_true h25; omega
   have hpm:=Nat.mod_lt p h25'
   refine Ad (Ah rfl (Af (BH ((n-1:Nat):Int) rfl rfl AC AC AC) (Ah rfl (Af (DP rfl AC AC) (Ah rfl (Af (Jn rfl rfl h25') (Af (BH ((n-1-p % n:Nat):Int) rfl rfl AC AC AC) (Au [1,5,6,9,18,19,20] rfl rfl (Ad (Ah rfl (Ah rfl ?_)))))))))))
   refine Af (AA (n-1-p % n) rfl rfl AC AC (by rw [Int.toNat_natCast]; omega)) ?_
   refine AM (Ak rfl (Gi _ (show n-1-p % n<n by omega))) ?_
   refine Af (Cd rfl) (AI [1,5,6,9,18,19,20,37] rfl ?_)
   refine Aq rfl (fun h37=>?_) (fun h37=>?_)
   ·have hnin:¬ ((n-1-p % n:Nat):Int)∈li:=by simpa using h37
    refine Ad (Ah rfl (Ah rfl ?_))
    refine Af (AA (n-1-p % n) rfl rfl AC AC (by rw [Int.toNat_natCast]; omega)) ?_
    refine Bh (CB rfl rfl rfl (by rw [EF]; omega)) ?_
    refine AI [1,5,6,9,18,19,20] rfl (Am (Ah rfl (Ah rfl (AE (Bs (qs:=[(0,_)]) rfl rfl rfl) (fun b43=>?_)))))
    refine AE (Bj (l:=li.length) (m:=1) rfl rfl AG (by simp only [maxLen]; omega) AC) ?_
    rintro v44 -
    skip
    refine B2 rfl (Bi [1,5,6,18,19,20] rfl (AJ (AV (Ai (Am (Af (AQ ((i+1:Nat):Int) rfl rfl AC AC AC) (Ah rfl (Bi [1,5,6,18,19,20] rfl (AJ ?_)))))))))
    refine Ai ⟨(i+1,v44),⟨⟨rfl,rfl,rfl,rfl,rfl,rfl,trivial⟩,?_,h21'⟩,by show y.length-(i+1)<y.length-i; omega⟩
    have e1:CI n li p=li++[((n-1-p % n:Nat):Int)]:=if_neg (fun k=>k.elim AC hnin)
    have e2:(JW n fun j=>decide ((j:Int)∈li)).set (n-1-p % n) (.bool true)=JW n fun j=>decide ((j:Int)∈li++[((n-1-p % n:Nat):Int)]):=by
     rw [A0l]
     refine Lu fun j hj=>?_
     unfold on1
     rw [Bool.eq_iff_iff]
     simp only [Bool.or_eq_true,decide_eq_true_eq,List.mem_append,List.mem_singleton,Int.natCast_inj]
    dsimp only
    rw [hst,e1,List.length_append,List.flatMap_append,← e2]
    show Ent _ [own 3 1 v44 (li.length+1) (li.flatMap (Bw .i64)++[.int .i64 ((n-1-p % n:Nat):Int)]),B5 b11 4 ((JW n fun j=>decide ((j:Int)∈li)).set (n-1-p % n) (.bool true)),ro μ]
    exact Split.ent' AG
   ·have hin:((n-1-p % n:Nat):Int)∈li:=by simpa using h37
    refine Ar (AV (Ai (Am (Af (AQ ((i+1:Nat):Int) rfl rfl AC AC AC) (Ah rfl (Bi [1,5,6,18,19,20] rfl (AJ ?_)))))))
    refine Ai ⟨(i+1,cv),⟨⟨rfl,rfl,rfl,rfl,rfl,rfl,trivial⟩,?_,h21'⟩,by show y.length-(i+1)<y.length-i; omega⟩
    dsimp only
    rw [hst,show CI n li p=li from if_pos (.inr hin)]
    exact Split.ent' AG
  ·have h25':=of_decide_eq_false h25
   refine Ar (AV (Ai (Am (Af (AQ ((i+1:Nat):Int) rfl rfl AC AC AC) (Ah rfl (Bi [1,5,6,18,19,20] rfl (AJ ?_)))))))
   refine Ai ⟨(i+1,cv),⟨⟨rfl,rfl,rfl,rfl,rfl,rfl,trivial⟩,?_,h21'⟩,by show y.length-(i+1)<y.length-i; omega⟩
   dsimp only
   rw [hst,show CI n li p=li from if_pos (.inl AC)]
   exact Split.ent' AG
 ·have h21':=of_decide_eq_false h21
  obtain rfl:i=y.length:=by omega
  rw [show (y.map Int.toNat).take y.length=y.map Int.toNat by rw [← List.length_map (f:=Int.toNat),List.take_length]]
  refine B3 (AU (AU (AY rfl (Ai (Ad (Ah rfl (Au [4] rfl rfl (Av ?_))))))))
  exact Aw [own 3 1 cv ((y.map Int.toNat).foldl (CI n) []).length (((y.map Int.toNat).foldl (CI n) []).flatMap (Bw .i64)),ro μ] (.tmp rfl .nil) rfl AG
structure BTab (μ:PH) (v:Value) (N:Nat) (g:List (List Int)) (vs:List Value):Prop where
 row:Row μ v 1 vs.length vs
 at_:∀ (i:Nat) (x:Value),vs[i]? = some x→Row μ x 1 N (JW N (up g i))
theorem Ro {n k:Nat}(f:Nat→Bool)(v:Bool):(JW n f).set k (.bool v)=JW n fun b=>if b=k then v else f b:=by
 apply List.ext_getElem?
 intro j
 by_cases hj:j<n
 ·rw [Gi _ hj]
  by_cases e:k=j
  ·subst e; rw [List.getElem?_set_self (by rw [EF]; exact hj),if_pos rfl]
  ·rw [List.getElem?_set_ne e,Gi _ hj,if_neg (fun h=>e h.symm)]
 ·rw [List.getElem?_eq_none (by rw [List.length_set,EF]; omega),List.getElem?_eq_none (by rw [EF]; omega)]
theorem Rp {μ:PH}{x:Value}{N k:Nat}{f:Nat→Bool}(h:Row μ x 1 N (JW N f))(hk:k<N):∃ b o c,x=.slice (some ⟨b,o,none⟩) N c∧CellAt μ b (o+k*1) (.bool (f k)):=by
 obtain ⟨b,o,c,hv,_,_,hr⟩:=h.pos AC
 exact ⟨b,o,c,hv,by rw [Nat.mul_one]; exact hr k _ (Gi f hk)⟩
def Zc (g:List (List Int))(a:Nat)(ps:List Int)(b:Nat):Bool:=decide (b=a)||ps.any fun p=>up g p.toNat b
theorem YY {g:List (List Int)}{a:Nat}{ps:List Int}{j:Nat}{p:Int}(h:ps[j]? = some p)(b:Nat):Zc g a (ps.take (j+1)) b=(Zc g a (ps.take j) b||up g p.toNat b):=by
 unfold Zc
 rw [Ca h,List.any_append,List.any_cons,List.any_nil,Bool.or_false,Bool.or_assoc]
set_option maxHeartbeats 8000000 in
theorem Rq (μ:PH)(v:Value)(G:List (Value×List Int))(hG:Graph μ v G)(hg:E5 (C6 G))(hl:G.length≤16)(hps:∀ x∈G,x.2.length≤16):Spec prog 12 [v] [ro μ] (fun r L=>∃ μ' vs,Le μ μ'∧vs.length=G.length∧BTab μ' r G.length (C6 G) vs∧L=[ro μ']):=by
 refine Spec.of 58 func12 rfl rfl rfl ?_
 refine Ad (Au [0] rfl rfl (Ad (Au [0,3] rfl rfl (Aj (Ad (Ah rfl (Af (AW hG.1 rfl) (Ah rfl (AI [0,3,10,11,12] rfl (AB (AX (own_nil_ent (e:=72) (n:=1)) ?_)))))))))))
 refine B4 (ι:=Nat×List Value×PH×(Option Addr×Nat)) (fun z env L=>Sub env [(0,v),(3,.slice z.2.2.2.1 z.1 z.2.2.2.2),(10,v),(11,.int .i64 (G.length:Nat)),(12,.int .i64 (z.1:Nat))]∧Ent L [own 72 1 (.slice z.2.2.2.1 z.1 z.2.2.2.2) z.1 z.2.1,ro z.2.2.1]∧z.1≤G.length∧Le μ z.2.2.1∧z.2.1.length=z.1∧(∀ (i:Nat) (x:Value),z.2.1[i]? = some x→Row z.2.2.1 x 1 G.length (JW G.length (up (C6 G) i)))) (fun z=>G.length-z.1) (0,[],μ,(none,0)) ⟨⟨rfl,rfl,rfl,rfl,rfl,trivial⟩,by show Ent _ [own 72 1 (.slice none 0 0) 0 [],ro μ]; exact Split.ent' AG,Nat.zero_le _,Le.refl _,rfl,fun i x hx=>(by cases hx)⟩ ?_
 rintro ⟨a,vs,μi,⟨A,ca⟩⟩ env L ⟨hsub,hE,ha,ki,hvl,hvs⟩
 dsimp only at hsub hE ha ki hvl hvs
 refine B7 _ hsub (AX hE ?_)
 clear hsub hE env L
 refine Er (fun m h=>YE h) fun hcap=>?_
 refine Ad (Af (Be rfl rfl) (AI [0,3,10,11,12,13] rfl (Aj ?_)))
 refine Aq rfl (fun h13=>?_) (fun h13=>?_)
 ·have h13':a<G.length:=by have:=of_decide_eq_true h13; omega
  obtain ⟨x,hx⟩:∃ x,G[a]? = some x:=⟨_,List.getElem?_eq_getElem h13'⟩
  have hpr:=(hG.2 x (List.mem_of_getElem? hx)).le ki
  have hpl:=hps x (List.mem_of_getElem? hx)
  obtain ⟨gb,off,cap,hv,_,_,hr0⟩:=(hG.1.le ki).pos AC
  have hcell:=(hr0.elem (f:=gcs) (n:=1) OP hx).cell
  have hrow:Ch (C6 G) a=x.2:=by
   unfold Ch C6
   rw [List.getD_eq_getElem?_getD,List.getElem?_map,hx]; rfl
  have hgd:∀ p∈x.2,0≤p∧p<(a:Int):=fun p hp=>by
   obtain ⟨h0,h1,_⟩:=Dl (a:=a) hg (p:=p) (by rw [hrow]; exact hp)
   exact ⟨h0,h1⟩
  have hfin:∀ b,up (C6 G) a b=Zc (C6 G) a x.2 b:=fun b=>by rw [up_step hg,hrow]; rfl
  obtain ⟨pvv,ps⟩:=x
  dsimp only at hpr hpl hrow hgd hfin hcell
  refine Ar (Ai (Aj (AB (Ad (Ah rfl ?_)))))
  refine Af (AA (off+a*1) (congrArg some hv) rfl AC AC (by rw [Int.toNat_natCast])) ?_
  refine AM (BJ rfl hcell) (B2 rfl (Au [0,3,4,5,10,11,12] rfl rfl (Ad (Ah rfl (Af (AW hG.1 rfl) ?_)))))
  refine AE (FK G.length rfl rfl rfl AC (by simp only [maxLen]; omega)) ?_
  rintro b19
  skip
  refine Au [0,3,4,5,6,10,11,12] rfl rfl (Ad (Ah rfl (Ah rfl ?_)))
  refine Af (AA a rfl rfl AC AC (by rw [Int.toNat_natCast]; omega)) ?_
  refine Bh (CB rfl rfl rfl (by rw [List.length_replicate]; omega)) ?_
  refine AI [0,3,5,6,10,11,12] rfl (Aj (Aj ?_))
  have e0:(List.replicate G.length (Value.bool false)).set a (.bool true)=JW G.length (Zc (C6 G) a []):=by
   rw [Ul,Ro]
   refine Lu fun b hb=>?_
   unfold Zc
   by_cases e:b=a
   ·rw [if_pos e,decide_eq_true e]; rfl
   ·rw [if_neg e,decide_eq_false e]; rfl
  rw [e0]
  refine Am (Ah rfl (Af (AW hpr rfl) (Ah rfl (AI [0,3,6,10,11,12,23,24,25] rfl (AB ?_)))))
  refine B4 (ι:=Nat) (fun j env L=>Sub env [(0,v),(3,.slice A a ca),(6,.slice (some ⟨b19,0,none⟩) G.length G.length),(10,v),(11,.int .i64 (G.length:Nat)),(12,.int .i64 (a:Nat)),(23,pvv),(24,.int .i64 (ps.length:Nat)),(25,.int .i64 (j:Nat))]∧Ent L [B5 b19 4 (JW G.length (Zc (C6 G) a (ps.take j))),own 72 1 (.slice A a ca) a vs,ro μi]∧j≤ps.length) (fun j=>ps.length-j) 0 ⟨⟨rfl,rfl,rfl,rfl,rfl,rfl,rfl,rfl,rfl,trivial⟩,by rw [List.take_zero]; exact Split.ent' AG,Nat.zero_le _⟩ ?_
  rintro j env L ⟨hsub,hE,hj⟩
  refine B7 _ hsub (AX hE ?_)
  clear hsub hE env L
  refine Ad (Af (Be rfl rfl) (AI [0,3,6,10,11,12,23,24,25,26] rfl (Aj ?_)))
  refine Aq rfl (fun h26=>?_) (fun h26=>?_)
  ·have h26':j<ps.length:=by have:=of_decide_eq_true h26; omega
   obtain ⟨p,hp⟩:∃ p,ps[j]? = some p:=⟨_,List.getElem?_eq_getElem h26'⟩
   obtain ⟨p0,p1⟩:=hgd p (List.mem_of_getElem? hp)
   obtain ⟨pn,rfl⟩:∃ k:Nat,p=(k:Int):=⟨p.toNat,by omega⟩
   have hF:=fun b=>YY (g:=C6 G) (a:=a) hp b
   obtain ⟨pb,po,pcap,hpv,_,_,hpr0⟩:=hpr.pos AC
   have hpc:=(hpr0.elem (f:=Bw .i64) (n:=1) (fun _=>rfl) hp).cell
   obtain ⟨xv,hxv⟩:∃ u,vs[pn]? = some u:=⟨_,List.getElem?_eq_getElem AC⟩
   have hxr:=hvs pn xv hxv
   obtain ⟨rb,hA⟩:∃ rb,A=some ⟨rb,0,none⟩:=by
    obtain ⟨c1,c2,c3,c4⟩:=hcap
    cases A with
    | none=>have:=c3 rfl; omega
    | some w=>obtain ⟨b,rfl⟩:=c4 w rfl; exact ⟨b,rfl⟩
   rw [Int.toNat_natCast] at hF
   generalize hF1:Zc (C6 G) a (ps.take (j+1))=F1 at *
   generalize Zc (C6 G) a (ps.take j)=F0 at *
   refine Ar (Ai (Aj (AB (Ad ?_))))
   refine Af (AA (po+j*1) (congrArg some hpv) rfl AC AC (by rw [Int.toNat_natCast])) ?_
   refine AM (BJ rfl hpc) (Au [0,3,6,8,10,11,12,23,24,25] rfl rfl (Ad (Ah rfl (Af (BD rfl) (Ah rfl (AI [0,3,6,8,10,11,12,23,24,25,30,31] rfl (AB ?_)))))))
   refine B4 (ι:=Nat) (fun k env L=>Sub env [(0,v),(3,.slice A a ca),(6,.slice (some ⟨b19,0,none⟩) G.length G.length),(8,.int .i64 (pn:Nat)),(10,v),(11,.int .i64 (G.length:Nat)),(12,.int .i64 (a:Nat)),(23,pvv),(24,.int .i64 (ps.length:Nat)),(25,.int .i64 (j:Nat)),(30,.int .i64 (G.length:Nat)),(31,.int .i64 (k:Nat))]∧Ent L [B5 b19 4 (JW G.length fun b=>if b<k then F1 b else F0 b),own 72 1 (.slice A a ca) a vs,ro μi]∧k≤G.length) (fun k=>G.length-k) 0 ⟨⟨rfl,rfl,rfl,rfl,rfl,rfl,rfl,rfl,rfl,rfl,rfl,rfl,trivial⟩,by rw [show (fun b=>if b<0 then F1 b else F0 b)=F0 from funext fun b=>if_neg (Nat.not_lt_zero b)]; exact Split.ent' AG,Nat.zero_le _⟩ ?_
   rintro k env L ⟨hsub,hE,hk⟩
   refine B7 _ hsub (AX hE ?_)
   clear hsub hE env L
   refine Ad (Af (Be rfl rfl) (AI [0,3,6,8,10,11,12,23,24,25,30,31,32] rfl (Aj ?_)))
   refine Aq rfl (fun h32=>?_) (fun h32=>?_)
   ·have h32':k<G.length:=by have:=of_decide_eq_true h32; omega
    have hgk:(JW G.length fun b=>if b<k then F1 b else F0 b)[k]? = some (.bool (F0 k)):=by rw [Gi _ h32',if_neg (Nat.lt_irrefl k)]
    obtain ⟨xb,xo,xc,hxe,hxc⟩:=Rp hxr h32'
    have hset:∀ w,w=F1 k→(JW G.length fun b=>if b<k then F1 b else F0 b).set k (.bool w)=JW G.length fun b=>if b<k+1 then F1 b else F0 b:=fun w hw=>by
     rw [Ro]
     refine Lu fun b hb=>?_
     by_cases e:b=k
     ·rw [if_pos e,if_pos AC,hw,e]
     ·rw [if_neg e]
      by_cases e2:b<k
      ·rw [if_pos e2,if_pos AC]
      ·rw [if_neg e2,if_neg AC]
    refine Ar (Ai (Aj (AB (Ad (Ah rfl (Au [0,3,6,8,9,10,11,12,23,24,25,30,31] rfl rfl (Am (Ah rfl (Ah rfl (Ah rfl (Ah rfl ?_)))))))))))
    refine Af (AA k rfl rfl AC AC (by rw [Int.toNat_natCast]; omega)) ?_
    refine AM (Ak rfl hgk) (Ah rfl ?_)
    refine B9 40 rfl (fun h40=>?_) (fun h40=>?_)
    ·refine B1 rfl rfl rfl (B1 rfl rfl rfl (B1 rfl rfl rfl (B1 rfl rfl rfl (B1 rfl rfl rfl (B1 rfl rfl rfl (B1 rfl rfl rfl (Af (Bc rfl rfl) ?_)))))))
     refine Af (AA k rfl rfl AC AC (by rw [Int.toNat_natCast]; omega)) ?_
     refine Bh (CB rfl rfl rfl (by rw [EF]; omega)) ?_
     refine Bi [0,3,6,8,10,11,12,23,24,25,30,31] rfl (AJ (AV (Ai (Am (Af (AQ ((k+1:Nat):Int) rfl rfl AC AC AC) (Ah rfl (Bi [0,3,6,8,10,11,12,23,24,25,30,31] rfl (AJ ?_))))))))
     refine Ai ⟨k+1,⟨⟨rfl,rfl,rfl,rfl,rfl,rfl,rfl,rfl,rfl,rfl,rfl,rfl,trivial⟩,?_,h32'⟩,by omega⟩
     rw [hset true (by rw [hF,h40]; rfl)]
     exact Split.ent' AG
    ·refine AS rfl rfl (Ah rfl (AS rfl rfl (Ah rfl (AS rfl rfl ?_))))
     refine Af (AA (b:=rb) pn (by rw [hA]; rfl) rfl AC AC (by rw [Int.toNat_natCast]; omega)) ?_
     refine AS rfl rfl ?_
     refine AM (Gk (b:=rb) (c:=ca) rfl (by rw [hA]; exact JU) hxv) ?_
     refine AS rfl rfl (Ah rfl (AS rfl rfl ?_))
     refine Af (AA (xo+k*1) (congrArg some hxe) rfl AC AC (by rw [Int.toNat_natCast])) ?_
     refine AS rfl rfl (AM (BJ rfl hxc) (Af (B0 rfl rfl) ?_))
     refine Af (AA k rfl rfl AC AC (by rw [Int.toNat_natCast]; omega)) ?_
     refine Bh (CB rfl rfl rfl (by rw [EF]; omega)) ?_
     refine Bi [0,3,6,8,10,11,12,23,24,25,30,31] rfl (AJ (AV (Ai (Am (Af (AQ ((k+1:Nat):Int) rfl rfl AC AC AC) (Ah rfl (Bi [0,3,6,8,10,11,12,23,24,25,30,31] rfl (AJ ?_))))))))
     refine Ai ⟨k+1,⟨⟨rfl,rfl,rfl,rfl,rfl,rfl,rfl,rfl,rfl,rfl,rfl,rfl,trivial⟩,?_,h32'⟩,by omega⟩
     rw [hset _ (by rw [hF,h40]; rfl)]
     exact Split.ent' AG
   ·have h32':=of_decide_eq_false h32
    obtain rfl:k=G.length:=by omega
    rw [show (JW G.length fun b=>if b<G.length then F1 b else F0 b)=JW G.length F1 from Lu fun b hb=>if_pos hb]
    refine B3 (AU (AU (AY rfl (AV (Ai (Am (Af (AQ ((j+1:Nat):Int) rfl rfl AC AC AC) (Ah rfl (Bi [0,3,6,10,11,12,23,24,25] rfl (AJ ?_))))))))))
    exact Ai ⟨j+1,⟨⟨rfl,rfl,rfl,rfl,rfl,rfl,rfl,rfl,rfl,trivial⟩,by rw [hF1]; exact Split.ent' AG,h26'⟩,by omega⟩
  ·have h26':=of_decide_eq_false h26
   obtain rfl:j=ps.length:=by omega
   rw [List.take_length,show Zc (C6 G) a ps=up (C6 G) a from funext fun b=>(hfin b).symm]
   refine B3 (AU (AU (AY rfl (Ai ?_))))
   refine AX (N0 (n:=1) (l:=G.length) (by rw [EF,Nat.mul_one]) (by simp only [maxLen]; omega)) ?_
   refine BA (v:=.slice (some ⟨b19,0,none⟩) G.length G.length) (μ:=μi) AG fun μ2 k2 hr=>?_
   refine Am (Ah rfl (Ah rfl (AE (Bs (qs:=[(0,_)]) rfl rfl rfl) (fun b54=>?_))))
   refine AE (Bj (l:=a) (m:=1) rfl rfl AG (by simp only [maxLen]; omega) AC) ?_
   rintro v55 -
   refine E3 (fun m h=>CL h) fun ⟨A55,c55,hv55⟩=>?_
   subst hv55
   refine B2 rfl (Bi [0,3,10,11,12] rfl (AJ (AV (Ai (Am (Af (AQ ((a+1:Nat):Int) rfl rfl AC AC AC) (Ah rfl (Bi [0,3,10,11,12] rfl (AJ ?_)))))))))
   refine Ai ⟨(a+1,vs++[.slice (some ⟨b19,0,none⟩) G.length G.length],μ2,(A55,c55)),⟨⟨rfl,rfl,rfl,rfl,rfl,trivial⟩,Split.ent' AG,h13',ki.trans k2,by dsimp only; rw [List.length_append,hvl]; rfl,fun i x hx=>?_⟩,by show G.length-(a+1)<G.length-a; omega⟩
   dsimp only at hx ⊢
   by_cases hi:i<vs.length
   ·rw [List.getElem?_append_left hi] at hx
    exact (hvs i x hx).le k2
   ·have hl2:=(List.getElem?_eq_some_iff.1 hx).1
    rw [List.length_append,List.length_singleton] at hl2
    have hi2:vs.length≤i:=by omega
    have hi3:i-vs.length=0:=by omega
    rw [List.getElem?_append_right hi2,hi3] at hx
    obtain rfl:=Option.some.inj hx
    rw [show i=a by omega]
    exact hr
 ·have h13':=of_decide_eq_false h13
  obtain rfl:a=G.length:=by omega
  refine BA (v:=.slice A G.length ca) (μ:=μi) AG fun μ2 k2 hr2=>?_
  refine B3 (AU (AU (AY rfl (Ai (Ad (Ah rfl (Au [2] rfl rfl (Av ?_))))))))
  exact Aw [ro μ2] (.tmp rfl .nil) ⟨μ2,vs,ki.trans k2,hvl,⟨by rw [hvl]; exact hr2,fun i x hx=>(hvs i x hx).le k2⟩,rfl⟩ AG
theorem A1l{μ:PH}{v:Value}{N:Nat}{g:List (List Int)}{vs:List Value}(h:BTab μ v N g vs){a c:Nat}(ha:a<vs.length)(hc:c<N):∃ vb vo cap xa xb xo xc,v=.slice (some ⟨vb,vo,none⟩) vs.length cap∧CellAt μ vb (vo+a*1) xa∧xa=.slice (some ⟨xb,xo,none⟩) N xc∧CellAt μ xb (xo+c*1) (.bool (up g a c)):=by
 obtain ⟨x,hx⟩:∃ x,vs[a]? = some x:=⟨_,List.getElem?_eq_getElem ha⟩
 obtain ⟨vb,vo,cap,hv,_,_,hr⟩:=h.row.pos AC
 obtain ⟨xb,xo,xc,hxe,hcell⟩:=Rp (h.at_ a x hx) hc
 exact ⟨vb,vo,cap,x,xb,xo,xc,hv,by rw [Nat.mul_one]; exact hr a x hx,hxe,hcell⟩
theorem SvW.Ok.le{S:SvW}{μ μ':PH}{m c B:Nat}(h:S.Ok μ m c B)(k:Le μ μ'):S.Ok μ' m c B:=⟨h.x.le k,h.w.le k,h.s,h.dead,h.log⟩
theorem SvW.Ok.up{S:SvW}{μ:PH}{m c B B':Nat}(h:S.Ok μ m c B)(k:B≤B'):S.Ok μ m c B':=⟨h.x,h.w,h.s,h.dead,by obtain ⟨b,h1,h2⟩:=h.log; exact ⟨b,h1,by omega⟩⟩
theorem N5 {t:List En}(h:U32s t):U32s (EN t):=by
 refine V7 _ _ (fun e he=>(by cases he)) fun e he=>?_
 obtain ⟨d,hd,rfl⟩:=List.mem_map.1 he
 exact h d (List.mem_of_mem_take hd)
theorem YZ (t:List En):ST (EN t):=fun e he=>by have:=(Hy t).short e he; omega
theorem Z0 {c:Cm}(h:c.1.length≤16):(D2 c).length≤69:=by
 unfold D2
 simp only [List.length_append,Bu,K9]
 omega
set_option maxHeartbeats 4000000 in
theorem Wy (S:SvW)(μ:PH)(m c B n:Nat)(h:S.Ok μ m c B)(hc:c<14)(o:StA)(ho:o.Ok μ)(hn:n≤15)(hT:S.W.pl.1.length=n)(hC:S.W.pl.2.length=n)(hg:GC (S.W.pl.2++[(Fh n o.pl.ps,(n:Int))]))(hB:B+8000≤EI) :
  Spec prog 6 [pv S.sv,.agg (IQ o).toArray,.int .i64 (n:Nat)] (S.L μ) (fun r L=>r=.bool true∧SvQ S μ m c (B+8000) (S.W.pl.1++[EN o.t],S.W.pl.2++[(Fh n o.pl.ps,(n:Int))]) L):=by
 have ho':=ho
 obtain ⟨htr,htu,hpr,hpb,-⟩:=ho
 have hef:=YX (Hy o.t) (IM o.t)
 have hps:=FI n o.pl.ps
 have hx69:=Z0 (c:=(Fh n o.pl.ps,(n:Int))) hps.2
 have hpar:=fun μ' (k:Le μ μ')=>OA μ' o (ho'.le k) n AC
 obtain ⟨At,ct,eA⟩:=htr.sl
 obtain ⟨Ap,cp,eP⟩:=hpr.sl
 have hcs:IQ o=[.slice At o.t.length ct,.slice Ap o.ps.length cp,.int .u8 o.ix,.int .u8 o.nm,.int .u16 o.at_]:=by unfold IQ; rw [eA,eP]
 rw [hcs] at hpar ⊢
 rw [eA] at htr
 refine Spec.of 45 func6 rfl rfl rfl ?_
 refine Ad (AE (Bp rfl rfl) (fun b4=>?_))
 refine Au [0,2,4] rfl rfl (Ad (Ah rfl (Af (Ae rfl) (AM (Ak rfl rfl) ?_))))
 refine AE (AF (N4 μ _ o.t htr) rfl rfl AG) ?_
 rintro v15 L1 ⟨μ1,k1,hrow,rfl⟩
 refine As ?_
 refine AE (AF (Nl S μ1 m c B (h.le k1) hc v15 (EN o.t) hrow (N5 htu) (YW (Hy o.t) (by have:=IM o.t; omega)) (IM o.t) (YZ o.t) AC AC) rfl rfl AG) ?_
 rintro v16 L1 ⟨rfl,hQ⟩
 obtain ⟨S1,μ2,k2,hS1,hpl1,hsv1,hq1,-,rfl⟩:=hQ
 refine As ?_
 rw [← hsv1]
 refine Ah rfl (Af (Ax rfl) (Af (Ax rfl) (B2 rfl (Au [0,2,4,7,8] rfl rfl (Aj ?_)))))
 have hp1:S1.W.pl.1=S.W.pl.1++[EN o.t]:=by rw [hpl1]
 have hp2:S1.W.pl.2=S.W.pl.2:=by rw [hpl1]
 have hl1:S1.W.pl.1.length=n+1:=by rw [hp1,List.length_append,List.length_singleton,hT]
 refine Am (Ah rfl (AM (BL (vs:=[.slice At o.t.length ct,.slice Ap o.ps.length cp,.int .u8 o.ix,.int .u8 o.nm,.int .u16 o.at_]) rfl rfl rfl) (Ah rfl ?_)))
 refine AE (AF (hpar μ2 (k1.trans k2)) rfl rfl AG) ?_
 rintro v23 L1 rfl
 refine As ?_
 refine C4 (v:=v23) (μ:=μ2) AG fun μ3 k3 hr=>?_
 obtain ⟨A23,c23,rfl⟩:=hr.sl
 refine Ah rfl (Af (Bz (qs:=[(0,_),(1,_)]) rfl) ?_)
 refine AE (AF (PC S1 μ3 m c (B+((Eo (EN o.t)).length+9)) (hS1.le k3) hc _ (Fh n o.pl.ps,(n:Int)) hr (by rw [hp2]; exact hg) (Ww o.pl.ps AC AC) (by rw [hl1,hp2,hC]; exact Wx _) (by rw [hl1]; dsimp only; omega) AC) rfl rfl AG) ?_
 rintro v26 L1 ⟨rfl,hQ⟩
 obtain ⟨S2,μ4,k4,hS2,hpl2,hsv2,hq2,hcl2,rfl⟩:=hQ
 refine As (Ah rfl (Af (Ax rfl) (Af (Ax rfl) (B2 rfl (Au [2,7,8,9,10] rfl rfl (Ad (Ah rfl (Ah rfl (Af (Bo rfl rfl) (Ah rfl ?_))))))))))
 refine B9 32 rfl (fun h32=>?_) (fun h32=>by have:=of_decide_eq_false h32; omega)
 refine AS rfl rfl (Ah rfl (AS rfl rfl (Ah rfl (AS rfl rfl (Af (Bo rfl rfl) (Af (Bc rfl rfl) (Ah rfl ?_)))))))
 refine B9 37 rfl (fun h37=>?_) (fun h37=>by have:=of_decide_eq_false h37; rw [hp2] at this; omega)
 refine AS rfl rfl (Ah rfl (AS rfl rfl (Af (Bo rfl rfl) (Af (Bc rfl rfl) (Ah rfl ?_)))))
 refine B9 41 rfl (fun h41=>?_) (fun h41=>by cases h41)
 refine AS rfl rfl (Ah rfl (AS rfl rfl (Af (Bo rfl rfl) (Af (Bc rfl rfl) (Au [6] rfl rfl (Av ?_))))))
 exact Aw (S2.L μ4) (.tmp rfl .nil) ⟨rfl,S2,μ4,(k1.trans k2).trans (k3.trans k4),hS2.up AC,by rw [hpl2,hp1,hp2],hsv2.trans hsv1,hq2.trans hq1,hcl2,rfl⟩ AG
theorem N6 {S:List StP}{i:Nat}{s:StP}(h:S[i]? = some s):(EZ S)[i]? = some (Fh i s.ps):=by
 unfold EZ
 rw [List.getElem?_map,GY h]; rfl
set_option maxHeartbeats 4000000 in
theorem Tr (μ:PH)(v:Value)(xs:List StA)(hrow:Row μ v 5 xs.length (xs.flatMap IQ))(hok:∀ o∈xs,o.Ok μ)(hl:xs.length≤15):Spec prog 11 [v] [ro μ] (fun r L=>∃ μ' gv tv G,∃ T:List (Value×List En),Le μ μ'∧r=.tuple #[gv,tv]∧Graph μ' gv G∧C6 G=EZ (xs.map StA.pl)∧Row μ' tv 1 T.length (T.flatMap Y2)∧(∀ x∈T,Row μ' x.1 2 x.2.length (Ci x.2))∧T.map (·.2)=Ej (xs.map StA.pl)∧L=[ro μ']):=by
 have hsm:=hrow.small
 refine Spec.of 30 func11 rfl rfl rfl ?_
 refine Ad (B2 rfl (Au [0] rfl rfl (Ad (Au [0,4] rfl rfl (Ad (Au [0,4,5] rfl rfl (Aj (Ad (Ah rfl (Af (AW hrow rfl) (Ah rfl (AI [4,5,8,9,10] rfl (AB (AX (own_nil_ent (e:=27) (n:=1)) (AX (own_nil_ent (e:=60) (n:=1)) ?_)))))))))))))))
 refine B4 (ι:=Nat×List (Value×List Int)×List (Value×List En)×PH×Value×Value) (fun z env L=>Sub env [(4,z.2.2.2.2.1),(5,z.2.2.2.2.2),(8,v),(9,.int .i64 (xs.length:Nat)),(10,.int .i64 (z.1:Nat))]∧Ent L [own 60 1 z.2.2.2.2.1 z.2.1.length (z.2.1.flatMap gcs),own 27 1 z.2.2.2.2.2 z.2.2.1.length (z.2.2.1.flatMap Y2),ro z.2.2.2.1]∧z.1≤xs.length∧Le μ z.2.2.2.1∧(∀ x∈z.2.1,Row z.2.2.2.1 x.1 1 x.2.length (x.2.flatMap (Bw .i64)))∧C6 z.2.1=EZ ((xs.map StA.pl).take z.1)∧(∀ x∈z.2.2.1,Row z.2.2.2.1 x.1 2 x.2.length (Ci x.2))∧z.2.2.1.map (·.2)=Ej ((xs.map StA.pl).take z.1)) (fun z=>xs.length-z.1) (0,[],[],μ,.slice none 0 0,.slice none 0 0) ⟨⟨rfl,rfl,rfl,rfl,rfl,trivial⟩,by show Ent _ [own 60 1 (.slice none 0 0) 0 [],own 27 1 (.slice none 0 0) 0 [],ro μ]; exact Split.ent' AG,Nat.zero_le _,Le.refl _,fun x hx=>(by cases hx),rfl,fun x hx=>(by cases hx),rfl⟩ ?_
 rintro ⟨i,G,T,μi,gv,tv⟩ env L ⟨hsub,hE,hi,ki,hG,hGn,hT,hTn⟩
 dsimp only at hsub hE hi ki hG hGn hT hTn
 refine B7 _ hsub (AX hE ?_)
 clear hsub hE env L
 refine Ad (Af (Be rfl rfl) (AI [4,5,8,9,10,11] rfl (Aj ?_)))
 refine Aq rfl (fun h11=>?_) (fun h11=>?_)
 ·have h11':i<xs.length:=by have:=of_decide_eq_true h11; omega
  obtain ⟨o,ho⟩:∃ o,xs[i]? = some o:=⟨_,List.getElem?_eq_getElem h11'⟩
  have hoo:=hok o (List.mem_of_getElem? ho)
  obtain ⟨gb,off,cap,hv,_,_,hr0⟩:=(hrow.le ki).pos AC
  have hra:=hr0.elem (f:=IQ) (n:=5) JG ho
  have hpar:=fun μ' (k:Le μ μ')=>OA μ' o (hoo.le k) i AC
  obtain ⟨At,ct,eA⟩:=hoo.tr.sl
  obtain ⟨Ap,cp,eP⟩:=hoo.pr.sl
  have hcs:IQ o=[.slice At o.t.length ct,.slice Ap o.ps.length cp,.int .u8 o.ix,.int .u8 o.nm,.int .u16 o.at_]:=by unfold IQ; rw [eA,eP]
  have htr:=hoo.tr
  rw [eA] at htr
  rw [hcs] at hpar hra
  have hGl:G.length≤15:=by
   have:=congrArg List.length hGn
   rw [N3,List.length_map,List.length_take,List.length_map] at this
   omega
  have hTl:T.length≤15:=by
   have:=congrArg List.length hTn
   unfold Ej at this
   rw [List.length_map,List.length_map,List.length_take,List.length_map] at this
   omega
  have hpl:(xs.map StA.pl)[i]? = some o.pl:=by rw [List.getElem?_map,ho]; rfl
  refine Ar (Ai (Aj (AB (Ad (Ah rfl ?_)))))
  refine Af (AA (off+i*5) (congrArg some hv) rfl AC AC (by rw [Int.toNat_natCast])) ?_
  refine AM (Cu (vs:=[.slice At o.t.length ct,.slice Ap o.ps.length cp,.int .u8 o.ix,.int .u8 o.nm,.int .u16 o.at_]) rfl rfl hra) (AE (Bd) (fun b7=>?_))
  refine B2 rfl (Bh (B8 rfl rfl rfl rfl) (AI [4,5,6,7,8,9,10] rfl (Ad (Ah rfl (AM (BL (vs:=[.slice At o.t.length ct,.slice Ap o.ps.length cp,.int .u8 o.ix,.int .u8 o.nm,.int .u16 o.at_]) rfl rfl rfl) (Ah rfl ?_))))))
  refine AE (AF (hpar μi ki) rfl rfl AG) ?_
  rintro v18 L1 rfl
  refine As ?_
  refine C4 (v:=v18) (μ:=μi) AG fun μ2 k2 hr=>?_
  obtain ⟨A18,c18,rfl⟩:=hr.sl
  refine AE (Bs (qs:=[(0,_)]) rfl rfl rfl) fun b19=>?_
  refine AE (Bj (l:=G.length) (m:=1) rfl rfl AG (by simp only [maxLen]; omega) AC) ?_
  rintro v20 -
  skip
  refine Au [4,5,7,8,9,10] rfl rfl (Am (Ah rfl (Af (Ae rfl) (AM (Ak rfl rfl) ?_))))
  refine AE (AF (N4 μ2 _ o.t (htr.le (ki.trans k2))) rfl rfl AG) ?_
  rintro v24 L1 ⟨μ3,k3,hrt,rfl⟩
  refine As ?_
  obtain ⟨A24,c24,rfl⟩:=hrt.sl
  refine AE (Bs (qs:=[(0,_)]) rfl rfl rfl) fun b25=>?_
  refine AE (Bj (l:=T.length) (m:=1) rfl rfl AG (by simp only [maxLen]; omega) AC) ?_
  rintro v26 -
  skip
  refine B2 rfl (Bi [4,5,8,9,10] rfl (AJ (AV (Ai (Am (Af (AQ ((i+1:Nat):Int) rfl rfl AC AC AC) (Ah rfl (Bi [4,5,8,9,10] rfl (AJ ?_)))))))))
  refine Ai ⟨(i+1,G++[(.slice A18 (Fh i o.pl.ps).length c18,Fh i o.pl.ps)],T++[(.slice A24 (EN o.t).length c24,EN o.t)],μ3,v20,v26),⟨⟨rfl,rfl,rfl,rfl,rfl,trivial⟩,?_,h11',ki.trans (k2.trans k3),fun x hx=>?_,?_,fun x hx=>?_,?_⟩,by show xs.length-(i+1)<xs.length-i; omega⟩
  ·dsimp only
   rw [List.length_append,List.length_append,List.flatMap_append,List.flatMap_append]
   show Ent _ [own 60 1 v20 (G.length+1) (G.flatMap gcs++[.slice A18 (Fh i o.pl.ps).length c18]),own 27 1 v26 (T.length+1) (T.flatMap Y2++[.slice A24 (EN o.t).length c24]),ro μ3]
   exact Split.ent' AG
  ·rcases List.mem_append.1 hx with hx | hx
   ·exact (hG x hx).le (k2.trans k3)
   ·rw [List.mem_singleton.1 hx]; exact hr.le k3
  ·dsimp only
   unfold C6
   rw [List.map_append,show G.map (·.2)=C6 G from rfl,hGn,KS,KS,Ca (N6 hpl)]; rfl
  ·rcases List.mem_append.1 hx with hx | hx
   ·exact (hT x hx).le (k2.trans k3)
   ·rw [List.mem_singleton.1 hx]; exact hrt
  ·dsimp only
   rw [List.map_append,hTn,Ca hpl]
   unfold Ej
   rw [List.map_append]; rfl
 ·have h11':=of_decide_eq_false h11
  obtain rfl:i=xs.length:=by omega
  rw [show (xs.map StA.pl).take xs.length=xs.map StA.pl by rw [← List.length_map (f:=StA.pl),List.take_length]] at hGn hTn
  refine BA (v:=gv) (μ:=μi) AG fun μ2 k2 hr2=>?_
  refine BA (v:=tv) (μ:=μ2) AG fun μ3 k3 hr3=>?_
  refine B3 (AU (AU (AY rfl (Ai (Ad (Ah rfl (Ah rfl (B2 rfl (Au [2,3] rfl rfl (Av ?_))))))))))
  exact Aw [ro μ3] (.tmp rfl (.tmp rfl .nil)) ⟨μ3,gv,tv,G,T,ki.trans (k2.trans k3),rfl,⟨hr2.le k3,fun x hx=>(hG x hx).le (k2.trans k3)⟩,hGn,hr3,fun x hx=>(hT x hx).le (k2.trans k3),hTn,rfl⟩ AG
theorem N7 {β:Type}{f:β→List Value}{n:Nat}(hf:∀ e,(f e).length=n):∀ (es:List β) (k:Nat),(es.flatMap f).take (k*n)=(es.take k).flatMap f
 | [],k=>by rw [List.take_nil]; exact List.take_nil
 | e::es,0=>by rw [Nat.zero_mul]; rfl
 | e::es,k+1=>by
  rw [List.flatMap_cons,List.take_succ_cons,List.flatMap_cons,← N7 hf es k,Nat.succ_mul,Nat.add_comm,List.take_append,hf,List.take_of_length_le (by rw [hf]; omega),show n+k*n-n=k*n by omega]
theorem BTab.le{μ μ':PH}{v:Value}{N:Nat}{g:List (List Int)}{vs:List Value}(h:BTab μ v N g vs)(k:Le μ μ'):BTab μ' v N g vs:=⟨h.row.le k,fun i x hx=>(h.at_ i x hx).le k⟩
section
variable (S:SvW) (s:Nat) (μ2:PH)
abbrev AL (cl:List Nd)(μ:PH):List AK:=[HG s S.pw S.W.q S.ps S.px S.be S.bu S.pa,Eg S.pa 64 cl,S.vw.A,FSA S.W.q S.d,ro μ]
theorem A22(h:S.sv=s):Ent (S.L μ2) (AL S s S.cl μ2):=by
 subst h
 exact (Split.ent' (K:=[B5 S.pw 102 [pv S.ps,pv S.px],xB S.px S.W.q S.lv S.gv,CT S.ps S.W,DY S.W,DJ S.W,HG S.sv S.pw S.W.q S.ps S.px S.be S.bu S.pa,Eg S.pa 64 S.cl,FSA S.W.q S.d,ro μ2]) AG).trans ((VWt.close (X:=S.vw)).trans (Split.ent' AG))
theorem A0m(h:S.sv=s)(cl:List Nd):Ent (AL S s cl μ2) (SvW.L { S with cl:=cl} μ2):=by
 subst h
 refine (Split.ent' (K:=[S.vw.A,HG S.sv S.pw S.W.q S.ps S.px S.be S.bu S.pa,Eg S.pa 64 cl,FSA S.W.q S.d,ro μ2]) AG).trans ?_
 refine Xs fun _=>?_
 show Ent [B5 S.pw 102 [pv S.ps,pv S.px],xB S.px S.W.q S.lv S.gv,CT S.ps S.W,DY S.W,DJ S.W,HG S.sv S.pw S.W.q S.ps S.px S.be S.bu S.pa,Eg S.pa 64 cl,FSA S.W.q S.d,ro μ2] _
 exact Split.ent' AG
end
theorem SvW.Ok.up22{S:SvW}{μ:PH}{m c B:Nat}(h:S.Ok μ m c B):S.Ok μ (m+22) (c+1) B:=⟨h.x.up,h.w,h.s,h.dead,h.log⟩
theorem KT (S:List StP)(k:Nat):Ej (S.take k)=(Ej S).take k:=by unfold Ej; rw [List.map_take]
theorem Jt (S:List StP):(Ej S).length=S.length:=by unfold Ej; rw [List.length_map]
abbrev A25 (μ:PH)(r:Value)(L:List AK):Prop:=r=.bool true∧∃ μ' R,Le μ μ'∧L=ro μ'::R
inductive KV:Qn→Prop
 | virt (a b lim:Int):KV ⟨9,a,b,[],lim⟩
 | merge (a b lim:Int):KV ⟨10,a,b,[],lim⟩
theorem A1m(S:SvW)(hg:TG S.vw)(μ:PH)(hX:S.vw.Ok μ)(hT:RowAt μ 2 0 tabV)(cl:List Nd)(h:CaOk (fV S.vw) μ cl)(q:Qn)(hk:KV q)(hq:q.Ok) :
  Spec prog 13 [pv S.sv,.agg (Uf q (.slice none 0 0)).toArray] [HG S.sv S.pw S.W.q S.ps S.px S.be S.bu S.pa,Eg S.pa 64 cl,S.vw.A,ro μ] (fun r L=>∃ μ' cl' i t,Le μ μ'∧CaOk (fV S.vw) μ' cl'∧Row μ' (.slice t.1 (fV S.vw q).tr.length t.2) 2 (fV S.vw q).tr.length (Ci (fV S.vw q).tr)∧r=anV (fV S.vw q) i t∧L=[HG S.sv S.pw S.W.q S.ps S.px S.be S.bu S.pa,Eg S.pa 64 cl',S.vw.A,ro μ']):=by
 have hi:q.ids=[]:=by cases hk <;> rfl
 have h1:=YI (fV S.vw) μ S.sv S.pw S.W.q S.ps S.px S.be S.bu S.pa cl S.vw.A h q hq none 0 (by rw [hi]; exact Row.nil _ _) fun μ' k=>by
  have hT':RowAt μ' 2 0 tabV:=hT.le k
  cases hk with
  | virt a b lim=>exact Wm S.vw hg μ' (hX.le k) hT' a b lim none 0
  | merge a b lim=>exact Rh S.vw hg μ' (hX.le k) hT' a b lim none 0
 rw [hi] at h1
 intro E w hw
 refine (h1 E w hw).mono fun e w' ⟨v,L',he,⟨μ',cl',i,t,k1,hc,hr,hL⟩,hh⟩=>?_
 subst hL
 have hin:(fV S.vw q).ids=[]:=by cases hk <;> rfl
 generalize fV S.vw q=x at *
 obtain ⟨μ2,k2,h2,h3⟩:=(hh.ent (Split.ent' (K:=[own 111 2 (.slice t.1 x.tr.length t.2) x.tr.length (Ci x.tr),ro μ',HG S.sv S.pw S.W.q S.ps S.px S.be S.bu S.pa,Eg S.pa 64 cl',S.vw.A]) AG)).share_own
 exact ⟨v,_,he,⟨μ2,cl',i,t,k1.trans k2,hc.le k2,h2,hr,rfl⟩,h3.ent (Split.ent' AG)⟩
theorem PD (A B:Option Addr)(c d:Nat)(L0:List AK):Spec prog 21 [.slice A 0 c,.slice B 0 d] L0 (fun r L=>r=.bool true∧L=L0):=by
 refine Spec.of 26 func21 rfl rfl rfl ?_
 refine Ad (Au [0,1] rfl rfl (Aj (Ad (Ah rfl (Af (BD rfl) (Ah rfl (Af (BD rfl) (Af (Bx rfl rfl) (AI [0,1,10] rfl (Dw rfl (Ar (Ai (Aj (Ad (Au [0,1,5] rfl rfl (AB (B7 _ (Ju 0 rfl (Ju 1 rfl (Ju 5 rfl .nil))) ?_)))))))))))))))))
 refine B4 (ι:=Nat) (fun i env L=>env=[(0,.slice A 0 c),(1,.slice B 0 d),(5,.int .i64 0)]∧L=L0) (fun i=>i) 0 ⟨rfl,rfl⟩ ?_
 rintro i env L ⟨rfl,rfl⟩
 refine Aj (Ad (Ah rfl (Ah rfl (Af (BD rfl) (Af (Be rfl rfl) (AI [0,1,5,14] rfl (Dw rfl (B3 (AU (AU (AY rfl (Ai (Ad (Au [4] rfl rfl (Av ?_)))))))))))))))
 exact B6 _ (.tmp rfl .nil) ⟨rfl,rfl⟩ (Ent.refl _)
theorem Rr (μ:PH)(x:AnW)(hx:x.ids=[])(i t i' t':Option Addr×Nat)(h1:Row μ (.slice t.1 x.tr.length t.2) 2 x.tr.length (Ci x.tr))(h2:Row μ (.slice t'.1 x.tr.length t'.2) 2 x.tr.length (Ci x.tr)) :
  Spec prog 17 [anV x i t,anV x i' t'] [ro μ] (fun r L=>r=.bool true∧L=[ro μ]):=by
 obtain ⟨e,y,n,ids,tr⟩:=x
 dsimp only at hx h1 h2
 subst hx
 refine Spec.of 38 func17 rfl rfl rfl ?_
 refine Ad (AE (Bp rfl rfl) (fun b2=>?_))
 refine AE (Bp rfl rfl) fun b3=>?_
 refine Au [2,3] rfl rfl (Ad (Af (Ae rfl) (AM (Ak rfl rfl) (Af (Ae rfl) (AM (Ak rfl rfl) (Af (Bo rfl rfl) (Ah rfl ?_)))))))
 refine B9 10 rfl (fun h10=>?_) (fun h10=>by simp at h10)
 refine AS rfl rfl (Af (Ae rfl) (AS rfl rfl (AM (Ak rfl rfl) (AS rfl rfl (Af (Ae rfl) (AS rfl rfl (AM (Ak rfl rfl) (AS rfl rfl (Af (RJ rfl rfl) (Af (Bc rfl rfl) (Ah rfl ?_)))))))))))
 refine B9 17 rfl (fun h17=>?_) (fun h17=>by simp at h17)
 refine AS rfl rfl (Af (Ae rfl) (AS rfl rfl (AM (Ak rfl rfl) (AS rfl rfl (Af (Ae rfl) (AS rfl rfl (AM (Ak rfl rfl) (AS rfl rfl (Af (Bo rfl rfl) (Af (Bc rfl rfl) (Ah rfl ?_)))))))))))
 refine B9 24 rfl (fun h24=>?_) (fun h24=>by simp at h24)
 refine AS rfl rfl (Af (Ae rfl) (AS rfl rfl (AM (Ak rfl rfl) (AS rfl rfl (Af (Ae rfl) (AS rfl rfl (AM (Ak rfl rfl) (AS rfl rfl ?_))))))))
 refine AE (AF (PD _ _ _ _ []) rfl rfl AG) ?_
 rintro v29 L1 ⟨rfl,rfl⟩
 refine As (Af (Bc rfl rfl) (Ah rfl ?_))
 refine B9 31 rfl (fun h31=>?_) (fun h31=>by cases h31)
 refine AS rfl rfl (Af (Ae rfl) (AS rfl rfl (AM (Ak rfl rfl) (AS rfl rfl (Af (Ae rfl) (AS rfl rfl (AM (Ak rfl rfl) (AS rfl rfl ?_))))))))
 refine AE (AF (IB μ _ _ tr tr h1 h2) rfl rfl AG) ?_
 rintro v36 L1 ⟨rfl,rfl⟩
 refine As (Af (Bc rfl rfl) (Au [4] rfl rfl (Av ?_)))
 exact Aw [ro μ] (.tmp rfl .nil) ⟨by show Value.bool (decide _)=_; simp,rfl⟩ AG
theorem Um (p:Nat)(d:Dk)(hd:d.Ok):Spec prog 9 [pv p] [FSA p d] (fun r L=>r=.int .i64 (d.used:Nat)∧L=[FSA p d]):=by
 refine FSA.open' fun x hx=>?_
 intro E w hh
 refine ((O6 p d hd x hx).frame (R:=[BI x.fb BN x.ef x.cf,own 279 3 x.pv x.ps.length (x.ps.flatMap Cj)]) (hh.ent (Split.ent' (K:=[EH p d x,BI x.sb BN x.es x.cs,BV x.rs,BI x.fb BN x.ef x.cf,own 279 3 x.pv x.ps.length (x.ps.flatMap Cj)]) AG))).mono fun e w' ⟨v,L',he,⟨hv,hl⟩,h2⟩=>?_
 subst hl
 refine ⟨v,_,he,⟨hv,rfl⟩,h2.ent ?_⟩
 simp only [List.cons_append,List.nil_append]
 exact (Split.ent' (K:=[EH p d x,BI x.sb BN x.es x.cs,BI x.fb BN x.ef x.cf,own 279 3 x.pv x.ps.length (x.ps.flatMap Cj),BV x.rs]) AG).trans (BY hx)
theorem Z1:(E2 (HT 16777216)).2=0∧DV NSw 1 (E2 (HT 16777216)).1∧∀ u,Ec (E2 (HT 16777216)).1 u=if u=logN then some [] else none:=by
 obtain ⟨a1,a2,a3⟩:=dv_new.create Fx (s:=logN) (by decide) (.head _)
 obtain ⟨b1,b2,b3⟩:=a2.syncN
 rw [show E2 (HT 16777216)=C2 (BG (HT 16777216) logN).1 by unfold E2; rw [if_neg (not_not_intro a1)]]
 refine ⟨b1,b2,fun u=>?_⟩
 rw [b3,a3]; rfl
theorem Z2 (μ:PH)(q:Nat)(d:Dk)(hd:d.Ok)(hw:Z9 d)(h6:J0 d logN=([],6))(h0:(E2 d).2=0):Spec prog 76 [pv q] [FSA q d,ro μ] (fun r L=>∃ p,r=.tuple #[pv p,.int .i64 0]∧L=[FSA q (E2 d).1,CT p (DA q),DY (DA q),DJ (DA q),ro μ]):=by
 have hrd:=IF q d hd logN
 rw [h6] at hrd
 refine Spec.of 34 func76 rfl rfl rfl ?_
 refine Ad (AE (Bp rfl rfl) (fun b1=>?_))
 refine B2 rfl (Au [1] rfl rfl (Aj (Ad (AM (Ak rfl rfl) (Af (Bm rfl rfl) (AI [1,8] rfl (Dw rfl (Ar (Ai (Ad (AM (Ak rfl rfl) (Af (Bz (qs:=[(0,_)]) rfl) (AE (Bp rfl rfl) (fun b11=>?_))))))))))))))
 refine B2 rfl (Bi [1,4] rfl (C9 (own_nil_ent (e:=27) (n:=1)) (C9 (own_nil_ent (e:=88) (n:=2)) ?_)))
 refine C9 (L':=[FSA q d,CT b11 (DA q),DY (DA q),DJ (DA q),B5 b1 23 [pv q],ro μ]) ?_ ?_
 ·show Ent [own 88 2 (.slice none 0 0) 0 [],own 27 1 (.slice none 0 0) 0 [],B5 b11 156 [pv q,.slice none 0 0,.slice none 0 0,.bool false],B5 b1 23 [pv q],FSA q d,ro μ] [FSA q d,B5 b11 156 [pv q,.slice none 0 0,.slice none 0 0,.bool false],own 27 1 (.slice none 0 0) 0 [],own 88 2 (.slice none 0 0) 0 [],B5 b1 23 [pv q],ro μ]
  exact Split.ent' AG
 refine Dj (Ad (AM (Ak rfl rfl) ?_))
 refine AE (AF hrd rfl rfl AG) ?_
 rintro v14 L1 ⟨rfl,rfl⟩
 refine As (Ah rfl (Af (Ax rfl) (Af (Ax rfl) (B2 rfl (Au [1,4,5,6] rfl rfl (Aj (Ad (Ah rfl (AI [1,4,5,6,17] rfl (AB (Ad (Af (Bo rfl rfl) (Au [1,4,5,6,17,18] rfl rfl (Tv rfl (Am (Af (Cr (vs:=[]) (us:=[_]) rfl rfl) (AM (Ak rfl rfl) (Af (Cr (vs:=[_]) (us:=[]) rfl rfl) (AE (Bs (qs:=[(0,_),(1,_)]) rfl rfl rfl) (fun b23=>?_))))))))))))))))))))
 refine AE (AF (MA b23 2 [.func (.func 144) #[] #[pv b1],.func (.func 99) #[pv q] #[]] [FSA q d,B5 b1 23 [pv q]] _ (by show 2≤1000; decide) (QN b1 q d hd hw)) rfl rfl AG) ?_
 rintro v24 L1 ⟨e,L2,rfl,⟨rfl,rfl⟩,rfl⟩
 rw [h0]
 refine As (B2 rfl (Bi [4,6] rfl (AJ (AV (Ai (Aj (Ad (Ah rfl (Af (Bx rfl rfl) (AI [4,6,31] rfl (Dw rfl (Ar (Ai (Ad (Ah rfl (B2 rfl (Au [2,3] rfl rfl (Av ?_))))))))))))))))))
 exact Aw [FSA q (E2 d).1,CT b11 (DA q),DY (DA q),DJ (DA q),ro μ] (.tmp rfl (.tmp rfl .nil)) ⟨b11,rfl,rfl⟩ AG
theorem Wz (μ:PH)(q:Nat)(d:Dk){m:Nat}(hd:DV NSw m d)(hch:Ec d chainN=none)(com:Nat):Spec prog 47 [pv q,.int .i64 (com:Nat)] [FSA q d,ro μ] (fun r L=>∃ p,r=.tuple #[pv p,.int .i64 0]∧L=[xB p q (.slice none 0 0) (.slice none 0 0),FSA q d,ro μ]):=by
 have h1:=hd.read chainN
 rw [hch] at h1
 have hrd:=IF q d hd.ok chainN
 rw [h1] at hrd
 refine Spec.of 74 func47 rfl rfl rfl ?_
 refine Ad (B2 rfl (Au [0,1] rfl rfl (Aj (AB (Ad (Ah rfl (Af (Bm rfl rfl) (Au [0,1,15] rfl rfl (Dw rfl (Ad (Ah rfl ?_)))))))))))
 refine AE (AF (Yc q d) rfl rfl AG) ?_
 rintro v20 L1 ⟨rfl,rfl⟩
 refine As (Au [0,1,18] rfl rfl ?_)
 refine Aq rfl (fun h18=>by rw [hd.on] at h18; cases h18) (fun h18=>?_)
 refine Ar (AV (Ai (Ad (Ah rfl (Af (Bz (qs:=[(0,_)]) rfl) (AE (Bp rfl rfl) (fun b23=>?_)))))))
 refine Au [0,1,6] rfl rfl (Ad (Ah rfl ?_))
 refine AE (AF hrd rfl rfl AG) ?_
 rintro v26 L1 ⟨rfl,rfl⟩
 refine As (Ah rfl (Af (Ax rfl) (Af (Ax rfl) (B2 rfl (Au [1,6,7,8] rfl rfl (Aj (Ad (Ah rfl (Af (Bx rfl rfl) (AI [1,6,7,30] rfl (Tv rfl (Ad (Ah rfl (B2 rfl (Au [4,5] rfl rfl (Av (AZ ?_)))))))))))))))))
 exact Aw [xB b23 q (.slice none 0 0) (.slice none 0 0),FSA q d,ro μ] (.tmp rfl (.tmp rfl .nil)) ⟨b23,rfl,rfl⟩ AG
theorem Ts (μ:PH)(q:Nat):Spec prog 49 [pv q,.agg setC.toArray,.int .i64 3] [FSA q (HT 16777216),ro μ] (fun r L=>∃ S μ',Le μ μ'∧SvW.Ok S μ' 1 0 0∧S.W.pl=([],[])∧S.cl=[]∧S.W.q=q∧r=.tuple #[pv S.sv,.int .i64 0]∧L=S.L μ'):=by
 obtain ⟨e1,e3,e4⟩:=Z1
 have hopen:=Z2 μ q (HT 16777216) dv_new.ok (dv_new.few AC) rfl e1
 have hxd:=A13 e3 (fun u hu=>by rw [e4,if_neg hu])
 have hlog:Ec (E2 (HT 16777216)).1 logN=some []:=by rw [e4,if_pos rfl]
 generalize (E2 (HT 16777216)).1=d at *
 refine Spec.of 60 func49 rfl rfl rfl ?_
 refine Ad (AE (Bp rfl rfl) (fun b4=>?_))
 refine B2 rfl (Au [0,2,4] rfl rfl (Aj (Ad (Ah rfl (Af (Bm rfl rfl) (Ah rfl ?_))))))
 refine B9 14 rfl (fun h14=>by cases h14) (fun h14=>?_)
 refine AS rfl rfl (AM (BL (vs:=setC) rfl rfl rfl) (AS rfl rfl ?_))
 refine AE (AF FU rfl rfl AG) ?_
 rintro v16 L1 ⟨rfl,rfl⟩
 refine As (AS rfl rfl (Af (Bx rfl rfl) (Af (B0 rfl rfl) (AI [0,2,4,18] rfl (Dw rfl (Ar (Ai (Ad (Ah rfl ?_)))))))))
 refine AE (AF hopen rfl rfl AG) ?_
 rintro v21 L1 ⟨p,rfl,rfl⟩
 refine As (Ah rfl (Af (Ax rfl) (Af (Ax rfl) (B2 rfl (Au [0,2,4,8,9] rfl rfl (Aj (Ad (Ah rfl (Af (Bx rfl rfl) (AI [0,2,4,8,9,25] rfl (Dw rfl (Ar (Ai (Ad (Ah rfl (Ah rfl ?_))))))))))))))))
 refine AE (AF (FG p (DA q) μ (QO μ q)) rfl rfl AG) ?_
 rintro v30 L1 ⟨rfl,rfl⟩
 refine As ?_
 refine AE (AF (Wz μ q d e3 hxd.ch 0) rfl rfl AG) ?_
 rintro v31 L1 ⟨px,rfl,rfl⟩
 refine As (Ah rfl (Af (Ax rfl) (Af (Ax rfl) (B2 rfl (Au [0,2,4,8,9,10] rfl rfl (Aj (Ad (Ah rfl (Af (Bx rfl rfl) (AI [0,2,4,8,9,10,35] rfl (Dw rfl (Ar (Ai ?_)))))))))))))
 refine Co (fun env L=>∃ (b11 sv pw pa:Nat),Sub env [(2,.int .i64 3),(11,pv b11)]∧Ent L [B5 b11 24 [pv sv],B5 sv 53 [pv pw,pv q,pv p,pv px,.int .i64 3,.int .i64 10,.int .i64 2,.int .u32 7,.bool false,.pointer none,.pointer none,.int .i32 0,.int .u32 0,pv pa],Eg pa 64 [],B5 pw 102 [pv p,pv px],xB px q (.slice none 0 0) (.slice none 0 0),FSA q d,CT p (DA q),DY (DA q),DJ (DA q),ro μ]) ?_ ?_
 ·refine Bb [6] ([B5 b4 43 setC]) ([xB px q (.slice none 0 0) (.slice none 0 0),FSA q d,ro μ,CT p (DA q),DY (DA q),DJ (DA q)]) (Split.ent AG) AP ?_
  refine AD 0 rfl (AH rfl) (AD 1 rfl (AH rfl) (AD 3 rfl (AH rfl) (AD 4 rfl (AH rfl) (AD 5 rfl (AH rfl) (Bl 6 rfl (BL (vs:=setC) rfl rfl rfl) rfl ?_)))))
  refine HL [2,10] AP rfl ⟨?_,?_⟩
  ·refine FL 2 rfl GOn.none (AF (Oz p px) rfl rfl AG) ?_
   rintro v39 L1 ⟨pw,rfl,rfl⟩
   refine ⟨_,BU (Split.ent AG),?_⟩
   refine HL [7,10] AP rfl ⟨?_,?_⟩
   ·refine FL 7 rfl GOn.none (AF Kk rfl rfl AG) ?_
    rintro v44 L1 ⟨pa,rfl,rfl⟩
    refine ⟨_,BU (Split.ent AG),?_⟩
    refine AD 8 rfl (Bz (qs:=[(0,_),(1,_),(2,_),(3,_),(4,_),(9,_)]) rfl) ?_
    refine HL [9,10] AP rfl ⟨?_,?_⟩
    ·refine FL 9 rfl GOn.none (Bp rfl rfl) fun b46=>?_
     refine ⟨_,Split.ent AG,?_⟩
     refine CQ 10 rfl AP (Bd) fun b11=>?_
     refine ⟨_,Split.ent AG,?_⟩
     refine Cx 11 rfl AP AP (Ba rfl rfl rfl) (BZ [2,11] rfl (Bv AP ?_))
     exact Ai ⟨b11,b46,pw,pa,⟨rfl,rfl,trivial⟩,Split.ent' AG⟩
    ·refine FL 10 rfl GOn.none (Bd) fun b11=>?_
     refine ⟨_,Split.ent AG,?_⟩
     refine BX 9 rfl AP AP (Bp rfl rfl) fun b46=>?_
     refine Cy 11 rfl AP AP (Ba rfl rfl rfl) (BZ [2,11] rfl (Bv AP ?_))
     exact Ai ⟨b11,b46,pw,pa,⟨rfl,rfl,trivial⟩,Split.ent' AG⟩
   ·refine FL 10 rfl GOn.none (Bd) fun b11=>?_
    refine ⟨_,Split.ent AG,?_⟩
    refine CQ 7 rfl AP (AF Kk rfl rfl AG) ?_
    rintro v44 L1 ⟨pa,rfl,rfl⟩
    refine ⟨_,BU (Split.ent AG),?_⟩
    refine AD 8 rfl (Bz (qs:=[(0,_),(1,_),(2,_),(3,_),(4,_),(9,_)]) rfl) (BX 9 rfl AP AP (Bp rfl rfl) (fun b46=>?_))
    refine Cy 11 rfl AP AP (Ba rfl rfl rfl) (BZ [2,11] rfl (Bv AP ?_))
    exact Ai ⟨b11,b46,pw,pa,⟨rfl,rfl,trivial⟩,Split.ent' AG⟩
  ·refine FL 10 rfl GOn.none (Bd) fun b11=>?_
   refine ⟨_,Split.ent AG,?_⟩
   refine CQ 2 rfl AP (AF (Oz p px) rfl rfl AG) ?_
   rintro v39 L1 ⟨pw,rfl,rfl⟩
   refine ⟨_,BU (Split.ent AG),?_⟩
   refine CQ 7 rfl AP (AF Kk rfl rfl AG) ?_
   rintro v44 L1 ⟨pa,rfl,rfl⟩
   refine ⟨_,BU (Split.ent AG),?_⟩
   refine AD 8 rfl (Bz (qs:=[(0,_),(1,_),(2,_),(3,_),(4,_),(9,_)]) rfl) (BX 9 rfl AP AP (Bp rfl rfl) (fun b46=>?_))
   refine Cy 11 rfl AP AP (Ba rfl rfl rfl) (BZ [2,11] rfl (Bv AP ?_))
   exact Ai ⟨b11,b46,pw,pa,⟨rfl,rfl,trivial⟩,Split.ent' AG⟩
 rintro env L ⟨b11,sv,pw,pa,hsub,hE⟩
 refine B7 _ hsub (AX hE ?_)
 clear hsub hE env L
 refine Aj ?_
 refine Bb [0] ([B5 b11 24 [pv sv]]) ([B5 sv 53 [pv pw,pv q,pv p,pv px,.int .i64 3,.int .i64 10,.int .i64 2,.int .u32 7,.bool false,.pointer none,.pointer none,.int .i32 0,.int .u32 0,pv pa],Eg pa 64 [],B5 pw 102 [pv p,pv px],xB px q (.slice none 0 0) (.slice none 0 0),FSA q d,CT p (DA q),DY (DA q),DJ (DA q),ro μ]) (Split.ent AG) AP ?_
 refine Bl 0 rfl (Ak rfl rfl) rfl (AD 1 rfl (AH rfl) (AD 2 rfl (Cr (vs:=[]) (us:=[_]) rfl rfl) ?_))
 refine CQ 3 rfl AP (AF (KR _ _) rfl rfl AG) ?_
 rintro v50 L1 ⟨be,rfl,rfl⟩
 refine ⟨_,BU (Split.ent AG),?_⟩
 refine AD 4 rfl (Al rfl) (AD 5 rfl (Ae rfl) (Cx 6 rfl AP AP (Ba rfl rfl rfl) (BZ [2,11] rfl (Bv AP (Ai (Aj ?_))))))
 refine Bb [0] ([B5 b11 24 [pv sv]]) ([B5 sv 53 [pv pw,pv q,pv p,pv px,.int .i64 3,.int .i64 10,.int .i64 2,.int .u32 7,.bool false,pv be,.pointer none,.int .i32 0,.int .u32 0,pv pa],Eg pa 64 [],B5 pw 102 [pv p,pv px],xB px q (.slice none 0 0) (.slice none 0 0),FSA q d,CT p (DA q),DY (DA q),DJ (DA q),ro μ]) (Split.ent AG) AP ?_
 refine Bl 0 rfl (Ak rfl rfl) rfl (AD 1 rfl (AH rfl) (AD 2 rfl (Cr (vs:=[]) (us:=[_]) rfl rfl) ?_))
 refine CQ 3 rfl AP (AF (KR _ _) rfl rfl AG) ?_
 rintro v56 L1 ⟨bu,rfl,rfl⟩
 refine ⟨_,BU (Split.ent AG),?_⟩
 refine AD 4 rfl (Al rfl) (AD 5 rfl (Ae rfl) (Cx 6 rfl AP AP (Ba rfl rfl rfl) (BZ [11] rfl (Bv AP (Ai (Ad (AM (Ak rfl rfl) (B2 rfl (Au [6,7] rfl rfl (Av ?_))))))))))
 exact Aw (SvW.L ⟨sv,pw,p,px,be,bu,pa,DA q,d,.slice none 0 0,.slice none 0 0,[],[],[]⟩ μ) (.tmp rfl (.tmp rfl .nil)) ⟨⟨sv,pw,p,px,be,bu,pa,DA q,d,.slice none 0 0,.slice none 0 0,[],[],[]⟩,μ,Le.refl _,⟨⟨hxd,IX.none μ,⟨Nat.zero_le _,fun i r hr=>by cases hr⟩⟩,QO μ q,⟨⟨Nat.zero_le _,fun i c hc=>(by cases hc)⟩,fun c hc=>(by cases hc),fun t ht=>(by cases ht)⟩,rfl,⟨[],hlog,Nat.le_refl _⟩⟩,rfl,rfl,rfl,rfl,rfl⟩ AG
theorem Tt (μ:PH)(q:Nat):Spec prog 24 [pv q] [FSA q (HT 16777216),ro μ] (fun r L=>∃ S μ',Le μ μ'∧SvW.Ok S μ' 1 0 0∧S.W.pl=([],[])∧S.cl=[]∧S.W.q=q∧r=pv S.sv∧L=S.L μ'):=by
 refine Spec.of 12 func24 rfl rfl rfl ?_
 refine Ad (Au [0] rfl rfl (Ad (Ah rfl ?_)))
 refine AE (AF Tq rfl rfl AG) ?_
 rintro v7 L1 ⟨rfl,rfl⟩
 refine As ?_
 refine AE (AF (Ts μ q) rfl rfl AG) ?_
 rintro v8 L1 ⟨S,μ1,k1,hS,hpl,hcl,hq,rfl,rfl⟩
 refine As (Ah rfl (Af (Ax rfl) (Af (Ax rfl) (B2 rfl (Au [3] rfl rfl (Ad (Ah rfl (Au [2] rfl rfl (Av ?_)))))))))
 exact Aw (S.L μ1) (.tmp rfl .nil) ⟨S,μ1,k1,hS,hpl,hcl,hq,rfl,rfl⟩ AG
theorem Rs (μ:PH):Spec prog 5 [] [ro μ] (fun r L=>∃ S μ',Le μ μ'∧SvW.Ok S μ' 1 0 0∧S.W.pl=([],[])∧S.cl=[]∧r=.tuple #[pv S.W.q,pv S.sv]∧L=S.L μ'):=by
 have hnew:Spec prog 23 [.int .i64 16777216] [] (fun r L=>∃ p,r=.tuple #[pv p,.int .i64 0]∧L=[FSA p (HT 16777216)]):=(Ye 16777216).mono fun r L h=>h.elim (fun h=>absurd ⟨by decide,by decide⟩ h.1) (fun h=>h.2)
 refine Spec.of 11 func5 rfl rfl rfl ?_
 refine Ad (B2 rfl (B2 rfl (C3 _ .nil (Dj (Ad ?_)))))
 refine AE (AF hnew rfl rfl AG) ?_
 rintro v5 L1 ⟨q,rfl,rfl⟩
 refine As (Ah rfl (Af (Ax rfl) (Af (Ax rfl) (B2 rfl (Au [2] rfl rfl (Ad (Ah rfl (Ah rfl ?_))))))))
 refine AE (AF (Tt μ q) rfl rfl AG) ?_
 rintro v10 L1 ⟨S,μ1,k1,hS,hpl,hcl,hq,rfl,rfl⟩
 refine As (B2 rfl (Au [0,1] rfl rfl (Av ?_)))
 exact Aw (S.L μ1) (.tmp rfl (.tmp rfl .nil)) ⟨S,μ1,k1,hS,hpl,hcl,by rw [hq]; rfl,rfl⟩ AG
theorem A2g{q:Qn}(h:∀ x∈q.all,-10000≤x∧x≤10000)(hl:q.ids.length≤1000):q.Ok:=⟨fun x hx=>by have:=h x hx; omega,hl⟩
def Z3 (S:SvW)(s:Nat)(μ2:PH)(k a b lim:Int)(x:AnW):Prop:=∀ μ' cl,Le μ2 μ'→CaOk (fV S.vw) μ' cl →
 Spec prog 13 [pv s,.agg #[.int .i64 k,.int .i64 a,.int .i64 b,.int .i64 lim,.slice none 0 0,.string ⟨#[]⟩]] [HG s S.pw S.W.q S.ps S.px S.be S.bu S.pa,Eg S.pa 64 cl,S.vw.A,ro μ'] (fun r L=>∃ μ'' cl' A' c' A2 c2,Le μ' μ''∧CaOk (fV S.vw) μ'' cl'∧Row μ'' (.slice A2 x.tr.length c2) 2 x.tr.length (Ci x.tr)∧r=.agg #[.int .i64 x.e,.bool x.y,.int .i64 x.n,.slice A' 0 c',.slice A2 x.tr.length c2]∧L=[HG s S.pw S.W.q S.ps S.px S.be S.bu S.pa,Eg S.pa 64 cl',S.vw.A,ro μ''])
theorem Lv {S:SvW}{s:Nat}{μ2:PH}(hs:S.sv=s)(hg:TG S.vw)(hX:S.vw.Ok μ2)(hT:RowAt μ2 2 0 tabV){k a b lim:Int}(hk:KV ⟨k,a,b,[],lim⟩)(hr:(-10000≤a∧a≤10000)∧(-10000≤b∧b≤10000)∧-10000≤lim∧lim≤10000):Z3 S s μ2 k a b lim (fV S.vw ⟨k,a,b,[],lim⟩):=fun μ' cl k1 hc=>by
 subst hs
 have hkr : -10000≤k∧k≤10000:=by
  obtain ⟨q,hq⟩:∃ q:Qn,q=⟨k,a,b,[],lim⟩:=⟨_,rfl⟩
  rw [← hq] at hk
  have e:k=q.k:=by rw [hq]
  rw [e]
  cases hk <;> (dsimp only; omega)
 refine (A1m S hg μ' (hX.le k1) (hT.le k1) cl hc ⟨k,a,b,[],lim⟩ hk (A2g (fun x hx=>by simp only [Qn.all,List.mem_cons,List.not_mem_nil,or_false] at hx; omega) (Nat.zero_le _))).mono fun r L ⟨μ'',cl',i,t,h1,h2,h3,h4,h5⟩=>?_
 have hin:(fV S.vw ⟨k,a,b,[],lim⟩).ids=[]:=by unfold fV; split <;> rfl
 refine ⟨μ'',cl',i.1,i.2,t.1,t.2,h1,h2,h3,?_,h5⟩
 rw [h4]
 show Value.agg #[_,_,_,.slice i.1 (fV S.vw ⟨k,a,b,[],lim⟩).ids.length i.2,_]=_
 rw [hin]; rfl
theorem Z4 {W:VWt}(a b:Int)(lim:Nat)(hL:lim≤4096):(Dh W a b lim).2.2.2=(BB W a b lim).2.2.2∧(Dh W a b lim).2.2.1=(BB W a b lim).2.2.1 ∧
  ((BB W a b lim).2.2.2≠0→(Dh W a b lim).1=[])∧((BB W a b lim).2.2.2=0→(Dh W a b lim).1=VM (BB W a b lim).1 (VT W a) (VT W b)∧(Dh W a b lim).2.1=Fs (D4 (BB W a b lim).1 (VT W a) (VT W b))):=by
 have h1:=(Im W a b lim hL).1
 unfold Dh
 by_cases h:(BB W a b lim).2.2.2=0
 ·rw [if_neg (not_not_intro h)]
  exact ⟨h.symm,rfl,fun k=>absurd h k,fun _=>⟨rfl,rfl⟩⟩
 ·rw [if_pos h]
  refine ⟨rfl,?_,fun _=>rfl,fun k=>absurd k h⟩
  have h2:=(h1 h).1
  generalize BB W a b lim=V at *
  show (0:Int)=V.2.2.1
  rw [h2]
theorem Z5 (S:SvW)(μ2:PH)(cl:List Nd):Ent (AL S S.sv cl μ2) [HG S.sv S.pw S.W.q S.ps S.px S.be S.bu S.pa,Eg S.pa 64 cl,B5 S.pw 102 [pv S.ps,pv S.px],xB S.px S.W.q S.lv S.gv,FSA S.W.q S.d,CT S.ps S.W,DY S.W,DJ S.W,ro μ2]:=A0m S S.sv μ2 rfl cl
set_option maxHeartbeats 40000000 in
theorem wv_spec(μ:PH)(hs:SynOk μ)(hT:RowAt μ 2 0 tabV)(v:Value)(xs0:List StA)(hrow0:Row μ v 5 xs0.length (xs0.flatMap IQ))(hok0:∀ o∈xs0,o.Ok μ)(lim:Int)(hlim:0≤lim∧lim≤255):Spec prog 3 [v,.int .u8 lim] [ro μ] (A25 μ):=by
 obtain ⟨w,hrow,hsl⟩:=Row.hi (P:=prog) (t:=22) hrow0 (min xs0.length 11) (Nat.min_le_left _ _)
 rw [N7 JG] at hrow
 obtain ⟨xs,hxs⟩:∃ xs,xs=xs0.take (min xs0.length 11):=⟨_,rfl⟩
 have hxl:xs.length=min xs0.length 11:=by rw [hxs,List.length_take]; omega
 have hok:∀ o∈xs,o.Ok μ:=fun o ho=>hok0 o (by rw [hxs] at ho; exact List.mem_of_mem_take ho)
 rw [← hxs,← hxl] at hrow
 have hN:xs.length≤11:=by omega
 obtain ⟨Pl,hPl⟩:∃ Pl,Pl=xs.map StA.pl:=⟨_,rfl⟩
 have hPn:Pl.length=xs.length:=by rw [hPl,List.length_map]
 have hg:E5 (EZ Pl):=Rn AC
 have hgl:(EZ Pl).length=xs.length:=by rw [N3,hPn]
 obtain ⟨ln,rfl⟩:∃ ln:Nat,lim=(ln:Int):=⟨lim.toNat,by omega⟩
 refine Spec.of 275 func3 rfl rfl rfl ?_
 refine Ad (Au [0,1] rfl rfl (Ad (Ah rfl (Ah rfl (Af (AW hrow0 rfl) (Af (DE rfl rfl) (Af (hsl _ _ _ .i64 _ rfl rfl AC) (Au [0,1] rfl rfl (Ad ?_)))))))))
 refine AE (AF (Rs μ) rfl rfl AG) ?_
 rintro v36 L1 ⟨S0,μ1,k1,hS0,hp0,hc0,rfl,rfl⟩
 refine As (Ah rfl (Af (Ax rfl) (Af (Ax rfl) (B2 rfl (Au [0,1,5,6] rfl rfl (Aj (Ad (Ah rfl (Af (Bm rfl rfl) (AI [0,1,5,6,40] rfl (Dw rfl (Ar (Ai (Aj (Aj ?_)))))))))))))))
 obtain ⟨s,hs0⟩:∃ s,S0.sv=s:=⟨_,rfl⟩
 obtain ⟨q,hq0⟩:∃ q,S0.W.q=q:=⟨_,rfl⟩
 rw [hs0]
 refine Am (Ah rfl (Af (AW hrow rfl) (Ah rfl (AI [0,1,5,6,41,42,43] rfl (AB ?_)))))
 refine B4 (ι:=Nat×SvW×PH) (fun z env L=>Sub env [(0,w),(1,.int .u8 (ln:Nat)),(5,pv q),(6,pv s),(41,w),(42,.int .i64 (xs.length:Nat)),(43,.int .i64 (z.1:Nat))]∧Ent L (z.2.1.L z.2.2)∧z.1≤xs.length∧Le μ1 z.2.2∧z.2.1.Ok z.2.2 (1+22*z.1) z.1 (8000*z.1)∧z.2.1.W.pl=(Ej (Pl.take z.1),J5 (Pl.take z.1))∧z.2.1.sv=s∧z.2.1.W.q=q∧z.2.1.cl=[]) (fun z=>xs.length-z.1) (0,S0,μ1) ⟨⟨rfl,rfl,by rw [← hq0]; rfl,rfl,rfl,rfl,rfl,trivial⟩,by show Ent _ (S0.L μ1); rw [← hs0]; exact Split.ent' AG,Nat.zero_le _,Le.refl _,hS0,hp0,hs0,hq0,hc0⟩ ?_
 rintro ⟨i,S,μi⟩ env L ⟨hsub,hE,hi,ki0,hS,hSp,hSs,hSq,hSc⟩
 dsimp only at hsub hE hi ki0 hS hSp hSs hSq hSc
 refine B7 _ hsub (AX hE ?_)
 clear hsub hE env L
 have ki:=k1.trans ki0
 refine Ad (Af (Be rfl rfl) (AI [0,1,5,6,41,42,43,44] rfl (Aj ?_)))
 refine Aq rfl (fun h44=>?_) (fun h44=>?_)
 ·have h44':i<xs.length:=by have:=of_decide_eq_true h44; omega
  obtain ⟨o,ho⟩:∃ o,xs[i]? = some o:=⟨_,List.getElem?_eq_getElem h44'⟩
  have hoo:=(hok o (List.mem_of_getElem? ho)).le ki
  have hpo:Pl[i]? = some o.pl:=by rw [hPl,List.getElem?_map,ho]; rfl
  have hTl:S.W.pl.1.length=i:=by rw [hSp]; dsimp only; rw [Jt,List.length_take]; omega
  have hCl:S.W.pl.2.length=i:=by rw [hSp]; dsimp only; rw [Em,List.length_take]; omega
  have hC1:S.W.pl.2++[(Fh i o.pl.ps,(i:Int))]=J5 (Pl.take (i+1)):=by rw [hSp]; dsimp only; rw [Js,Js,Ca (GY hpo)]
  have hT1:S.W.pl.1++[EN o.t]=Ej (Pl.take (i+1)):=by rw [hSp]; dsimp only; rw [KT,KT,Ca (R:=Ej Pl) (r:=EN o.t) (by unfold Ej; rw [List.getElem?_map,hpo]; rfl)]
  obtain ⟨gb,off,cap,hv,_,_,hr0⟩:=(hrow.le ki).pos AC
  have hra:=hr0.elem (f:=IQ) (n:=5) JG ho
  obtain ⟨At,ct,eA⟩:=hoo.tr.sl
  obtain ⟨Ap,cp,eP⟩:=hoo.pr.sl
  have hcs:IQ o=[.slice At o.t.length ct,.slice Ap o.ps.length cp,.int .u8 o.ix,.int .u8 o.nm,.int .u16 o.at_]:=by unfold IQ; rw [eA,eP]
  have hadd:=Wy S μi (1+22*i) i (8000*i) i hS AC o hoo AC hTl hCl (by rw [hC1]; exact Rm (by rw [List.length_take]; omega)) (by simp only [EI]; omega)
  rw [hC1,hT1,hSs,hcs] at hadd
  rw [hcs] at hra
  refine Ar (Ai (Aj (AB (Ad (Ah rfl ?_)))))
  refine Af (AA (off+i*5) (congrArg some hv) rfl AC AC (by rw [Int.toNat_natCast])) ?_
  refine AM (Cu (vs:=[.slice At o.t.length ct,.slice Ap o.ps.length cp,.int .u8 o.ix,.int .u8 o.nm,.int .u16 o.at_]) rfl rfl hra) (AE (Bd) (fun b8=>?_))
  refine B2 rfl (Bh (B8 rfl rfl rfl rfl) (AI [0,1,5,6,7,8,41,42,43] rfl (Ad (Ah rfl (AM (BL (vs:=[.slice At o.t.length ct,.slice Ap o.ps.length cp,.int .u8 o.ix,.int .u8 o.nm,.int .u16 o.at_]) rfl rfl rfl) (Ah rfl ?_))))))
  refine AE (AF hadd rfl rfl AG) ?_
  rintro v51 L1 ⟨rfl,hQ⟩
  obtain ⟨S1,μa,ka,hS1,hp1,hs1,hq1,hc1,rfl⟩:=hQ
  rw [hSs] at hs1
  rw [hSq] at hq1
  have hcl1:1≤S1.W.pl.2.length:=by rw [hp1]; dsimp only; rw [Em,List.length_take]; omega
  have hupd:=Wv S1 μa (1+22*i) i (8000*i+8000) hS1 (hs.le (ki.trans ka)) hcl1 AC AC
  rw [hs1] at hupd
  refine As (Af (Cd rfl) (Ah rfl ?_))
  refine B9 53 rfl (fun h53=>by cases h53) (fun h53=>?_)
  refine AS rfl rfl (Af (Ae rfl) (AS rfl rfl (AM (Ak rfl rfl) (AS rfl rfl ?_))))
  refine Af (Rz rfl rfl (by decide)) ?_
  refine AS rfl rfl (Af (Bo rfl rfl) (AS rfl rfl (Ah rfl ?_)))
  refine B9 58 rfl (fun h58=>?_) (fun h58=>?_)
  ·refine AS rfl rfl (Ah rfl (AS rfl rfl ?_))
   refine AE (AF hupd rfl rfl AG) ?_
   rintro v60 L1 ⟨rfl,hQ⟩
   obtain ⟨S2,μb,kb,hS2,hp2,hs2,hq2,hc2,rfl⟩:=hQ
   refine As (AS rfl rfl (Af (Bx rfl rfl) (AS rfl rfl (Af (Bc rfl rfl) (Af (B0 rfl rfl) (AI [0,1,5,6,41,42,43,63] rfl ?_))))))
   refine Aq rfl (fun h63=>by cases h63) (fun h63=>?_)
   refine Ar (AV (Ai (Am (Af (AQ ((i+1:Nat):Int) rfl rfl AC AC AC) (Ah rfl (Bi [0,1,5,6,41,42,43] rfl (AJ ?_)))))))
   exact Ai ⟨(i+1,S2,μb),⟨⟨rfl,rfl,rfl,rfl,rfl,rfl,rfl,trivial⟩,Split.ent' AG,h44',ki0.trans (ka.trans kb),hS2,hp2.trans hp1,hs2.trans hs1,hq2.trans hq1,hc2⟩,by show xs.length-(i+1)<xs.length-i; omega⟩
  ·refine B1 rfl rfl rfl (B1 rfl rfl rfl (B1 rfl rfl rfl (AS rfl rfl (Af (B0 rfl rfl) (Af (B0 rfl rfl) (AI [0,1,5,6,41,42,43,63] rfl ?_))))))
   refine Aq rfl (fun h63=>by cases h63) (fun h63=>?_)
   refine Ar (AV (Ai (Am (Af (AQ ((i+1:Nat):Int) rfl rfl AC AC AC) (Ah rfl (Bi [0,1,5,6,41,42,43] rfl (AJ ?_)))))))
   exact Ai ⟨(i+1,S1,μa),⟨⟨rfl,rfl,rfl,rfl,rfl,rfl,rfl,trivial⟩,Split.ent' AG,h44',ki0.trans ka,hS1.up22,hp1,hs1,hq1,hc1⟩,by show xs.length-(i+1)<xs.length-i; omega⟩
 ·have h44':=of_decide_eq_false h44
  obtain rfl:i=xs.length:=by omega
  have hPt:Pl.take xs.length=Pl:=by rw [← hPn,List.take_length]
  rw [hPt] at hSp
  subst hSq hSs
  have hdo:=hS.x.xd.dv.ok
  have hX:=hS.vok
  refine B3 (AU (AU (AY rfl (Ai (Ad (Ah rfl ?_))))))
  refine AE (AF (IF S.W.q S.d hdo logN) rfl rfl AG) ?_
  rintro v67 L1 ⟨rfl,rfl⟩
  refine As ?_
  generalize htxt:(⟨(J0 S.d logN).1.toArray⟩:ByteArray)=txt
  refine Ah rfl (Af (Ax rfl) (Af (Ax rfl) (B2 rfl (Au [0,1,5,6,9] rfl rfl (Aj ?_)))))
  refine Bb [5] ([HG S.sv S.pw S.W.q S.ps S.px S.be S.bu S.pa]) ([FSA S.W.q S.d,Eg S.pa 64 S.cl,B5 S.pw 102 [pv S.ps,pv S.px],xB S.px S.W.q S.lv S.gv,CT S.ps S.W,DY S.W,DJ S.W,ro μi]) (Split.ent AG) AP ?_
  refine AD 0 rfl (AH rfl) (AD 2 rfl (AH rfl) (AD 3 rfl (Al rfl) (AD 4 rfl (Ae rfl) (Bl 5 rfl (Ak rfl rfl) rfl ?_))))
  refine CQ 1 rfl AP (AF (Um S.W.q S.d hdo) rfl rfl AG) ?_
  rintro v71 L1 ⟨rfl,rfl⟩
  refine ⟨_,BU (Split.ent AG),?_⟩
  refine BX 6 rfl AP AP (AF (Kt S.vw μi hX) rfl rfl AG) ?_
  rintro v76 L1 ⟨rfl,rfl⟩
  refine C5 (AD 7 rfl (Bf rfl) (AD 8 rfl (Bf rfl) (BZ [0,1,5,6,9,11,12] rfl (Bv AP (Ai (Ad (Ah rfl ?_)))))))
  refine AE (AF (Tr μi w xs (hrow.le ki) (fun o ho=>(hok o ho).le ki) AC) rfl rfl AG) ?_
  rintro v79 L1 ⟨μ2,gv,tv0,G,T,k2,rfl,hG,hGn,hTr,hTx,hTm,rfl⟩
  refine As (Ah rfl (Af (Ax rfl) (Af (Ax rfl) (B2 rfl (Au [1,5,6,9,11,12,13,14] rfl rfl (Aj ?_))))))
  rw [← hPl] at hGn hTm
  have hGl:G.length=xs.length:=by rw [← hgl,← hGn]; exact (List.length_map _).symm
  have hGp:∀ x∈G,x.2.length≤16:=fun x hx=>by
   obtain ⟨i,hi⟩:=List.getElem?_of_mem hx
   have hlt:=(List.getElem?_eq_some_iff.1 hi).1
   obtain ⟨sp,hsp⟩:∃ sp,Pl[i]? = some sp:=⟨_,List.getElem?_eq_getElem AC⟩
   have h1:(C6 G)[i]? = some x.2:=by unfold C6; rw [List.getElem?_map,hi]; rfl
   rw [hGn,N6 hsp] at h1
   rw [← Option.some.inj h1]
   exact (FI _ _).2
  refine Am (Ah rfl ?_)
  refine AE (AF (Rq μ2 gv G hG (by rw [hGn]; exact hg) AC hGp) rfl rfl AG) ?_
  rintro tv L1 ⟨μ3,vs,k3,hvl,hB,rfl⟩
  refine As (Au [1,5,6,9,11,12,13,14,15] rfl rfl (Aj (Aj ?_)))
  rw [hGn] at hB
  have hgg:S.vw.g=EZ Pl:=by
   show S.W.pl.2.map (·.1)=_
   rw [hSp]; rfl
  have hn:S.vw.n=xs.length:=by show S.vw.g.length=_; rw [hgg,hgl]
  have hpt:S.W.pl.1=T.map (·.2):=by rw [hSp,hTm]
  have htg:TG S.vw:=⟨fun t ht=>by
   obtain ⟨o,ho,rfl⟩:=List.mem_map.1 (show t∈Ej Pl by have ht':t∈S.W.pl.1:=ht; rw [hSp] at ht'; exact ht')
   rw [hPl] at ho
   obtain ⟨x,hx,rfl⟩:=List.mem_map.1 ho
   exact ⟨Hy _,N5 (hok x hx).tu,IM _⟩,by show S.W.pl.1.length≤16; rw [hSp]; show (Ej Pl).length≤16; rw [Jt]; omega⟩
  have hTl:T.length=xs.length:=by rw [← hPn,← Jt,← hTm,List.length_map]
  have hDM:DM S.vw gv tv0 G T μ2:=⟨hG,by rw [hGn,hgg],hTr,hTx,by
   rw [hn]
   apply List.ext_getElem?
   intro j
   by_cases hj:j<xs.length
   ·obtain ⟨sp,hsp⟩:∃ sp,Pl[j]? = some sp:=⟨_,List.getElem?_eq_getElem AC⟩
    have h1:S.W.pl.2[j]? = some (Fh j sp.ps,(j:Int)):=by rw [hSp]; exact GY hsp
    obtain ⟨t,h2⟩:∃ t,(T.map (·.2))[j]? = some t:=⟨_,List.getElem?_eq_getElem (by rw [List.length_map]; omega)⟩
    rw [h2,List.getElem?_map,List.getElem?_range hj]
    show _=some (S.vw.tr j)
    congr 1
    unfold VWt.tr
    rw [show S.vw.W.pl.2[j]? = _ from h1,show S.vw.W.pl.1=_ from hpt,Option.getD_some,GX h2]
   ·rw [List.getElem?_eq_none (by rw [List.length_map]; omega),List.getElem?_eq_none (by rw [List.length_map,List.length_range]; omega)]⟩
  have hk:=VWt.vk hX htg
  have k13:=ki.trans (k2.trans k3)
  refine AX ((Split.ent' (K:=S.L μ3) AG).trans (A22 S S.sv μ3 rfl)) ?_
  rw [hSc]
  refine Am (Ah rfl (Af (AW (hG.1.le k3) rfl) (Ah rfl (AI [1,5,6,9,11,12,13,14,15,85,86] rfl (AB ?_)))))
  refine B4 (ι:=Nat×List Nd×PH) (fun z env L=>Sub env [(1,.int .u8 (ln:Nat)),(5,pv S.W.q),(6,pv S.sv),(9,.string txt),(11,.int .i64 (S.d.used:Nat)),(12,.int .i64 (BK S.l:Nat)),(13,gv),(14,tv0),(15,tv),(85,.int .i64 (G.length:Nat)),(86,.int .i64 (z.1:Nat))]∧Ent L (AL S S.sv z.2.1 z.2.2)∧z.1≤G.length∧Le μ3 z.2.2∧CaOk (fV S.vw) z.2.2 z.2.1) (fun z=>G.length-z.1) (0,[],μ3) ⟨⟨rfl,rfl,rfl,rfl,rfl,rfl,rfl,rfl,rfl,rfl,rfl,trivial⟩,Ent.refl _,Nat.zero_le _,Le.refl _,fun y hy=>(by cases hy)⟩ ?_
  rintro ⟨a,cl,μc⟩ env L ⟨hsub,hE,ha,kc,hca⟩
  dsimp only at hsub hE ha kc hca
  refine B7 _ hsub (AX hE ?_)
  clear hsub hE env L
  refine Ad (Af (Be rfl rfl) (AI [1,5,6,9,11,12,13,14,15,85,86,87] rfl (Aj ?_)))
  refine Aq rfl (fun h87=>?_) (fun h87=>?_)
  ·have h87':a<G.length:=by have:=of_decide_eq_true h87; omega
   refine Ar (Ai (Aj (AB (Ad (Ah rfl (Au [1,5,6,9,11,12,13,14,15,16,85,86] rfl rfl (Ad (Ah rfl (Af (AW ((hG.1.le k3).le kc) rfl) (Ah rfl (AI [1,5,6,9,11,12,13,14,15,16,85,86,90,91] rfl (AB ?_))))))))))))
   refine B4 (ι:=Nat×List Nd×PH) (fun z env L=>Sub env [(1,.int .u8 (ln:Nat)),(5,pv S.W.q),(6,pv S.sv),(9,.string txt),(11,.int .i64 (S.d.used:Nat)),(12,.int .i64 (BK S.l:Nat)),(13,gv),(14,tv0),(15,tv),(16,.int .i64 (a:Nat)),(85,.int .i64 (G.length:Nat)),(86,.int .i64 (a:Nat)),(90,.int .i64 (G.length:Nat)),(91,.int .i64 (z.1:Nat))]∧Ent L (AL S S.sv z.2.1 z.2.2)∧z.1≤G.length∧Le μc z.2.2∧CaOk (fV S.vw) z.2.2 z.2.1) (fun z=>G.length-z.1) (0,cl,μc) ⟨⟨rfl,rfl,rfl,rfl,rfl,rfl,rfl,rfl,rfl,rfl,rfl,rfl,rfl,rfl,trivial⟩,Split.ent' AG,Nat.zero_le _,Le.refl _,hca⟩ ?_
   rintro ⟨b,cl2,μd⟩ env L ⟨hsub,hE,hb,kd,hcb⟩
   dsimp only at hsub hE hb kd hcb
   refine B7 _ hsub (AX hE ?_)
   clear hsub hE env L
   refine Ad (Af (Be rfl rfl) (AI [1,5,6,9,11,12,13,14,15,16,85,86,90,91,92] rfl (Aj ?_)))
   refine Aq rfl (fun h92=>?_) (fun h92=>?_)
   ·have h92':b<G.length:=by have:=of_decide_eq_true h92; omega
    have haN:a<S.vw.n:=by omega
    have hbN:b<S.vw.n:=by omega
    have kcd:=kc.trans kd
    have hXd:=(hX.le (k2.trans k3)).le kcd
    have hTd:RowAt μd 2 0 tabV:=hT.le (k13.trans kcd)
    have hDd:=hDM.le (k3.trans kcd)
    have hq1:=Lv (S:=S) (s:=S.sv) rfl htg hXd hTd (KV.virt (a:Int) (b:Int) (ln:Int)) ⟨by omega,by omega,by omega⟩
    have hq2:=Lv (S:=S) (s:=S.sv) rfl htg hXd hTd (KV.merge (a:Int) (b:Int) (ln:Int)) ⟨by omega,by omega,by omega⟩
    have hv1:=Im S.vw a b ln AC
    have hv2:=Z4 (W:=S.vw) (a:Int) (b:Int) ln AC
    have hv3:=fun h=>Wr (W:=S.vw) hk haN hbN h (L:=ln) AC
    have hV0:(BB S.vw a b ln).2.2.2≠9:=fun e=>by
     rcases hv1 with ⟨q1,_⟩
     have h9:=(q1 (by rw [e]; decide)).1
     unfold BB at e
     rw [if_neg (not_not_intro (Ox hk.n16 haN hbN))] at e
     split at e <;> cases e
    have hrv:=fun μ' (k:Le μd μ')=>Tm hk μ' (hDd.le k) a b ln
    obtain ⟨Va,hVa⟩:∃ V,V=BB S.vw a b ln:=⟨_,rfl⟩
    obtain ⟨Ma,hMa⟩:∃ M,M=Dh S.vw a b ln:=⟨_,rfl⟩
    have hq1:Z3 S S.sv μd 9 a b ln (Rg Va):=by rw [hVa]; exact hq1
    have hq2:Z3 S S.sv μd 10 a b ln (Uk Ma):=by rw [hMa]; exact hq2
    rw [← hVa] at hv1 hv2 hv3 hV0 hrv
    rw [← hMa] at hv2
    obtain ⟨m1,m2,m3,m4⟩:=hv2
    unfold Uk at hq2
    rw [m1,m2] at hq2
    refine Ar (Ai (Aj (AB (Ad (Ah rfl (Au [1,5,6,9,11,12,13,14,15,16,17,85,86,90,91] rfl rfl (Ad (Ah rfl (Ah rfl (Ah rfl (Ah rfl (Af (DP rfl AC AC) (Af (Bz (qs:=[(0,_),(1,_),(2,_),(3,_)]) rfl) ?_)))))))))))))
    refine AE (AF (hq1 μd cl2 (Le.refl _) hcb) rfl rfl AG) ?_
    rintro v100 L1 ⟨μe,cl3,A1,c1,A2,c2,ke,hcc,hrx,rfl,rfl⟩
    refine As (AE (Bd) (fun b18=>?_))
    refine Bh (B8 rfl rfl rfl rfl) (AI [1,5,6,9,11,12,13,14,15,16,17,18,85,86,90,91] rfl (Ad (Ah rfl (Ah rfl (Ah rfl (Ah rfl (Af (DP rfl AC AC) (Af (Bz (qs:=[(0,_),(1,_),(2,_),(3,_)]) rfl) ?_))))))))
    refine AE (AF (hq2 μe cl3 ke hcc) rfl rfl AG) ?_
    rintro v107 L1 ⟨μf,cl4,A3,c3,A4,c4,kf,hcd,hry,rfl,rfl⟩
    refine As (AE (Bd) (fun b19=>?_))
    refine Bh (B8 rfl rfl rfl rfl) (AI [1,5,6,9,11,12,13,14,15,16,17,18,19,85,86,90,91] rfl (Ad (Ah rfl (Ah rfl (Ah rfl (Ah rfl (Ah rfl (Af (DP rfl AC AC) ?_))))))))
    refine AE (AF (hrv μf (ke.trans kf)) rfl rfl AG) ?_
    rintro v115 L1 ⟨uv,μg,kg,rfl,hru,hTO,rfl⟩
    refine As (Ah rfl (Af (Ax rfl) (Af (Ax rfl) (Af (Ax rfl) (Af (Ax rfl) (B2 rfl (B2 rfl (B2 rfl (Au [1,5,6,9,11,12,13,14,15,16,17,18,19,20,21,22,23,85,86,90,91] rfl rfl (Aj (Ad (Af (Ae rfl) (AM (Ak rfl rfl) (Ah rfl (Af (Bx rfl rfl) (Ah rfl ?_))))))))))))))))
    refine B9 124 rfl (fun h124=>by simp at h124) (fun h124=>?_)
    refine AS rfl rfl (Af (Ae rfl) (AS rfl rfl (AM (Ak rfl rfl) (AS rfl rfl (Ah rfl (AS rfl rfl (Af (Bx rfl rfl) (Af (B0 rfl rfl) (Ah rfl ?_)))))))))
    refine B9 130 rfl (fun h130=>by simp at h130) (fun h130=>?_)
    refine AS rfl rfl (Af (Ae rfl) (AS rfl rfl (AM (Ak rfl rfl) (AS rfl rfl (Ah rfl (AS rfl rfl (Af (LI rfl rfl) (Af (B0 rfl rfl) (Ah rfl ?_)))))))))
    refine B9 136 rfl (fun h136=>by simp at h136) (fun h136=>?_)
    refine AS rfl rfl (Af (Ae rfl) (AS rfl rfl (AM (Ak rfl rfl) (AS rfl rfl (Ah rfl (AS rfl rfl (Af (Bx rfl rfl) (Af (B0 rfl rfl) (Ah rfl ?_)))))))))
    refine B9 142 rfl (fun h142=>by simp at h142) (fun h142=>?_)
    refine AS rfl rfl (Af (Ae rfl) (AS rfl rfl (AM (Ak rfl rfl) (AS rfl rfl (Ah rfl (AS rfl rfl (Af (Bx rfl rfl) (Af (B0 rfl rfl) (Ah rfl ?_)))))))))
    refine B9 148 rfl (fun h148=>by simp at h148) (fun h148=>?_)
    refine AS rfl rfl (Af (Ae rfl) (AS rfl rfl (AM (Ak rfl rfl) (AS rfl rfl (Ah rfl (AS rfl rfl ?_))))))
    refine AE (AF (IB μg _ uv Va.1 Va.1 (hrx.le (kf.trans kg)) hru) rfl rfl AG) ?_
    rintro v152 L1 ⟨rfl,rfl⟩
    refine As (AS rfl rfl (Af (Cd rfl) (Af (B0 rfl rfl) (AI [1,5,6,9,11,12,13,14,15,16,17,18,19,20,22,23,85,86,90,91,154] rfl ?_))))
    refine Aq rfl (fun h154=>by simp at h154) (fun h154=>?_)
    refine Ar (Ai (Aj (Ad (Ah rfl (Af (Bx rfl rfl) (AI [1,5,6,9,11,12,13,14,15,16,17,18,19,20,22,23,85,86,90,91,156] rfl ?_))))))
    refine Aq rfl (fun h156=>?_) (fun h156=>?_)
    ·have h156':Va.2.2.2≠0:=fun e=>by rw [e] at h156; cases h156
     have h12:Va.2.2.2=12:=by
      rcases (hv1.1 h156').2 with e | e
      ·exact absurd e hV0
      ·exact e
     have hM0:=m3 h156'
     refine Aj (Ad (Ah rfl (Af (Bx rfl rfl) (Ah rfl ?_))))
     refine B9 159 rfl (fun h159=>by rw [h12] at h159; cases h159) (fun h159=>?_)
     refine AS rfl rfl (Af (Ae rfl) (AS rfl rfl (AM (Ak rfl rfl) (AS rfl rfl (Af (BD rfl) (AS rfl rfl (Af (Bx rfl rfl) (Af (B0 rfl rfl) (AI [1,5,6,9,11,12,13,14,15,16,85,86,90,91,164] rfl ?_)))))))))
     refine Aq rfl (fun h164=>by dsimp only at h164; rw [hM0] at h164; cases h164) (fun h164=>?_)
     refine Ar (Ai (B3 (AU (AY rfl (Ai (Am (Af (Fy rfl rfl AC AC) (Ah rfl (Bi [1,5,6,9,11,12,13,14,15,16,85,86,90,91] rfl (AJ ?_))))))))))
     exact Ai ⟨(b+1,cl4,μg),⟨⟨rfl,rfl,rfl,rfl,rfl,rfl,rfl,rfl,rfl,rfl,rfl,rfl,rfl,rfl,trivial⟩,Split.ent' AG,h92',kd.trans (ke.trans (kf.trans kg)),fun y hy=>by obtain ⟨q,z1,z2,z3⟩:=hcd y hy; exact ⟨q,z1,z2,z3.le kg⟩⟩,by show G.length-(b+1)<G.length-b; omega⟩
    ·have h156':Va.2.2.2=0:=by
      by_cases e:Va.2.2.2=0
      ·exact e
      ·rw [decide_eq_false e] at h156; cases h156
     obtain ⟨hM1,hM2⟩:=m4 h156'
     have kdg:=ke.trans (kf.trans kg)
     obtain ⟨tb,to,tc,u,hTv,hTc,hTl1,hTr1,hTO1⟩:=DM.tree hk (hDd.le kdg) (c:=(a:Int)) AC
     obtain ⟨tb2,to2,tc2,u2,hTv2,hTc2,hTl2,hTr2,hTO2⟩:=DM.tree hk (hDd.le kdg) (c:=(b:Int)) AC
     have hUl:=hk.len
     refine Ar (Ai (Aj ?_))
     refine AX (Split.ent' (K:=[ro μg,B5 b19 62 [.int .i64 Va.2.2.2,.bool (decide (Va.2.2.2=0)&&decide (Ma.2.1=[])),.int .i64 Va.2.2.1,.slice A3 0 c3,.slice A4 Ma.1.length c4],B5 b18 62 [.int .i64 Va.2.2.2,.bool Va.2.1,.int .i64 Va.2.2.1,.slice A1 0 c1,.slice A2 Va.1.length c2],HG S.sv S.pw S.W.q S.ps S.px S.be S.bu S.pa,Eg S.pa 64 cl4,S.vw.A,FSA S.W.q S.d]) AG) ?_
     refine Bb [4,8] ([ro μg]) ([B5 b19 62 [.int .i64 Va.2.2.2,.bool (decide (Va.2.2.2=0)&&decide (Ma.2.1=[])),.int .i64 Va.2.2.1,.slice A3 0 c3,.slice A4 Ma.1.length c4],B5 b18 62 [.int .i64 Va.2.2.2,.bool Va.2.1,.int .i64 Va.2.2.1,.slice A1 0 c1,.slice A2 Va.1.length c2],HG S.sv S.pw S.W.q S.ps S.px S.be S.bu S.pa,Eg S.pa 64 cl4,S.vw.A,FSA S.W.q S.d]) (Split.ent AG) AP ?_
     refine AD 0 rfl (AH rfl) (AD 1 rfl (AH rfl) (AD 2 rfl (AH rfl) (AD 3 rfl (AA (to+(a:Int).toNat*1) (congrArg some hTv) rfl AC AC rfl) (Bl 4 rfl (BJ rfl hTc) rfl (AD 5 rfl (AH rfl) (AD 6 rfl (AH rfl) (AD 7 rfl (AA (to2+(b:Int).toNat*1) (congrArg some hTv2) rfl AC AC rfl) (Bl 8 rfl (BJ rfl hTc2) rfl ?_))))))))
     refine BX 9 rfl AP AP (AF (KP μg uv u u2 Va.1 (VT S.vw a) (VT S.vw b) hru hTr1 hTr2 ⟨by have:=hTO.len; omega,by have:=hTO1.len; omega,by have:=hTO2.len; omega⟩ ⟨hTO.u32,hTO1.u32,hTO2.u32⟩) rfl rfl AG) ?_
     rintro v175 L1 ⟨v8,v9,rs,hrs,rfl,rfl⟩
     refine C5 ?_
     have hrs2:rs=D4 Va.1 (VT S.vw a) (VT S.vw b):=by rw [hrs,NX hTO.good.1 hTO1.good.1 hTO2.good.1 (Nat.le_refl _)]
     clear hrs
     subst hrs2
     refine AD 10 rfl (AH rfl) (AD 11 rfl (Ax rfl) (AD 12 rfl (Ax rfl) (AD 13 rfl (Bf rfl) (AD 14 rfl (Bf rfl) (BZ [1,5,6,9,11,12,13,14,15,16,17,18,19,22,24,25,85,86,90,91] rfl (Bv AP (Ai ?_)))))))
     refine Co (fun env L=>∃ μj,Sub env [(1,.int .u8 (ln:Nat)),(5,pv S.W.q),(6,pv S.sv),(9,.string txt),(11,.int .i64 (S.d.used:Nat)),(12,.int .i64 (BK S.l:Nat)),(13,gv),(14,tv0),(15,tv),(16,.int .i64 (a:Nat)),(17,.int .i64 (b:Nat)),(18,pv b18),(22,.int .i64 Va.2.2.1),(85,.int .i64 (G.length:Nat)),(86,.int .i64 (a:Nat)),(90,.int .i64 (G.length:Nat)),(91,.int .i64 (b:Nat))]∧Ent L [B5 b18 62 [.int .i64 Va.2.2.2,.bool Va.2.1,.int .i64 Va.2.2.1,.slice A1 0 c1,.slice A2 Va.1.length c2],HG S.sv S.pw S.W.q S.ps S.px S.be S.bu S.pa,Eg S.pa 64 cl4,S.vw.A,FSA S.W.q S.d,ro μj]∧Le μg μj) ?_ ?_
     ·refine Aj ?_
      refine BA (e:=111) (n:=2) (v:=v8) (μ:=μg) AG fun μh kh r8=>?_
      refine BA (e:=119) (n:=4) (v:=v9) (μ:=μh) AG fun μj kj r9=>?_
      have kdj:=kdg.trans (kh.trans kj)
      have hyj:=hry.le (kg.trans (kh.trans kj))
      have hS1:=IB μj _ v8 Ma.1 (VM Va.1 (VT S.vw a) (VT S.vw b)) hyj (r8.le kj)
      have hS2:=IB μj _ u Ma.1 (VT S.vw a) hyj (hTr1.le (kh.trans kj))
      have hTcj:=hTc.le (kh.trans kj)
      obtain ⟨vb,vo,vcap,xa,xb,xo,xc,hvv,hva,hxa,hcell⟩:=A1l (hB.le (kcd.trans kdj)) (a:=a) (c:=b) AC AC
      refine AX (Split.ent' (K:=[ro μj,B5 b19 62 [.int .i64 Va.2.2.2,.bool (decide (Va.2.2.2=0)&&decide (Ma.2.1=[])),.int .i64 Va.2.2.1,.slice A3 0 c3,.slice A4 Ma.1.length c4],B5 b18 62 [.int .i64 Va.2.2.2,.bool Va.2.1,.int .i64 Va.2.2.1,.slice A1 0 c1,.slice A2 Va.1.length c2],HG S.sv S.pw S.W.q S.ps S.px S.be S.bu S.pa,Eg S.pa 64 cl4,S.vw.A,FSA S.W.q S.d]) AG) ?_
      refine Bb [1,7,17,20,23,26,30] ([ro μj,B5 b19 62 [.int .i64 Va.2.2.2,.bool (decide (Va.2.2.2=0)&&decide (Ma.2.1=[])),.int .i64 Va.2.2.1,.slice A3 0 c3,.slice A4 Ma.1.length c4]]) ([B5 b18 62 [.int .i64 Va.2.2.2,.bool Va.2.1,.int .i64 Va.2.2.1,.slice A1 0 c1,.slice A2 Va.1.length c2],HG S.sv S.pw S.W.q S.ps S.px S.be S.bu S.pa,Eg S.pa 64 cl4,S.vw.A,FSA S.W.q S.d]) (Split.ent AG) AP ?_
      refine AD 0 rfl (Ae rfl) (Bl 1 rfl (Ak rfl rfl) rfl (AD 2 rfl (AH rfl) ?_))
      refine CQ 3 rfl AP (AF hS1 rfl rfl AG) ?_
      rintro v181 L1 ⟨rfl,rfl⟩
      refine ⟨_,BU (Split.ent AG),?_⟩
      refine AD 4 rfl (Cd rfl) (AD 5 rfl (AH rfl) ?_)
      refine E9 183 rfl (fun h183=>by simp [hM1] at h183) (fun h183=>?_)
      refine Bn 6 rfl rfl rfl (Ae rfl) AP AP AP (Dt 7 rfl rfl rfl (Ak rfl rfl) rfl AP AP AP (Bn 8 rfl rfl rfl (AH rfl) AP AP AP (Bn 9 rfl rfl rfl (AW r9 rfl) AP AP AP (Bn 10 rfl rfl rfl (Bo rfl rfl) AP AP AP (Bn 11 rfl rfl rfl (LI rfl rfl) AP AP AP (AD 12 rfl (B0 rfl rfl) (AD 13 rfl (AH rfl) ?_)))))))
      refine E9 191 rfl (fun h191=>by rw [h156',hM2] at h191; simp at h191) (fun h191=>?_)
      refine Bn 14 rfl rfl rfl (AH rfl) AP AP AP (Bn 15 rfl rfl rfl (AH rfl) AP AP AP ?_)
      refine Bn 16 rfl rfl rfl (AA (vo+a*1) (congrArg some hvv) rfl AC AC (by rw [Int.toNat_natCast])) AP AP AP ?_
      refine Dt 17 rfl rfl rfl (BJ rfl hva) rfl AP AP AP (Bn 18 rfl rfl rfl (AH rfl) AP AP AP ?_)
      refine Bn 19 rfl rfl rfl (AA (xo+b*1) (congrArg some hxa) rfl AC AC (by rw [Int.toNat_natCast])) AP AP AP ?_
      refine Dt 20 rfl rfl rfl (BJ rfl hcell) rfl AP AP AP (Bn 21 rfl rfl rfl (AH rfl) AP AP AP ?_)
      refine E9 199 rfl (fun h199=>?_) (fun h199=>?_)
      ·have hV:=hv3 (by rw [hgg]; exact h199) h156'
       obtain ⟨s1,s2⟩:=XJ (a:=VT S.vw b) (b:=VT S.vw a) hTO2.good hTO1.good
       have hMa1:Ma.1=VT S.vw a:=by rw [hM1,hV]; exact s1
       have hMa2:Ma.2.1=[]:=by rw [hM2,hV]; exact s2
       refine Bn 22 rfl rfl rfl (Ae rfl) AP AP AP (Dt 23 rfl rfl rfl (Ak rfl rfl) rfl AP AP AP (Bn 24 rfl rfl rfl (AH rfl) AP AP AP ?_))
       refine E9 202 rfl (fun h202=>?_) (fun h202=>by rw [h156',hMa2] at h202; simp at h202)
       refine Bn 25 rfl rfl rfl (Ae rfl) AP AP AP (Dt 26 rfl rfl rfl (Ak rfl rfl) rfl AP AP AP (Bn 27 rfl rfl rfl (AH rfl) AP AP AP (Bn 28 rfl rfl rfl (AH rfl) AP AP AP (Bn 29 rfl rfl rfl (AA (to+(a:Int).toNat*1) (congrArg some hTv) rfl AC AC rfl) AP AP AP (Dt 30 rfl rfl rfl (BJ rfl hTcj) rfl AP AP AP (HL [31] AP rfl ?_))))))
       refine OJ 31 rfl (GOn.some rfl rfl) AP (AF hS2 rfl rfl AG) ?_
       rintro v209 L1 ⟨rfl,rfl⟩
       refine C5 (Bn 32 rfl rfl rfl (Bc rfl rfl) AP AP AP (Bn 33 rfl rfl rfl (AH rfl) AP AP AP ?_))
       refine E9 211 rfl (fun h211=>?_) (fun h211=>by simp [hMa1] at h211)
       refine Bn 34 rfl rfl rfl (AH rfl) AP AP AP (Bn 35 rfl rfl rfl (Bo rfl rfl) AP AP AP (Bn 36 rfl rfl rfl (Bc rfl rfl) AP AP AP (Bn 37 rfl rfl rfl (Cd rfl) AP AP AP (Bn 38 rfl rfl rfl (Bc rfl rfl) AP AP AP (AD 39 rfl (B0 rfl rfl) (BZ [1,5,6,9,11,12,13,14,15,16,17,18,22,85,86,90,91,217] rfl (Bv AP (Ai ?_))))))))
       refine Aq rfl (fun h217=>by first | cases h217 | (rw [hV] at h217; simp at h217)) (fun h217=>?_)
       refine Ar ?_
       exact Ai ⟨μj,⟨rfl,rfl,rfl,rfl,rfl,rfl,rfl,rfl,rfl,rfl,rfl,rfl,rfl,rfl,rfl,rfl,rfl,trivial⟩,Split.ent' AG,kh.trans kj⟩
      ·refine C1 22 rfl rfl rfl rfl AP AP AP (C1 23 rfl rfl rfl rfl AP AP AP (C1 24 rfl rfl rfl rfl AP AP AP (C1 25 rfl rfl rfl rfl AP AP AP (C1 26 rfl rfl rfl rfl AP AP AP (C1 27 rfl rfl rfl rfl AP AP AP (C1 28 rfl rfl rfl rfl AP AP AP (C1 29 rfl rfl rfl rfl AP AP AP (C1 30 rfl rfl rfl rfl AP AP AP (C1 31 rfl rfl rfl rfl AP AP AP (C1 32 rfl rfl rfl rfl AP AP AP (C1 33 rfl rfl rfl rfl AP AP AP (C1 34 rfl rfl rfl rfl AP AP AP (C1 35 rfl rfl rfl rfl AP AP AP (C1 36 rfl rfl rfl rfl AP AP AP (C1 37 rfl rfl rfl rfl AP AP AP (Bn 38 rfl rfl rfl (B0 rfl rfl) AP AP AP (AD 39 rfl (B0 rfl rfl) (BZ [1,5,6,9,11,12,13,14,15,16,17,18,22,85,86,90,91,217] rfl (De AP (Ai ?_))))))))))))))))))))
       refine Aq rfl (fun h217=>by first | cases h217 | (rw [hV] at h217; simp at h217)) (fun h217=>?_)
       refine Ar ?_
       exact Ai ⟨μj,⟨rfl,rfl,rfl,rfl,rfl,rfl,rfl,rfl,rfl,rfl,rfl,rfl,rfl,rfl,rfl,rfl,rfl,trivial⟩,Split.ent' AG,kh.trans kj⟩
     rintro env L ⟨μj,hsub,hE,kgj⟩
     refine B7 _ hsub (AX hE ?_)
     clear hsub hE env L
     have kdj:=kdg.trans kgj
     obtain ⟨n1,n2,n3,n4⟩:=hv1.2 h156'
     obtain ⟨nn,hnn⟩:∃ nn:Nat,Va.2.2.1=(nn:Int):=⟨Va.2.2.1.toNat,by omega⟩
     have hXj:=hXd.le kdj
     have hTj:=hTd.le kdj
     have hq3:Z3 S S.sv μj 9 a b Va.2.2.1 (Rg Va):=by
      have:=Lv (S:=S) (s:=S.sv) rfl htg hXj hTj (KV.virt (a:Int) (b:Int) Va.2.2.1) ⟨by omega,by omega,by omega⟩
      rwa [show fV S.vw ⟨9,a,b,[],Va.2.2.1⟩=Rg (BB S.vw a b Va.2.2.1) from rfl,n3] at this
     have hq4:Z3 S S.sv μj 9 a b (Va.2.2.1-1) (Rg ([],false,0,12)):=by
      have:=Lv (S:=S) (s:=S.sv) rfl htg hXj hTj (KV.virt (a:Int) (b:Int) (Va.2.2.1-1)) ⟨by omega,by omega,by omega⟩
      rwa [show fV S.vw ⟨9,a,b,[],Va.2.2.1-1⟩=Rg (BB S.vw a b (Va.2.2.1-1)) from rfl,n4] at this
     have hcj:CaOk (fV S.vw) μj cl4:=hcd.le (kg.trans kgj)
     refine Ad (Ah rfl (Ah rfl (Ah rfl (Ah rfl (Af (Bz (qs:=[(0,_),(1,_),(2,_),(3,_)]) rfl) ?_)))))
     refine AE (AF (hq3 μj cl4 (Le.refl _) hcj) rfl rfl AG) ?_
     rintro v223 L1 ⟨μk,cl5,A5,c5,A6,c6,kk,hce,hrz,rfl,rfl⟩
     refine As (AE (Bd) (fun b26=>?_))
     refine Bh (B8 rfl rfl rfl rfl) (AI [1,5,6,9,11,12,13,14,15,16,17,18,22,26,85,86,90,91] rfl (Ad (Ah rfl (Ah rfl (Ah rfl (Ah rfl (Af (BH (Va.2.2.1-1) rfl rfl rfl AC AC) (Af (Bz (qs:=[(0,_),(1,_),(2,_),(3,_)]) rfl) ?_))))))))
     refine AE (AF (hq4 μk cl5 kk hce) rfl rfl AG) ?_
     rintro v230 L1 ⟨μl,cl6,A7,c7,A8,c8,kl,hcf,-,rfl,rfl⟩
     refine As (AE (Bd) (fun b27=>?_))
     refine Bh (B8 rfl rfl rfl rfl) (AI [1,5,6,9,11,12,13,14,15,16,18,26,27,85,86,90,91] rfl (Ad (AM (BL (vs:=[.int .i64 Va.2.2.2,.bool Va.2.1,.int .i64 Va.2.2.1,.slice A5 0 c5,.slice A6 Va.1.length c6]) rfl rfl rfl) (AM (BL (vs:=[.int .i64 Va.2.2.2,.bool Va.2.1,.int .i64 Va.2.2.1,.slice A1 0 c1,.slice A2 Va.1.length c2]) rfl rfl rfl) ?_))))
     refine AE (AF (Rr μl (Rg Va) rfl (A5,c5) (A6,c6) (A1,c1) (A2,c2) (hrz.le kl) (hrx.le (kf.trans (kg.trans (kgj.trans (kk.trans kl)))))) rfl rfl AG) ?_
     rintro v233 L1 ⟨rfl,rfl⟩
     refine As (Af (Cd rfl) (Ah rfl ?_))
     refine B9 235 rfl (fun h235=>by cases h235) (fun h235=>?_)
     refine AS rfl rfl (Af (Ae rfl) (AS rfl rfl (AM (Ak rfl rfl) (AS rfl rfl (Af (Bx rfl rfl) (Af (B0 rfl rfl) (AI [1,5,6,9,11,12,13,14,15,16,85,86,90,91,239] rfl (Dw rfl (Ar (AV (Ai (Am (Af (Fy rfl rfl AC AC) (Ah rfl (Bi [1,5,6,9,11,12,13,14,15,16,85,86,90,91] rfl (AJ ?_))))))))))))))))
     exact Ai ⟨(b+1,cl6,μl),⟨⟨rfl,rfl,rfl,rfl,rfl,rfl,rfl,rfl,rfl,rfl,rfl,rfl,rfl,rfl,trivial⟩,Split.ent' AG,h92',kd.trans (kdj.trans (kk.trans kl)),hcf⟩,by show G.length-(b+1)<G.length-b; omega⟩
   ·have h92':=of_decide_eq_false h92
    obtain rfl:b=G.length:=by omega
    refine B3 (AU (AU (AY rfl (AV (Ai (Am (Af (AQ ((a+1:Nat):Int) rfl rfl AC AC AC) (Ah rfl (Bi [1,5,6,9,11,12,13,14,15,85,86] rfl (AJ ?_))))))))))
    exact Ai ⟨(a+1,cl2,μd),⟨⟨rfl,rfl,rfl,rfl,rfl,rfl,rfl,rfl,rfl,rfl,rfl,trivial⟩,Split.ent' AG,h87',kc.trans kd,hcb⟩,by show G.length-(a+1)<G.length-a; omega⟩
  ·refine AX ((Split.ent' (K:=AL S S.sv cl μc) AG).trans (Z5 S μc cl)) ?_
   refine B3 (AU (AU (AY rfl (Ai (Ad (Ah rfl ?_))))))
   refine AE (AF (IF S.W.q S.d hdo logN) rfl rfl AG) ?_
   rintro v244 L1 ⟨rfl,rfl⟩
   refine As ?_
   rw [htxt]
   refine Ah rfl (Af (Ax rfl) (Af (Ax rfl) (B2 rfl (Au [5,6,9,11,12,13,28] rfl rfl (Ad (Ah rfl (Ah rfl (Af (FM rfl rfl) (Ah rfl ?_)))))))))
   refine B9 250 rfl (fun h250=>?_) (fun h250=>by simp [Bt] at h250)
   refine AS rfl rfl (Ah rfl (AS rfl rfl ?_))
   refine AE (AF (Um S.W.q S.d hdo) rfl rfl AG) ?_
   rintro v252 L1 ⟨rfl,rfl⟩
   refine As (AS rfl rfl (Ah rfl (AS rfl rfl (Af (Bo rfl rfl) (Af (Bc rfl rfl) (Ah rfl ?_))))))
   refine B9 256 rfl (fun h256=>?_) (fun h256=>by simp at h256)
   refine AS rfl rfl (Ah rfl (AS rfl rfl (Af (Al rfl) (AS rfl rfl (Af (Ae rfl) (AS rfl rfl (AM (Ak rfl rfl) (AS rfl rfl ?_))))))))
   refine AE (AF (Kt S.vw μc (hX.le (k2.trans (k3.trans kc)))) rfl rfl AG) ?_
   rintro v261 L1 ⟨rfl,rfl⟩
   refine As (AS rfl rfl (Ah rfl (AS rfl rfl (Af (Bo rfl rfl) (Af (Bc rfl rfl) (Ah rfl ?_))))))
   refine B9 265 rfl (fun h265=>?_) (fun h265=>by simp at h265)
   refine AS rfl rfl (Ah rfl (AS rfl rfl (Af (Al rfl) (AS rfl rfl (Af (Ae rfl) (AS rfl rfl (AM (Ak rfl rfl) (AS rfl rfl ?_))))))))
   refine AE (AF (IK S.vw μc (hX.w.le (k2.trans (k3.trans kc)))) rfl rfl AG) ?_
   rintro v270 L1 ⟨rfl,rfl⟩
   refine As (AS rfl rfl (Ah rfl (AS rfl rfl (Af (AW (hG.1.le (k3.trans kc)) rfl) (AS rfl rfl (Af (Bo rfl rfl) (Af (Bc rfl rfl) (Au [4] rfl rfl (Av ?_)))))))))
   refine Aw [ro μc] (.tmp rfl .nil) ⟨?_,μc,[],k13.trans kc,rfl⟩ AG
   show Value.bool (decide _)=_
   have e:S.vw.W.pl.2.length=G.length:=by
    have:=hn
    rw [← hGl,show S.vw.n=S.vw.W.pl.2.length from List.length_map _] at this
    exact this
   rw [e]; simp
end SX
namespace Go.Proofs.YtbomiailappgpaaGreatDoor
open Go.ChangeShapes Go.WideShapes Go.ChangeAt Go.RowKit
theorem Z6:ownKnob Tryz.prog.godebug=none:=by kernel_rfl
theorem gTab : Tryz.prog.globalNamed "math/bits.deBruijn64tab" = some 2 := by kernel_rfl
theorem tTab:(Tryz.prog.globals[2]?).map (·.type)=some 496:=by kernel_rfl
theorem gSyn : Tryz.prog.globalNamed "strconv.ErrSyntax" = some 0 := by kernel_rfl
theorem tSyn:(Tryz.prog.globals[0]?).map (·.type)=some 283:=by kernel_rfl
theorem A2h:∃ ms,Tryz.prog.underlying 283=some (.interface ms):=⟨_,Tryz.underlying283⟩
theorem A26{H:Type}:(Rows.laid_math_bits_deBruijn64tab:DataW H)=.agg (Lib.deBruijn64tab.map fun n=>.lit (.int .u8 (n:Nat))):=rfl
theorem N8 {P:Program}{w:World}:∀ {l:List (String×DataW Unit)} {ps:List MemPlace} {n:String} {d:DataW Unit},DataW.LaidVars P w l ps→(n,d)∈l →
  ∃ g t cs fuel p,P.globalNamed n=some g∧(P.globals[g]?).map (·.type)=some t∧w.var? P n=some cs∧DataW.trod (fun _=>()) P w 0 (fun _=>true) false fuel t cs.toList=some (d,p)
 | (n0,d0)::r,ps,n,d,h,hm=>by
  obtain ⟨g,t,cs,fuel,p,q,h1,h2,h3,h4,h5,_⟩:=h
  rcases List.mem_cons.1 hm with e | hm
  ·cases e
   exact ⟨g,t,cs,fuel,p,h1,h2,h3,h4⟩
  ·exact N8 h5 hm
theorem A1n{W:World}(h:laidMetH Tryz.prog Rows.wholeVirtualRow.laid W):SX.SynOk (fun b=>W.heap[b]?):=by
 rw [MakeChecks.laidMetH_plain _ _ _ (by kernel_rfl)] at h
 obtain ⟨ps,hl,_,_⟩:=h
 obtain ⟨g0, t0, cs0, f0, p0, hg0, ht0, hv0, hd0⟩ := N8 hl (n := "strconv.ErrSyntax") (d := Rows.laid_strconv_ErrSyntax) (List.Mem.tail _ (List.Mem.tail _ (List.Mem.tail _ (List.Mem.tail _ (List.Mem.head _)))))
 obtain rfl:=Option.some.inj (gSyn.symm.trans hg0)
 obtain rfl:=Option.some.inj (tSyn.symm.trans ht0)
 obtain ⟨ms,hms⟩:=A2h
 obtain ⟨_,u,v,e,_,_⟩:=iface_of_trod hms hd0
 have hc:=World.var?_cell hg0 hv0 0
 have hcs:cs0[0]? = some (.iface u v):=by
  have:=congrArg (·[0]?) e
  simpa using this
 rw [hcs] at hc
 exact ⟨_,(SX.spot_of_cell hc).2,.inr ⟨u,v,rfl⟩⟩
theorem A1o{W:World}(h:laidMetH Tryz.prog Rows.wholeVirtualRow.laid W):SX.RowAt (fun b=>W.heap[b]?) 2 0 SX.tabV:=by
 rw [MakeChecks.laidMetH_plain _ _ _ (by kernel_rfl)] at h
 obtain ⟨ps,hl,_,_⟩:=h
 obtain ⟨g0, t0, cs0, f0, p0, hg0, ht0, hv0, hd0⟩ := N8 hl (n := "math/bits.deBruijn64tab") (d := Rows.laid_math_bits_deBruijn64tab) (List.Mem.tail _ (List.Mem.head _))
 obtain rfl:=Option.some.inj (gTab.symm.trans hg0)
 obtain rfl:=Option.some.inj (tTab.symm.trans ht0)
 obtain ⟨xs,m,rfl,hx,_,hn,hel⟩:=DataW.trod_array Tryz.underlying496 hd0
 simp only [Prod.mk.injEq] at hx
 have hx1:=hx.1
 rw [A26] at hx1
 simp only [DataW.agg.injEq] at hx1
 have c5:Tryz.prog.cellsOf 5=1:=by kernel_rfl
 have hlen:Lib.deBruijn64tab.length=64:=rfl
 intro j u hj
 have hj64:j<64:=by
  have:=(List.getElem?_eq_some_iff.1 hj).1
  simpa [SX.tabV,hlen] using this
 obtain ⟨k,hk⟩:∃ k,Lib.deBruijn64tab[j]? = some k:=⟨_,List.getElem?_eq_getElem (by omega)⟩
 have hu:u=.int .u8 (k:Nat):=by
  unfold SX.tabV at hj
  rw [List.getElem?_map,hk] at hj
  exact (Option.some.inj hj).symm
 obtain ⟨y,hy⟩:∃ y,xs[j]? = some y:=⟨_,List.getElem?_eq_getElem (by omega)⟩
 have h1:=hel j hj64
 rw [hy,c5,Nat.mul_one] at h1
 obtain ⟨n,e1,e2,_⟩:=DataW.trod_int Tryz.underlying5 h1
 have e3:(xs.map (·.1))[j]? = some (.lit (.int .u8 n)):=by rw [List.getElem?_map,hy,e2]; rfl
 rw [← hx1,List.getElem?_map,hk] at e3
 have hnk:n=(k:Int):=by
  have:=Option.some.inj e3
  simpa using this.symm
 have hc:=World.var?_cell hg0 hv0 j
 have hcs:cs0[j]? = some (.int .u8 n):=by
  have:(cs0.toList.drop j)[0]? = some (.int .u8 n):=by
   have:=congrArg (·[0]?) e1
   simpa [List.getElem?_take] using this
  rw [List.getElem?_drop,Nat.add_zero] at this
  simpa using this
 rw [hcs] at hc
 rw [Nat.zero_add,hu,← hnk]
 exact (SX.spot_of_cell hc).2
theorem Z7 (os:Os)(args:Array Value):laidMetH Tryz.prog Rows.wholeVirtualRow.laid ((World.doorLaid Tryz.prog 400 os).forCall (fun _ _=>0) ⟨#[],args,[]⟩).memory :=
 laidMetH_of_parts3 (fuel:=8) (laidMet_of_run' 8 (by kernel_rfl) (by kernel_rfl)) (by kernel_rfl) (by kernel_rfl)
theorem A2i:SX.StpT Tryz.prog 31 27 111 9 41 28 5 29 where
 ok:=⟨_,_,_,_,_,_,_,Tryz.underlying31,Tryz.underlying111,⟨rfl,rfl⟩,⟨rfl,rfl⟩,⟨rfl,rfl⟩,⟨rfl,rfl⟩,⟨rfl,rfl⟩,⟨rfl,rfl⟩,rfl,rfl⟩
 u8:=Tryz.underlying5
 u16:=Tryz.underlying29
 uT:=Tryz.underlying27
 uQ:=Tryz.underlying28
 us:=Tryz.underlying9
 uu:=Tryz.underlying41
 c:=⟨by kernel_rfl,by kernel_rfl,by kernel_rfl,by kernel_rfl,by kernel_rfl,by kernel_rfl,by kernel_rfl,by kernel_rfl⟩
end Go.Proofs.YtbomiailappgpaaGreatDoor
