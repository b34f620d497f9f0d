/- A part of the proof: walks of the program's functions, and the rules by which they go. -/
import Derived.Test.YtbomiailappgpaaGreatDoorB47b6cacc
import Derived.Test.YtbomiailappgpaaGreatDoorBa288ffc6
namespace SX
open Go Go.Proofs Go.Proofs.Tryz
theorem BX {s:List UInt8}{n pos:Nat}(h:pos+n≤s.length):Cq s n (pos,0)=(pos+n,0)∧Di s n (pos,0)=(s.drop pos).take n:=by
 constructor
 ·unfold Cq; rw [if_neg (fun k=>k rfl),if_neg (by show ¬ s.length<pos+n; omega)]
 ·unfold Di; rw [if_neg (by rintro (k | k); exact k rfl; exact absurd k (by show ¬ s.length<pos+n; omega))]
theorem EY {s:List UInt8}{n pos:Nat}(h:s.length<pos+n):Cq s n (pos,0)=(pos,2)∧Di s n (pos,0)=[]:=by
 constructor
 ·unfold Cq; rw [if_neg (fun k=>k rfl),if_pos h]
 ·unfold Di; rw [if_pos (.inr h)]
theorem E8 {s:List UInt8}{n:Nat}{r:RS}(h:r.2≠0):Cq s n r=r∧Di s n r=[]:=by
 constructor
 ·unfold Cq; rw [if_pos h]
 ·unfold Di; rw [if_pos (.inl h)]
theorem Gk {s:List UInt8}{n pos:Nat}(h:(Cq s n (pos,0)).2=0):pos+n≤s.length:=by
 refine Nat.le_of_not_lt fun k=>?_
 rw [(EY k).1] at h
 exact absurd h (by show ¬ (2:Int)=0; decide)
theorem JO {s:List UInt8}{n pos:Nat}(h:(Cq s n (pos,0)).2≠0):s.length<pos+n:=by
 refine Nat.lt_of_not_le fun k=>?_
 rw [(BX k).1] at h
 exact h rfl
theorem N8 {s:List UInt8}{first:Bool}{last:List UInt8}{pos:Nat}(h:s.length<pos+2):GU s first last pos=none:=by
 unfold GU; rw [if_pos h]
theorem Ys {s:List UInt8}{first:Bool}{last:List UInt8}{pos:Nat}(h:last.length<Bv ((s.drop pos).take 1)):GU s first last pos=none:=by
 unfold GU
 split
 ·rfl
 ·rfl
theorem Vp {s:List UInt8}{first:Bool}{last:List UInt8}{pos k:Nat}(h:Bv ((s.drop (pos+1)).take 1)=k)(h2:s.length<pos+2+k):GU s first last pos=none:=by
 unfold GU
 rw [h]
 split
 ·rfl
 ·split
  ·rfl
  ·rfl
theorem KL {s:List UInt8}{first:Bool}{last path:List UInt8}{pos n k:Nat}(hn:Bv ((s.drop pos).take 1)=n)(h:Bv ((s.drop (pos+1)).take 1)=k)(hp:last.take n++(s.drop (pos+2)).take k=path)
  (h2:255<path.length∨LN last path≠n∨(first=false∧CK (str last) (str path)=false)):GU s first last pos=none:=by
 unfold GU
 rw [h,hn,hp]
 split
 ·rfl
 ·split
  ·rfl
  ·split
   ·rfl
   ·rfl
theorem J6 {s:List UInt8}{first:Bool}{last:List UInt8}{pos k:Nat}(h:Bv ((s.drop (pos+1)).take 1)=k)(h2:s.length<pos+2+k+4∨Bv ((s.drop (pos+2+k)).take 4)=0):GU s first last pos=none:=by
 unfold GU
 rw [h]
 split
 ·rfl
 ·split
  ·rfl
  ·split
   ·rfl
   ·split
    ·rfl
    ·split
     ·rfl
     ·rw [if_pos (h2.resolve_left (by assumption))]
theorem ON {s:List UInt8}{first:Bool}{last path:List UInt8}{pos n k:Nat}(hn:Bv ((s.drop pos).take 1)=n)(h:Bv ((s.drop (pos+1)).take 1)=k)(hp:last.take n++(s.drop (pos+2)).take k=path)
  (hN:n≤last.length) (h1:path.length≤255) (h2:LN last path=n) (h3:first=false→CK (str last) (str path)=true) (h4:pos+2+k+4≤s.length) (h5:Bv ((s.drop (pos+2+k)).take 4)≠0) :
  GU s first last pos=some ((path,Bv ((s.drop (pos+2+k)).take 4)),pos+2+k+4):=by
 unfold GU
 rw [h,hn,hp,if_neg Ax,if_neg Ax,if_neg Ax,if_neg,if_neg Ax,if_neg h5]
 rintro (q | q | ⟨q,q'⟩)
 ·omega
 ·exact q h2
 ·rw [h3 q] at q'; cases q'
theorem A1S{a b:ByteArray}(h:(CK a b||Bx a b)=true):CK b a=false:=by
 rcases Bool.or_eq_true_iff.1 h with h | h
 ·exact Mv h
 ·rw [Cl.1 h]; exact HB _
theorem A1T{a b:ByteArray}(h:(CK a b||Bx a b)=false):CK b a=true:=by
 obtain ⟨h1,h2⟩:=Bool.or_eq_false_iff.1 h
 rcases GG a b with k | k | k
 ·rw [k] at h1; cases h1
 ·rw [k,BZ] at h2; cases h2
 ·exact k
def A2g (s:List UInt8)(first:Bool)(last:List UInt8)(pos:Nat)(x:List UInt8×Nat)(e:Int)(r:RS):Prop :=
 (e=0∧r.2=0∧GU s first last pos=some (x,r.1))∨(e≠0∧GU s first last pos=none∧r.1≤s.length)
set_option maxHeartbeats 4000000 in
theorem SK (p:Nat)(s last:List UInt8)(first:Bool)(pos:Nat)(hs:s.length≤1073741824)(hpos:pos≤s.length)(hl:last.length≤255) :
  Spec prog 354 [.pointer (some ⟨p,0,none⟩),.bool first,.string (str last)] [EK p s (pos,0)] (fun v L=>∃ x e r,v=.tuple #[.agg #[.string (str x.1),.int .u32 (x.2:Nat)],.int .i64 e]∧L=[EK p s r]∧A2g s first last pos x e r):=by
 refine Spec.of 87 func354 rfl rfl rfl ?_
 refine A0 (Aw (AZ) (fun b6=>?_))
 refine As [0,1,2,6] rfl rfl (A0 (Ad rfl ?_))
 refine Aw (AA (G8 p s (pos,0) hs hpos) rfl rfl AC) ?_
 rintro v17 L1 ⟨rfl,rfl⟩
 refine Aj (Ad rfl (Ac (Ai rfl) (Ac (Ai rfl) (AX rfl (As [0,1,2,6,8,9] rfl rfl (Ae (A0 (Ad rfl (Ac (Bp rfl rfl) (Ad rfl ?_))))))))))
 refine B7 22 rfl (fun h22=>?_) (fun h22=>?_)
 ·have hA:pos+1≤s.length:=Gk (of_decide_eq_true h22)
  rw [(BX hA).1,(BX hA).2]
  have hn:=Kf (l:=(s.drop pos).take 1) (by rw [List.length_take]; exact Nat.min_le_left _ _)
  generalize hN:Bv ((s.drop pos).take 1)=n at *
  refine AQ rfl rfl (Ad rfl (AQ rfl rfl (Ac (Bw rfl Ax Ax) (AQ rfl rfl (Ad rfl (AQ rfl rfl (Ac (D0 rfl) (AQ rfl rfl (Ac (BA rfl rfl) (Ac (B4 rfl rfl) (AE [0,1,2,6,8,28] rfl ?_)))))))))))
  refine Ak rfl (fun h28=>?_) (fun h28=>?_)
  ·refine A0 (Ac (Bo (qs:=[]) rfl) (B5 (AU rfl rfl rfl rfl) (As [6,7] rfl rfl (Ar (AN ?_)))))
   have hB:last.length<n:=by have:=of_decide_eq_true h28; omega
   exact Aq [EK p s (pos+1,0)] (.cell rfl (Bn rfl) (.tmp rfl .nil)) ⟨([],0),3,_,rfl,rfl,.inr ⟨by decide,Ys (by rw [hN]; exact hB),hA⟩⟩ AC
  ·have hB:n≤last.length:=by have:=of_decide_eq_false h28; omega
   refine Am (Af (A0 (Ad rfl ?_)))
   refine Aw (AA (G8 p s (pos+1,0) hs hA) rfl rfl AC) ?_
   rintro v32 L1 ⟨rfl,rfl⟩
   have hk:=Kf (l:=Di s 1 (pos+1,0)) (ES _ _ _)
   have hr2:=HC (n:=1) (r:=(pos+1,0)) hA
   refine Aj (Ad rfl (Ac (Ai rfl) (Ac (Ai rfl) (AX rfl (As [0,1,2,6,8,10] rfl rfl (A0 (Ad rfl (Ad rfl ?_))))))))
   refine Ac (Bw rfl (by first | omega | decide) (by first | omega | decide)) ?_
   refine Aw (AA (Gj p s (Cq s 1 (pos+1,0)) (Bv (Di s 1 (pos+1,0))) hs hr2 Ax) rfl rfl AC) ?_
   rintro v39 L1 ⟨rfl,rfl⟩
   refine Aj (Ad rfl (Ac (Ai rfl) (Ac (Ai rfl) (AX rfl (As [0,1,2,6,8,9,12] rfl rfl (Ae (A0 (Ad rfl (Ac (Bm rfl rfl) (AE [0,1,2,6,8,9,12,43] rfl ?_))))))))))
   refine Ak rfl (fun h43=>?_) (fun h43=>?_)
   ·refine A0 (Ac (Bo (qs:=[]) rfl) (Ad rfl (B5 (AU rfl rfl rfl rfl) (As [6,7] rfl rfl (Ar (AN ?_))))))
    have h43':(Cq s (Bv (Di s 1 (pos+1,0))) (Cq s 1 (pos+1,0))).2≠0:=by simpa using h43
    refine Aq [EK p s _] (.cell rfl (Bn rfl) (.tmp rfl .nil)) ⟨([],0),_,_,rfl,rfl,.inr ⟨h43',?_,HC hr2⟩⟩ AC
    by_cases hC:s.length<pos+2
    ·exact N8 hC
    ·rw [(BX (s:=s) (n:=1) (pos:=pos+1) Ax).1,(BX (s:=s) (n:=1) (pos:=pos+1) Ax).2] at h43'
     exact Vp rfl (JO h43')
   ·have h43':(Cq s (Bv (Di s 1 (pos+1,0))) (Cq s 1 (pos+1,0))).2=0:=by simpa using h43
    have hC:pos+1+1≤s.length:=by
     refine Nat.le_of_not_lt fun k=>?_
     rw [(EY (s:=s) (n:=1) (pos:=pos+1) k).1,(E8 (s:=s) (r:=(pos+1,2)) (by show ¬ (2:Int)=0; decide)).1] at h43'
     exact absurd h43' (by show ¬ (2:Int)=0; decide)
    rw [(BX hC).1,(BX hC).2] at *
    have hD:=Gk h43'
    rw [(BX hD).1,(BX hD).2]
    generalize hK:Bv ((s.drop (pos+1)).take 1)=k at *
    generalize hP:last.take n++(s.drop (pos+1+1)).take k=path
    refine Am (Af (A0 (Ad rfl (Ad rfl (Ac (Ik n rfl rfl rfl hB) (Ad rfl ?_))))))
    refine Ac (Om rfl rfl (by rw [List.length_take,List.length_take]; omega)) ?_
    refine As [0,1,2,6,8,13] rfl rfl (Ae (Ae ?_))
    rw [hP]
    refine Al (Ad rfl (Ac (D0 rfl) (Ac (BA rfl rfl) (Ad rfl ?_))))
    refine B7 54 rfl (fun h54=>?_) (fun h54=>?_)
    ·have hF:255<path.length:=by have:=of_decide_eq_true h54; omega
     refine AI rfl rfl rfl (AI rfl rfl rfl (AI rfl rfl rfl (AI rfl rfl rfl (AI rfl rfl rfl (AI rfl rfl rfl (Ac (B4 rfl rfl) (Ad rfl ?_)))))))
     refine B7 62 rfl (fun h62=>?_) (fun h62=>by cases h62)
     refine AI rfl rfl rfl (AI rfl rfl rfl (AI rfl rfl rfl (AI rfl rfl rfl (AI rfl rfl rfl (AI rfl rfl rfl (AI rfl rfl rfl (Ac (B4 rfl rfl) (AE [0,6,13,70] rfl ?_))))))))
     refine Ak rfl (fun h70=>?_) (fun h70=>by cases h70)
     refine A0 (Ac (Bo (qs:=[]) rfl) (B5 (AU rfl rfl rfl rfl) (As [6,7] rfl rfl (Ar (AN ?_)))))
     exact Aq [EK p s _] (.cell rfl (Bn rfl) (.tmp rfl .nil)) ⟨([],0),3,_,rfl,rfl,.inr ⟨by decide,KL hN hK hP (.inl hF),hD⟩⟩ AC
    ·have hF:path.length≤255:=by have:=of_decide_eq_false h54; omega
     refine AQ rfl rfl (Ad rfl (AQ rfl rfl (Ad rfl (AQ rfl rfl ?_))))
     refine Aw (AA (N7 last path Ax Ax) rfl rfl AC) ?_
     rintro v57 L1 ⟨rfl,rfl⟩
     refine Aj (AQ rfl rfl (Ad rfl (AQ rfl rfl (Ac (Bw rfl Ax Ax) (AQ rfl rfl (Ac (Bm rfl rfl) (Ac (AT rfl rfl) (Ad rfl ?_))))))))
     refine B7 62 rfl (fun h62=>?_) (fun h62=>?_)
     ·have hG:LN last path≠n:=fun e=>by rw [e] at h62; simp at h62
      refine AI rfl rfl rfl (AI rfl rfl rfl (AI rfl rfl rfl (AI rfl rfl rfl (AI rfl rfl rfl (AI rfl rfl rfl (AI rfl rfl rfl (Ac (B4 rfl rfl) (AE [0,6,13,70] rfl ?_))))))))
      refine Ak rfl (fun h70=>?_) (fun h70=>by cases h70)
      refine A0 (Ac (Bo (qs:=[]) rfl) (B5 (AU rfl rfl rfl rfl) (As [6,7] rfl rfl (Ar (AN ?_)))))
      exact Aq [EK p s _] (.cell rfl (Bn rfl) (.tmp rfl .nil)) ⟨([],0),3,_,rfl,rfl,.inr ⟨by decide,KL hN hK hP (.inr (.inl hG)),hD⟩⟩ AC
     ·have hG:LN last path=n:=by
       have h62':((LN last path:Nat):Int)=(n:Nat):=by simpa using h62
       omega
      refine AQ rfl rfl (Ad rfl (AQ rfl rfl (Ac (BO rfl) (AQ rfl rfl (Ad rfl ?_)))))
      refine B7 65 rfl (fun h65=>?_) (fun h65=>?_)
      ·have hH:first=false:=by simpa using h65
       refine AQ rfl rfl (Ad rfl (AQ rfl rfl (Ad rfl (AQ rfl rfl (Ac (RZ rfl rfl) (AQ rfl rfl (Ac (B4 rfl rfl) (Ac (AT rfl rfl) (AE [0,6,13,70] rfl ?_)))))))))
       refine Ak rfl (fun h70=>?_) (fun h70=>?_)
       ·have hI:CK (str last) (str path)=false:=A1S h70
        refine A0 (Ac (Bo (qs:=[]) rfl) (B5 (AU rfl rfl rfl rfl) (As [6,7] rfl rfl (Ar (AN ?_)))))
        exact Aq [EK p s _] (.cell rfl (Bn rfl) (.tmp rfl .nil)) ⟨([],0),3,_,rfl,rfl,.inr ⟨by decide,KL hN hK hP (.inr (.inr ⟨hH,hI⟩)),hD⟩⟩ AC
       ·have hI:CK (str last) (str path)=true:=A1T h70
        have hJ:first=false→CK (str last) (str path)=true:=fun _=>hI
        refine Am (Af (A0 (Ad rfl ?_)))
        refine Aw (AA (E6 p s (pos+1+1+k,0) hs hD) rfl rfl AC) ?_
        rintro v74 L1 ⟨rfl,rfl⟩
        refine Aj (Ad rfl (Ac (Ai rfl) (Ac (Ai rfl) (AX rfl (As [6,9,13,14] rfl rfl (Ae (A0 (Ad rfl (Ac (Bp rfl rfl) (Ad rfl ?_))))))))))
        refine B7 79 rfl (fun h79=>?_) (fun h79=>?_)
        ·refine AQ rfl rfl (Ad rfl (AQ rfl rfl (Ac (Bp rfl rfl) (Ac (B4 rfl rfl) (AE [6,9,13,14,82] rfl ?_)))))
         refine Ak rfl (fun h82=>?_) (fun h82=>?_)
         ·refine Al (As [6,9,13,14] rfl rfl (A0 (Ad rfl (Ad rfl (Ac (Bo (qs:=[(0,_),(1,_)]) rfl) (Ad rfl (B5 (AU rfl rfl rfl rfl) (As [6,7] rfl rfl (Ar ?_)))))))))
          have hE:=Gk (of_decide_eq_true h79)
          rw [(BX hE).1,(BX hE).2] at *
          have h82':Bv ((s.drop (pos+1+1+k)).take 4)=0:=by have:=of_decide_eq_true h82; omega
          exact Aq [EK p s _] (.cell rfl (Bn rfl) (.tmp rfl .nil)) ⟨(path,_),3,_,rfl,rfl,.inr ⟨by decide,J6 hK (.inr h82'),hE⟩⟩ AC
         ·refine Am (Af (A0 (Ad rfl (Ad rfl (Ac (Bo (qs:=[(0,_),(1,_)]) rfl) (Ad rfl (B5 (AU rfl rfl rfl rfl) (As [6,7] rfl rfl (Ar ?_)))))))))
          have h79':=of_decide_eq_true h79
          have hE:=Gk h79'
          rw [(BX hE).1,(BX hE).2] at *
          have h82':Bv ((s.drop (pos+1+1+k)).take 4)≠0:=by have:=of_decide_eq_false h82; omega
          exact Aq [EK p s _] (.cell rfl (Bn rfl) (.tmp rfl .nil)) ⟨(path,Bv ((s.drop (pos+1+1+k)).take 4)),0,(pos+1+1+k+4,0),rfl,rfl,.inl ⟨rfl,rfl,ON hN hK hP hB hF hG hJ hE h82'⟩⟩ AC
        ·refine AI rfl rfl rfl (AI rfl rfl rfl (Ac (AT rfl rfl) (AE [6,9,13,14,82] rfl ?_)))
         refine Ak rfl (fun h82=>by cases h82) (fun h82=>?_)
         refine Am (Af (A0 (Ad rfl (Ad rfl (Ac (Bo (qs:=[(0,_),(1,_)]) rfl) (Ad rfl (B5 (AU rfl rfl rfl rfl) (As [6,7] rfl rfl (Ar ?_)))))))))
         have h79':=of_decide_eq_false h79
         exact Aq [EK p s _] (.cell rfl (Bn rfl) (.tmp rfl .nil)) ⟨(path,_),_,_,rfl,rfl,.inr ⟨h79',J6 hK (.inl (JO h79')),HC hD⟩⟩ AC
      ·have hH:first=true:=by simpa using h65
       have hJ:first=false→CK (str last) (str path)=true:=fun e=>by rw [hH] at e; cases e
       refine AI rfl rfl rfl (AI rfl rfl rfl (AI rfl rfl rfl (AQ rfl rfl (Ac (AT rfl rfl) (Ac (AT rfl rfl) (AE [0,6,13,70] rfl ?_))))))
       refine Ak rfl (fun h70=>by cases h70) (fun h70=>?_)
       refine Am (Af (A0 (Ad rfl ?_)))
       refine Aw (AA (E6 p s (pos+1+1+k,0) hs hD) rfl rfl AC) ?_
       rintro v74 L1 ⟨rfl,rfl⟩
       refine Aj (Ad rfl (Ac (Ai rfl) (Ac (Ai rfl) (AX rfl (As [6,9,13,14] rfl rfl (Ae (A0 (Ad rfl (Ac (Bp rfl rfl) (Ad rfl ?_))))))))))
       refine B7 79 rfl (fun h79=>?_) (fun h79=>?_)
       ·refine AQ rfl rfl (Ad rfl (AQ rfl rfl (Ac (Bp rfl rfl) (Ac (B4 rfl rfl) (AE [6,9,13,14,82] rfl ?_)))))
        refine Ak rfl (fun h82=>?_) (fun h82=>?_)
        ·refine Al (As [6,9,13,14] rfl rfl (A0 (Ad rfl (Ad rfl (Ac (Bo (qs:=[(0,_),(1,_)]) rfl) (Ad rfl (B5 (AU rfl rfl rfl rfl) (As [6,7] rfl rfl (Ar ?_)))))))))
         have hE:=Gk (of_decide_eq_true h79)
         rw [(BX hE).1,(BX hE).2] at *
         have h82':Bv ((s.drop (pos+1+1+k)).take 4)=0:=by have:=of_decide_eq_true h82; omega
         exact Aq [EK p s _] (.cell rfl (Bn rfl) (.tmp rfl .nil)) ⟨(path,_),3,_,rfl,rfl,.inr ⟨by decide,J6 hK (.inr h82'),hE⟩⟩ AC
        ·refine Am (Af (A0 (Ad rfl (Ad rfl (Ac (Bo (qs:=[(0,_),(1,_)]) rfl) (Ad rfl (B5 (AU rfl rfl rfl rfl) (As [6,7] rfl rfl (Ar ?_)))))))))
         have h79':=of_decide_eq_true h79
         have hE:=Gk h79'
         rw [(BX hE).1,(BX hE).2] at *
         have h82':Bv ((s.drop (pos+1+1+k)).take 4)≠0:=by have:=of_decide_eq_false h82; omega
         exact Aq [EK p s _] (.cell rfl (Bn rfl) (.tmp rfl .nil)) ⟨(path,Bv ((s.drop (pos+1+1+k)).take 4)),0,(pos+1+1+k+4,0),rfl,rfl,.inl ⟨rfl,rfl,ON hN hK hP hB hF hG hJ hE h82'⟩⟩ AC
       ·refine AI rfl rfl rfl (AI rfl rfl rfl (Ac (AT rfl rfl) (AE [6,9,13,14,82] rfl ?_)))
        refine Ak rfl (fun h82=>by cases h82) (fun h82=>?_)
        refine Am (Af (A0 (Ad rfl (Ad rfl (Ac (Bo (qs:=[(0,_),(1,_)]) rfl) (Ad rfl (B5 (AU rfl rfl rfl rfl) (As [6,7] rfl rfl (Ar ?_)))))))))
        have h79':=of_decide_eq_false h79
        exact Aq [EK p s _] (.cell rfl (Bn rfl) (.tmp rfl .nil)) ⟨(path,_),_,_,rfl,rfl,.inr ⟨h79',J6 hK (.inl (JO h79')),HC hD⟩⟩ AC
 ·have hZ:=JO (of_decide_eq_false h22)
  rw [(EY hZ).1,(EY hZ).2]
  have hr2:((pos,2):RS).2≠0:=by show ¬ (2:Int)=0; decide
  refine AI rfl rfl rfl (AI rfl rfl rfl (AI rfl rfl rfl (AI rfl rfl rfl (AI rfl rfl rfl (Ac (AT rfl rfl) (AE [0,1,2,6,8,28] rfl ?_))))))
  refine Ak rfl (fun h28=>by cases h28) (fun h28=>?_)
  refine Am (Af (A0 (Ad rfl ?_)))
  refine Aw (AA (G8 p s (pos,2) hs hpos) rfl rfl AC) ?_
  rintro v32 L1 ⟨rfl,rfl⟩
  rw [(E8 hr2).1,(E8 hr2).2]
  refine Aj (Ad rfl (Ac (Ai rfl) (Ac (Ai rfl) (AX rfl (As [0,1,2,6,8,10] rfl rfl (A0 (Ad rfl (Ad rfl ?_))))))))
  refine Ac (Bw rfl (by first | omega | decide) (by first | omega | decide)) ?_
  refine Aw (AA (Gj p s (pos,2) 0 hs hpos Ax) rfl rfl AC) ?_
  rintro v39 L1 ⟨rfl,rfl⟩
  rw [(E8 hr2).1,(E8 hr2).2]
  refine Aj (Ad rfl (Ac (Ai rfl) (Ac (Ai rfl) (AX rfl (As [0,1,2,6,8,9,12] rfl rfl (Ae (A0 (Ad rfl (Ac (Bm rfl rfl) (AE [0,1,2,6,8,9,12,43] rfl ?_))))))))))
  refine Ak rfl (fun h43=>?_) (fun h43=>by cases h43)
  refine A0 (Ac (Bo (qs:=[]) rfl) (Ad rfl (B5 (AU rfl rfl rfl rfl) (As [6,7] rfl rfl (Ar (AN ?_))))))
  exact Aq [EK p s (pos,2)] (.cell rfl (Bn rfl) (.tmp rfl .nil)) ⟨([],0),2,(pos,2),rfl,rfl,.inr ⟨by decide,N8 Ax,hpos⟩⟩ AC
def I4 (s:List UInt8)(k:Nat)(first:Bool)(last:List UInt8)(pos:Nat)(acc:List En):Option (List En) :=
 match Pz s k first last pos with
 | none=>none
 | some (l,q)=>if q=s.length then some (acc++l) else none
theorem SL {s:List UInt8}{first:Bool}{last:List UInt8}{pos:Nat}{acc:List En}:I4 s 0 first last pos acc=if pos=s.length then some acc else none:=by
 unfold I4 Pz
 simp only [List.append_nil]
theorem SM {s:List UInt8}{first:Bool}{last:List UInt8}{pos k:Nat}{acc:List En}(h:GU s first last pos=none):I4 s (k+1) first last pos acc=none:=by
 unfold I4 Pz
 rw [h]
theorem SN {s:List UInt8}{first:Bool}{last:List UInt8}{pos k:Nat}{acc:List En}{x:List UInt8×Nat}{q:Nat}(h:GU s first last pos=some (x,q)):I4 s (k+1) first last pos acc=I4 s k false x.1 q (acc++[MC x]):=by
 unfold I4
 rw [Pz,h]
 show (match (match Pz s k false x.1 q with | none=>none | some (l,q)=>some (MC x::l,q)) with | none=>none | some (l,q)=>if q=s.length then some (acc++l) else none)=_
 cases Pz s k false x.1 q with
 | none=>rfl
 | some lq =>
  obtain ⟨l,q'⟩:=lq
  show (if q'=s.length then some (acc++MC x::l) else none)=if q'=s.length then some (acc++[MC x]++l) else none
  rw [List.append_assoc]
  rfl
theorem Vq {s:List UInt8}{n:Nat}(h:2≤s.length)(hn:Bv (s.take 2)=n)(h2:n≤1024):FV s=I4 s n true [] 2 []:=by
 unfold FV I4
 rw [if_neg Ax,hn,if_neg Ax]
 cases Pz s n true [] 2 with
 | none=>rfl
 | some lq=>rfl
theorem SO {s:List UInt8}(h:s.length<2):FV s=none:=by unfold FV; rw [if_pos h]
theorem Vr {s:List UInt8}(h:1024<Bv (s.take 2)):FV s=none:=by
 unfold FV
 split
 ·rfl
 ·rfl
theorem J7 {s:List UInt8}{pos:Nat}(hp:pos≤s.length):(Hb s (pos,0)=0→pos=s.length)∧(Hb s (pos,0)≠0→pos≠s.length):=by
 unfold Hb
 rw [if_neg (fun k=>k rfl)]
 by_cases h:pos<s.length
 ·rw [if_pos h]; exact ⟨fun k=>(absurd k (by decide)),fun _=>by omega⟩
 ·rw [if_neg h]; exact ⟨fun _=>by omega,fun k=>absurd rfl k⟩
def DecT (s:List UInt8)(tv:Value)(e:Int)(L:List AF):Prop :=
 (e=0∧∃ t,FV s=some t∧L=[own 111 2 tv t.length (DC t)])∨(e≠0∧FV s=none∧tv=.slice none 0 0∧L=[])
structure DI where
 i:Nat
 r:RS
 last:List UInt8
 acc:List En
 v7:Value
 e:Int
set_option maxHeartbeats 4000000 in
theorem Vs (s:List UInt8)(hs:s.length≤1073741824):Spec prog 313 [.string (str s)] [] (fun v L=>∃ tv e,v=.tuple #[tv,.int .i64 e]∧DecT s tv e L):=by
 refine Spec.of 58 func313 rfl rfl rfl ?_
 refine A0 (AX rfl (As [0] rfl rfl (A0 (Ad rfl ?_))))
 refine Aw (AA (J3 s) rfl rfl AC) ?_
 rintro v12 L1 ⟨p,rfl,rfl⟩
 refine Aj (As [4] rfl rfl (A0 (Ad rfl ?_)))
 refine Aw (AA (N6 p s (0,0) hs (Nat.zero_le _)) rfl rfl AC) ?_
 rintro v15 L1 ⟨rfl,rfl⟩
 refine Aj (Ad rfl (Ac (Ai rfl) (Ac (Ai rfl) (AX rfl (As [4,5,6] rfl rfl ?_)))))
 refine Cb (fun env L=>∃ e:Int,Sub env [(4,.pointer (some ⟨p,0,none⟩)),(5,.int .u16 (Bv (Di s 2 (0,0)):Nat)),(6,.int .i64 e)]∧Ent L [EK p s (Cq s 2 (0,0))]∧((e=0∧2≤s.length∧Bv (s.take 2)≤1024)∨(e≠0∧FV s=none))) ?_ ?_
 ·refine A0 (Ad rfl (Ac (Bp rfl rfl) (Ad rfl ?_)))
  refine B7 20 rfl (fun h20=>?_) (fun h20=>?_)
  ·refine AQ rfl rfl (Ad rfl (AQ rfl rfl (Ac (BA rfl rfl) (Ac (B4 rfl rfl) (AE [4,5,6,23] rfl ?_)))))
   refine Ak rfl (fun h23=>?_) (fun h23=>?_)
   ·refine Al (AX rfl (Be [4,5,6] rfl (AH ?_)))
    have hA:0+2≤s.length:=Gk (of_decide_eq_true h20)
    have hv:Di s 2 (0,0)=s.take 2:=(BX hA).2
    have h23':1024<Bv (s.take 2):=by rw [hv] at h23; have:=of_decide_eq_true h23; omega
    exact Af ⟨3,⟨rfl,rfl,rfl,trivial⟩,Split.ent' AC,.inr ⟨by decide,Vr h23'⟩⟩
   ·refine Am ?_
    have hA:0+2≤s.length:=Gk (of_decide_eq_true h20)
    have hv:Di s 2 (0,0)=s.take 2:=(BX hA).2
    have h23':Bv (s.take 2)≤1024:=by rw [hv] at h23; have:=of_decide_eq_false h23; omega
    exact Af ⟨_,⟨rfl,rfl,rfl,trivial⟩,Split.ent' AC,.inl ⟨of_decide_eq_true h20,by omega,h23'⟩⟩
  ·refine AI rfl rfl rfl (AI rfl rfl rfl (Ac (AT rfl rfl) (AE [4,5,6,23] rfl ?_)))
   refine Ak rfl (fun h23=>by cases h23) (fun h23=>?_)
   refine Am ?_
   have h20':=of_decide_eq_false h20
   exact Af ⟨_,⟨rfl,rfl,rfl,trivial⟩,Split.ent' AC,.inr ⟨h20',SO (by have:=JO h20'; omega)⟩⟩
 rintro env L ⟨e,hsub,hE,hcase⟩
 refine B3 _ hsub (AP hE ?_)
 clear hsub hE env L
 obtain ⟨n,hn,hr,hcase'⟩:∃ n,Bv (Di s 2 (0,0))=n∧(Cq s 2 (0,0)).1≤s.length∧((e=0∧n≤1024∧(Cq s 2 (0,0)).2=0∧FV s=I4 s n true [] (Cq s 2 (0,0)).1 [])∨(e≠0∧FV s=none)):=by
  refine ⟨_,rfl,HC (Nat.zero_le _),?_⟩
  rcases hcase with ⟨h1,h2,h3⟩ | h
  ·have hA:0+2≤s.length:=by omega
   rw [(BX hA).1,(BX hA).2]
   exact .inl ⟨h1,h3,rfl,Vq h2 rfl h3⟩
  ·exact .inr h
 rw [hn]
 generalize Cq s 2 (0,0)=r0 at *
 have hn2:n<65536:=by rw [← hn]; exact QW (ES _ _ _)
 refine A0 (As [4,5,6,7] rfl rfl (A0 (As [4,5,6,7,8] rfl rfl (Ae (A0 (As [4,5,6,7,8,9] rfl rfl (Au (AP (own_nil_ent (e:=111) (n:=2)) ?_))))))))
 refine B0 (ι:=DI) (fun x env L=>Sub env [(4,.pointer (some ⟨p,0,none⟩)),(5,.int .u16 (n:Nat)),(6,.int .i64 x.e),(7,x.v7),(8,.string (str x.last)),(9,.int .i64 (x.i:Nat))]∧Ent L [own 111 2 x.v7 x.acc.length (DC x.acc),EK p s x.r] ∧
  x.last.length≤255∧x.r.1≤s.length∧x.i≤n∧x.acc.length≤x.i∧((x.e=0∧n≤1024∧x.r.2=0∧FV s=I4 s (n-x.i) (decide (x.i=0)) x.last x.r.1 x.acc)∨(x.e≠0∧FV s=none))) (fun x=>if x.e=0 then n+1-x.i else 0) ⟨0,r0,[],[],.slice none 0 0,e⟩ ⟨⟨rfl,rfl,rfl,rfl,rfl,rfl,trivial⟩,by show Ent _ [own 111 2 (.slice none 0 0) 0 [],EK p s r0]; exact Ent.refl _,Nat.zero_le _,hr,Nat.zero_le _,Nat.le_refl _,hcase'⟩ ?_
 clear hcase hcase' hr hn r0 e
 rintro ⟨i,r,last,acc,v7,e⟩ env L ⟨hsub,hE,hl,hr,hi,ha,hc⟩
 dsimp only at hsub hE hl hr hi ha hc
 refine B3 _ hsub (AP hE ?_)
 clear hsub hE env L
 dsimp only
 refine Ae (A0 (Ad rfl (Ac (Bp rfl rfl) (Ad rfl ?_))))
 refine B7 26 rfl (fun h26=>?_) (fun h26=>?_)
 ·obtain ⟨e0,hn1,hr0,hd⟩:e=0∧n≤1024∧r.2=0∧FV s=I4 s (n-i) (decide (i=0)) last r.1 acc:=hc.resolve_right fun k=>k.1 (of_decide_eq_true h26)
  obtain ⟨pos,re⟩:=r
  dsimp only at hr hr0 hd
  subst hr0 e0
  clear hc
  refine AQ rfl rfl (Ad rfl (AQ rfl rfl (Ad rfl (AQ rfl rfl (Ac (Bw rfl Ax Ax) (AQ rfl rfl (Ac (Bb rfl rfl) (Ac (B4 rfl rfl) (AE [4,5,6,7,8,9,31] rfl ?_)))))))))
  refine Ak rfl (fun h31=>?_) (fun h31=>?_)
  ·have hin:i<n:=by have:=of_decide_eq_true h31; omega
   rw [show n-i=(n-(i+1))+1 by omega] at hd
   have hf:decide (((i:Nat):Int)=0)=decide (i=0):=by
    by_cases k:i=0
    ·rw [decide_eq_true k,decide_eq_true Ax]
    ·rw [decide_eq_false k,decide_eq_false Ax]
   refine Am (Af (Ae (Au (A0 (Aw (AZ) (fun b10=>?_))))))
   refine AE [4,5,7,8,9,10] rfl (A0 (Ad rfl (Ad rfl (Ac (Bp rfl rfl) (Ad rfl ?_)))))
   refine Aw (AA (SK p s last (decide (((i:Nat):Int)=0)) pos hs hr hl) rfl rfl AC) ?_
   rintro v39 L1 ⟨x,e',r',rfl,rfl,hq⟩
   rw [hf] at hq
   refine Aj (Ad rfl (Ac (Ai rfl) (Ac (Ai rfl) (B5 (AU rfl rfl rfl rfl) (As [4,5,6,7,8,9,10] rfl rfl (A0 (Ad rfl (Ac (Bp rfl rfl) (AE [4,5,6,7,8,9,10,43] rfl ?_)))))))))
   refine Ak rfl (fun h43=>?_) (fun h43=>?_)
   ·have h43':e'=0:=of_decide_eq_true h43
    obtain ⟨hr2,hx⟩:r'.2=0∧GU s (decide (i=0)) last pos=some (x,r'.1):=by
     rcases hq with ⟨_,h2,h3⟩ | ⟨h1,_⟩
     ·exact ⟨h2,h3⟩
     ·exact absurd h43' h1
    rw [SN hx] at hd
    obtain ⟨q1,q2,q3,q4,q5⟩:=XO hx
    refine A0 (Ad rfl (AJ (BP rfl rfl) (Aw (Bg (qs:=[(0,_)]) rfl rfl rfl) (fun b46=>?_))))
    refine Aw (B9 (l:=acc.length) (m:=1) rfl rfl AC (by simp only [maxLen]; omega) Ax) ?_
    rintro v47 -
    skip
    refine As [4,5,6,7,9,10] rfl rfl (Al (Ac (Ab rfl) (AJ (Ag rfl rfl) (AX rfl (Be [4,5,6,7,8,9] rfl (AH (AR (Af (Al (Ad rfl (Ac (AO ((i+1:Nat):Int) rfl rfl Ax Ax Ax) (AX rfl (Be [4,5,6,7,8,9] rfl (AH ?_))))))))))))))
    refine Af ⟨⟨i+1,r',x.1,acc++[MC x],v47,e'⟩,⟨⟨rfl,rfl,rfl,rfl,rfl,rfl,trivial⟩,?_,q3,q1,hin,by show (acc++[MC x]).length≤i+1; rw [List.length_append,List.length_singleton]; omega,.inl ⟨h43',hn1,hr2,?_⟩⟩,?_⟩
    ·show Ent _ [own 111 2 v47 (acc++[MC x]).length (DC (acc++[MC x])),EK p s r']
     rw [List.length_append,List.length_singleton,show DC (acc++[MC x])=DC acc++[.string (str x.1),.int .u32 (x.2:Nat)] by simp [DC,MC]]
     exact Split.ent' AC
    ·rw [hd,decide_eq_false (by show ¬ i+1=0; omega)]
    ·show (if e'=0 then n+1-(i+1) else 0)<if (0:Int)=0 then n+1-i else 0
     rw [if_pos h43',if_pos rfl]
     omega
   ·have h43':e'≠0:=of_decide_eq_false h43
    obtain ⟨hx,hr2⟩:GU s (decide (i=0)) last pos=none∧r'.1≤s.length:=by
     rcases hq with ⟨h1,_⟩ | ⟨_,h2⟩
     ·exact absurd h1 h43'
     ·exact h2
    rw [SM hx] at hd
    refine Am (AR (Af (Al (Ad rfl (Ac (AO ((i+1:Nat):Int) rfl rfl Ax Ax Ax) (AX rfl (Be [4,5,6,7,8,9] rfl (AH ?_))))))))
    refine Af ⟨⟨i+1,r',last,acc,v7,e'⟩,⟨⟨rfl,rfl,rfl,rfl,rfl,rfl,trivial⟩,by show Ent _ [own 111 2 v7 acc.length (DC acc),EK p s r']; exact Split.ent' AC,hl,hr2,hin,by show acc.length≤i+1; omega,.inr ⟨h43',hd⟩⟩,?_⟩
    show (if e'=0 then n+1-(i+1) else 0)<if (0:Int)=0 then n+1-i else 0
    rw [if_neg h43',if_pos rfl]
    omega
  ·have hin:n≤i:=by have:=of_decide_eq_false h31; omega
   rw [show n-i=0 by omega,SL] at hd
   refine AY (AS (AS (AV rfl (Af (Ae (A0 (Ad rfl (Ac (Bp rfl rfl) (AE [4,6,7,51] rfl ?_)))))))))
   refine Ak rfl (fun h51=>?_) (fun h51=>by exact absurd rfl (of_decide_eq_false h51))
   refine Al (Ad rfl ?_)
   refine Aw (AA (JN p s (pos,0) hs hr) rfl rfl AC) ?_
   rintro v53 L1 ⟨rfl,rfl⟩
   refine Aj (As [6,7] rfl rfl (Ae (A0 (Ad rfl (Ac (Bm rfl rfl) (AE [6,7,55] rfl ?_))))))
   refine Ak rfl (fun h55=>?_) (fun h55=>?_)
   ·refine A0 (Ad rfl (AX rfl (As [2,3] rfl rfl (Ar (AN ?_)))))
    have h55':Hb s (pos,0)≠0:=by simpa using h55
    rw [if_neg ((J7 hr).2 h55')] at hd
    exact Aq [] (.tmp rfl (.tmp rfl .nil)) ⟨.slice none 0 0,_,rfl,.inr ⟨h55',hd,rfl,rfl⟩⟩ AC
   ·refine Am (Af (A0 (Ad rfl (AX rfl (As [2,3] rfl rfl (Ar ?_))))))
    have h55':Hb s (pos,0)=0:=by simpa using h55
    rw [if_pos ((J7 hr).1 h55')] at hd
    exact Aq [own 111 2 v7 acc.length (DC acc)] (.tmp rfl (.tmp rfl .nil)) ⟨v7,0,rfl,.inl ⟨rfl,acc,hd,rfl⟩⟩ AC
 ·have h26':e≠0:=of_decide_eq_false h26
  have hd:FV s=none:=by
   rcases hc with ⟨h,_⟩ | ⟨_,h⟩
   ·exact absurd h h26'
   ·exact h
  refine AI rfl rfl rfl (AI rfl rfl rfl (AI rfl rfl rfl (AI rfl rfl rfl (Ac (AT rfl rfl) (AE [4,5,6,7,8,9,31] rfl ?_)))))
  refine Ak rfl (fun h31=>by cases h31) (fun h31=>?_)
  refine AY (AS (AS (AV rfl (Af (Ae (A0 (Ad rfl (Ac (Bp rfl rfl) (AE [4,6,7,51] rfl ?_)))))))))
  refine Ak rfl (fun h51=>by exact absurd (of_decide_eq_true h51) h26') (fun h51=>?_)
  refine Am (Af (Ae (A0 (Ad rfl (Ac (Bm rfl rfl) (AE [6,7,55] rfl ?_))))))
  refine Ak rfl (fun h55=>?_) (fun h55=>by exact absurd h55 (by simpa using h26'))
  refine A0 (Ad rfl (AX rfl (As [2,3] rfl rfl (Ar (AN ?_)))))
  exact Aq [] (.tmp rfl (.tmp rfl .nil)) ⟨.slice none 0 0,_,rfl,.inr ⟨h26',hd,rfl,rfl⟩⟩ AC

theorem U8 (n:Int):Spec prog 248 [.int .i64 n] [] (fun r L=>r=.bool (Sl n)∧L=[]):=by
 refine Spec.of 9 func248 rfl rfl rfl ?_
 refine A0 (As [0] rfl rfl (A0 (Ad rfl (Ac (Ff rfl rfl) (Ad rfl ?_)))))
 refine B7 5 rfl (fun h5=>?_) (fun h5=>?_)
 ·refine AQ rfl rfl (Ad rfl (AQ rfl rfl (Ac (Bb rfl rfl) (Ac (B4 rfl rfl) (As [2] rfl rfl (Ar ?_))))))
  refine Aq [] (.tmp rfl .nil) ⟨?_,rfl⟩ AC
  unfold Sl; rw [h5]; rfl
 ·refine AI rfl rfl rfl (AI rfl rfl rfl (Ac (AT rfl rfl) (As [2] rfl rfl (Ar ?_))))
  refine Aq [] (.tmp rfl .nil) ⟨?_,rfl⟩ AC
  unfold Sl; rw [h5]; rfl
theorem HN {μ:PH}{v:Value}{xs:List Int}(h:Row μ v 1 xs.length (xs.flatMap (Bj .i64))){i:Nat}{p:Int}(hi:xs[i]? = some p):∃ b off cap,v=.slice (some ⟨b,off,none⟩) xs.length cap∧CellAt μ b (off+i*1) (.int .i64 p):=by
 have hl:=(List.getElem?_eq_some_iff.1 hi).1
 obtain ⟨b,off,cap,hv,_,_,hr⟩:=h.pos Ax
 exact ⟨b,off,cap,hv,(hr.elem (ET .i64) hi).cell⟩
theorem Vt (μ:PH)(v:Value)(xs:List Int)(x:Int)(h:Row μ v 1 xs.length (xs.flatMap (Bj .i64))):Spec prog 317 [v,.int .i64 x] [ro μ] (fun r L=>(∃ k:Int,r=.int .i64 k∧decide (0≤k)=xs.contains x)∧L=[ro μ]):=by
 have hsm:=h.small
 refine Spec.of 19 func317 rfl rfl rfl ?_
 refine A0 (As [0,1] rfl rfl (Ae (A0 (Ad rfl (Ac (B2 h rfl) (Ad rfl (AE [0,1,7,8] rfl (Au ?_))))))))
 refine B0 (ι:=Nat) (fun i env L=>Sub env [(0,v),(1,.int .i64 x),(7,.int .i64 (xs.length:Nat)),(8,.int .i64 (i:Nat))]∧L=[ro μ]∧i≤xs.length∧x∉xs.take i) (fun i=>xs.length-i) 0 ⟨⟨rfl,rfl,rfl,rfl,trivial⟩,rfl,Nat.zero_le _,by simp⟩ ?_
 rintro i env L ⟨hsub,rfl,hi,hno⟩
 refine B3 _ hsub ?_
 clear hsub env
 refine A0 (Ac (Bb rfl rfl) (AE [0,1,7,8,9] rfl (Ae ?_)))
 refine Ak rfl (fun h9=>?_) (fun h9=>?_)
 ·have h9':i<xs.length:=by have:=of_decide_eq_true h9; omega
  obtain ⟨p,hp⟩:∃ p,xs[i]? = some p:=⟨_,List.getElem?_eq_getElem h9'⟩
  obtain ⟨b,off,cap,hv,hc⟩:=HN h hp
  refine Am (Af (Ae (Au (A0 (Ad rfl (As [0,1,5,7,8] rfl rfl (A0 (Ad rfl (Ad rfl (Ad rfl ?_))))))))))
  refine Ac (AB (off+i*1) (congrArg some hv) rfl Ax Ax (by rw [Int.toNat_natCast])) ?_
  refine AJ (C3 rfl hc) (Ac (Bp rfl rfl) (AE [0,1,5,7,8,16] rfl ?_))
  refine Ak rfl (fun h16=>?_) (fun h16=>?_)
  ·refine A0 (Ad rfl (As [4] rfl rfl (Ar (B6 (AN (AN (B6 (AN ?_))))))))
   have hx:x=p:=of_decide_eq_true h16
   refine Aq [ro μ] (.tmp rfl .nil) ⟨⟨_,rfl,?_⟩,rfl⟩ AC
   rw [decide_eq_true Ax]
   symm
   rw [List.contains_iff_mem,hx]
   exact List.mem_of_getElem? hp
  ·refine Am (AR (Af (Al (Ac (AO ((i+1:Nat):Int) rfl rfl Ax Ax Ax) (Ad rfl (Be [0,1,7,8] rfl (AH ?_)))))))
   refine Af ⟨i+1,⟨⟨rfl,rfl,rfl,rfl,trivial⟩,rfl,h9',?_⟩,by omega⟩
   rw [List.take_add_one,hp]
   intro hm
   rcases List.mem_append.1 hm with hm | hm
   ·exact hno hm
   ·have:x=p:=by simpa using hm
    exact of_decide_eq_false h16 this
 ·have h9':=of_decide_eq_false h9
  obtain rfl:i=xs.length:=by omega
  rw [List.take_length] at hno
  refine AY (AS (AS (AV rfl (Af (A0 (As [4] rfl rfl (Ar ?_)))))))
  refine Aq [ro μ] (.tmp rfl .nil) ⟨⟨-1,rfl,?_⟩,rfl⟩ AC
  rw [decide_eq_false Ax]
  symm
  rw [← Bool.not_eq_true,List.contains_iff_mem]
  exact hno
theorem R1 (μ:PH)(v:Value)(xs:List Int)(x:Int)(h:Row μ v 1 xs.length (xs.flatMap (Bj .i64))):Spec prog 249 [v,.int .i64 x] [ro μ] (fun r L=>r=.bool (xs.contains x)∧L=[ro μ]):=by
 refine Spec.of 9 func249 rfl rfl rfl ?_
 refine A0 (As [0,1] rfl rfl (A0 (Ad rfl (Ad rfl ?_))))
 refine Aw (AA (Vt μ v xs x h) rfl rfl AC) ?_
 rintro v7 L1 ⟨⟨k,rfl,hk⟩,rfl⟩
 refine Aj (Ac (CA rfl rfl) (As [4] rfl rfl (Ar ?_)))
 exact Aq [ro μ] (.tmp rfl .nil) ⟨by rw [← hk]; rfl,rfl⟩ AC
abbrev cmV (pv:Value)(t:Int):Value:=.agg #[pv,.int .i64 t]
theorem R2 {c:Cm}(h:16<c.1.length):CR c=5:=by unfold CR; rw [if_pos h]
theorem SP {c:Cm}(h:¬ 16<c.1.length)(h2:Sl c.2=false):CR c=1:=by unfold CR; rw [if_neg h,if_pos h2]
theorem Vu {c:Cm}(h:¬ 16<c.1.length)(h2:Sl c.2=true):CR c=HG (MI c.1) c.1.length:=by unfold CR; rw [if_neg h,if_neg (by rw [h2]; decide)]
set_option maxHeartbeats 2000000 in
theorem OO (μ:PH)(pv:Value)(c:Cm)(h:Row μ pv 1 c.1.length (c.1.flatMap (Bj .i64))):Spec prog 158 [cmV pv c.2] [ro μ] (fun r L=>r=.int .i64 (CR c)∧L=[ro μ]):=by
 have hsm:=h.small
 refine Spec.of 35 func158 rfl rfl rfl ?_
 refine A0 (Aw (Bi rfl rfl) (fun b1=>?_))
 refine As [1] rfl rfl (Ae (Au (A0 (Ac (Ab rfl) (AJ (Ag rfl rfl) (Ac (B2 h rfl) (Ac (BA rfl rfl) (As [1,5] rfl rfl ?_))))))))
 refine Ak rfl (fun h5=>?_) (fun h5=>?_)
 ·refine A0 (As [2] rfl rfl (Ar (B6 (AN ?_))))
  have h5':16<c.1.length:=by have:=of_decide_eq_true h5; omega
  rw [R2 h5']
  exact Aq [ro μ] (.tmp rfl .nil) ⟨rfl,rfl⟩ AC
 ·have h5':¬ 16<c.1.length:=by have:=of_decide_eq_false h5; omega
  refine A0 (Ac (Ab rfl) (AJ (Ag rfl rfl) ?_))
  refine Aw (AA (U8 c.2) rfl rfl AC) ?_
  rintro v13 L1 ⟨rfl,rfl⟩
  refine Aj (Ac (BO rfl) (As [1,10] rfl rfl ?_))
  refine Ak rfl (fun h10=>?_) (fun h10=>?_)
  ·refine A0 (As [2] rfl rfl (Ar (B6 (AN ?_))))
   have h10':Sl c.2=false:=by simpa using h10
   rw [SP h5' h10']
   exact Aq [ro μ] (.tmp rfl .nil) ⟨rfl,rfl⟩ AC
  ·have h10':Sl c.2=true:=by simpa using h10
   rw [Vu h5' h10']
   refine Am (AR (Af (Ae (A0 (Ac (Ab rfl) (AJ (Ag rfl rfl) (Ac (B2 h rfl) (Ad rfl (AE [1,16,17,18] rfl (Au ?_))))))))))
   refine B0 (ι:=Nat) (fun i env L=>Sub env [(1,.pointer (some ⟨b1,0,none⟩)),(16,pv),(17,.int .i64 (c.1.length:Nat)),(18,.int .i64 (i:Nat))]∧Ent L [B1 b1 88 [pv,.int .i64 c.2],ro μ]∧i≤c.1.length∧∀ j<i,MI c.1 j=0) (fun i=>c.1.length-i) 0 ⟨⟨rfl,rfl,rfl,rfl,trivial⟩,Split.ent' AC,Nat.zero_le _,fun j hj=>by omega⟩ ?_
   rintro i env L ⟨hsub,hE,hi,hw⟩
   refine B3 _ hsub (AP hE ?_)
   clear hsub hE env L
   refine A0 (Ac (Bb rfl rfl) (AE [1,16,17,18,19] rfl (Ae ?_)))
   refine Ak rfl (fun h19=>?_) (fun h19=>?_)
   ·have h19':i<c.1.length:=by have:=of_decide_eq_true h19; omega
    obtain ⟨p,hp⟩:∃ p,c.1[i]? = some p:=⟨_,List.getElem?_eq_getElem h19'⟩
    obtain ⟨gb,off,cap,hv,hc⟩:=HN h hp
    have hwe:=Kz hp
    obtain ⟨vhi,hhi1,hhi2⟩:=Row.hi (P:=prog) (t:=60) h i hi
    have hhi3:Row μ vhi 1 (c.1.take i).length ((c.1.take i).flatMap (Bj .i64)):=by
     rw [List.length_take,Nat.min_eq_left hi]
     have e:(c.1.flatMap (Bj .i64)).take (i*1)=(c.1.take i).flatMap (Bj .i64):=by
      rw [QN,QN,Nat.mul_one,List.map_take]
     rw [← e]; exact hhi1
    refine Am (Af (Ae (Au (A0 (Ad rfl ?_)))))
    refine Ac (AB (off+i*1) (congrArg some hv) rfl Ax Ax (by rw [Int.toNat_natCast])) ?_
    refine AJ (C3 rfl hc) (AX rfl (As [1,3,4,16,17,18] rfl rfl (Au (A0 (Ad rfl ?_)))))
    refine Aw (AA (U8 p) rfl rfl AC) ?_
    rintro v25 L1 ⟨rfl,rfl⟩
    refine Aj (Ac (BO rfl) (As [1,3,4,16,17,18,23] rfl rfl ?_))
    refine Ak rfl (fun h23=>?_) (fun h23=>?_)
    ·refine A0 (As [2] rfl rfl (Ar (B6 (B6 (AN (AN (B6 (AN ?_))))))))
     have h23':Sl p=false:=by simpa using h23
     rw [if_pos h23'] at hwe
     rw [JC h19' hw (by rw [hwe]; decide),hwe]
     exact Aq [ro μ] (.tmp rfl .nil) ⟨rfl,rfl⟩ AC
    ·have h23':¬ Sl p=false:=by rw [Bool.not_eq_false']at h23; rw [h23]; decide
     rw [if_neg h23'] at hwe
     refine A0 (Ac (Ab rfl) (AJ (Ag rfl rfl) (Ad rfl (Ac (hhi2 _ _ _ _ _ rfl rfl rfl) (Ad rfl ?_)))))
     refine Aw (AA (R1 μ vhi (c.1.take i) p hhi3) rfl rfl AC) ?_
     rintro v33 L1 ⟨rfl,rfl⟩
     refine Aj (As [1,16,17,18,27] rfl rfl ?_)
     refine Ak rfl (fun h27=>?_) (fun h27=>?_)
     ·refine A0 (As [2] rfl rfl (Ar (B6 (B6 (AN (AN (B6 (AN ?_))))))))
      rw [if_pos h27] at hwe
      rw [JC h19' hw (by rw [hwe]; decide),hwe]
      exact Aq [ro μ] (.tmp rfl .nil) ⟨rfl,rfl⟩ AC
     ·refine Am (AR (AR (Af (Al (Ac (AO ((i+1:Nat):Int) rfl rfl Ax Ax Ax) (Ad rfl (Be [1,16,17,18] rfl (AH ?_))))))))
      rw [if_neg (by rw [h27]; decide)] at hwe
      refine Af ⟨i+1,⟨⟨rfl,rfl,rfl,rfl,trivial⟩,Split.ent' AC,h19',fun j hj=>?_⟩,by omega⟩
      by_cases e1:j=i
      ·subst e1; exact hwe
      ·exact hw j Ax
   ·have h19':=of_decide_eq_false h19
    refine AY (AS (AS (AV rfl (Af (A0 (As [2] rfl rfl (Ar ?_)))))))
    rw [MH fun j hj=>hw j Ax]
    exact Aq [ro μ] (.tmp rfl .nil) ⟨rfl,rfl⟩ AC
set_option maxHeartbeats 4000000 in
theorem Vv (μ:PH)(pv:Value)(c:Cm)(h:Row μ pv 1 c.1.length (c.1.flatMap (Bj .i64))):Spec prog 89 [cmV pv c.2] [ro μ] (fun r L=>r=.tuple #[.string (str (QO c)),.int .i64 (CR c)]∧L=[ro μ]):=by
 have hsm:=h.small
 refine Spec.of 39 func89 rfl rfl rfl ?_
 refine A0 (Aw (Bi rfl rfl) (fun b1=>?_))
 refine AX rfl (As [1] rfl rfl (Ae (A0 (AJ (BP rfl rfl) ?_))))
 refine Aw (AA (OO μ pv c h) rfl rfl AC) ?_
 rintro v9 L1 ⟨rfl,rfl⟩
 refine Aj (As [1,4] rfl rfl (A0 (Ad rfl (Ac (Bm rfl rfl) (AE [1,4,11] rfl ?_)))))
 refine Ak rfl (fun h11=>?_) (fun h11=>?_)
 ·refine A0 (Ad rfl (AX rfl (As [2,3] rfl rfl (Ar (AN ?_)))))
  have h11':CR c≠0:=by simpa using h11
  have e2:QO c=[]:=by unfold QO; rw [if_neg h11']
  rw [e2]
  exact Aq [ro μ] (.tmp rfl (.tmp rfl .nil)) ⟨rfl,rfl⟩ AC
 ·have h11':CR c=0:=by simpa using h11
  have e2:QO c=De c:=by unfold QO; rw [if_pos h11']
  rw [e2,h11']
  obtain ⟨k1,k2,k3⟩:=KA h11'
  obtain ⟨tq,htq⟩:∃ q:Nat,c.2=(q:Int):=⟨c.2.toNat,by omega⟩
  refine Am (Af (A0 ?_))
  refine Aw (AA Dy rfl rfl AC) ?_
  rintro v13 L1 ⟨p,rfl,rfl⟩
  refine Aj (As [1,5] rfl rfl (A0 (Ad rfl (Ac (Ab rfl) ?_))))
  refine AJ (Ag rfl (show _=some (Value.int .i64 (tq:Nat)) by rw [← htq]; rfl)) ?_
  refine Ac (C6 rfl (Ft Ax)) ?_
  refine Aw (AA (Ch p tq [] Ax (by decide)) rfl rfl AC) ?_
  rintro v18 L1 ⟨rfl,rfl⟩
  rw [List.nil_append]
  refine Aj (AE [1,5] rfl (A0 (Ad rfl (Ac (Ab rfl) (AJ (Ag rfl rfl) (Ac (B2 h rfl) (Ac (C6 rfl (E5 Ax)) ?_)))))))
  refine Aw (AA (EV p c.1.length (Bf 4 tq) Ax (by rw [Br]; decide)) rfl rfl AC) ?_
  rintro v24 L1 ⟨rfl,rfl⟩
  refine Aj (AE [1,5] rfl (Ae (A0 (Ac (Ab rfl) (AJ (Ag rfl rfl) (Ac (B2 h rfl) (Ad rfl (AE [5,26,27,28] rfl (Au ?_)))))))))
  refine B0 (ι:=Nat) (fun i env L=>Sub env [(5,.pointer (some ⟨p,0,none⟩)),(26,pv),(27,.int .i64 (c.1.length:Nat)),(28,.int .i64 (i:Nat))]∧Ent L [EL p (Bf 4 tq++Bf 1 c.1.length++Js (c.1.take i)),ro μ]∧i≤c.1.length) (fun i=>c.1.length-i) 0 ⟨⟨rfl,rfl,rfl,rfl,trivial⟩,by show Ent _ [EL p (Bf 4 tq++Bf 1 c.1.length++[]),ro μ]; rw [List.append_nil]; exact Split.ent' AC,Nat.zero_le _⟩ ?_
  rintro i env L ⟨hsub,hE,hi⟩
  refine B3 _ hsub (AP hE ?_)
  clear hsub hE env L
  refine A0 (Ac (Bb rfl rfl) (AE [5,26,27,28,29] rfl (Ae ?_)))
  refine Ak rfl (fun h29=>?_) (fun h29=>?_)
  ·have h29':i<c.1.length:=by have:=of_decide_eq_true h29; omega
   obtain ⟨x,hx⟩:∃ x,c.1[i]? = some x:=⟨_,List.getElem?_eq_getElem h29'⟩
   obtain ⟨gb,off,cap,hv,hc⟩:=HN h hx
   have hxb:=k3 x (List.mem_of_getElem? hx)
   obtain ⟨q,hq⟩:∃ q:Nat,x=(q:Int):=⟨x.toNat,by omega⟩
   have hsucc:=Sm hx
   rw [hq] at hc hsucc
   have hq2:q<4294967296:=by omega
   have hpl:=KB (c.1.take i)
   rw [List.length_take,Nat.min_eq_left hi] at hpl
   generalize hbsd:Bf 4 tq++Bf 1 c.1.length++Js (c.1.take i)=bs
   have hbs:bs.length≤300000:=by rw [← hbsd]; simp only [List.length_append,Br,hpl]; omega
   refine Am (Af (Ae (Au (A0 ?_))))
   refine Ac (AB (off+i*1) (congrArg some hv) rfl Ax Ax (by rw [Int.toNat_natCast])) ?_
   refine AJ (C3 rfl hc) (As [5,7,26,27,28] rfl rfl (Al (Ad rfl (Ad rfl (Ac (C6 rfl (Ft hq2)) ?_)))))
   refine Aw (AA (Ch p q bs hq2 Ax) rfl rfl AC) ?_
   rintro v35 L1 ⟨rfl,rfl⟩
   refine Aj (Be [5,26,27,28] rfl (AH (AR (Af (Al (Ac (AO ((i+1:Nat):Int) rfl rfl Ax Ax Ax) (Ad rfl (Be [5,26,27,28] rfl (AH ?_)))))))))
   refine Af ⟨i+1,⟨⟨rfl,rfl,rfl,rfl,trivial⟩,?_,h29'⟩,by omega⟩
   rw [hsucc,← List.append_assoc,hbsd,show (q:Int).toNat=q from rfl]
   exact Split.ent' AC
  ·have h29':=of_decide_eq_false h29
   obtain rfl:i=c.1.length:=by omega
   rw [List.take_length]
   have e3:De c=Bf 4 tq++Bf 1 c.1.length++Js c.1:=by unfold De; rw [htq]; rfl
   rw [e3]
   refine AY (AS (AS (AV rfl (Af (A0 (Ad rfl ?_))))))
   refine Aw (AA (E7 p (Bf 4 tq++Bf 1 c.1.length++Js c.1) (fun e=>by have:=congrArg List.length e; simp only [List.length_append,Br,List.length_nil] at this; omega)) rfl rfl AC) ?_
   rintro v38 L1 ⟨rfl,rfl⟩
   refine Aj (AX rfl (As [2,3] rfl rfl (Ar ?_)))
   exact Aq [ro μ] (.tmp rfl (.tmp rfl .nil)) ⟨rfl,rfl⟩ AC
theorem KM {P:Program}{env:CQ}{t u:TypeId}{x y:Operand}{a b:Int}(c:Nat)(hx:AM env x=some (.int .u8 a))(hy:AM env y=some (.int .u8 b))(hc:a+b=(c:Int))(h2:c<256):Pu P env (.binOp .add t x y u) (.int .u8 (c:Nat)):=by
 have:=Mg (P:=P) (t:=t) (u:=u) hx hy
 rw [hc,E5 h2] at this
 exact this
def DecC (s:List UInt8)(μ:PH)(cv:Value)(e:Int):Prop :=
 (e=0∧∃ c pv,HH s=some c∧cv=cmV pv c.2∧Row μ pv 1 c.1.length (c.1.flatMap (Bj .i64)))∨(e≠0∧HH s=none∧cv=cmV (.slice none 0 0) 0)
structure CI where
 i:Nat
 r:RS
 acc:List Int
 v:Value
def CIn (s:List UInt8)(n i:Nat)(r:RS)(acc:List Int):Prop :=
 (r=(5+4*i,0)∧5+4*i≤s.length∧acc=Gh s i 5)∨(r.2≠0∧r.1≤s.length∧s.length≠5+4*n)
theorem CIn.step{s:List UInt8}{n i:Nat}{r:RS}{acc:List Int}(h:CIn s n i r acc)(hi:i<n):CIn s n (i+1) (Cq s 4 r) (acc++[((Bv (Di s 4 r):Nat):Int)]):=by
 rcases h with ⟨h1,h2,h3⟩ | ⟨h1,h2,h3⟩
 ·subst h1
  by_cases hk:5+4*i+4≤s.length
  ·rw [(BX hk).1,(BX hk).2]
   exact .inl ⟨by rw [show 5+4*i+4=5+4*(i+1) by omega],by omega,by rw [Ll,h3]⟩
  ·rw [(EY Ax).1]
   exact .inr ⟨by show ¬ (2:Int)=0; decide,h2,by omega⟩
 ·rw [(E8 h1).1]
  exact .inr ⟨h1,h2,h3⟩
theorem CIn.le{s:List UInt8}{n i:Nat}{r:RS}{acc:List Int}(h:CIn s n i r acc):r.1≤s.length:=by
 rcases h with ⟨h1,h2,_⟩ | ⟨_,h2,_⟩
 ·subst h1; exact h2
 ·exact h2
theorem N9 {s:List UInt8}(h:s.length<5):HH s=none:=by unfold HH; rw [if_pos h]
theorem Vw {s:List UInt8}(h:16<Bv ((s.drop 4).take 1)):HH s=none:=by
 unfold HH
 split
 ·rfl
 ·rfl
theorem Yt {s:List UInt8}{n:Nat}(hn:Bv ((s.drop 4).take 1)=n)(h:s.length≠5+4*n):HH s=none:=by
 unfold HH
 rw [hn]
 split
 ·rfl
 ·split
  ·rfl
  ·rfl
theorem Yu {s:List UInt8}{n:Nat}(hn:Bv ((s.drop 4).take 1)=n)(h:s.length=5+4*n)(hN:n≤16):HH s=if CR (Gh s n 5,((Bv (s.take 4):Nat):Int))≠0 then none else some (Gh s n 5,((Bv (s.take 4):Nat):Int)):=by
 unfold HH
 rw [hn,if_neg Ax,if_neg Ax,if_neg (fun k=>k h)]
theorem CIn.ends{s:List UInt8}{n:Nat}{r:RS}{acc:List Int}(h:CIn s n n r acc):(Hb s r=0→s.length=5+4*n∧acc=Gh s n 5)∧(Hb s r≠0→s.length≠5+4*n):=by
 rcases h with ⟨h1,h2,h3⟩ | ⟨h1,h2,h3⟩
 ·subst h1
  exact ⟨fun k=>⟨((J7 h2).1 k).symm,h3⟩,fun k=>fun e=>(J7 h2).2 k e.symm⟩
 ·have:Hb s r=r.2:=by unfold Hb; rw [if_pos h1]
  rw [this]
  exact ⟨fun k=>absurd k h1,fun _=>h3⟩
theorem A0P(s:List UInt8):(s.length<5∧(Cq s 1 (Cq s 4 (0,0))).2≠0∧(Cq s 1 (Cq s 4 (0,0))).1≤s.length∧Bv (Di s 1 (Cq s 4 (0,0)))=0) ∨
  (5≤s.length∧Cq s 1 (Cq s 4 (0,0))=(5,0)∧Di s 4 (0,0)=s.take 4∧Di s 1 (Cq s 4 (0,0))=(s.drop 4).take 1):=by
 by_cases h4:0+4≤s.length
 ·rw [(BX h4).1,(BX h4).2]
  by_cases h5:0+4+1≤s.length
  ·rw [(BX h5).1,(BX h5).2]
   exact .inr ⟨by omega,rfl,rfl,rfl⟩
  ·rw [(EY Ax).1,(EY Ax).2]
   exact .inl ⟨by omega,by show ¬ (2:Int)=0; decide,h4,rfl⟩
 ·rw [(EY Ax).1]
  have hr2:((0,2):RS).2≠0:=by show ¬ (2:Int)=0; decide
  rw [(E8 hr2).1,(E8 hr2).2]
  exact .inl ⟨by omega,hr2,Nat.zero_le _,rfl⟩
theorem R3 {s:List UInt8}(h:(Cq s 1 (Cq s 4 (0,0))).2≠0∨Bv (Di s 1 (Cq s 4 (0,0)))≤16):Bv (Di s 1 (Cq s 4 (0,0)))≤16∧CIn s (Bv (Di s 1 (Cq s 4 (0,0)))) 0 (Cq s 1 (Cq s 4 (0,0))) [] ∧
  (5≤s.length→Bv ((s.drop 4).take 1)=Bv (Di s 1 (Cq s 4 (0,0)))∧Bv (s.take 4)=Bv (Di s 4 (0,0)))∧(s.length<5→Bv (Di s 1 (Cq s 4 (0,0)))=0):=by
 rcases A0P s with ⟨h1,h2,h3,h4⟩ | ⟨h1,h2,h3,h4⟩
 ·rw [h4]
  exact ⟨Nat.zero_le _,.inr ⟨h2,h3,by omega⟩,fun k=>absurd h1 Ax,fun _=>rfl⟩
 ·rw [h2,h4] at h
  rw [h2,h4,h3]
  refine ⟨?_,.inl ⟨rfl,h1,rfl⟩,fun _=>⟨rfl,rfl⟩,fun k=>absurd h1 Ax⟩
  rcases h with h | h
  ·exact absurd rfl h
  ·exact h
set_option maxHeartbeats 4000000 in
theorem Vx (μ:PH)(s:List UInt8)(hs:s.length≤1073741824):Spec prog 314 [.string (str s)] [ro μ] (fun v L=>∃ cv e μ',v=.tuple #[cv,.int .i64 e]∧L=[ro μ']∧Le μ μ'∧DecC s μ' cv e):=by
 have hh:=A0P s
 have hr1:=HC (s:=s) (n:=4) (r:=(0,0)) (Nat.zero_le _)
 refine Spec.of 62 func314 rfl rfl rfl ?_
 refine A0 (Aw (AZ) (fun b2=>?_))
 refine As [0,2] rfl rfl (A0 (Ad rfl ?_))
 refine Aw (AA (J3 s) rfl rfl AC) ?_
 rintro v14 L1 ⟨p,rfl,rfl⟩
 refine Aj (As [2,4] rfl rfl (A0 (Ad rfl ?_)))
 refine Aw (AA (E6 p s (0,0) hs (Nat.zero_le _)) rfl rfl AC) ?_
 rintro v17 L1 ⟨rfl,rfl⟩
 refine Aj (Ad rfl (Ac (Ai rfl) (Ac (Ai rfl) (AX rfl (As [2,4,5] rfl rfl (A0 (Ad rfl ?_)))))))
 refine Aw (AA (G8 p s (Cq s 4 (0,0)) hs hr1) rfl rfl AC) ?_
 rintro v22 L1 ⟨rfl,rfl⟩
 refine Aj (Ad rfl (Ac (Ai rfl) (Ac (Ai rfl) (AX rfl (As [2,4,5,7,8] rfl rfl ?_)))))
 refine Cb (fun env L=>∃ (n:Nat) (r:RS) (tq:Nat),Sub env [(2,.pointer (some ⟨b2,0,none⟩)),(4,.pointer (some ⟨p,0,none⟩)),(5,.int .u32 (tq:Nat)),(7,.int .u8 (n:Nat))]∧Ent L [B1 b2 88 [.slice none 0 0,.int .i64 0],EK p s r,ro μ]∧n≤16∧tq<4294967296∧CIn s n 0 r []∧(5≤s.length→Bv ((s.drop 4).take 1)=n∧Bv (s.take 4)=tq)∧(s.length<5→n=0)) ?_ ?_
 ·refine A0 (Ad rfl (Ac (Bp rfl rfl) (Ad rfl ?_)))
  refine B7 27 rfl (fun h27=>?_) (fun h27=>?_)
  ·refine AQ rfl rfl (Ad rfl (AQ rfl rfl (Ac (BA rfl rfl) (Ac (B4 rfl rfl) (AE [2,4,5,7,30] rfl ?_)))))
   refine Ak rfl (fun h30=>?_) (fun h30=>?_)
   ·refine A0 (Ac (Bo (qs:=[]) rfl) (B5 (AU rfl rfl rfl rfl) (As [2,3] rfl rfl (Ar (AN ?_)))))
    have h27':=of_decide_eq_true h27
    have h30':16<Bv (Di s 1 (Cq s 4 (0,0))):=by have:=of_decide_eq_true h30; omega
    have hd:HH s=none:=by
     rcases hh with ⟨h1,_⟩ | ⟨_,_,_,h4⟩
     ·exact N9 h1
     ·rw [h4] at h30'; exact Vw h30'
    exact Aq [ro μ] (.cell rfl (Bn rfl) (.tmp rfl .nil)) ⟨_,3,μ,rfl,rfl,Le.refl _,.inr ⟨by decide,hd,rfl⟩⟩ AC
   ·refine Am ?_
    obtain ⟨q1,q2,q3⟩:=R3 (s:=s) (.inr (by have:=of_decide_eq_false h30; omega))
    exact Af ⟨_,_,_,⟨rfl,rfl,rfl,rfl,trivial⟩,Split.ent' AC,q1,Hm (ES _ _ _),q2,q3⟩
  ·refine AI rfl rfl rfl (AI rfl rfl rfl (Ac (AT rfl rfl) (AE [2,4,5,7,30] rfl ?_)))
   refine Ak rfl (fun h30=>by cases h30) (fun h30=>?_)
   refine Am ?_
   obtain ⟨q1,q2,q3⟩:=R3 (s:=s) (.inl (of_decide_eq_false h27))
   exact Af ⟨_,_,_,⟨rfl,rfl,rfl,rfl,trivial⟩,Split.ent' AC,q1,Hm (ES _ _ _),q2,q3⟩
 rintro env L ⟨n,r0,tq,hsub,hE,hn,htq,hin,h5,h50⟩
 refine B3 _ hsub (AP hE ?_)
 clear hsub hE env L hh hr1
 refine A0 (Ad rfl (Ac (Bw rfl Ax Ax) (Ac (Bo (qs:=[(1,_)]) rfl) (Aw (AZ) (fun b9=>?_)))))
 refine B5 (AU rfl rfl rfl rfl) (AE [2,4,7,9] rfl (Ae (A0 (Ad rfl (Ad rfl (AE [2,4,9,35,36] rfl (Au (AP (own_nil_ent (e:=3) (n:=1)) ?_))))))))
 refine B0 (ι:=CI) (fun x env L=>Sub env [(2,.pointer (some ⟨b2,0,none⟩)),(4,.pointer (some ⟨p,0,none⟩)),(9,.pointer (some ⟨b9,0,none⟩)),(35,.int .u8 (n:Nat)),(36,.int .u8 (x.i:Nat))]∧Ent L [B1 b9 88 [x.v,.int .i64 (tq:Nat)],own 3 1 x.v x.i (x.acc.flatMap (Bj .i64)),B1 b2 88 [.slice none 0 0,.int .i64 0],EK p s x.r,ro μ]∧x.i≤n∧x.acc.length=x.i∧CIn s n x.i x.r x.acc) (fun x=>n-x.i) ⟨0,r0,[],.slice none 0 0⟩ ⟨⟨rfl,rfl,rfl,rfl,rfl,trivial⟩,by show Ent _ [B1 b9 88 [.slice none 0 0,.int .i64 (tq:Nat)],own 3 1 (.slice none 0 0) 0 [],B1 b2 88 [.slice none 0 0,.int .i64 0],EK p s r0,ro μ]; exact Split.ent' AC,Nat.zero_le _,rfl,hin⟩ ?_
 clear hin r0
 rintro ⟨i,r,acc,v⟩ env L ⟨hsub,hE,hi,hacc,hin⟩
 dsimp only at hsub hE hi hacc hin
 refine B3 _ hsub (AP hE ?_)
 clear hsub hE env L
 dsimp only
 refine A0 (Ac (Bb rfl rfl) (AE [2,4,9,35,36,37] rfl (Ae ?_)))
 refine Ak rfl (fun h37=>?_) (fun h37=>?_)
 ·have h37':i<n:=by have:=of_decide_eq_true h37; omega
  refine Am (Af (Ae (Au (A0 (Ad rfl ?_)))))
  refine Aw (AA (E6 p s r hs hin.le) rfl rfl AC) ?_
  rintro v40 L1 ⟨rfl,rfl⟩
  refine Aj (Ad rfl (Ac (Ai rfl) (Ac (Ai rfl) (AX rfl (As [2,4,9,10,35,36] rfl rfl (Al (Ac (Ab rfl) (AJ (Ag rfl rfl) (Ad rfl ?_)))))))))
  refine Ac (Bw rfl Ax (by have:=Hm (ES s 4 r); omega)) ?_
  refine Aw (Bg (qs:=[(0,_)]) rfl rfl rfl) fun b47=>?_
  refine Aw (B9 (l:=i) (m:=1) rfl rfl AC (by simp only [maxLen]; omega) Ax) ?_
  rintro v48 -
  refine Cv (fun m h=>Bz h) fun ⟨A48,cap48,hv48⟩=>?_
  subst hv48
  refine Ac (Ab rfl) (B5 (AW rfl rfl rfl) (Be [2,4,9,35,36] rfl (AH (AR (Af (Al (Ac (KM (i+1) rfl rfl Ax Ax) (Ad rfl (Be [2,4,9,35,36] rfl (AH ?_))))))))))
  refine Af ⟨⟨i+1,Cq s 4 r,acc++[((Bv (Di s 4 r):Nat):Int)],.slice A48 (i+1) cap48⟩,⟨⟨rfl,rfl,rfl,rfl,rfl,trivial⟩,?_,h37',by show (acc++[_]).length=i+1; rw [List.length_append,List.length_singleton,hacc],hin.step h37'⟩,by show n-(i+1)<n-i; omega⟩
  show Ent _ [B1 b9 88 [.slice A48 (i+1) cap48,.int .i64 (tq:Nat)],own 3 1 (.slice A48 (i+1) cap48) (i+1) ((acc++[((Bv (Di s 4 r):Nat):Int)]).flatMap (Bj .i64)),B1 b2 88 [.slice none 0 0,.int .i64 0],EK p s (Cq s 4 r),ro μ]
  rw [show (acc++[((Bv (Di s 4 r):Nat):Int)]).flatMap (Bj .i64)=acc.flatMap (Bj .i64)++[.int .i64 ((Bv (Di s 4 r):Nat):Int)] by rw [List.flatMap_append]; rfl]
  exact Split.ent' AC
 ·have h37':=of_decide_eq_false h37
  obtain rfl:i=n:=by omega
  obtain ⟨hk1,hk2⟩:=hin.ends
  refine AY (AS (AS (AV rfl (Af (Ae (A0 (Ad rfl ?_)))))))
  refine Aw (AA (JN p s r hs hin.le) rfl rfl AC) ?_
  rintro v52 L1 ⟨rfl,rfl⟩
  refine Aj (As [2,9,12] rfl rfl (A0 (Ad rfl (Ac (Bm rfl rfl) (AE [2,9,12,54] rfl ?_)))))
  refine Ak rfl (fun h54=>?_) (fun h54=>?_)
  ·refine A0 (Ac (Bo (qs:=[]) rfl) (Ad rfl (B5 (AU rfl rfl rfl rfl) (As [2,3] rfl rfl (Ar (AN ?_))))))
   have h54':Hb s r≠0:=by simpa using h54
   have hd:HH s=none:=by
    by_cases h:s.length<5
    ·exact N9 h
    ·exact Yt (h5 Ax).1 (hk2 h54')
   exact Aq [ro μ] (.cell rfl (Bn rfl) (.tmp rfl .nil)) ⟨_,_,μ,rfl,rfl,Le.refl _,.inr ⟨h54',hd,rfl⟩⟩ AC
  ·have h54':Hb s r=0:=by simpa using h54
   obtain ⟨hk3,hk4⟩:=hk1 h54'
   obtain ⟨hn5,ht5⟩:=h5 Ax
   have hd:=Yu hn5 hk3 hn
   rw [ht5,← hk4] at hd
   refine Am (Af (Ae (Ae ?_)))
   subst hacc
   refine BC (μ:=μ) (v:=v) AC fun μ' hle hrow=>?_
   obtain ⟨A9,cap9,rfl⟩:=hrow.sl
   refine Al (AJ (BP rfl rfl) ?_)
   refine Aw (AA (OO μ' (.slice A9 acc.length cap9) (acc,(tq:Nat)) hrow) rfl rfl AC) ?_
   rintro v58 L1 ⟨rfl,rfl⟩
   refine Aj (Ac (Bm rfl rfl) (AE [2,9,59] rfl ?_))
   refine Ak rfl (fun h59=>?_) (fun h59=>?_)
   ·refine A0 (Ac (Bo (qs:=[]) rfl) (B5 (AU rfl rfl rfl rfl) (As [2,3] rfl rfl (Ar (AN ?_)))))
    have h59':CR (acc,((tq:Nat):Int))≠0:=by simpa using h59
    rw [if_pos h59'] at hd
    exact Aq [ro μ'] (.cell rfl (Bn rfl) (.tmp rfl .nil)) ⟨_,3,μ',rfl,rfl,hle,.inr ⟨by decide,hd,rfl⟩⟩ AC
   ·refine Am (Af (A0 (AJ (BP rfl rfl) (B5 (AU rfl rfl rfl rfl) (As [2,3] rfl rfl (Ar ?_))))))
    have h59':CR (acc,((tq:Nat):Int))=0:=by simpa using h59
    rw [if_neg (not_not_intro h59')] at hd
    exact Aq [ro μ'] (.cell rfl (Bn rfl) (.tmp rfl .nil)) ⟨_,0,μ',rfl,rfl,hle,.inl ⟨rfl,_,_,hd,rfl,hrow⟩⟩ AC

abbrev U9 (f:Fm):Value:=.agg #[.int .i64 (f.1:Nat),.string (str f.2)]
theorem SQ (f:Fm)(hb:f.2.length≤1048576):Spec prog 242 [U9 f] [] (fun r L=>r=.int .i64 ((f.2.length+9:Nat):Int)∧L=[]):=by
 refine Spec.of 7 func242 rfl rfl rfl ?_
 refine A0 (Aw (Bi rfl rfl) (fun b1=>?_))
 refine As [1] rfl rfl (A0 (Ac (Ab rfl) (AJ (Ag rfl rfl) (Ac (D0 rfl) (Ac (AO ((f.2.length+9:Nat):Int) rfl rfl Ax Ax Ax) (As [2] rfl rfl (Ar ?_)))))))
 exact Aq [] (.tmp rfl .nil) ⟨rfl,rfl⟩ AC
set_option maxHeartbeats 2000000 in
theorem Vy (f:Fm)(h1:0<f.1)(h2:f.1<256)(hb:f.2.length≤1048576):Spec prog 153 [U9 f] [] (fun r L=>r=.tuple #[.string (str (DW f)),.int .i64 0]∧L=[]):=by
 have hh:=Ox f
 refine Spec.of 43 func153 rfl rfl rfl ?_
 refine A0 (Aw (Bi rfl rfl) (fun b1=>?_))
 refine AX rfl (As [1] rfl rfl (Ae (Au (A0 (Ac (Ab rfl) (AJ (Ag rfl rfl) (Ac (Bb rfl rfl) (Ad rfl ?_))))))))
 refine B7 9 rfl (fun h9=>by exfalso; have:=of_decide_eq_true h9; omega) (fun h9=>?_)
 refine AQ rfl rfl (Ac (Ab rfl) (AQ rfl rfl (AJ (Ag rfl rfl) (AQ rfl rfl (Ac (BA rfl rfl) (Ac (AT rfl rfl) (As [1,5] rfl rfl ?_)))))))
 refine Ak rfl (fun h5=>by exfalso; have:=of_decide_eq_true h5; omega) (fun h5=>?_)
 refine A0 (Ac (Ab rfl) (AJ (Ag rfl rfl) (Ac (D0 rfl) (Ac (BA rfl rfl) (As [1,14] rfl rfl ?_)))))
 refine Ak rfl (fun h14=>by exfalso; have:=of_decide_eq_true h14; omega) (fun h14=>?_)
 refine Am (AR (Af (A0 ?_)))
 refine Aw (AA Dy rfl rfl AC) ?_
 rintro v19 L1 ⟨p,rfl,rfl⟩
 refine Aj (As [1,4] rfl rfl (A0 (Ad rfl (Ac (Ab rfl) (AJ (Ag rfl rfl) (Ac (C6 rfl (E5 h2)) ?_))))))
 refine Aw (AA (EV p f.1 [] h2 (by decide)) rfl rfl AC) ?_
 rintro v24 L1 ⟨rfl,rfl⟩
 rw [List.nil_append]
 refine Aj (AE [1,4] rfl (A0 (Ad rfl (Ac (Ab rfl) (AJ (Ag rfl rfl) (Ac (D0 rfl) (Ac (C6 rfl (Ft Ax)) ?_)))))))
 refine Aw (AA (Ch p f.2.length (Bf 1 f.1) Ax (by rw [Br]; decide)) rfl rfl AC) ?_
 rintro v30 L1 ⟨rfl,rfl⟩
 refine Aj (AE [1,4] rfl (A0 (Ad rfl (Ac (Ab rfl) (AJ (Ag rfl rfl) ?_)))))
 refine Aw (AA (Fu p (Bf 1 f.1++Bf 4 f.2.length) f.2 (by rw [List.length_append,Br,Br]; decide) Ax) rfl rfl AC) ?_
 rintro v34 L1 ⟨rfl,rfl⟩
 refine Aj (AE [4] rfl (Ae ?_))
 rw [show Bf 1 f.1++Bf 4 f.2.length++f.2=Io f from rfl]
 refine Al (Ad rfl (Ad rfl ?_))
 refine Aw (AA (E7 p (Io f) (fun e=>by rw [e] at hh; simp at hh)) rfl rfl AC) ?_
 rintro v37 L1 ⟨rfl,rfl⟩
 refine Aj (Aw (Bg (qs:=[(0,_)]) rfl rfl rfl) (fun b38=>?_))
 refine Aw (AA (EU b38 1 (str (Io f)) (by rw [CO]; omega)) rfl rfl AC) ?_
 rintro v39 L1 ⟨rfl,rfl⟩
 refine Aj ?_
 refine Aw (AA (Ch p (E2 (Io f)) (Io f) (GH _) Ax) rfl rfl AC) ?_
 rintro v40 L1 ⟨rfl,rfl⟩
 refine Aj (AE [4] rfl (Ae ?_))
 rw [show Io f++Bf 4 (E2 (Io f))=DW f from rfl]
 refine Al (Ad rfl ?_)
 refine Aw (AA (E7 p (DW f) (fun e=>by have:=Hf f; rw [e] at this; simp at this)) rfl rfl AC) ?_
 rintro v42 L1 ⟨rfl,rfl⟩
 refine Aj (AX rfl (As [2,3] rfl rfl (Ar ?_)))
 exact Aq [] (.tmp rfl (.tmp rfl .nil)) ⟨rfl,rfl⟩ AC
def A2h (s:List UInt8)(fv:Value)(n:Int)(e:Int):Prop :=
 (e=0∧∃ f k,Hg s=some (f,k)∧fv=U9 f∧n=(k:Nat))∨(e≠0∧Hg s=none∧fv=U9 (0,[])∧n=0)
set_option maxHeartbeats 4000000 in
theorem Vz (s:List UInt8)(hs:s.length≤1073741824):Spec prog 312 [.string (str s)] [] (fun v L=>∃ fv n e,v=.tuple #[fv,.int .i64 n,.int .i64 e]∧L=[]∧A2h s fv n e):=by
 refine Spec.of 70 func312 rfl rfl rfl ?_
 refine A0 (Aw (AZ) (fun b2=>?_))
 refine AX rfl (As [0,2] rfl rfl (A0 (Ad rfl ?_)))
 refine Aw (AA (J3 s) rfl rfl AC) ?_
 rintro v13 L1 ⟨p,rfl,rfl⟩
 refine Aj (As [0,2,5] rfl rfl (A0 (Ad rfl ?_)))
 refine Aw (AA (G8 p s (0,0) hs (Nat.zero_le _)) rfl rfl AC) ?_
 rintro v16 L1 ⟨rfl,rfl⟩
 refine Aj (Ad rfl (Ac (Ai rfl) (Ac (Ai rfl) (AX rfl (As [0,2,5,6,7] rfl rfl (Ae (A0 (Ad rfl (Ac (Bp rfl rfl) (Ad rfl ?_))))))))))
 refine B7 21 rfl (fun h21=>?_) (fun h21=>?_)
 ·have hA:0+1≤s.length:=Gk (of_decide_eq_true h21)
  rw [(BX hA).1,(BX hA).2]
  have hk:=Kf (l:=(s.drop 0).take 1) (by rw [List.length_take]; exact Nat.min_le_left _ _)
  refine AQ rfl rfl (Ad rfl (AQ rfl rfl (Ac (Bp rfl rfl) (Ac (B4 rfl rfl) (AE [0,2,5,6,24] rfl ?_)))))
  refine Ak rfl (fun h24=>?_) (fun h24=>?_)
  ·refine A0 (Ac (Bo (qs:=[]) rfl) (B5 (AU rfl rfl rfl rfl) (AX rfl (As [2,3,4] rfl rfl (Ar (AN ?_))))))
   have h24':Bv (s.take 1)=0:=by
    have:=of_decide_eq_true h24
    exact Int.ofNat_inj.1 this
   exact Aq [] (.cell rfl (Bn rfl) (.tmp rfl (.tmp rfl .nil))) ⟨U9 (0,[]),0,3,rfl,rfl,.inr ⟨by decide,UW h24',rfl,rfl⟩⟩ AC
  ·have h24':Bv (s.take 1)≠0:=fun e=>by
    have:=of_decide_eq_false h24
    exact this (congrArg Int.ofNat e)
   refine Am (Af (A0 (Ad rfl ?_)))
   refine Aw (AA (E6 p s (0+1,0) hs hA) rfl rfl AC) ?_
   rintro v28 L1 ⟨rfl,rfl⟩
   refine Aj (Ad rfl (Ac (Ai rfl) (Ac (Ai rfl) (AX rfl (As [0,2,5,6,7,8] rfl rfl (Ae (A0 (Ad rfl (Ac (Bm rfl rfl) (AE [0,2,5,6,7,8,32] rfl ?_))))))))))
   refine Ak rfl (fun h32=>?_) (fun h32=>?_)
   ·refine A0 (Ac (Bo (qs:=[]) rfl) (Ad rfl (B5 (AU rfl rfl rfl rfl) (AX rfl (As [2,3,4] rfl rfl (Ar (AN ?_)))))))
    have h32':(Cq s 4 (0+1,0)).2≠0:=by simpa using h32
    exact Aq [] (.cell rfl (Bn rfl) (.tmp rfl (.tmp rfl .nil))) ⟨U9 (0,[]),0,_,rfl,rfl,.inr ⟨h32',MJ (by have:=JO h32'; omega),rfl,rfl⟩⟩ AC
   ·have hB:0+1+4≤s.length:=Gk (by simpa using h32)
    rw [(BX hB).1,(BX hB).2]
    have hn:=Hm (l:=(s.drop (0+1)).take 4) (by rw [List.length_take]; exact Nat.min_le_left _ _)
    generalize hN:Bv ((s.drop (0+1)).take 4)=n at *
    refine Am (Af (Ae (A0 (Ad rfl (Ac (BA rfl rfl) (AE [0,2,5,6,8,36] rfl ?_))))))
    refine Ak rfl (fun h36=>?_) (fun h36=>?_)
    ·refine A0 (Ac (Bo (qs:=[]) rfl) (B5 (AU rfl rfl rfl rfl) (AX rfl (As [2,3,4] rfl rfl (Ar (AN ?_))))))
     have h36':1048576<Bv ((s.drop (0+1)).take 4):=by rw [hN]; have:=of_decide_eq_true h36; omega
     exact Aq [] (.cell rfl (Bn rfl) (.tmp rfl (.tmp rfl .nil))) ⟨U9 (0,[]),0,3,rfl,rfl,.inr ⟨by decide,XV h36',rfl,rfl⟩⟩ AC
    ·have h36':n≤1048576:=by have:=of_decide_eq_false h36; omega
     refine Am (Af (A0 (Ad rfl (Ad rfl (Ac (Bw rfl Ax Ax) ?_)))))
     refine Aw (AA (Gj p s (0+1+4,0) n hs hB Ax) rfl rfl AC) ?_
     rintro v42 L1 ⟨rfl,rfl⟩
     refine Aj (Ad rfl (Ac (Ai rfl) (Ac (Ai rfl) (AX rfl (As [0,2,5,6,9] rfl rfl (A0 (Ad rfl ?_)))))))
     refine Aw (AA (E6 p s (Cq s n (0+1+4,0)) hs (HC hB)) rfl rfl AC) ?_
     rintro v47 L1 ⟨rfl,rfl⟩
     refine Aj (Ad rfl (Ac (Ai rfl) (Ac (Ai rfl) (AX rfl (As [0,2,5,6,7,9,11] rfl rfl (Ae (A0 (Ad rfl (Ac (Bm rfl rfl) (AE [0,2,5,6,7,9,11,51] rfl ?_))))))))))
     refine Ak rfl (fun h51=>?_) (fun h51=>?_)
     ·refine A0 (Ac (Bo (qs:=[]) rfl) (Ad rfl (B5 (AU rfl rfl rfl rfl) (AX rfl (As [2,3,4] rfl rfl (Ar (AN ?_)))))))
      have h51':(Cq s 4 (Cq s n (0+1+4,0))).2≠0:=by simpa using h51
      have hC:s.length<n+9:=by
       refine Nat.lt_of_not_le fun k=>?_
       rw [(BX (s:=s) (n:=n) (pos:=0+1+4) Ax).1,(BX (s:=s) (n:=4) (pos:=0+1+4+n) Ax).1] at h51'
       exact h51' rfl
      exact Aq [] (.cell rfl (Bn rfl) (.tmp rfl (.tmp rfl .nil))) ⟨U9 (0,[]),0,_,rfl,rfl,.inr ⟨h51',XW hN hC,rfl,rfl⟩⟩ AC
     ·have h51':(Cq s 4 (Cq s n (0+1+4,0))).2=0:=by simpa using h51
      have hC:0+1+4+n≤s.length:=by
       refine Nat.le_of_not_lt fun k=>?_
       rw [(EY (s:=s) (n:=n) (pos:=0+1+4) k).1,(E8 (s:=s) (r:=(0+1+4,2)) (by show ¬ (2:Int)=0; decide)).1] at h51'
       exact absurd h51' (by show ¬ (2:Int)=0; decide)
      rw [(BX hC).1,(BX hC).2] at *
      have hD:=Gk h51'
      rw [(BX hD).1,(BX hD).2]
      have hd:=XX hN h24' h36' Ax
      have hb4:=Hm (l:=(s.drop (0+1+4+n)).take 4) (by rw [List.length_take]; exact Nat.min_le_left _ _)
      have hslt:=GH (s.take (n+5))
      refine Am (Af (Ae (A0 (Ad rfl (Ad rfl (Ad rfl ?_))))))
      refine Aw (AA (OK p s (0+1+4+n+4,0)) rfl rfl AC) ?_
      rintro v57 L1 ⟨rfl,rfl⟩
      refine Aj (Ac (BY ((n+5:Nat):Int) rfl rfl Ax Ax Ax) (Ac (Ik (n+5) rfl rfl rfl Ax) (Aw (Bg (qs:=[(0,_)]) rfl rfl rfl) (fun b60=>?_))))
      refine Aw (AA (EU b60 1 (str (s.take (n+5))) (by rw [CO,List.length_take]; omega)) rfl rfl AC) ?_
      rintro v61 L1 ⟨rfl,rfl⟩
      refine Aj (Ac (Bm rfl rfl) (AE [2,5,6,9,62] rfl ?_))
      refine Ak rfl (fun h62=>?_) (fun h62=>?_)
      ·refine A0 (Ac (Bo (qs:=[]) rfl) (B5 (AU rfl rfl rfl rfl) (AX rfl (As [2,3,4] rfl rfl (Ar (AN ?_))))))
       have h62':Bv ((s.drop (n+5)).take 4)≠E2 (s.take (n+5)):=fun e=>by
        rw [show 0+1+4+n=n+5 by omega,e] at h62
        exact absurd h62 (by show ¬ (!decide (((E2 (s.take (n+5)):Nat):Int)=((E2 (s.take (n+5)):Nat):Int)))=true; simp)
       rw [if_pos h62'] at hd
       exact Aq [] (.cell rfl (Bn rfl) (.tmp rfl (.tmp rfl .nil))) ⟨U9 (0,[]),0,4,rfl,rfl,.inr ⟨by decide,hd,rfl,rfl⟩⟩ AC
      ·have h62':Bv ((s.drop (n+5)).take 4)=E2 (s.take (n+5)):=by
        rw [show 0+1+4+n=n+5 by omega] at h62
        have:((Bv ((s.drop (n+5)).take 4):Nat):Int)=((E2 (s.take (n+5)):Nat):Int):=by simpa [E2] using h62
        omega
       rw [if_neg (not_not_intro h62')] at hd
       refine Am (Af (A0 (Ad rfl (Ac (Bw rfl Ax Ax) (Ad rfl (Ac (Bo (qs:=[(0,_),(1,_)]) rfl) (Ad rfl ?_)))))))
       refine Aw (AA (OK p s (0+1+4+n+4,0)) rfl rfl AC) ?_
       rintro v69 L1 ⟨rfl,rfl⟩
       refine Aj (B5 (AU rfl rfl rfl rfl) (AX rfl (As [2,3,4] rfl rfl (Ar ?_))))
       exact Aq [] (.cell rfl (Bn rfl) (.tmp rfl (.tmp rfl .nil))) ⟨U9 (Bv (s.take 1),(s.drop 5).take n),_,0,rfl,rfl,.inl ⟨rfl,_,_,hd,rfl,by show ((0+1+4+n+4:Nat):Int)=((n+9:Nat):Int); omega⟩⟩ AC
 ·have hZ:=JO (of_decide_eq_false h21)
  rw [(EY hZ).1,(EY hZ).2]
  have hr2:((0,2):RS).2≠0:=by show ¬ (2:Int)=0; decide
  refine AI rfl rfl rfl (AI rfl rfl rfl (Ac (AT rfl rfl) (AE [0,2,5,6,24] rfl ?_)))
  refine Ak rfl (fun h24=>by cases h24) (fun h24=>?_)
  refine Am (Af (A0 (Ad rfl ?_)))
  refine Aw (AA (E6 p s (0,2) hs (Nat.zero_le _)) rfl rfl AC) ?_
  rintro v28 L1 ⟨rfl,rfl⟩
  rw [(E8 hr2).1,(E8 hr2).2]
  refine Aj (Ad rfl (Ac (Ai rfl) (Ac (Ai rfl) (AX rfl (As [0,2,5,6,7,8] rfl rfl (Ae (A0 (Ad rfl (Ac (Bm rfl rfl) (AE [0,2,5,6,7,8,32] rfl ?_))))))))))
  refine Ak rfl (fun h32=>?_) (fun h32=>by cases h32)
  refine A0 (Ac (Bo (qs:=[]) rfl) (Ad rfl (B5 (AU rfl rfl rfl rfl) (AX rfl (As [2,3,4] rfl rfl (Ar (AN ?_)))))))
  exact Aq [] (.cell rfl (Bn rfl) (.tmp rfl (.tmp rfl .nil))) ⟨U9 (0,[]),0,2,rfl,rfl,.inr ⟨by decide,MJ Ax,rfl,rfl⟩⟩ AC

def VB (k:Nat)(r:Rc):List AF:=[B1 r.a 96 [.int .i64 (k:Nat),r.v,.int .i64 (r.f.safe:Nat)],own 5 1 r.v r.f.bytes.length (Dd r.f.bytes)]
def R4 (k:Nat)(r:Rc):List AF:=if r.f.safe≤r.f.bytes.length then VB k r else []
theorem PU {k:Nat}{r:Rc}(h:r.f.safe≤r.f.bytes.length):R4 k r=VB k r:=if_pos h
theorem E0 {d:Dk}(hd:d.Ok){k:Nat}{r:Rc}(hf:r.f=d.fl k):r.f.safe≤r.f.bytes.length:=by rw [hf]; exact (Dk.fl_ok hd k).2
def FP:Nat→List Rc→List AF
 | _,[]=>[]
 | k,r::rs=>R4 k r++FP (k+1) rs
theorem KN:∀ (k:Nat) (a b:List Rc),FP k (a++b)=FP k a++FP (k+a.length) b
 | k,[],b=>by simp [FP]
 | k,r::a,b=>by
  rw [List.cons_append,FP,FP,KN,List.append_assoc,List.length_cons]
  congr 3; omega
def BS (rs:List Rc):AF:=FF (FP 0 rs)
def Fc (rs:List Rc)(i:Nat):AF:=FF (FP 0 (rs.take i)++FP (i+1) (rs.drop (i+1)))
theorem Ua {rs:List Rc}{i:Nat}{r:Rc}(h:rs[i]? = some r):FP 0 rs=FP 0 (rs.take i)++(R4 i r++FP (i+1) (rs.drop (i+1))):=by
 have hlt:=(List.getElem?_eq_some_iff.1 h).1
 have e:rs=rs.take i++r::rs.drop (i+1):=by
  rw [← (List.getElem?_eq_some_iff.1 h).2,← List.drop_eq_getElem_cons hlt,List.take_append_drop]
 conv=>lhs; rw [e]
 rw [KN,List.length_take,Nat.min_eq_left Ax,Nat.zero_add]; rfl
theorem VC {rs:List Rc}{i:Nat}{r:Rc}(h:rs[i]? = some r)(hg:r.f.safe≤r.f.bytes.length){L:List AF}:Ent (BS rs::L) (VB i r++Fc rs i::L):=by
 rw [← PU hg]
 refine star_ent.trans ?_
 rw [Ua h]
 refine Ent.trans (Ent.perm ?_) (Ent.under (X:=R4 i r) DM)
 rw [List.append_assoc,List.append_assoc]
 refine (List.perm_append_comm_assoc _ _ _).trans ?_
 rw [List.append_assoc]
theorem Na {rs:List Rc}{i:Nat}{r:Rc}(h:i<rs.length)(hg:r.f.safe≤r.f.bytes.length){L:List AF}:Ent (VB i r++Fc rs i::L) (BS (rs.set i r)::L):=by
 rw [← PU hg]
 have h1:(rs.set i r)[i]? = some r:=List.getElem?_set_self h
 have e:FP 0 (rs.set i r)=FP 0 (rs.take i)++(R4 i r++FP (i+1) (rs.drop (i+1))):=by
  rw [Ua h1,List.take_set_of_le (Nat.le_refl _),List.drop_set_of_lt Ax]
 refine Ent.trans ?_ DM
 rw [e]
 refine Ent.trans (Ent.under (X:=R4 i r) star_ent) (Ent.perm ?_)
 simp only [List.append_assoc]
 exact List.perm_append_comm_assoc _ _ _
theorem Yv {rs:List Rc}{r:Rc}(hg:r.f.safe≤r.f.bytes.length){L:List AF}:Ent (VB rs.length r++BS rs::L) (BS (rs++[r])::L):=by
 rw [← PU hg]
 refine Ent.trans (Ent.under (X:=R4 rs.length r) star_ent) ?_
 refine Ent.trans ?_ DM
 rw [KN,Nat.zero_add]
 show Ent _ ((FP 0 rs++(R4 rs.length r++[]))++L)
 rw [List.append_nil,List.append_assoc]
 exact Ent.perm (List.perm_append_comm_assoc _ _ _)
structure FX where
 sb:Nat
 fb:Nat
 es:BQ ByteArray
 cs:Nat
 ef:BQ ByteArray
 cf:Nat
 rs:List Rc
 ps:List Pc
 pv:Value
abbrev J8 (q:Int)(n:Nat)(sb fb:Nat)(pv:Value)(fa:Int)(off:Bool):List Value:=[.int .i64 q,.int .i64 (n:Nat),.map (some sb),.map (some fb),pv,.int .i64 fa,.bool off]
def DA (d:Dk)(k:Nat):Prop:=(∃ x∈d.seen,x.2=k)∨(∃ x∈d.safe,x.2=k)∨∃ c∈d.pend,Bx c.come Dn=false∧c.file=k
structure Rep (d:Dk) (x:FX):Prop where
 seen:NmRel x.es d.seen x.rs
 safe:NmRel x.ef d.safe x.rs
 bs:Born x.es x.cs
 bf:Born x.ef x.cf
 len:x.rs.length=d.files.length
 fl:∀ k,DA d k→∃ r,x.rs[k]? = some r∧r.f=d.fl k
 ps:x.ps.length=d.pend.length∧∀ (i:Nat) (p:Pc) (c:Cg),x.ps[i]? = some p→d.pend[i]? = some c→Y0 x.rs p c
abbrev Eg (p:Nat)(d:Dk)(x:FX):AF:=B1 p 100 (J8 d.quota x.rs.length x.sb x.fb x.pv d.falls d.off)
def FSA (p:Nat)(d:Dk):AF:=exA fun x : {x:FX // Rep d x}=>[Eg p d x.1,BF x.1.sb BM x.1.es x.1.cs,BF x.1.fb BM x.1.ef x.1.cf,own 279 3 x.1.pv x.1.ps.length (x.1.ps.flatMap Cf),BS x.1.rs]
theorem BR {p:Nat}{d:Dk}{x:FX}(h:Rep d x){L:List AF}:Ent (Eg p d x::BF x.sb BM x.es x.cs::BF x.fb BM x.ef x.cf::own 279 3 x.pv x.ps.length (x.ps.flatMap Cf)::BS x.rs::L) (FSA p d::L) :=
 Fg (F:=fun x : {x:FX // Rep d x}=>[Eg p d x.1,BF x.1.sb BM x.1.es x.1.cs,BF x.1.fb BM x.1.ef x.1.cf,own 279 3 x.1.pv x.1.ps.length (x.1.ps.flatMap Cf),BS x.1.rs]) ⟨x,h⟩ AC
theorem FSA.open'{p:Nat}{d:Dk}{f:FuncId}{args:List Value}{L:List AF}{post:Value→List AF→Prop}
  (h:∀ x,Rep d x→Spec prog f args (Eg p d x::BF x.sb BM x.es x.cs::BF x.fb BM x.ef x.cf::own 279 3 x.pv x.ps.length (x.ps.flatMap Cf)::BS x.rs::L) post):Spec prog f args (FSA p d::L) post:=Spec.exA' fun x=>h x.1 x.2
abbrev pv (p:Nat):Value:=.pointer (some ⟨p,0,none⟩)
def GN (rs:List Rc)(d:Dk)(s:ByteArray):Value×Int:=if d.off=true then (.pointer none,8) else match BD d.seen s with | none=>(.pointer none,6) | some k=>(adr rs k,0)
theorem VD (p:Nat)(d:Dk)(x:FX)(hx:Rep d x)(s:ByteArray):Spec prog 33 [pv p,.string s] [Eg p d x,BF x.sb BM x.es x.cs] (fun r L=>r=.tuple #[(GN x.rs d s).1,.int .i64 (GN x.rs d s).2]∧L=[Eg p d x,BF x.sb BM x.es x.cs]):=by
 have hl:=hx.seen.look s
 refine Spec.of 28 func33 rfl rfl rfl ?_
 refine A0 (AX rfl (As [0,1] rfl rfl (Ae (Au (A0 (Ad rfl (Ac (Bd rfl rfl) (As [0,1,8] rfl rfl (Dz rfl (A0 (Ad rfl (Ac (Ah rfl) (Ac (Ab rfl) (AJ (Ag rfl rfl) (As [0,1,11] rfl rfl ?_)))))))))))))))
 refine Ak rfl (fun h11=>?_) (fun h11=>?_)
 ·refine A0 (AX rfl (As [4,5] rfl rfl (Ar (B6 (AN ?_)))))
  refine Aq [Eg p d x,BF x.sb BM x.es x.cs] (.tmp rfl (.tmp rfl .nil)) ⟨?_,rfl⟩ AC
  unfold GN; rw [if_pos h11]; rfl
 ·refine Am (AR (Af (A0 (Ad rfl (Ac (Ah rfl) (Ac (Ab rfl) (AJ (Ag rfl rfl) (Ad rfl (AJ (Sn (kv:=BM) s hl rfl rfl) (Ad rfl (Ac (Ai rfl) (Ac (Ai rfl) (AX rfl (As [6,7] rfl rfl (Ae (A0 (Ad rfl (Ac (BO rfl) (AE [6,26] rfl ?_)))))))))))))))))))
  refine Ak rfl (fun h26=>?_) (fun h26=>?_)
  ·refine A0 (AX rfl (As [4,5] rfl rfl (Ar (AN ?_))))
   refine Aq [Eg p d x,BF x.sb BM x.es x.cs] (.tmp rfl (.tmp rfl .nil)) ⟨?_,rfl⟩ AC
   unfold GN
   cases hf:BD d.seen s with
   | none=>rw [if_neg (by rw [h11]; decide)]; rfl
   | some k=>rw [hf] at h26; cases h26
  ·refine Am (Af (A0 (Ad rfl (AX rfl (As [4,5] rfl rfl (Ar ?_))))))
   refine Aq [Eg p d x,BF x.sb BM x.es x.cs] (.tmp rfl (.tmp rfl .nil)) ⟨?_,rfl⟩ AC
   unfold GN
   cases hf:BD d.seen s with
   | none=>rw [hf] at h26; cases h26
   | some k=>rw [if_neg (by rw [h11]; decide)]; rfl
theorem R5 (v:Value)(xs:List Int)(L0:List AF)(fn:FuncId)[Body prog fn](fi ca:List Value)(p:Int→Bool)(hv:Ints prog 3 L0 v xs)
  (hf:∀ x∈xs,Spec prog fn (fi++[.int .i64 x]++ca) L0 (fun r L=>r=.bool (p x)∧L=L0)):Spec prog 250 [v,.func (.func fn) fi.toArray ca.toArray] L0
  (fun r L=>(∃ k:Int,r=.int .i64 k∧(decide (0≤k)=xs.any p)∧-1≤k)∧L=L0):=by
 obtain ⟨A,cap,hv1,hv2,hv3⟩:=hv
 subst hv1
 refine Spec.of 19 func250 rfl rfl rfl ?_
 refine A0 (As [0,1] rfl rfl (Ae (A0 (Ad rfl (Ac (BI rfl) (Ad rfl (AE [0,1,7,8] rfl (Au ?_))))))))
 refine B0 (ι:=Nat) (fun k env L=>env=[(0,.slice A xs.length cap),(1,.func (.func fn) fi.toArray ca.toArray),(7,.int .i64 (xs.length:Nat)),(8,.int .i64 (k:Nat))]∧L=L0∧k≤xs.length∧∀ y∈xs.take k,p y=false) (fun k=>xs.length-k) 0 ⟨rfl,rfl,Nat.zero_le _,fun y hy=>by simp at hy⟩ ?_
 rintro k env L ⟨rfl,rfl,hk,hno⟩
 refine A0 (Ac (Bb rfl rfl) (AE [0,1,7,8,9] rfl (Ae ?_)))
 refine Ak rfl (fun h9=>?_) (fun h9=>?_)
 ·have h9':k<xs.length:=by have:=of_decide_eq_true h9; omega
  obtain ⟨b,off,rfl,hld⟩:=hv3 Ax
  obtain ⟨x,hx⟩:∃ x,xs[k]? = some x:=⟨_,List.getElem?_eq_getElem h9'⟩
  refine Am (Af (Ae (Au (A0 (Ad rfl (As [0,1,5,7,8] rfl rfl (A0 (Ad rfl (Ad rfl (Ad rfl ?_))))))))))
  refine Ac (AB (off+k*1) rfl rfl Ax Ax (by rw [Int.toNat_natCast])) ?_
  refine AJ (Dt rfl (by rw [Nat.mul_one]; exact hld k x hx)) ?_
  refine Aw (Gd (R:=[]) (hf x (List.mem_of_getElem? hx)) rfl rfl (Split.all)) ?_
  rintro v1 L1 ⟨rfl,rfl⟩
  rw [List.append_nil]
  refine AE [0,1,5,7,8,16] rfl ?_
  refine Ak rfl (fun h16=>?_) (fun h16=>?_)
  ·refine A0 (Ad rfl (As [4] rfl rfl (Ar (B6 (AN (AN (B6 (AN ?_))))))))
   exact Aq _ (.tmp rfl .nil) ⟨⟨k,rfl,by rw [decide_eq_true Ax]; exact (List.any_eq_true.2 ⟨x,List.mem_of_getElem? hx,h16⟩).symm,by omega⟩,rfl⟩ Split.all
  ·refine Am (AR (Af (Al (Ac (AO ((k+1:Nat):Int) rfl rfl Ax Ax Ax) (Ad rfl (Be [0,1,7,8] rfl (AH ?_)))))))
   exact Af ⟨k+1,⟨rfl,rfl,h9',fun y hy=>by
    rw [List.take_add_one,hx] at hy
    rcases List.mem_append.1 hy with hy | hy
    ·exact hno y hy
    ·obtain rfl:y=x:=by simpa using hy
     exact h16⟩,by omega⟩
 ·have h9':=of_decide_eq_false h9
  obtain rfl:k=xs.length:=by omega
  refine AY (AS (AS (AV rfl (Af (A0 (As [4] rfl rfl (Ar ?_)))))))
  refine Aq _ (.tmp rfl .nil) ⟨⟨-1,rfl,?_,by omega⟩,rfl⟩ Split.all
  rw [List.take_length] at hno
  rw [decide_eq_false Ax]
  symm
  rw [List.any_eq_false]
  exact fun x hx=>by rw [hno x hx]; simp
theorem Nb (v:Value)(xs:List Int)(L0:List AF)(fn:FuncId)[Body prog fn](fi ca:List Value)(p:Int→Bool)(hv:Ints prog 3 L0 v xs)
  (hf:∀ x∈xs,Spec prog fn (fi++[.int .i64 x]++ca) L0 (fun r L=>r=.bool (p x)∧L=L0)):Spec prog 159 [v,.func (.func fn) fi.toArray ca.toArray] L0
  (fun r L=>r=.bool (xs.any p)∧L=L0):=by
 refine Spec.of 9 func159 rfl rfl rfl ?_
 refine A0 (As [0,1] rfl rfl (A0 (Ad rfl (Ad rfl (Aw (AA (R:=[]) (R5 v xs L0 fn fi ca p hv hf) rfl rfl (Split.all)) ?_)))))
 rintro v1 L1 ⟨⟨k,rfl,hk,hk1⟩,rfl⟩
 rw [List.append_nil]
 refine Ac (CA rfl rfl) (As [4] rfl rfl (Ar ?_))
 exact Aq _ (.tmp rfl .nil) ⟨congrArg Value.bool hk,rfl⟩ Split.all
def StepF (v:Value)(pre:List AF)(post:Int→List AF→Prop):Prop :=
 ∃ fn,Body prog fn∧∃ fi ca:List Value,v=.func (.func fn) fi.toArray ca.toArray∧Spec prog fn (fi++[]++ca) pre (fun r L=>∃ e,r=.int .i64 e∧post e L)
def JP:List Value→List AF→(Int→List AF→Prop)→Prop
 | [],pre,Q=>Q 0 pre
 | v::vs,pre,Q=>StepF v pre fun e L=>(e=0∧JP vs L Q)∨(e≠0∧Q e L)
theorem StepF.one{v:Value}{pre:List AF}{post:Int→List AF→Prop}(h:StepF v pre post):v.oneCell'=true:=by
 obtain ⟨fn,_,fi,ca,rfl,_⟩:=h; rfl
theorem JQ (g cap:Nat)(vs:List Value)(pre:List AF)(Q:Int→List AF→Prop)(hl:vs.length≤1000)(h:JP vs pre Q):Spec prog 143 [.slice (some ⟨g,0,none⟩) vs.length cap] (B1 g 34 vs::pre) (fun r L=>∃ e L',r=.int .i64 e∧Q e L'∧L=L'):=by
 refine Spec.of 18 func143 rfl rfl rfl ?_
 refine A0 (As [0] rfl rfl (Ae (A0 (Ad rfl (Ac (BI rfl) (Ad rfl (AE [6,7,8] rfl (Au ?_))))))))
 refine B0 (ι:=Nat×List AF) (fun x env L=>Sub env [(6,.slice (some ⟨g,0,none⟩) vs.length cap),(7,.int .i64 (vs.length:Nat)),(8,.int .i64 (x.1:Nat))]∧L=B1 g 34 vs::x.2∧x.1≤vs.length∧JP (vs.drop x.1) x.2 Q) (fun x=>vs.length-x.1) (0,pre) ⟨⟨rfl,rfl,rfl,trivial⟩,rfl,Nat.zero_le _,h⟩ ?_
 rintro ⟨i,L0⟩ env L ⟨hsub,rfl,hi,hq⟩
 dsimp only at hsub hi hq ⊢
 refine B3 _ hsub ?_
 clear hsub env
 refine A0 (Ac (Bb rfl rfl) (AE [6,7,8,9] rfl (Ae ?_)))
 refine Ak rfl (fun h9=>?_) (fun h9=>?_)
 ·have h9':i<vs.length:=by have:=of_decide_eq_true h9; omega
  obtain ⟨v,hv⟩:∃ v,vs[i]? = some v:=⟨_,List.getElem?_eq_getElem h9'⟩
  have hdr:vs.drop i=v::vs.drop (i+1):=by
   rw [List.drop_eq_getElem_cons h9']
   congr 1
   exact (List.getElem?_eq_some_iff.1 hv).2
  rw [hdr] at hq
  obtain ⟨fn,hb,fi,ca,rfl,hs⟩:=hq
  refine Am (Af (Ae (Au (A0 ?_))))
  refine Ac (AB (0+i*1) rfl rfl Ax Ax (by rw [Int.toNat_natCast])) ?_
  refine AJ (Dt rfl (by rw [Nat.zero_add,Nat.mul_one]; exact Kp hv)) ?_
  refine As [4,6,7,8] rfl rfl (A0 (Ad rfl (Aw (Gd (fi:=fi) (args:=[]) (ca:=ca) (R:=[B1 g 34 vs]) hs rfl rfl (Split.skip Split.all)) ?_)))
  rintro v13 L1 ⟨e,rfl,hp⟩
  refine BK (L':=B1 g 34 vs::L1) (Ent.perm (List.perm_append_comm (l₁:=L1))) (As [5,6,7,8] rfl rfl (A0 (Ad rfl (Ac (Bm rfl rfl) (AE [5,6,7,8,15] rfl ?_)))))
  refine Ak rfl (fun h15=>?_) (fun h15=>?_)
  ·refine A0 (Ad rfl (As [2] rfl rfl (Ar (B6 (AN (AN (B6 (AN ?_))))))))
   have h15':e≠0:=by simpa using h15
   have hp':Q e L1:=by
    rcases hp with ⟨h,_⟩ | ⟨_,h⟩
    ·exact absurd h h15'
    ·exact h
   exact Aq L1 (.tmp rfl .nil) ⟨e,L1,rfl,hp',rfl⟩ (Split.skip Split.all)
  ·refine Am (AR (Af (Al (Ac (AO ((i+1:Nat):Int) rfl rfl Ax Ax Ax) (Ad rfl (Be [6,7,8] rfl (AH ?_)))))))
   have h15':e=0:=by simpa using h15
   have hp':JP (vs.drop (i+1)) L1 Q:=by
    rcases hp with ⟨_,h⟩ | ⟨h,_⟩
    ·exact h
    ·exact absurd h15' h
   exact Af ⟨(i+1,L1),⟨⟨rfl,rfl,rfl,trivial⟩,rfl,h9',hp'⟩,by show vs.length-(i+1)<vs.length-i; omega⟩
 ·have h9':=of_decide_eq_false h9
  rw [List.drop_eq_nil_of_le Ax] at hq
  refine AY (AS (AS (AV rfl (Af (A0 (As [2] rfl rfl (Ar ?_)))))))
  exact Aq L0 (.tmp rfl .nil) ⟨0,L0,rfl,hq,rfl⟩ (Split.skip Split.all)
structure SW where
 q:Nat
 tv:Value
 cv:Value
 T:List (Value×List En)
 C:List (Value×Cm)
 dead:Bool
abbrev Zy (x:Value×List En):List Value:=[x.1]
abbrev Yw (x:Value×Cm):List Value:=[x.1,.int .i64 x.2.2]
abbrev A2i (W:SW):List Value:=[pv W.q,W.tv,W.cv,.bool W.dead]
abbrev Cy (p:Nat)(W:SW):AF:=B1 p 156 (A2i W)
abbrev Df (W:SW):AF:=own 27 1 W.tv W.T.length (W.T.flatMap Zy)
abbrev Dc (W:SW):AF:=own 88 2 W.cv W.C.length (W.C.flatMap Yw)
structure SW.Ok (μ:PH) (W:SW):Prop where
 tf:∃ A c,W.tv=.slice A W.T.length c
 cf:∃ A c,W.cv=.slice A W.C.length c
 tr:∀ x∈W.T,Row μ x.1 2 x.2.length (DC x.2)
 cr:∀ x∈W.C,Row μ x.1 1 x.2.1.length (x.2.1.flatMap (Bj .i64))
 tl:W.T.length≤65536
 cl:W.C.length≤65536
theorem SW.Ok.le{μ μ':PH}{W:SW}(h:W.Ok μ)(k:Le μ μ'):W.Ok μ':=⟨h.tf,h.cf,fun x hx=>(h.tr x hx).le k,fun x hx=>(h.cr x hx).le k,h.tl,h.cl⟩
def Fv (nT nC:Nat)(c:Cm):Bool:=decide (c.2<(nT:Int))&&!(c.1.any fun p=>decide ((nC:Int)≤p))
theorem R6 (b p:Nat)(W:SW)(A:Option Addr)(c:Nat)(h:W.cv=.slice A W.C.length c)(K:List AF)(x:Int):Spec prog 160 [.int .i64 x,pv b] (B1 b 39 [pv p]::Cy p W::K) (fun r L=>r=.bool (decide ((W.C.length:Int)≤x))∧L=B1 b 39 [pv p]::Cy p W::K):=by
 obtain ⟨q,tv,cv,T,C,dead⟩:=W
 dsimp only at h
 subst h
 refine Spec.of 11 func160 rfl rfl rfl ?_
 refine A0 (As [0,1] rfl rfl (A0 (Ad rfl (AJ (Ag rfl rfl) (Ac (Ah rfl) (Ac (Ab rfl) (AJ (Ag rfl rfl) (Ac (BI rfl) (Ac (CA rfl rfl) (As [3] rfl rfl (Ar ?_)))))))))))
 exact Aq _ (.tmp rfl .nil) ⟨rfl,rfl⟩ Split.all
set_option maxHeartbeats 2000000 in
theorem Nc (μ:PH)(p:Nat)(W:SW)(hW:W.Ok μ)(pvv:Value)(c:Cm)(h:Row μ pvv 1 c.1.length (c.1.flatMap (Bj .i64))):Spec prog 90 [pv p,cmV pvv c.2] [Cy p W,ro μ] (fun r L=>r=.bool (Fv W.T.length W.C.length c)∧L=[Cy p W,ro μ]):=by
 obtain ⟨⟨A1,c1,e1⟩,⟨A2,c2,e2⟩,_,_,_,_⟩:=hW
 have hk1:=fun b x=>R6 b p W A2 c2 e2 [ro μ] x
 obtain ⟨q,tv,cv,T,C,dead⟩:=W
 dsimp only at e1 e2
 subst e1 e2
 refine Spec.of 20 func90 rfl rfl rfl ?_
 refine A0 (Aw (Bi rfl rfl) (fun b2=>?_))
 refine Aw (Bi rfl rfl) fun b3=>?_
 refine As [2,3] rfl rfl (Ae ?_)
 refine Ba [1,2,5,10] _ [] (by simp only [List.append_nil]; exact Ent.refl _) AK ?_
 refine AD 0 rfl (Ab rfl) (Bc 1 rfl (Ag rfl rfl) rfl (Bc 2 rfl (Ag rfl rfl) rfl (AD 3 rfl (Ah rfl) (AD 4 rfl (Ab rfl) (Bc 5 rfl (Ag rfl rfl) rfl (AD 6 rfl (BI rfl) (AD 7 rfl (Bb rfl rfl) (AD 8 rfl (AG rfl) ?_))))))))
 refine DH 13 rfl (fun h13=>?_) (fun h13=>?_)
 ·refine Bh 9 rfl rfl rfl (Ab rfl) AK AK AK (CJ 10 rfl rfl rfl (Ag rfl rfl) rfl AK AK AK (Bh 11 rfl rfl rfl (C9 (vs:=[]) (us:=[_]) rfl rfl) AK AK AK (FG [12] AK rfl ?_)))
  refine Pk 12 rfl (GOn.some rfl rfl) AK (AA (Nb pvv c.1 [B1 b2 39 [pv p],Cy p ⟨q,.slice A1 T.length c1,.slice A2 C.length c2,T,C,dead⟩,ro μ] 160 [] [pv b2] (fun x=>decide ((C.length:Int)≤x)) (Ints.row h) (fun x _=>hk1 b2 x)) rfl rfl AC) ?_
  rintro v17 L1 ⟨rfl,rfl⟩
  refine Cc (Bh 13 rfl rfl rfl (BO rfl) AK AK AK (AD 14 rfl (B4 rfl rfl) (AD 15 rfl (Bl rfl) (C0 [4] rfl (Bs AK (Af (Ar ?_)))))))
  refine Aq [Cy p ⟨q,_,_,T,C,dead⟩,ro μ] (.tmp rfl .nil) ⟨?_,rfl⟩ AC
  unfold Fv
  rw [h13]
  rfl
 ·refine Cn 9 rfl rfl rfl rfl AK AK AK (Cn 10 rfl rfl rfl rfl AK AK AK (Cn 11 rfl rfl rfl rfl AK AK AK (Cn 12 rfl rfl rfl rfl AK AK AK (Cn 13 rfl rfl rfl rfl AK AK AK (AD 14 rfl (AT rfl rfl) (AD 15 rfl (Bl rfl) (C0 [4] rfl (DL AK (Af (Ar ?_))))))))))
  refine Aq [Cy p ⟨q,_,_,T,C,dead⟩,ro μ] (.tmp rfl .nil) ⟨?_,rfl⟩ AC
  unfold Fv
  rw [h13]
  rfl
abbrev Lk:Type:=Nat×Nat×Nat
abbrev Er (x:Lk):List Value:=[.int .i64 (x.1:Nat),.int .i64 (x.2.1:Nat),.int .u32 (x.2.2:Nat)]
theorem Nf {μ:PH}{v:Value}{l:List Lk}(h:Row μ v 3 l.length (l.flatMap Er)){i:Nat}{x:Lk}(hi:l[i]? = some x):∃ b off cap,v=.slice (some ⟨b,off,none⟩) l.length cap∧RowAt μ b (off+i*3) (Er x):=by
 have hl:=(List.getElem?_eq_some_iff.1 hi).1
 obtain ⟨b,off,cap,hv,_,_,hr⟩:=h.pos Ax
 exact ⟨b,off,cap,hv,hr.elem (f:=Er) (n:=3) (fun _=>rfl) hi⟩
theorem J9 (n:Int):Spec prog 165 [.int .i64 n] [] (fun r L=>r=.bool (decide (0≤n)&&decide (n≤1073741824))∧L=[]):=by
 refine Spec.of 9 func165 rfl rfl rfl ?_
 refine A0 (As [0] rfl rfl (A0 (Ad rfl (Ac (Ff rfl rfl) (Ad rfl ?_)))))
 refine B7 5 rfl (fun h5=>?_) (fun h5=>?_)
 ·refine AQ rfl rfl (Ad rfl (AQ rfl rfl (Ac (Ff rfl rfl) (Ac (B4 rfl rfl) (As [2] rfl rfl (Ar ?_))))))
  exact Aq [] (.tmp rfl .nil) ⟨by rw [h5]; rfl,rfl⟩ AC
 ·refine AI rfl rfl rfl (AI rfl rfl rfl (Ac (AT rfl rfl) (As [2] rfl rfl (Ar ?_))))
  exact Aq [] (.tmp rfl .nil) ⟨by rw [h5]; rfl,rfl⟩ AC
def BB (l:List Lk):Nat:=(l.map (·.2.1)).sum
theorem GO {l:List Lk}{i:Nat}{x:Lk}(h:l[i]? = some x):BB (l.take (i+1))=BB (l.take i)+x.2.1:=by
 unfold BB
 rw [List.take_add_one,h,List.map_append,List.sum_append]
 simp
theorem Ja {l:List Lk}(i:Nat):BB (l.take i)≤BB l:=by
 have:BB l=BB (l.take i)+BB (l.drop i):=by
  unfold BB
  rw [← List.sum_append,← List.map_append,List.take_append_drop]
 omega
def Lks (L:List AF)(v:Value)(l:List Lk):Prop:=∃ A cap,v=.slice A l.length cap∧l.length≤9223372036854775807∧(0<l.length→∃ b off,A=some ⟨b,off,none⟩∧∀ (j:Nat) (x:Lk),l[j]? = some x→Ld prog L 161 ⟨b,off+j*3,none⟩ (.agg (Er x).toArray))
theorem Lks.row{μ:PH}{v:Value}{l:List Lk}{L:List AF}[InR L μ](h:Row μ v 3 l.length (l.flatMap Er)):Lks L v l:=by
 obtain ⟨A,cap,hv⟩:=h.sl
 refine ⟨A,cap,hv,h.small,fun h0=>?_⟩
 obtain ⟨b,off,cap',hv',c1,c2,hr⟩:=h.pos h0
 subst hv
 injection hv' with e1 _ _
 exact ⟨b,off,e1,fun j x hx=>Xo rfl (hr.elem (f:=Er) (n:=3) (fun _=>rfl) hx)⟩
theorem R7 (L0:List AF)(v:Value)(l:List Lk)(h:Lks L0 v l)(ht:BB l≤1073741824):Spec prog 62 [v] L0 (fun r L=>r=.int .i64 (BB l:Nat)∧L=L0):=by
 obtain ⟨A,cap,rfl,hsm,hld⟩:=h
 refine Spec.of 18 func62 rfl rfl rfl ?_
 refine A0 (As [0] rfl rfl (A0 (As [0,3] rfl rfl (Ae (A0 (Ad rfl (Ac (BI rfl) (Ad rfl (AE [3,6,7,8] rfl (Au ?_))))))))))
 refine B0 (ι:=Nat) (fun i env L=>Sub env [(3,.int .i64 (BB (l.take i):Nat)),(6,.slice A l.length cap),(7,.int .i64 (l.length:Nat)),(8,.int .i64 (i:Nat))]∧L=L0∧i≤l.length) (fun i=>l.length-i) 0 ⟨⟨rfl,rfl,rfl,rfl,trivial⟩,rfl,Nat.zero_le _⟩ ?_
 rintro i env L ⟨hsub,rfl,hi⟩
 refine B3 _ hsub ?_
 clear hsub env
 refine A0 (Ac (Bb rfl rfl) (AE [3,6,7,8,9] rfl (Ae ?_)))
 refine Ak rfl (fun h9=>?_) (fun h9=>?_)
 ·have h9':i<l.length:=by have:=of_decide_eq_true h9; omega
  obtain ⟨x,hx⟩:∃ x,l[i]? = some x:=⟨_,List.getElem?_eq_getElem h9'⟩
  obtain ⟨b,off,rfl,hl⟩:=hld Ax
  have hs:=GO hx
  have hle:=Ja (l:=l) (i+1)
  refine Am (Af (Ae (Au (A0 ?_))))
  refine Ac (AB (off+i*3) rfl rfl Ax Ax (by rw [Int.toNat_natCast])) ?_
  refine AJ (Dt rfl (hl i x hx)) (Aw (AZ) (fun b5=>?_))
  refine B5 (AU rfl rfl rfl rfl) (AE [3,5,6,7,8] rfl (Al (Ad rfl (Ac (Ab rfl) (AJ (Ag rfl rfl) (Ac (AO ((BB (l.take (i+1)):Nat):Int) rfl rfl Ax Ax Ax) (AX rfl (Be [3,6,7,8] rfl (AH (AR (Af (AP Ent.drop (Al (Ac (AO ((i+1:Nat):Int) rfl rfl Ax Ax Ax) (Ad rfl (Be [3,6,7,8] rfl (AH ?_)))))))))))))))))
  exact Af ⟨i+1,⟨⟨rfl,rfl,rfl,rfl,trivial⟩,rfl,h9'⟩,by omega⟩
 ·have h9':=of_decide_eq_false h9
  obtain rfl:i=l.length:=by omega
  rw [List.take_length]
  refine AY (AS (AS (AV rfl (Af (A0 (Ad rfl (As [2] rfl rfl (Ar ?_))))))))
  exact Aq L (.tmp rfl .nil) ⟨rfl,rfl⟩ Split.all
theorem SR (μ:PH)(v:Value)(l:List Lk)(h:Row μ v 3 l.length (l.flatMap Er))(ht:BB l≤1073741824):Spec prog 62 [v] [ro μ] (fun r L=>r=.int .i64 (BB l:Nat)∧L=[ro μ]):=R7 [ro μ] v l (.row h) ht
theorem R8 (μ:PH)(v:Value)(l:List Lk)(K:List AF)(fn:FuncId)[Body prog fn](fi ca:List Value)(p:Lk→Bool)(h:Row μ v 3 l.length (l.flatMap Er))
  (hf:∀ x∈l,Spec prog fn (fi++[.agg (Er x).toArray]++ca) (ro μ::K) (fun r L=>r=.bool (p x)∧L=ro μ::K)):Spec prog 104 [v,.func (.func fn) fi.toArray ca.toArray] (ro μ::K) (fun r L=>r=.bool (l.any p)∧L=ro μ::K):=by
 have hidx:Spec prog 182 [v,.func (.func fn) fi.toArray ca.toArray] (ro μ::K) (fun r L=>(∃ k:Int,r=.int .i64 k∧(decide (0≤k)=l.any p))∧L=ro μ::K):=by
  have hsm:=h.small
  refine Spec.of 19 func182 rfl rfl rfl ?_
  refine A0 (As [0,1] rfl rfl (Ae (A0 (Ad rfl (Ac (B2 h rfl) (Ad rfl (AE [0,1,7,8] rfl (Au ?_))))))))
  refine B0 (ι:=Nat) (fun i env L=>Sub env [(0,v),(1,.func (.func fn) fi.toArray ca.toArray),(7,.int .i64 (l.length:Nat)),(8,.int .i64 (i:Nat))]∧L=ro μ::K∧i≤l.length∧∀ y∈l.take i,p y=false) (fun i=>l.length-i) 0 ⟨⟨rfl,rfl,rfl,rfl,trivial⟩,rfl,Nat.zero_le _,fun y hy=>by simp at hy⟩ ?_
  rintro i env L ⟨hsub,rfl,hi,hno⟩
  refine B3 _ hsub ?_
  clear hsub env
  refine A0 (Ac (Bb rfl rfl) (AE [0,1,7,8,9] rfl (Ae ?_)))
  refine Ak rfl (fun h9=>?_) (fun h9=>?_)
  ·have h9':i<l.length:=by have:=of_decide_eq_true h9; omega
   obtain ⟨x,hx⟩:∃ x,l[i]? = some x:=⟨_,List.getElem?_eq_getElem h9'⟩
   obtain ⟨b,off,cap,hv,hr⟩:=Nf h hx
   refine Am (Af (Ae (Au (A0 (Ad rfl (As [0,1,5,7,8] rfl rfl (A0 (Ad rfl (Ad rfl (Ad rfl ?_))))))))))
   refine Ac (AB (off+i*3) (congrArg some hv) rfl Ax Ax (by rw [Int.toNat_natCast])) ?_
   refine AJ (CZ (vs:=Er x) rfl rfl hr) (Aw (Gd (R:=[]) (hf x (List.mem_of_getElem? hx)) rfl rfl (Split.all)) ?_)
   rintro v1 L1 ⟨rfl,rfl⟩
   rw [List.append_nil]
   refine AE [0,1,5,7,8,16] rfl ?_
   refine Ak rfl (fun h16=>?_) (fun h16=>?_)
   ·refine A0 (Ad rfl (As [4] rfl rfl (Ar (B6 (AN (AN (B6 (AN ?_))))))))
    exact Aq _ (.tmp rfl .nil) ⟨⟨i,rfl,by rw [decide_eq_true Ax]; exact (List.any_eq_true.2 ⟨x,List.mem_of_getElem? hx,h16⟩).symm⟩,rfl⟩ Split.all
   ·refine Am (AR (Af (Al (Ac (AO ((i+1:Nat):Int) rfl rfl Ax Ax Ax) (Ad rfl (Be [0,1,7,8] rfl (AH ?_)))))))
    exact Af ⟨i+1,⟨⟨rfl,rfl,rfl,rfl,trivial⟩,rfl,h9',fun y hy=>by
     rw [List.take_add_one,hx] at hy
     rcases List.mem_append.1 hy with hy | hy
     ·exact hno y hy
     ·obtain rfl:y=x:=by simpa using hy
      exact h16⟩,by omega⟩
  ·have h9':=of_decide_eq_false h9
   obtain rfl:i=l.length:=by omega
   refine AY (AS (AS (AV rfl (Af (A0 (As [4] rfl rfl (Ar ?_)))))))
   refine Aq _ (.tmp rfl .nil) ⟨⟨-1,rfl,?_⟩,rfl⟩ Split.all
   rw [List.take_length] at hno
   rw [decide_eq_false Ax]
   symm
   rw [List.any_eq_false]
   exact fun x hx=>by rw [hno x hx]; simp
 refine Spec.of 9 func104 rfl rfl rfl ?_
 refine A0 (As [0,1] rfl rfl (A0 (Ad rfl (Ad rfl (Aw (AA (R:=[]) hidx rfl rfl (Split.all)) ?_)))))
 rintro v1 L1 ⟨⟨k,rfl,hk⟩,rfl⟩
 rw [List.append_nil]
 refine Ac (CA rfl rfl) (As [4] rfl rfl (Ar ?_))
 exact Aq _ (.tmp rfl .nil) ⟨congrArg Value.bool hk,rfl⟩ Split.all
structure LkOk (l:List Lk):Prop where
 len:l.length≤8
 one:∀ x∈l,x.1≤1073741823∧1≤x.2.1∧x.2.1≤65536∧x.2.2<4294967296
 nod:(l.map (·.1)).Nodup
 tot:BB l≤65536
theorem VE (x y:Lk)(b:Nat)(A:AF)(K:List AF):Spec prog 234 [.agg (Er y).toArray,pv b] (A::B1 b 161 (Er x)::K) (fun r L=>r=.bool (decide (y.1=x.1))∧L=A::B1 b 161 (Er x)::K):=by
 refine Spec.of 9 func234 rfl rfl rfl ?_
 refine A0 (Aw (Bi rfl rfl) (fun b2=>?_))
 refine As [1,2] rfl rfl (A0 (Ac (Ab rfl) (AJ (Ag rfl rfl) (Ac (Ab rfl) (AJ (Ag rfl rfl) (Ac (Bp rfl rfl) (As [3] rfl rfl (Ar ?_))))))))
 refine Aq _ (.tmp rfl .nil) ⟨?_,rfl⟩ (Split.skip Split.all)
 show Value.bool _=Value.bool _
 congr 1
 exact decide_eq_decide.2 Ax
theorem LkOk.no{l:List Lk}(h:LkOk l){i:Nat}{x:Lk}(hx:l[i]? = some x):(l.take i).any (fun y=>decide (y.1=x.1))=false:=by
 rw [List.any_eq_false]
 intro y hy hh
 have he:y.1=x.1:=by simpa using hh
 obtain ⟨j,hj⟩:=List.getElem?_of_mem hy
 have hjl:=(List.getElem?_eq_some_iff.1 hj).1
 rw [List.length_take] at hjl
 rw [List.getElem?_take_of_lt Ax] at hj
 have h1:(l.map (·.1))[j]? = some x.1:=by rw [List.getElem?_map,hj,← he]; rfl
 have h2:(l.map (·.1))[i]? = some x.1:=by rw [List.getElem?_map,hx]; rfl
 have:=(List.getElem?_inj (by rw [List.length_map]; have:=(List.getElem?_eq_some_iff.1 hj).1; omega) h.nod).1 (h1.trans h2.symm)
 omega
theorem Ub {μ:PH}{A:Option Addr}{cap:Nat}{l:List Lk}(h:Row μ (.slice A l.length cap) 3 l.length (l.flatMap Er)){i:Nat}(hi:i≤l.length):Row μ (.slice A i cap) 3 (l.take i).length ((l.take i).flatMap Er):=by
 obtain ⟨e0,A',c',e1,e2,e3,e4,e5⟩:=h
 cases e1
 have hl:(l.take i).length=i:=by rw [List.length_take]; omega
 rw [hl]
 refine ⟨by rw [Ca (f:=Er) (k:=3) (fun _=>rfl),hl],A,cap,rfl,by omega,e3,e4,fun h0=>?_⟩
 obtain ⟨b,off,rfl,hr⟩:=e5 Ax
 refine ⟨b,off,rfl,fun j u hj=>?_⟩
 have hs:l.flatMap Er=(l.take i).flatMap Er++(l.drop i).flatMap Er:=by rw [← List.flatMap_append,List.take_append_drop]
 have hjl:=(List.getElem?_eq_some_iff.1 hj).1
 exact hr j u (by rw [hs,List.getElem?_append_left hjl]; exact hj)
set_option maxHeartbeats 2000000 in
theorem Ng (μ:PH)(v:Value)(l:List Lk)(h:Row μ v 3 l.length (l.flatMap Er))(hok:LkOk l):Spec prog 141 [v] [ro μ] (fun r L=>r=.int .i64 0∧L=[ro μ]):=by
 obtain ⟨A,cap,hv0⟩:=h.sl
 subst hv0
 have hcap:l.length≤cap:=by obtain ⟨_,_,_,he,hh,_⟩:=h; cases he; exact hh
 have hl8:=hok.len
 refine Spec.of 44 func141 rfl rfl rfl ?_
 refine A0 (As [0] rfl rfl (Ae (A0 (Ad rfl (Ac (BI rfl) (Ac (BA rfl rfl) (AE [0,7] rfl ?_)))))))
 refine Ak rfl (fun h7=>by have:=of_decide_eq_true h7; omega) (fun h7=>?_)
 refine Am (Af (Ae (A0 (Ad rfl (Ac (BI rfl) (Ad rfl (AE [0,8,9,10] rfl (Au ?_))))))))
 refine B0 (ι:=Nat) (fun i env L=>Sub env [(0,.slice A l.length cap),(8,.slice A l.length cap),(9,.int .i64 (l.length:Nat)),(10,.int .i64 (i:Nat))]∧Ent L [ro μ]∧i≤l.length) (fun i=>l.length-i) 0 ⟨⟨rfl,rfl,rfl,rfl,trivial⟩,Ent.refl _,Nat.zero_le _⟩ ?_
 rintro i env L ⟨hsub,hE,hi⟩
 refine B3 _ hsub (AP hE ?_)
 clear hsub hE env L
 refine A0 (Ac (Bb rfl rfl) (AE [0,8,9,10,11] rfl (Ae ?_)))
 refine Ak rfl (fun h11=>?_) (fun h11=>?_)
 ·have h11':i<l.length:=by have:=of_decide_eq_true h11; omega
  obtain ⟨x,hx⟩:∃ x,l[i]? = some x:=⟨_,List.getElem?_eq_getElem h11'⟩
  obtain ⟨b,off,c2,hv,hr⟩:=Nf h hx
  obtain ⟨o1,o2,o3,o4⟩:=hok.one x (List.mem_of_getElem? hx)
  have hno:=hok.no hx
  have htl:=Ja (l:=l) (i+1)
  have htt:=hok.tot
  refine Am (Af (Ae (Au (A0 (Ad rfl ?_)))))
  refine Ac (AB (off+i*3) (congrArg some hv) rfl Ax Ax (by rw [Int.toNat_natCast])) ?_
  refine AJ (CZ (vs:=Er x) rfl rfl hr) (Aw (AZ) (fun b4=>?_))
  refine AX rfl (B5 (AU rfl rfl rfl rfl) (AE [0,3,4,8,9,10] rfl (Au (A0 (Ac (Ab rfl) (AJ (Ag rfl rfl) ?_))))))
  refine Aw (AA (J9 (x.1:Nat)) rfl rfl AC) ?_
  rintro v18 L1 ⟨rfl,rfl⟩
  refine Aj (Ac (BO rfl) (Ad rfl ?_))
  refine B7 20 rfl (fun h20=>by rw [decide_eq_true Ax,decide_eq_true Ax] at h20; cases h20) (fun h20=>?_)
  refine AQ rfl rfl (Ac (Ab rfl) (AQ rfl rfl (AJ (Ag rfl rfl) (AQ rfl rfl (Ac (Bb rfl rfl) (Ac (AT rfl rfl) (Ad rfl ?_)))))))
  refine B7 25 rfl (fun h25=>by have:=of_decide_eq_true h25; omega) (fun h25=>?_)
  refine AQ rfl rfl (Ac (Ab rfl) (AQ rfl rfl (AJ (Ag rfl rfl) (AQ rfl rfl (Ac (BA rfl rfl) (Ac (AT rfl rfl) (As [0,3,4,8,9,10,15] rfl rfl ?_)))))))
  refine Ak rfl (fun h15=>by have:=of_decide_eq_true h15; omega) (fun h15=>?_)
  refine A0 (Ad rfl (Ad rfl (Ac (DB i rfl rfl rfl Ax) (Ac (C9 (vs:=[]) (us:=[_]) rfl rfl) ?_))))
  refine Aw (AA (R8 μ (.slice A i cap) (l.take i) [B1 b4 161 (Er x)] 234 [] [pv b4] (fun y=>decide (y.1=x.1)) (Ub h Ax) (fun y _=>VE x y b4 (ro μ) [])) rfl rfl AC) ?_
  rintro v35 L1 ⟨rfl,rfl⟩
  rw [hno]
  refine Aj (As [0,3,8,9,10,30] rfl rfl (Dz rfl (A0 (Ad rfl (Ad rfl (Ac (AO ((i+1:Nat):Int) rfl rfl Ax Ax Ax) (Ac (DB (i+1) rfl rfl rfl Ax) ?_)))))))
  refine Aw (AA (SR μ (.slice A (i+1) cap) (l.take (i+1)) (Ub h Ax) Ax) rfl rfl AC) ?_
  rintro v41 L1 ⟨rfl,rfl⟩
  refine Aj (Ac (BA rfl rfl) (As [0,8,9,10,36] rfl rfl ?_))
  refine Ak rfl (fun h36=>by have:=of_decide_eq_true h36; omega) (fun h36=>?_)
  refine Am (AR (AR (Af (Al (Ac (AO ((i+1:Nat):Int) rfl rfl Ax Ax Ax) (Ad rfl (Be [0,8,9,10] rfl (AH ?_))))))))
  exact Af ⟨i+1,⟨⟨rfl,rfl,rfl,rfl,trivial⟩,Split.ent' AC,h11'⟩,by omega⟩
 ·refine AY (AS (AS (AV rfl (Af (A0 (As [2] rfl rfl (Ar ?_)))))))
  exact Aq [ro μ] (.tmp rfl .nil) ⟨rfl,rfl⟩ AC
def GQ (x:Lk):List UInt8:=Bf 4 x.1++(Bf 4 x.2.1++Bf 4 x.2.2)
abbrev GZ:List UInt8:=[80,68,71,77,1]
def D3 (l:List Lk):List UInt8:=GZ++Bf 1 l.length++l.flatMap GQ
def C8 (l:List Lk):List UInt8:=D3 l++Bf 4 (E2 (D3 l))
theorem VF (x:Lk):(GQ x).length=12:=by unfold GQ; simp only [List.length_append,Br]
theorem Nh (l:List Lk):(l.flatMap GQ).length=12*l.length:=by
 induction l with
 | nil=>rfl
 | cons x l ih=>rw [List.flatMap_cons,List.length_append,VF,ih,List.length_cons]; omega
theorem JR (l:List Lk):(D3 l).length=6+12*l.length:=by
 unfold D3
 rw [List.length_append,List.length_append,Br,Nh]
 show 5+1+_=_
 omega
theorem HO (l:List Lk):(C8 l).length=10+12*l.length:=by unfold C8; rw [List.length_append,JR,Br]; omega
set_option maxHeartbeats 4000000 in
theorem SS (μ:PH)(v:Value)(l:List Lk)(h:Row μ v 3 l.length (l.flatMap Er))(hok:LkOk l):Spec prog 96 [v] [ro μ] (fun r L=>r=.tuple #[.string (str (C8 l)),.int .i64 0]∧L=[ro μ]):=by
 have hl8:=hok.len
 have hcb:=JR l
 have hce:=HO l
 refine Spec.of 50 func96 rfl rfl rfl ?_
 refine A0 (AX rfl (As [0] rfl rfl (Ae (A0 (Ad rfl ?_)))))
 refine Aw (AA (Ng μ v l h hok) rfl rfl AC) ?_
 rintro v9 L1 ⟨rfl,rfl⟩
 refine Aj (As [0,4] rfl rfl (A0 (Ad rfl (Ac (Bm rfl rfl) (AE [0,4,11] rfl (Dz rfl (Am (Af (A0 ?_)))))))))
 refine Aw (AA Dy rfl rfl AC) ?_
 rintro v13 L1 ⟨p,rfl,rfl⟩
 refine Aj (As [0,5] rfl rfl (A0 (Ad rfl ?_)))
 refine Aw (AA (Fu p [] GZ (by decide) (by decide)) rfl rfl AC) ?_
 rintro v15 L1 ⟨rfl,rfl⟩
 refine Aj (AE [0,5] rfl (A0 (Ad rfl (Ad rfl (Ac (B2 h rfl) (Ac (C6 rfl (E5 Ax)) ?_))))))
 refine Aw (AA (EV p l.length ([]++GZ) Ax (by decide)) rfl rfl AC) ?_
 rintro v20 L1 ⟨rfl,rfl⟩
 refine Aj (AE [0,5] rfl (Ae (A0 (Ad rfl (Ac (B2 h rfl) (Ad rfl (AE [5,21,22,23] rfl (Au ?_))))))))
 rw [List.nil_append]
 refine B0 (ι:=Nat) (fun i env L=>Sub env [(5,pv p),(21,v),(22,.int .i64 (l.length:Nat)),(23,.int .i64 (i:Nat))]∧Ent L [EL p (GZ++Bf 1 l.length++(l.take i).flatMap GQ),ro μ]∧i≤l.length) (fun i=>l.length-i) 0 ⟨⟨rfl,rfl,rfl,rfl,trivial⟩,by rw [List.take_zero,List.flatMap_nil,List.append_nil]; exact Split.ent' AC,Nat.zero_le _⟩ ?_
 rintro i env L ⟨hsub,hE,hi⟩
 refine B3 _ hsub (AP hE ?_)
 clear hsub hE env L
 have hbl:(GZ++Bf 1 l.length++(l.take i).flatMap GQ).length≤200:=by
  rw [List.length_append,List.length_append,Br,Nh,List.length_take]
  show 5+1+_≤200
  omega
 generalize hB:GZ++Bf 1 l.length++(l.take i).flatMap GQ=B at *
 refine A0 (Ac (Bb rfl rfl) (AE [5,21,22,23,24] rfl (Ae ?_)))
 refine Ak rfl (fun h24=>?_) (fun h24=>?_)
 ·have h24':i<l.length:=by have:=of_decide_eq_true h24; omega
  obtain ⟨x,hx⟩:∃ x,l[i]? = some x:=⟨_,List.getElem?_eq_getElem h24'⟩
  obtain ⟨b,off,c2,hv,hr⟩:=Nf h hx
  obtain ⟨o1,o2,o3,o4⟩:=hok.one x (List.mem_of_getElem? hx)
  refine Am (Af (Ae (Au (A0 ?_))))
  refine Ac (AB (off+i*3) (congrArg some hv) rfl Ax Ax (by rw [Int.toNat_natCast])) ?_
  refine AJ (CZ (vs:=Er x) rfl rfl hr) (Aw (AZ) (fun b7=>?_))
  refine B5 (AU rfl rfl rfl rfl) (AE [5,7,21,22,23] rfl (A0 (Ad rfl (Ac (Ab rfl) (AJ (Ag rfl rfl) (Ac (C6 rfl (Ft Ax)) ?_))))))
  refine Aw (AA (Ch p x.1 B Ax Ax) rfl rfl AC) ?_
  rintro v31 L1 ⟨rfl,rfl⟩
  refine Aj (AE [5,7,21,22,23] rfl (A0 (Ad rfl (Ac (Ab rfl) (AJ (Ag rfl rfl) (Ac (C6 rfl (Ft Ax)) ?_))))))
  refine Aw (AA (Ch p x.2.1 (B++Bf 4 x.1) Ax (by rw [List.length_append,Br]; omega)) rfl rfl AC) ?_
  rintro v36 L1 ⟨rfl,rfl⟩
  refine Aj (AE [5,7,21,22,23] rfl (Al (Ad rfl (Ac (Ab rfl) (AJ (Ag rfl rfl) ?_)))))
  refine Aw (AA (Ch p x.2.2 (B++Bf 4 x.1++Bf 4 x.2.1) Ax (by rw [List.length_append,List.length_append,Br,Br]; omega)) rfl rfl AC) ?_
  rintro v40 L1 ⟨rfl,rfl⟩
  refine Aj (Be [5,21,22,23] rfl (AH (AR (Af (Al (Ac (AO ((i+1:Nat):Int) rfl rfl Ax Ax Ax) (Ad rfl (Be [5,21,22,23] rfl (AH ?_)))))))))
  refine Af ⟨i+1,⟨⟨rfl,rfl,rfl,rfl,trivial⟩,?_,h24'⟩,by omega⟩
  have e:GZ++Bf 1 l.length++(l.take (i+1)).flatMap GQ=B++Bf 4 x.1++Bf 4 x.2.1++Bf 4 x.2.2:=by
   rw [List.take_add_one,hx,List.flatMap_append,← List.append_assoc,hB]
   simp only [Option.toList_some,List.flatMap_cons,List.flatMap_nil,List.append_nil,List.append_assoc]
   rfl
  rw [e]
  exact Split.ent' AC
 ·have h24':=of_decide_eq_false h24
  obtain rfl:i=l.length:=by omega
  rw [List.take_length] at hB
  obtain rfl:B=D3 l:=hB.symm
  refine AY (AS (AS (AV rfl (Af (A0 (Ad rfl (Ad rfl ?_)))))))
  refine Aw (AA (E7 p (D3 l) (fun e=>by rw [e,List.length_nil] at hcb; omega)) rfl rfl AC) ?_
  rintro v44 L1 ⟨rfl,rfl⟩
  refine Aj (Aw (Bg (qs:=[(0,_)]) rfl rfl rfl) (fun b45=>?_))
  refine Aw (AA (EU b45 1 (str (D3 l)) (by rw [CO]; omega)) rfl rfl AC) ?_
  rintro v46 L1 ⟨rfl,rfl⟩
  refine Aj ?_
  refine Aw (AA (Ch p (E2 (D3 l)) (D3 l) (GH _) Ax) rfl rfl AC) ?_
  rintro v47 L1 ⟨rfl,rfl⟩
  refine Aj (AE [5] rfl (Ae ?_))
  rw [show D3 l++Bf 4 (E2 (D3 l))=C8 l from rfl]
  refine Al (Ad rfl ?_)
  refine Aw (AA (E7 p (C8 l) (fun e=>by rw [e,List.length_nil] at hce; omega)) rfl rfl AC) ?_
  rintro v49 L1 ⟨rfl,rfl⟩
  refine Aj (AX rfl (As [2,3] rfl rfl (Ar ?_)))
  exact Aq [ro μ] (.tmp rfl (.tmp rfl .nil)) ⟨rfl,rfl⟩ AC
def CL (l:List Lk):Nat:=l.foldl (fun m x=>max m (x.1+1)) 0
theorem ST {l:List Lk}{i:Nat}{x:Lk}(h:l[i]? = some x):CL (l.take (i+1))=max (CL (l.take i)) (x.1+1):=by
 unfold CL
 rw [List.take_add_one,h,List.foldl_append]; rfl
theorem Yx {l:List Lk}{m:Nat}(h:∀ x∈l,x.1<m):CL l≤m:=by
 have:∀ (k:List Lk) (a:Nat),a≤m→(∀ x∈k,x.1<m)→k.foldl (fun m x=>max m (x.1+1)) a≤m:=by
  intro k
  induction k with
  | nil=>intro a ha _; exact ha
  | cons y k ih=>intro a ha hk; exact ih _ (by have:=hk y (List.mem_cons_self ..); show max a (y.1+1)≤m; omega) fun x hx=>hk x (List.mem_cons_of_mem _ hx)
 exact this l 0 (Nat.zero_le _) h
theorem Kh {l:List Lk}{x:Lk}(h:x∈l):x.1<CL l:=by
 have:∀ (k:List Lk) (a:Nat),a≤k.foldl (fun m x=>max m (x.1+1)) a∧∀ x∈k,x.1<k.foldl (fun m x=>max m (x.1+1)) a:=by
  intro k
  induction k with
  | nil=>intro a; exact ⟨Nat.le_refl _,fun x hx=>by cases hx⟩
  | cons y k ih =>
   intro a
   obtain ⟨h1,h2⟩:=ih (max a (y.1+1))
   refine ⟨by show a≤_; rw [List.foldl_cons]; omega,fun x hx=>?_⟩
   rw [List.foldl_cons]
   rcases List.mem_cons.1 hx with rfl | hx
   ·omega
   ·exact h2 x hx
 exact (this l 0).2 x h
theorem Ni {κ:Type}[DecidableEq κ]{P:Program}{env:CQ}{L:List AF}{t kt et b c:Nat}{kv:κ→Value}{l:BQ κ}{z v:Value}[hm:TMap P t kt et][hk:TKey P kt kv][hz:TZv P et z]{m x:Operand}[hb:InM b L kv l c](a:κ)(hx:AM env m=some (.map (some b)))(hy:AM env x=some (kv a))(h:(Cd l a).getD z=v):Rd P env L (.lookup t m x false) v :=
 h▸Qy a hx hy
set_option maxHeartbeats 2000000 in
theorem SU (μ:PH)(v:Value)(l:List Lk)(h:Row μ v 3 l.length (l.flatMap Er))(hok:LkOk l):Spec prog 93 [v] [ro μ] (fun r L=>r=.int .i64 (CL l:Nat)∧L=[ro μ]):=by
 have hl8:=hok.len
 have hnl:CL l≤1073741824:=Yx fun x hx=>by have:=(hok.one x hx).1; omega
 refine Spec.of 38 func93 rfl rfl rfl ?_
 refine A0 (As [0] rfl rfl (A0 (Aw (Fj (kv:=Mu)) (fun b7=>?_))))
 refine As [0,3] rfl rfl (A0 (As [0,3,4] rfl rfl (Ae (A0 (Ad rfl (Ac (B2 h rfl) (Ad rfl (AE [3,4,8,9,10] rfl (Au ?_)))))))))
 refine B0 (ι:=Nat) (fun i env L=>∃ (ents:BQ Int) (clk:Nat),(∀ a,∃ c:Nat,(Cd ents a).getD (.int .i64 0)=.int .i64 (c:Nat)∧c≤i)∧Sub env [(3,.map (some b7)),(4,.int .i64 (CL (l.take i):Nat)),(8,v),(9,.int .i64 (l.length:Nat)),(10,.int .i64 (i:Nat))]∧Ent L [BF b7 Mu ents clk,ro μ]∧i≤l.length) (fun i=>l.length-i) 0 ⟨[],0,fun a=>⟨0,rfl,Nat.le_refl _⟩,⟨rfl,rfl,rfl,rfl,rfl,trivial⟩,Split.ent' AC,Nat.zero_le _⟩ ?_
 rintro i env L ⟨ents,clk,hcnt,hsub,hE,hi⟩
 refine B3 _ hsub (AP hE ?_)
 clear hsub hE env L
 refine A0 (Ac (Bb rfl rfl) (AE [3,4,8,9,10,11] rfl (Ae ?_)))
 refine Ak rfl (fun h11=>?_) (fun h11=>?_)
 ·have h11':i<l.length:=by have:=of_decide_eq_true h11; omega
  obtain ⟨x,hx⟩:∃ x,l[i]? = some x:=⟨_,List.getElem?_eq_getElem h11'⟩
  obtain ⟨b,off,c2,hv,hr⟩:=Nf h hx
  obtain ⟨o1,o2,o3,o4⟩:=hok.one x (List.mem_of_getElem? hx)
  obtain ⟨cn,hcn,hcl⟩:=hcnt (x.1:Nat)
  have hns:=ST hx
  refine Am (Af (Ae (Au (A0 ?_))))
  refine Ac (AB (off+i*3) (congrArg some hv) rfl Ax Ax (by rw [Int.toNat_natCast])) ?_
  refine AJ (CZ (vs:=Er x) rfl rfl hr) (Aw (AZ) (fun b6=>?_))
  refine B5 (AU rfl rfl rfl rfl) (AE [3,4,6,8,9,10] rfl (A0 (Ac (Ab rfl) (AJ (Ag rfl rfl) ?_))))
  refine Aw (AA (J9 (x.1:Nat)) rfl rfl AC) ?_
  rintro v16 L1 ⟨rfl,rfl⟩
  refine Aj (AE [3,4,6,8,9,10,16] rfl ?_)
  refine Ak rfl (fun h16=>?_) (fun h16=>by rw [decide_eq_true Ax,decide_eq_true Ax] at h16; cases h16)
  refine A0 (Ad rfl (Ac (Ab rfl) (AJ (Ag rfl rfl) (AJ (Ni (kv:=Mu) (x.1:Nat) rfl rfl hcn) (Ac (AO ((cn+1:Nat):Int) rfl rfl Ax Ax Ax) ?_)))))
  refine B5 (Mt (kv:=Mu) (x.1:Nat) rfl rfl rfl AC) ?_
  refine AE [3,4,6,8,9,10] rfl (Al (Ad rfl (Ac (Ab rfl) (AJ (Ag rfl rfl) (Ac (AO ((x.1+1:Nat):Int) rfl rfl Ax Ax Ax) (Ac (FC rfl rfl) (AX rfl (Be [3,4,8,9,10] rfl (AH (AR (Af (Al (Ac (AO ((i+1:Nat):Int) rfl rfl Ax Ax Ax) (Ad rfl (Be [3,4,8,9,10] rfl (AH ?_))))))))))))))))
  refine Af ⟨i+1,⟨_,_,fun a=>?_,⟨rfl,by rw [hns]; show some (Value.int .i64 (max _ _))=_; congr 2; omega,rfl,rfl,rfl,trivial⟩,Split.ent' AC,h11'⟩,by omega⟩
  rw [IV]
  by_cases ha:(((x.1:Nat):Int))=a
  ·rw [if_pos ha]; exact ⟨cn+1,rfl,by omega⟩
  ·rw [if_neg ha]
   obtain ⟨c,h1,h2⟩:=hcnt a
   exact ⟨c,h1,by omega⟩
 ·have h11':=of_decide_eq_false h11
  obtain rfl:i=l.length:=by omega
  rw [List.take_length]
  refine AY (AS (AS (AV rfl (Af (Ae (A0 (Ad rfl ?_)))))))
  refine Aw (AA (J9 (CL l:Nat)) rfl rfl AC) ?_
  rintro v29 L1 ⟨rfl,rfl⟩
  refine Aj (AE [3,4,29] rfl ?_)
  refine Ak rfl (fun h29=>?_) (fun h29=>by rw [decide_eq_true Ax,decide_eq_true Ax] at h29; cases h29)
  refine A0 (Ad rfl (As [2] rfl rfl (Ar (AN ?_))))
  exact B8 [ro μ] (.tmp rfl .nil) ⟨rfl,rfl⟩ (Split.ent' AC)
abbrev cB (p:Nat)(room:Int)(mo:Option Nat)(l:List Nd):AF:=B1 p 187 [.int .i64 room,.map mo,pt (hd l none),pt (HI none l)]
abbrev Lq (p:Nat)(room:Int)(mo h t:Option Nat):AF:=B1 p 187 [.int .i64 room,.map mo,pt h,pt t]
theorem PV {l:List Nd}(h:l≠[]):∃ l' m,l=l'++[m]:=⟨l.dropLast,l.getLast h,(List.dropLast_concat_getLast h).symm⟩
theorem Uc {l:List Nd}(h:(HI none l)=none):l=[]:=by
 rcases Decidable.em (l=[]) with h1 | h1
 ·exact h1
 ·obtain ⟨l',m,rfl⟩:=PV h1
  rw [HJ] at h; cases h
theorem Yy {l:List Nd}(h:hd l none=none):l=[]:=by
 cases l with
 | nil=>rfl
 | cons x l=>cases h
theorem LW {o:Option Nat}(h:((o.map fun p=>(⟨p,0,none⟩:Addr)).isNone)=true):o=none:=by cases o with
 | none=>rfl
 | some x=>cases h
theorem LX {o:Option Nat}(h:((o.map fun p=>(⟨p,0,none⟩:Addr)).isNone)=false):o≠none:=by cases o with
 | none=>cases h
 | some x=>exact fun h=>by cases h
set_option maxHeartbeats 4000000 in
theorem Ls (p:Nat)(room:Int)(mo:Option Nat)(a:List Nd)(x:Nd)(b:List Nd):Spec prog 115 [pv p,pv x.p] [cB p room mo (a++x::b),dA 233 none (a++x::b) none] (fun r L=>r=.tuple #[]∧L=[dA 233 none (a++b) none,Gw 233 x none none,cB p room mo (a++b)]):=by
 have e1:hd (a++x::b) none=hd a (some x.p):=by rw [GX]; rfl
 have e2:HI none (a++x::b)=HI (some x.p) b:=by rw [LQ]; rfl
 unfold cB
 rw [e1,e2]
 refine Spec.of 54 func115 rfl rfl rfl ?_
 refine AP (Ent.swap.trans Y2) ?_
 obtain ⟨o,ho⟩:∃ o,HI none a=o:=⟨_,rfl⟩
 obtain ⟨e,he⟩:∃ e,hd b none=e:=⟨_,rfl⟩
 obtain ⟨h0,hh0⟩:∃ h,hd a (some x.p)=h:=⟨_,rfl⟩
 obtain ⟨t0,ht0⟩:∃ t,HI (some x.p) b=t:=⟨_,rfl⟩
 rw [ho,he,hh0,ht0]
 clear e1 e2
 refine Ae (A0 (Ad rfl (Ac (Ah rfl) (Ac (Ab rfl) (AJ (Ag rfl rfl) (Ac (Bd rfl rfl) (AE [0,1,8] rfl ?_)))))))
 refine Ak rfl (fun h8=>?_) (fun h8=>?_)
 ·obtain rfl:=LW h8
  obtain rfl:=Uc ho
  refine Al (Ad rfl (Ad rfl (Ac (Ah rfl) (Ac (Ab rfl) (AJ (Ag rfl rfl) (Ac (Ah rfl) (Ac (Ab rfl) (B5 (AW rfl rfl rfl) (AE [0,1] rfl (Ae (A0 (Ad rfl (Ac (Ah rfl) (Ac (Ab rfl) (AJ (Ag rfl rfl) (Ac (Bd rfl rfl) (AE [0,1,30] rfl ?_)))))))))))))))))
  refine Ak rfl (fun h30=>?_) (fun h30=>?_)
  ·obtain rfl:=LW h30
   obtain rfl:=Yy he
   refine Al (Ad rfl (Ad rfl (Ac (Ah rfl) (Ac (Ab rfl) (AJ (Ag rfl rfl) (Ac (Ah rfl) (Ac (Ab rfl) (B5 (AW rfl rfl rfl) (AE [1] rfl (Al (Ad rfl (Ad rfl (Ac (Ah rfl) (Ac (Ab rfl) (B5 (AW rfl rfl rfl) (Ac (Ah rfl) (Ac (Ab rfl) (B5 (AW rfl rfl rfl) (C7 _ .nil (AH ?_))))))))))))))))))))
   exact B8 [dA 233 none [] none,Gw 233 x none none,Lq p room mo none none] (.nil) ⟨rfl,rfl⟩ ((Split.ent' (K:=[ndV 233 x (.pointer none) (.pointer none),Lq p room mo none none]) AC).trans MO)
  ·obtain ⟨m',b',rfl⟩:∃ m' b',b=m'::b':=by
    cases b with
    | nil=>exact absurd he.symm (LX h30)
    | cons m' b'=>exact ⟨m',b',rfl⟩
   replace he:some m'.p=e:=he
   subst he
   refine AP ((Split.ent' (K:=[dA 233 (some x.p) (m'::b') none,Gw 233 x none (some m'.p),Lq p room mo (some m'.p) t0]) AC).trans dA_cons) ?_
   refine Ba [3,7] ([Gw 233 x none (some m'.p)]) ([Gw 233 m' (some x.p) (hd b' none),dA 233 (some m'.p) b' none,Lq p room mo (some m'.p) t0]) (Split.ent AC) AK ?_
   refine AD 0 rfl (AG rfl) (AD 1 rfl (Ah rfl) (AD 2 rfl (Ab rfl) (Bc 3 rfl (Ag rfl rfl) rfl (AD 4 rfl (AG rfl) (AD 5 rfl (Ah rfl) (AD 6 rfl (Ab rfl) (Bc 7 rfl (Ag rfl rfl) rfl (AD 8 rfl (Ah rfl) (AD 9 rfl (Ab rfl) (Cs 10 rfl AK AK (AW rfl rfl rfl) (C0 [1] rfl (Bs AK (Af (Al (Ad rfl (Ad rfl (Ac (Ah rfl) (Ac (Ab rfl) (B5 (AW rfl rfl rfl) (Ac (Ah rfl) (Ac (Ab rfl) (B5 (AW rfl rfl rfl) (C7 _ .nil (AH ?_))))))))))))))))))))))))
   subst ht0
   exact B8 [dA 233 none (m'::b') none,Gw 233 x none none,Lq p room mo (some m'.p) (HI (some m'.p) b')] (.nil) ⟨rfl,rfl⟩ ((Split.ent' (K:=[Gw 233 m' none (hd b' none),dA 233 (some m'.p) b' none,ndV 233 x (.pointer none) (.pointer none),Lq p room mo (some m'.p) (HI (some x.p) (m'::b'))]) AC).trans dA_uncons)
 ·obtain ⟨a',m,rfl⟩:=PV (l:=a) (fun h=>LX h8 (by rw [← ho,h]; rfl))
  rw [HJ] at ho
  subst ho
  refine AP ((Split.ent' (K:=[dA 233 none (a'++[m]) (some x.p),Gw 233 x (some m.p) e,Lq p room mo h0 t0,dA 233 (some x.p) b none]) AC).trans U0) ?_
  refine Ba [3,7] ([Gw 233 x (some m.p) e]) ([Gw 233 m (HI none a') (some x.p),dA 233 none a' (some m.p),Lq p room mo h0 t0,dA 233 (some x.p) b none]) (Split.ent AC) AK ?_
  refine AD 0 rfl (AG rfl) (AD 1 rfl (Ah rfl) (AD 2 rfl (Ab rfl) (Bc 3 rfl (Ag rfl rfl) rfl (AD 4 rfl (AG rfl) (AD 5 rfl (Ah rfl) (AD 6 rfl (Ab rfl) (Bc 7 rfl (Ag rfl rfl) rfl (AD 8 rfl (Ah rfl) (AD 9 rfl (Ab rfl) (Cs 10 rfl AK AK (AW rfl rfl rfl) (C0 [0,1] rfl (Bs AK (Af (Ae (A0 (Ad rfl (Ac (Ah rfl) (Ac (Ab rfl) (AJ (Ag rfl rfl) (Ac (Bd rfl rfl) (AE [0,1,30] rfl ?_)))))))))))))))))))))
  refine Ak rfl (fun h30=>?_) (fun h30=>?_)
  ·obtain rfl:=LW h30
   obtain rfl:=Yy he
   refine Al (Ad rfl (Ad rfl (Ac (Ah rfl) (Ac (Ab rfl) (AJ (Ag rfl rfl) (Ac (Ah rfl) (Ac (Ab rfl) (B5 (AW rfl rfl rfl) (AE [1] rfl (Al (Ad rfl (Ad rfl (Ac (Ah rfl) (Ac (Ab rfl) (B5 (AW rfl rfl rfl) (Ac (Ah rfl) (Ac (Ab rfl) (B5 (AW rfl rfl rfl) (C7 _ .nil (AH ?_))))))))))))))))))))
   refine B8 [dA 233 none (a'++[m]) none,Gw 233 x none none,Lq p room mo h0 (some m.p)] (.nil) ⟨rfl,?_⟩ ((Split.ent' (K:=[Gw 233 m (HI none a') none,dA 233 none a' (some m.p),ndV 233 x (.pointer none) (.pointer none),Lq p room mo h0 (some m.p)]) AC).trans Oy)
   rw [List.append_nil,HJ,← hh0,GX,GX]; rfl
  ·obtain ⟨m',b',rfl⟩:∃ m' b',b=m'::b':=by
    cases b with
    | nil=>exact absurd he.symm (LX h30)
    | cons m' b'=>exact ⟨m',b',rfl⟩
   replace he:some m'.p=e:=he
   subst he
   refine AP ((Split.ent' (K:=[dA 233 (some x.p) (m'::b') none,Gw 233 x (some m.p) (some m'.p),Gw 233 m (HI none a') (some m'.p),dA 233 none a' (some m.p),Lq p room mo h0 t0]) AC).trans dA_cons) ?_
   refine Ba [3,7] ([Gw 233 x (some m.p) (some m'.p)]) ([Gw 233 m' (some x.p) (hd b' none),dA 233 (some m'.p) b' none,Gw 233 m (HI none a') (some m'.p),dA 233 none a' (some m.p),Lq p room mo h0 t0]) (Split.ent AC) AK ?_
   refine AD 0 rfl (AG rfl) (AD 1 rfl (Ah rfl) (AD 2 rfl (Ab rfl) (Bc 3 rfl (Ag rfl rfl) rfl (AD 4 rfl (AG rfl) (AD 5 rfl (Ah rfl) (AD 6 rfl (Ab rfl) (Bc 7 rfl (Ag rfl rfl) rfl (AD 8 rfl (Ah rfl) (AD 9 rfl (Ab rfl) (Cs 10 rfl AK AK (AW rfl rfl rfl) (C0 [1] rfl (Bs AK (Af (Al (Ad rfl (Ad rfl (Ac (Ah rfl) (Ac (Ab rfl) (B5 (AW rfl rfl rfl) (Ac (Ah rfl) (Ac (Ab rfl) (B5 (AW rfl rfl rfl) (C7 _ .nil (AH ?_))))))))))))))))))))))))
   refine B8 [dA 233 none (a'++[m]++m'::b') none,Gw 233 x none none,Lq p room mo h0 t0] (.nil) ⟨rfl,?_⟩ ((Split.ent' (K:=[Gw 233 m (HI none a') (some m'.p),dA 233 none a' (some m.p),Gw 233 m' (some m.p) (hd b' none),dA 233 (some m'.p) b' none,ndV 233 x (.pointer none) (.pointer none),Lq p room mo h0 t0]) AC).trans U1)
   rw [← hh0,← ht0,GX,GX,GX,LQ,HJ]; rfl
end SX
namespace SX
open Go Go.Proofs Go.MapKept
theorem VG {κ:Type}[DecidableEq κ]{P:Program}{env:CQ}{L:List AF}{t kt et:Nat}{kv:κ→Value}{z:Value}[hm:TMap P t kt et][hk:TKey P kt kv][hz:TZv P et z]{m x:Operand}(a:κ)(hx:AM env m=some (.map none))(hy:AM env x=some (kv a)):Rd P env L (.lookup t m x false) z:=by
 intro ρ hρ dst ty pos af g E w hh
 obtain ⟨d,hd,hik,hs⟩:=hk.ok
 have hck:∀ e,(Instr.checkKey e 10000 kt (kv a)).run P w=.ok () w:=fun e=>run_checkKey (P:=P) (w:=w) hd (hik a) e 9999
 rcases Ge hs a [] 0 with ⟨_,h2,_⟩ | ⟨j,v,h1,_⟩
 ·have hf:=run_findKey (P:=P) (w:=w) (l:=([]:BQ κ).map (Gv kv)) hd h2
  simp only [List.map_nil] at hf
  simp [execOp,hρ m _ hx,hρ x _ hy,Instr.lookup,run_underlying hm.und,hck,hf,hz.run w,Result.andThen]
 ·cases h1
structure CM (ents:BQ ByteArray) (l:List Nd):Prop where
 look:∀ k v,Cd ents k=some v↔∃ x∈l,x.k=k∧v=pv x.p
 nod:(l.map (·.k)).Nodup
 en:(ents.map (·.1)).Nodup
theorem CM.no{ents:BQ ByteArray}{l:List Nd}(h:CM ents l){k:ByteArray}(hk:∀ x∈l,x.k≠k):Cd ents k=none:=by
 cases hm:Cd ents k with
 | none=>rfl
 | some v =>
  obtain ⟨x,hx,e,_⟩:=(h.look k v).1 hm
  exact absurd e (hk x hx)
theorem CM.perm{ents:BQ ByteArray}{l l':List Nd}(h:CM ents l)(hp:l.Perm l'):CM ents l' :=
 ⟨fun k v=>(h.look k v).trans ⟨fun ⟨x,hx,e⟩=>⟨x,hp.mem_iff.1 hx,e⟩,fun ⟨x,hx,e⟩=>⟨x,hp.mem_iff.2 hx,e⟩⟩,(hp.map _).nodup_iff.1 h.nod,h.en⟩
theorem CM.new{ents:BQ ByteArray}{l:List Nd}(h:CM ents l)(x:Nd)(hx:∀ y∈l,y.k≠x.k)(clk:Nat):CM (upd ents clk x.k (pv x.p)) (l++[x]):=by
 refine ⟨fun k v=>?_,?_,QF h.en ..⟩
 ·rw [IV]
  by_cases hk:x.k=k
  ·rw [if_pos hk]
   constructor
   ·intro e; exact ⟨x,by simp,hk,(Option.some.inj e).symm⟩
   ·rintro ⟨y,hy,e1,e2⟩
    rcases List.mem_append.1 hy with hy | hy
    ·exact absurd (e1.trans hk.symm) (hx y hy)
    ·obtain rfl:=List.mem_singleton.1 hy
     rw [e2]
  ·rw [if_neg hk,h.look]
   constructor
   ·rintro ⟨y,hy,e⟩; exact ⟨y,List.mem_append_left _ hy,e⟩
   ·rintro ⟨y,hy,e1,e2⟩
    rcases List.mem_append.1 hy with hy | hy
    ·exact ⟨y,hy,e1,e2⟩
    ·obtain rfl:=List.mem_singleton.1 hy
     exact absurd e1 hk
 ·rw [List.map_append,List.nodup_append]
  refine ⟨h.nod,by simp,fun a ha b hb e=>?_⟩
  obtain ⟨y,hy,rfl⟩:=List.mem_map.1 ha
  have hb':b=x.k:=by simpa using hb
  exact hx y hy (e.trans hb')
theorem CM.del{ents:BQ ByteArray}{a b:List Nd}{x:Nd}(h:CM ents (a++x::b)):CM (del ents x.k) (a++b):=by
 have hp:(a++x::b).Perm (x::(a++b)):=List.perm_middle
 have hn:=(hp.map (·.k)).nodup_iff.1 h.nod
 rw [List.map_cons,List.nodup_cons] at hn
 refine ⟨fun k v=>?_,hn.2,My h.en _⟩
 rw [Kv h.en]
 by_cases hk:x.k=k
 ·rw [if_pos hk]
  constructor
  ·intro e; cases e
  ·rintro ⟨y,hy,e1,_⟩
   exact absurd (List.mem_map.2 ⟨y,hy,e1.trans hk.symm⟩) hn.1
 ·rw [if_neg hk,h.look]
  constructor
  ·rintro ⟨y,hy,e1,e2⟩
   rcases List.mem_cons.1 (hp.mem_iff.1 hy) with rfl | hy
   ·exact absurd e1 hk
   ·exact ⟨y,hy,e1,e2⟩
  ·rintro ⟨y,hy,e⟩; exact ⟨y,hp.mem_iff.2 (List.mem_cons_of_mem _ hy),e⟩
inductive CaW (l:List Nd) where
 | nil (h:l=[])
 | map (m:Nat) (ents:BQ ByteArray) (clk:Nat) (h:CM ents l)
def CaW.mo {l:List Nd}:CaW l→Option Nat
 | .nil _=>none
 | .map m _ _ _=>some m
def caR {l:List Nd}(c:CaW l):AF:=exA fun _:Unit=>match c with
 | .nil _=>[]
 | .map m ents clk _=>[dA 233 none l none,BF m BM ents clk]
abbrev caL (p:Nat)(room:Int)(l:List Nd)(c:CaW l):List AF:=[cB p room c.mo l,caR c]
def F6 (p:Nat)(room:Int)(l:List Nd):AF:=exA (caL p room l)
theorem Ud {l:List Nd}{c:CaW l}(h:c.mo=none):l=[]:=by
 cases c with
 | nil h1=>exact h1
 | map m ents clk h1=>cases h
theorem Ue {l:List Nd}{c:CaW l}{m:Nat}(h:c.mo=some m):∃ ents clk,CM ents l∧∀ L,Ent (caR c::L) (dA 233 none l none::BF m BM ents clk::L):=by
 cases c with
 | nil h1=>cases h
 | map m' ents clk h1 =>
  cases h
  exact ⟨ents,clk,h1,fun L m hm=>by obtain ⟨_,h⟩:=Ei hm; exact h⟩
theorem Uf {p:Nat}{room:Int}{L:List AF}:Ent (cB p room none []::L) (F6 p room []::L):=by
 refine Ent.trans ?_ (Du (F:=caL p room []) (CaW.nil rfl))
 exact Ent.under (Du (F:=fun _:Unit=>[]) ()) [_]
theorem LY {p:Nat}{room:Int}{l:List Nd}{m:Nat}{ents:BQ ByteArray}{clk:Nat}{L:List AF}(h:CM ents l):Ent (cB p room (some m) l::dA 233 none l none::BF m BM ents clk::L) (F6 p room l::L):=by
 refine Ent.trans ?_ (Du (F:=caL p room l) (CaW.map m ents clk h))
 exact Ent.under (Du (F:=fun _:Unit=>[dA 233 none l none,BF m BM ents clk]) ()) [_]
theorem A03{p:Nat}{room:Int}{l:List Nd}{x:Nd}(hx:x∈l){ro:Option Nat}{c:Code}{Q:DP}{N:Nat}{env:CQ}{L:List AF}(h:∀ m ents clk,CM ents l→EN Tryz.prog ro c Q N env (cB p room (some m) l::dA 233 none l none::BF m BM ents clk::L)):EN Tryz.prog ro c Q N env (F6 p room l::L):=by
 refine EQ fun c=>?_
 cases hm:c.mo with
 | none=>rw [Ud hm] at hx; cases hx
 | some m =>
  obtain ⟨ents,clk,hc,hE⟩:=Ue hm
  refine AP ?_ (h m ents clk hc)
  show Ent (cB p room c.mo l::caR c::L) _
  rw [hm]
  exact Ent.under (hE L) [_]
abbrev cBv (p:Nat)(room:Int)(mo:Option Nat)(h t:Value):AF:=B1 p 187 [.int .i64 room,.map mo,h,t]
theorem Yz (p:Nat)(room:Int)(h t:Option Nat)(k:ByteArray):Spec Tryz.prog 114 [pv p,.string k] [Lq p room none h t] (fun r L=>r=.pointer none∧L=[Lq p room none h t]):=by
 refine Spec.of 13 Tryz.func114 rfl rfl rfl ?_
 refine A0 (As [0,1] rfl rfl (Ae (A0 (Ad rfl (Ac (Bd rfl rfl) (AE [0,1,6] rfl (Dz rfl (Am (Af (A0 (Ad rfl (Ac (Ah rfl) (Ac (Ab rfl) (AJ (Ag rfl rfl) (Ad rfl (AJ (VG (kv:=BM) k rfl rfl) (As [4] rfl rfl (Ar ?_))))))))))))))))))
 exact Aq [Lq p room none h t] (.tmp rfl .nil) ⟨rfl,rfl⟩ AC
theorem Nj (p:Nat)(room:Int)(h t:Option Nat)(k:ByteArray)(m:Nat)(ents:BQ ByteArray)(clk:Nat)(v:Value)(hv:(Cd ents k).getD (.pointer none)=v):Spec Tryz.prog 114 [pv p,.string k] [Lq p room (some m) h t,BF m BM ents clk] (fun r L=>r=v∧L=[Lq p room (some m) h t,BF m BM ents clk]):=by
 refine Spec.of 13 Tryz.func114 rfl rfl rfl ?_
 refine A0 (As [0,1] rfl rfl (Ae (A0 (Ad rfl (Ac (Bd rfl rfl) (AE [0,1,6] rfl (Dz rfl (Am (Af (A0 (Ad rfl (Ac (Ah rfl) (Ac (Ab rfl) (AJ (Ag rfl rfl) (Ad rfl (AJ (Ni (kv:=BM) k rfl rfl hv) (As [4] rfl rfl (Ar ?_))))))))))))))))))
 exact Aq [Lq p room (some m) h t,BF m BM ents clk] (.tmp rfl .nil) ⟨rfl,rfl⟩ AC
def A0Q (l:List Nd)(k:ByteArray)(v:Value):Prop:=(∃ x∈l,x.k=k∧v=pv x.p)∨((∀ x∈l,x.k≠k)∧v=.pointer none)
theorem CM.find{ents:BQ ByteArray}{l:List Nd}(h:CM ents l){k:ByteArray}{v:Value}(hv:A0Q l k v):(Cd ents k).getD (.pointer none)=v:=by
 rcases hv with ⟨x,hx,e1,rfl⟩ | ⟨hn,rfl⟩
 ·rw [(h.look k (pv x.p)).2 ⟨x,hx,e1,rfl⟩]; rfl
 ·rw [h.no hn]; rfl
theorem LZ (p:Nat)(room:Int)(l:List Nd)(k:ByteArray)(v:Value)(hv:A0Q l k v):Spec Tryz.prog 114 [pv p,.string k] [F6 p room l] (fun r L=>r=v∧L=[F6 p room l]):=by
 refine Spec.exA' fun c=>?_
 cases c with
 | nil h =>
  refine Spec.ent3 (Spec.fr (Yz p room (hd l none) (HI none l) k) [caR (.nil h)]) ?_
  rintro r L ⟨L',⟨rfl,rfl⟩,rfl⟩
  refine ⟨_,Du (F:=caL p room l) (CaW.nil h) (L:=[]),?_,rfl⟩
  rcases hv with ⟨x,hx,_⟩ | ⟨_,rfl⟩
  ·rw [h] at hx; cases hx
  ·rfl
 | map m ents clk h =>
  refine Spec.pre (Spec.ent3 (Spec.fr (Nj p room (hd l none) (HI none l) k m ents clk v (h.find hv)) [dA 233 none l none]) ?_) (pre':=_) ?_
  ·rintro r L ⟨L',⟨rfl,rfl⟩,rfl⟩
   refine ⟨_,?_,rfl,rfl⟩
   exact Ent.trans (Ent.under Ent.swap [_]) (LY h (L:=[]))
  ·show Ent [cB p room (some m) l,caR (.map m ents clk h)] [Lq p room (some m) (hd l none) (HI none l),BF m BM ents clk,dA 233 none l none]
   exact (Ent.under (fun m' hm'=>by obtain ⟨_,h⟩:=Ei hm'; exact h:Ent [caR (.map m ents clk h)] [dA 233 none l none,BF m BM ents clk]) [_]).trans (Ent.under Ent.swap [_])
theorem OP (p:Nat)(room:Int)(mo:Option Nat)(l:List Nd)(x:Nd):Spec Tryz.prog 116 [pv p,pv x.p] [cB p room mo l,dA 233 none l none,Gw 233 x none none] (fun r L=>r=.tuple #[]∧L=[dA 233 none (l++[x]) none,cB p room mo (l++[x])]):=by
 unfold cB
 refine Spec.of 31 Tryz.func116 rfl rfl rfl ?_
 obtain ⟨o,ho⟩:∃ o,HI none l=o:=⟨_,rfl⟩
 obtain ⟨h0,hh0⟩:∃ h,hd l none=h:=⟨_,rfl⟩
 rw [ho,hh0]
 refine A0 (Ad rfl (Ad rfl (Ac (Ah rfl) (Ac (Ab rfl) (AJ (Ag rfl rfl) (Ac (Ah rfl) (Ac (Ab rfl) (B5 (AW rfl rfl rfl) (AE [0,1] rfl (Ae (A0 (Ad rfl (Ac (Ah rfl) (Ac (Ab rfl) (AJ (Ag rfl rfl) (Ac (Bd rfl rfl) (AE [0,1,15] rfl ?_)))))))))))))))))
 refine Ak rfl (fun h15=>?_) (fun h15=>?_)
 ·obtain rfl:=LW h15
  obtain rfl:=Uc ho
  obtain rfl:none=h0:=hh0
  refine Al (Ad rfl (Ad rfl (Ac (Ah rfl) (Ac (Ab rfl) (B5 (AW rfl rfl rfl) (AE [0,1] rfl (Al (Ad rfl (Ad rfl (Ac (Ah rfl) (Ac (Ab rfl) (B5 (AW rfl rfl rfl) (C7 _ .nil (AH ?_))))))))))))))
  exact H8 [dA 233 none [x] none,Lq p room mo (some x.p) (some x.p)] .nil ⟨rfl,rfl⟩ ((Split.ent' (K:=[Gw 233 x none none,cBv p room mo (pv x.p) (pv x.p)]) AC).trans ((Ent.under (MO (tn:=233) (o:=some x.p) (e:=none)) [Gw 233 x none none]).trans (dA_uncons (tn:=233) (o:=none) (x:=x) (l:=[]) (e:=none))))
 ·obtain ⟨l',m,rfl⟩:=PV (l:=l) (fun h=>LX h15 (by rw [← ho,h]; rfl))
  rw [HJ] at ho
  subst ho
  refine AP ((Split.ent' (K:=[dA 233 none (l'++[m]) none,Gw 233 x (some m.p) none,Lq p room mo h0 (some m.p)]) AC).trans U0) ?_
  refine Al (Ad rfl (Ac (Ah rfl) (Ac (Ab rfl) (AJ (Ag rfl rfl) (Ad rfl (Ac (Ah rfl) (Ac (Ab rfl) (B5 (AW rfl rfl rfl) (AE [0,1] rfl (Al (Ad rfl (Ad rfl (Ac (Ah rfl) (Ac (Ab rfl) (B5 (AW rfl rfl rfl) (C7 _ .nil (AH ?_)))))))))))))))))
  refine H8 [dA 233 none (l'++[m]++[x]) none,Lq p room mo h0 (some x.p)] .nil ⟨rfl,?_⟩ ((Split.ent' (K:=[ndV 233 m (pt (HI none l')) (pv x.p),dA 233 none l' (some m.p),Gw 233 x (some m.p) none,cBv p room mo (pt h0) (pv x.p)]) AC).trans ((Ent.under (MO (tn:=233) (o:=some x.p) (e:=none)) [_,_,_]).trans (U1 (b:=[]))))
  rw [← hh0,HJ,GX,GX,GX]; rfl
end SX
namespace SX
open Go Go.Proofs Go.Proofs.Tryz
theorem VH (p:Nat)(room:Int)(m:Nat)(a b:List Nd)(x:Nd)(ents:BQ ByteArray)(clk:Nat)(hc:CM ents (a++x::b)):Spec prog 131 [pv p,.string x.k] [cB p room (some m) (a++x::b),dA 233 none (a++x::b) none,BF m BM ents clk] (fun r L=>r=.bool true∧L=[dA 233 none (a++b) none,Gw 233 x none none,cB p room (some m) (a++b),BF m BM (del ents x.k) clk]):=by
 have hl:(Cd ents x.k).getD (.pointer none)=pv x.p:=by rw [(hc.look x.k (pv x.p)).2 ⟨x,by simp,rfl,rfl⟩]; rfl
 refine Spec.of 19 func131 rfl rfl rfl ?_
 refine A0 (As [0,1] rfl rfl (A0 (Ad rfl (Ad rfl ?_))))
 refine Aw (AA (Nj p room _ _ x.k m ents clk _ hl) rfl rfl AC) ?_
 rintro v8 L1 ⟨rfl,rfl⟩
 refine Aj (As [0,1,5] rfl rfl (Ae (A0 (Ad rfl (Ac (Bd rfl rfl) (AE [0,1,5,10] rfl (Dz rfl (Am (Af (A0 (Ad rfl (Ad rfl ?_))))))))))))
 refine Aw (AA (Ls p room (some m) a x b) rfl rfl AC) ?_
 rintro v13 L1 ⟨rfl,rfl⟩
 refine Aj (AE [0,1] rfl (A0 (Ad rfl (Ac (Ah rfl) (Ac (Ab rfl) (AJ (Ag rfl rfl) (Ad rfl ?_)))))))
 refine B5 (Oq (kv:=BM) x.k rfl rfl AC) ?_
 refine C7 _ .nil (Dp (A0 (As [4] rfl rfl (Ar ?_))))
 exact Aq [dA 233 none (a++b) none,Gw 233 x none none,cB p room (some m) (a++b),BF m BM (del ents x.k) clk] (.tmp rfl .nil) ⟨rfl,rfl⟩ AC
theorem YA (p:Nat)(room:Int)(m:Nat)(l:List Nd)(x:Nd)(ents:BQ ByteArray)(clk:Nat)(hc:CM ents l)(hx:x∈l):Spec prog 117 [pv p,.string x.k] [cB p room (some m) l,dA 233 none l none,BF m BM ents clk] (fun r L=>r=.tuple #[.agg (anc x.a).toArray,.bool true]∧L=[cB p room (some m) l,dA 233 none l none,BF m BM ents clk]):=by
 have hl:(Cd ents x.k).getD (.pointer none)=pv x.p:=by rw [(hc.look x.k (pv x.p)).2 ⟨x,hx,rfl,rfl⟩]; rfl
 refine Spec.of 18 func117 rfl rfl rfl ?_
 refine A0 (Aw (AZ) (fun b4=>?_))
 refine As [0,1,4] rfl rfl (Ae (A0 (Ad rfl (Ad rfl ?_))))
 refine Aw (AA (Nj p room _ _ x.k m ents clk _ hl) rfl rfl AC) ?_
 rintro v8 L1 ⟨rfl,rfl⟩
 refine Aj (As [4,6] rfl rfl (A0 (Ad rfl (Ac (CF rfl rfl) (AE [4,6,12] rfl (Qs rfl ?_))))))
 obtain ⟨a,b,hab⟩:=List.append_of_mem hx
 refine AP (show Ent _ (Gw 233 x (HI none a) (hd b none)::dA 233 (some x.p) b none::dA 233 none a (some x.p)::[cB p room (some m) l,BF m BM ents clk,B1 b4 62 [.int .i64 0,.bool false,.int .i64 0,.slice none 0 0,.slice none 0 0]]) from ?_) ?_
 ·refine Ent.trans (Split.ent' (K:=[dA 233 none l none,cB p room (some m) l,BF m BM ents clk,B1 b4 62 [.int .i64 0,.bool false,.int .i64 0,.slice none 0 0,.slice none 0 0]]) AC) ?_
  rw [hab]
  exact Y2
 refine A0 (Ad rfl (Ac (Ah rfl) (Ac (Ab rfl) (AJ (BG (vs:=[.int .i64 x.a.e,.bool x.a.y,.int .i64 x.a.n,TZ x.a.i,TZ x.a.t]) rfl rfl rfl) (B5 (AU rfl rfl rfl rfl) (As [4,5] rfl rfl (Ar (AN ?_))))))))
 refine B8 [cB p room (some m) l,dA 233 none l none,BF m BM ents clk] (.cell rfl (Bn rfl) (.tmp rfl .nil)) ⟨rfl,rfl⟩ ((Split.ent' (K:=[Gw 233 x (HI none a) (hd b none),dA 233 (some x.p) b none,dA 233 none a (some x.p),BF m BM ents clk,cB p room (some m) l]) AC).trans ?_)
 refine dA_unmid.trans ?_
 rw [← hab]
 exact Split.ent' AC
abbrev an0:An:=⟨0,false,0,(none,0,0),(none,0,0)⟩
theorem A04(p:Nat)(room:Int)(l:List Nd)(k:ByteArray)(hn:∀ x∈l,x.k≠k):Spec prog 117 [pv p,.string k] [F6 p room l] (fun r L=>r=.tuple #[.agg (anc an0).toArray,.bool false]∧L=[F6 p room l]):=by
 refine Spec.of 18 func117 rfl rfl rfl ?_
 refine A0 (Aw (AZ) (fun b4=>?_))
 refine As [0,1,4] rfl rfl (Ae (A0 (Ad rfl (Ad rfl ?_))))
 refine Aw (AA (LZ p room l k (.pointer none) (.inr ⟨hn,rfl⟩)) rfl rfl AC) ?_
 rintro v8 L1 ⟨rfl,rfl⟩
 refine Aj (As [4,6] rfl rfl (A0 (Ad rfl (Ac (CF rfl rfl) (AE [4,6,12] rfl (Dz rfl (Am (Af (A0 (Aw (AZ) (fun b7=>?_)))))))))))
 refine AE [4,7] rfl (A0 (AJ (BP rfl rfl) (B5 (AU rfl rfl rfl rfl) (As [4,5] rfl rfl (Ar ?_)))))
 exact Aq [F6 p room l] (.cell rfl (Bn rfl) (.tmp rfl .nil)) ⟨rfl,rfl⟩ AC
theorem A1g(p:Nat)(room:Int)(l:List Nd)(k:ByteArray)(hn:∀ x∈l,x.k≠k):Spec prog 65 [pv p,.string k] [F6 p room l] (fun r L=>r=.tuple #[.agg (anc an0).toArray,.bool false]∧L=[F6 p room l]):=by
 refine Spec.of 23 func65 rfl rfl rfl ?_
 refine A0 (Aw (AZ) (fun b4=>?_))
 refine As [0,1,4] rfl rfl (Ae (A0 (Ad rfl (Ad rfl ?_))))
 refine Aw (AA (LZ p room l k (.pointer none) (.inr ⟨hn,rfl⟩)) rfl rfl AC) ?_
 rintro v8 L1 ⟨rfl,rfl⟩
 refine Aj (As [0,1,4,6] rfl rfl (A0 (Ad rfl (Ac (CF rfl rfl) (AE [0,1,4,6,11] rfl (Dz rfl (Am (Af (A0 (Ad rfl (Ad rfl ?_)))))))))))
 refine Aw (AA (A04 p room l k hn) rfl rfl AC) ?_
 rintro v20 L1 ⟨rfl,rfl⟩
 refine Aj (Ac (Ai rfl) (Ac (Ai rfl) (B5 (AU rfl rfl rfl rfl) (As [4,5] rfl rfl (Ar ?_)))))
 exact Aq [F6 p room l] (.cell rfl (Bn rfl) (.tmp rfl .nil)) ⟨rfl,rfl⟩ AC
theorem A05(p:Nat)(room:Int)(l:List Nd)(x:Nd)(hx:x∈l):Spec prog 65 [pv p,.string x.k] [F6 p room l] (fun r L=>∃ l',(∀ y∈l',y∈l)∧r=.tuple #[.agg (anc x.a).toArray,.bool true]∧L=[F6 p room l']):=by
 refine Spec.of 23 func65 rfl rfl rfl ?_
 refine A0 (Aw (AZ) (fun b4=>?_))
 refine As [0,1,4] rfl rfl (Ae (A0 (Ad rfl (Ad rfl ?_))))
 refine Aw (AA (LZ p room l x.k (pv x.p) (.inl ⟨x,hx,rfl,rfl⟩)) rfl rfl AC) ?_
 rintro v8 L1 ⟨rfl,rfl⟩
 refine Aj (As [0,1,4,6] rfl rfl (A0 (Ad rfl (Ac (CF rfl rfl) (AE [0,1,4,6,11] rfl (Qs rfl ?_))))))
 refine A03 hx fun m ents clk hc=>?_
 obtain ⟨a,b,hab⟩:=List.append_of_mem hx
 have hpm:l.Perm (a++b++[x]):=by rw [hab]; exact List.perm_middle.trans (List.perm_append_singleton x (a++b)).symm
 have hc':=hc.perm hpm
 rw [hab]
 refine A0 (Ad rfl (Ad rfl ?_))
 refine Aw (AA (Ls p room (some m) a x b) rfl rfl AC) ?_
 rintro v14 L1 ⟨rfl,rfl⟩
 refine Aj (AE [0,1,4,6] rfl (Al (Ad rfl (Ad rfl ?_))))
 refine Aw (AA (OP p room (some m) (a++b) x) rfl rfl AC) ?_
 rintro v17 L1 ⟨rfl,rfl⟩
 refine Aj (AE [0,1,4] rfl (A0 (Ad rfl (Ad rfl ?_))))
 refine Aw (AA (YA p room m (a++b++[x]) x ents clk hc' (by simp)) rfl rfl AC) ?_
 rintro v20 L1 ⟨rfl,rfl⟩
 refine Aj (Ac (Ai rfl) (Ac (Ai rfl) (B5 (AU rfl rfl rfl rfl) (As [4,5] rfl rfl (Ar ?_)))))
 refine B8 [F6 p room (a++b++[x])] (.cell rfl (Bn rfl) (.tmp rfl .nil)) ⟨_,fun y hy=>by rw [← hab]; exact hpm.mem_iff.2 hy,rfl,rfl⟩ ((Split.ent' (K:=[cB p room (some m) (a++b++[x]),dA 233 none (a++b++[x]) none,BF m BM ents clk]) AC).trans (LY hc'))
theorem OQ (p:Nat)(room:Int)(l:List Nd):Spec prog 57 [pv p] [F6 p room l] (fun r L=>r=.tuple #[]∧L=[F6 p room []]):=by
 refine Spec.exA' fun c=>?_
 show Spec prog 57 [pv p] [Lq p room c.mo (hd l none) (HI none l),caR c] _
 refine Spec.of 13 func57 rfl rfl rfl ?_
 refine A0 (Ad rfl (Ac (CF rfl rfl) (AE [0,3] rfl (Qs rfl (Al (Ad rfl (Ad rfl (Ad rfl (Ac (Ah rfl) (Ac (Ab rfl) (B5 (AW rfl rfl rfl) (Ac (Ah rfl) (Ac (Ab rfl) (B5 (AW rfl rfl rfl) (Ac (Ah rfl) (Ac (Ab rfl) (B5 (AW rfl rfl rfl) (C7 _ .nil (AH ?_)))))))))))))))))))
 exact H8 [F6 p room []] .nil ⟨rfl,rfl⟩ ((Split.ent' (K:=[cBv p room none (.pointer none) (.pointer none)]) AC).trans Uf)
theorem KO:Spec prog 77 [.int .i64 64] [] (fun r L=>∃ p,r=pv p∧L=[F6 p 64 []]):=by
 refine Spec.of 8 func77 rfl rfl rfl ?_
 refine A0 (As [0] rfl rfl (A0 (Ad rfl (Ac (FC rfl rfl) (Ac (Ep rfl rfl) (Ac (Bo (qs:=[(0,_)]) rfl) (Aw (Bi rfl rfl) (fun b7=>?_))))))))
 refine As [2] rfl rfl (Ar ?_)
 exact B8 [F6 b7 64 []] (.tmp rfl .nil) ⟨_,rfl,rfl⟩ ((Split.ent' (K:=[cBv b7 (min (max 64 0) 4096) none (.pointer none) (.pointer none)]) AC).trans Uf)
theorem VI (p:Nat)(room:Int)(l:List Nd)(k:ByteArray)(a:An)(hn:∀ x∈l,x.k≠k):Spec prog 68 [pv p,.string k,.agg (anc a).toArray] [F6 p room l] (fun _ L=>∃ l',(∀ y∈l',y∈l∨(y.k=k∧y.a=a))∧L=[F6 p room l']):=by
 refine Spec.of 87 func68 rfl rfl rfl ?_
 refine A0 (Aw (Bi rfl rfl) (fun b5=>?_))
 refine AX rfl (Aw (AZ) (fun b7=>?_))
 refine As [0,1,5,7] rfl rfl (A0 (As [0,1,5,7,9] rfl rfl (A0 (Aw (AZ) (fun b10=>?_)))))
 refine AE [0,1,5,7,9,10] rfl (Ae (A0 (Ad rfl (Ac (Bd rfl rfl) (AE [0,1,5,7,9,10,15] rfl (Dz rfl (Am (Af (Ae (A0 (Ad rfl (Ad rfl ?_))))))))))))
 refine Aw (AA (LZ p room l k (.pointer none) (.inr ⟨hn,rfl⟩)) rfl rfl AC) ?_
 rintro v20 L1 ⟨rfl,rfl⟩
 refine Aj (As [0,1,5,7,9,10,11] rfl rfl (A0 (Ad rfl (Ac (CF rfl rfl) (AE [0,1,5,7,9,10,11,22] rfl (Dz rfl ?_))))))
 refine AP (Split.ent' (K:=[F6 p room l,B1 b5 62 (anc a),B1 b7 62 [.int .i64 0,.bool false,.int .i64 0,.slice none 0 0,.slice none 0 0],B1 b10 62 [.int .i64 0,.bool false,.int .i64 0,.slice none 0 0,.slice none 0 0]]) AC) ?_
 refine EQ fun c=>?_
 obtain ⟨mo,hmo⟩:∃ mo,c.mo=mo:=⟨_,rfl⟩
 have hnone:=fun h=>Ud (c:=c) h
 have hmap:=fun m h=>Ue (c:=c) (m:=m) h
 refine AP (show Ent _ [Lq p room mo (hd l none) (HI none l),caR c,B1 b5 62 (anc a),B1 b7 62 [.int .i64 0,.bool false,.int .i64 0,.slice none 0 0,.slice none 0 0],B1 b10 62 [.int .i64 0,.bool false,.int .i64 0,.slice none 0 0,.slice none 0 0]] from by rw [← hmo]; exact Ent.refl _) ?_
 rw [hmo] at hnone hmap
 refine Am (Af ?_)
 refine Cb (fun env L=>∃ (m:Nat) (ents:BQ ByteArray) (clk:Nat),CM ents l∧Sub env [(0,pv p),(1,.string k),(5,pv b5),(7,pv b7),(9,.string ⟨#[]⟩),(10,pv b10)]∧Ent L [cB p room (some m) l,dA 233 none l none,BF m BM ents clk,B1 b5 62 (anc a),B1 b7 62 [.int .i64 0,.bool false,.int .i64 0,.slice none 0 0,.slice none 0 0],B1 b10 62 [.int .i64 0,.bool false,.int .i64 0,.slice none 0 0,.slice none 0 0]]) ?_ ?_
 ·refine A0 (Ad rfl (Ac (Ah rfl) (Ac (Ab rfl) (AJ (Ag rfl rfl) (Ac (Jr rfl rfl) (AE [0,1,5,7,9,10,39] rfl ?_))))))
  refine Ak rfl (fun h39=>?_) (fun h39=>?_)
  ·obtain rfl:mo=none:=by cases mo with
    | none=>rfl
    | some m=>cases h39
   obtain rfl:=hnone rfl
   refine Al (Ad rfl (Aw (Fj (kv:=BM)) (fun b41=>?_)))
   refine Ac (Ah rfl) (Ac (Ab rfl) (B5 (AW rfl rfl rfl) (Be [0,1,5,7,9,10] rfl (AH ?_))))
   refine Af ⟨b41,[],0,⟨fun k v=>⟨fun h=>(by cases h),fun ⟨x,hx,_⟩=>(by cases hx)⟩,List.nodup_nil,List.nodup_nil⟩,⟨rfl,rfl,rfl,rfl,rfl,rfl,trivial⟩,(Split.ent' (K:=[cBv p room (some b41) (pt (hd [] none)) (pt (HI none [])),BF b41 BM [] 0,B1 b5 62 (anc a),B1 b7 62 [.int .i64 0,.bool false,.int .i64 0,.slice none 0 0,.slice none 0 0],B1 b10 62 [.int .i64 0,.bool false,.int .i64 0,.slice none 0 0,.slice none 0 0]]) AC).trans (Ent.under MO [_])⟩
  ·obtain ⟨m,rfl⟩:∃ m,mo=some m:=by cases mo with
    | none=>cases h39
    | some m=>exact ⟨m,rfl⟩
   obtain ⟨ents,clk,hc,hE⟩:=hmap m rfl
   refine Am ?_
   refine Af ⟨m,ents,clk,hc,⟨rfl,rfl,rfl,rfl,rfl,rfl,trivial⟩,?_⟩
   refine (Split.ent' (K:=[cB p room (some m) l,caR c,B1 b5 62 (anc a),B1 b7 62 [.int .i64 0,.bool false,.int .i64 0,.slice none 0 0,.slice none 0 0],B1 b10 62 [.int .i64 0,.bool false,.int .i64 0,.slice none 0 0,.slice none 0 0]]) AC).trans ?_
   exact Ent.under (hE _) [_]
 rintro env L ⟨m,ents,clk,hc,hsub,hE⟩
 refine B3 _ hsub (AP hE ?_)
 clear hsub hE env L hnone hmap hmo mo
 refine A0 (Ad rfl (AJ (BG (vs:=[.int .i64 a.e,.bool a.y,.int .i64 a.n,TZ a.i,TZ a.t]) rfl rfl rfl) (Ac (Bo (qs:=[(0,_),(1,_)]) rfl) (Aw (Bi rfl rfl) (fun b47=>?_)))))
 refine As [0,1,7,9,10,12] rfl rfl (A0 (Ad rfl (Ac (Ah rfl) (Ac (Ab rfl) (AJ (Ag rfl rfl) (Ad rfl (Ad rfl ?_)))))))
 refine B5 (Mt (kv:=BM) k rfl rfl rfl AC) ?_
 refine AE [0,7,9,10,12] rfl (Ae ?_)
 refine AP (show Ent _ [Gw 233 ⟨b47,k,a⟩ none none,cB p room (some m) l,dA 233 none l none,BF m BM (upd ents clk k (pv b47)) (Kr ents clk k),B1 b7 62 [.int .i64 0,.bool false,.int .i64 0,.slice none 0 0,.slice none 0 0],B1 b10 62 [.int .i64 0,.bool false,.int .i64 0,.slice none 0 0,.slice none 0 0]] from Split.ent' (K:=[ndV 233 ⟨b47,k,a⟩ (.pointer none) (.pointer none),cB p room (some m) l,dA 233 none l none,BF m BM (upd ents clk k (pv b47)) (Kr ents clk k),B1 b7 62 [.int .i64 0,.bool false,.int .i64 0,.slice none 0 0,.slice none 0 0],B1 b10 62 [.int .i64 0,.bool false,.int .i64 0,.slice none 0 0,.slice none 0 0]]) AC) ?_
 refine Al (Ad rfl (Ad rfl ?_))
 refine Aw (AA (OP p room (some m) l ⟨b47,k,a⟩) rfl rfl AC) ?_
 rintro v56 L1 ⟨rfl,rfl⟩
 refine Aj (AE [0,7,9,10] rfl (Ae (Ae ?_)))
 have hc':=hc.new ⟨b47,k,a⟩ hn clk
 refine Ba [3,4,8] _ [] (by simp only [List.append_nil]; exact Ent.refl _) AK ?_
 refine AD 0 rfl (AG rfl) (AD 1 rfl (Ah rfl) (AD 2 rfl (Ab rfl) (Bc 3 rfl (Ag rfl rfl) rfl (Bc 4 rfl (IY (κ:=ByteArray) rfl) rfl (AD 5 rfl (AG rfl) (AD 6 rfl (Ah rfl) (AD 7 rfl (Ab rfl) (Bc 8 rfl (Ag rfl rfl) rfl (AD 9 rfl (Ff rfl rfl) (C0 [0,7,9,10,66] rfl (DL AK (Af ?_))))))))))))
 refine Ak rfl (fun h66=>?_) (fun h66=>?_)
 ·refine Ae ?_
  refine Ba [1] _ [] (by simp only [List.append_nil]; exact Ent.refl _) AK ?_
  refine AD 0 rfl (AG rfl) (Bc 1 rfl (BP rfl rfl) rfl (AD 2 rfl (Bl rfl) (Cs 3 rfl AK AK (AU rfl rfl rfl rfl) (AD 4 rfl (Bl rfl) (C0 [6,7,8] rfl (Bs AK (Af (Ar (AN ?_)))))))))
  refine B8 [F6 p room (l++[⟨b47,k,a⟩])] (.tmp rfl (.cell rfl (Bn rfl) (.tmp rfl .nil))) ⟨_,fun y hy=>?_,rfl⟩ ((Split.ent' (K:=[cB p room (some m) (l++[⟨b47,k,a⟩]),dA 233 none (l++[⟨b47,k,a⟩]) none,BF m BM (upd ents clk k (pv b47)) (Kr ents clk k)]) AC).trans (LY hc'))
  rcases List.mem_append.1 hy with hy | hy
  ·exact .inl hy
  ·obtain rfl:=List.mem_singleton.1 hy
   exact .inr ⟨rfl,rfl⟩
 ·generalize hE:upd ents clk k (pv b47)=ents' at *
  generalize hC:Kr ents clk k=clk' at *
  obtain ⟨y,b,hyb⟩:∃ y b,l++[(⟨b47,k,a⟩:Nd)]=y::b:=by
   cases l with
   | nil=>exact ⟨_,_,rfl⟩
   | cons y l=>exact ⟨_,_,rfl⟩
  have hin:∀ z∈b,z∈l∨(z.k=k∧z.a=a):=fun z hz=>by
   have hz:z∈l++[(⟨b47,k,a⟩:Nd)]:=by rw [hyb]; exact List.mem_cons_of_mem _ hz
   rcases List.mem_append.1 hz with hz | hz
   ·exact .inl hz
   ·obtain rfl:=List.mem_singleton.1 hz
    exact .inr ⟨rfl,rfl⟩
  have hc2:CM ents' (y::b):=hyb▸hc'
  rw [hyb]
  refine AP ((Split.ent' (K:=[dA 233 none (y::b) none,cB p room (some m) (y::b),BF m BM ents' clk',B1 b7 62 [.int .i64 0,.bool false,.int .i64 0,.slice none 0 0,.slice none 0 0]]) AC).trans dA_cons) ?_
  refine Am (Af (A0 (Ad rfl (Ac (Ah rfl) (Ac (Ab rfl) (AJ (Ag rfl rfl) (As [0,7,13] rfl rfl (Ae ?_))))))))
  have hdr:=VH p room m [] b y ents' clk' hc2
  simp only [List.nil_append] at hdr
  refine Al (Ad rfl (Ad rfl (Ac (Ah rfl) (Ac (Ab rfl) (AJ (Ag rfl rfl) ?_)))))
  refine Aw (AA (hdr.pre (pre':=[cB p room (some m) (y::b),Gw 233 y none (hd b none),dA 233 (some y.p) b none,BF m BM ents' clk']) (Ent.under dA_uncons [_])) rfl rfl AC) ?_
  rintro v78 L1 ⟨rfl,rfl⟩
  refine Aj (AE [7,13] rfl (Ae ?_))
  refine Ba [3,7] _ [] (by simp only [List.append_nil]; exact Ent.refl _) AK ?_
  refine AD 0 rfl (AG rfl) (AD 1 rfl (Ah rfl) (AD 2 rfl (Ab rfl) (Bc 3 rfl (Ag rfl rfl) rfl (AD 4 rfl (AG rfl) (AD 5 rfl (Ah rfl) (AD 6 rfl (Ab rfl) (Bc 7 rfl (BG (vs:=[.int .i64 y.a.e,.bool y.a.y,.int .i64 y.a.n,TZ y.a.i,TZ y.a.t]) rfl rfl rfl) rfl (AD 8 rfl (Bl rfl) (Cs 9 rfl AK AK (AU rfl rfl rfl rfl) (AD 10 rfl (Bl rfl) (C0 [6,7,8] rfl (Bs AK (Af (Ar ?_))))))))))))))
  exact B8 [F6 p room b] (.tmp rfl (.cell rfl (Bn rfl) (.tmp rfl .nil))) ⟨b,hin,rfl⟩ ((Split.ent' (K:=[cB p room (some m) b,dA 233 none b none,BF m BM (del ents' y.k) clk']) AC).trans (LY (CM.del (a:=[]) hc2)))
def A1U (s:List UInt8)(tv:Value)(e:Int)(L:List AF):Prop:=∃ t,L=[own 111 2 tv t.length (DC t)]∧((e=0∧FV s=some t)∨(e≠0∧FV s=none∧t=[]∧tv=.slice none 0 0))
theorem DecT.two{s:List UInt8}{tv:Value}{e:Int}{L:List AF}(h:DecT s tv e L):∃ L',Ent L L'∧A1U s tv e L':=by
 rcases h with ⟨h1,t,h2,rfl⟩ | ⟨h1,h2,rfl,rfl⟩
 ·exact ⟨_,Ent.refl _,t,rfl,.inl ⟨h1,h2⟩⟩
 ·exact ⟨_,own_nil_ent,[],rfl,.inr ⟨h1,h2,rfl,rfl⟩⟩
theorem SV (s:List UInt8)(hs:s.length≤1073741824):Spec prog 313 [.string (str s)] [] (fun v L=>∃ tv e t,v=.tuple #[tv,.int .i64 e]∧((e=0∧FV s=some t)∨(e≠0∧FV s=none∧t=[]∧tv=.slice none 0 0))∧L=[own 111 2 tv t.length (DC t)]) :=
 Spec.ent3 (Vs s hs) fun r L ⟨tv,e,h1,h2⟩=>by
  obtain ⟨L',h3,t,h4,h5⟩:=h2.two
  exact ⟨L',h3,tv,e,t,h1,h5,h4⟩
def A2j (s:List UInt8)(μ:PH)(e:Int)(c:Cm)(pvv:Value):Prop:=Row μ pvv 1 c.1.length (c.1.flatMap (Bj .i64))∧((e=0∧HH s=some c)∨(e≠0∧HH s=none))
theorem DecC.two{s:List UInt8}{μ:PH}{cv:Value}{e:Int}(h:DecC s μ cv e):∃ (c:Cm) (A:Option Addr) (k:Nat),cv=cmV (.slice A c.1.length k) c.2∧A2j s μ e c (.slice A c.1.length k):=by
 rcases h with ⟨h1,c,pvv,h2,h3,h4⟩ | ⟨h1,h2,h3⟩
 ·obtain ⟨A,k,rfl⟩:=h4.sl
  exact ⟨c,A,k,h3,h4,.inl ⟨h1,h2⟩⟩
 ·exact ⟨([],0),none,0,h3,⟨rfl,none,0,rfl,Nat.le_refl _,Nat.zero_le _,fun _=>rfl,fun h=>absurd h (by simp)⟩,.inr ⟨h1,h2⟩⟩
abbrev O8:Type:=List (List En)×List Cm
def SW.pl (W:SW):O8:=(W.T.map (·.2),W.C.map (·.2))
def Dj (s:O8)(f:Fm):Option O8 :=
 if f.1=1 then match FV f.2 with
  | none=>none
  | some t=>if 65536≤s.1.length then none else some (s.1++[t],s.2)
 else if f.1=2 then match HH f.2 with
  | none=>none
  | some c=>if Fv s.1.length s.2.length c=false∨65536≤s.2.length then none else some (s.1,s.2++[c])
 else none
theorem VJ {s:O8}{f:Fm}(h1:f.1≠1)(h2:f.1≠2):Dj s f=none:=by unfold Dj; rw [if_neg h1,if_neg h2]
theorem VK {s:O8}{f:Fm}(h1:f.1=1)(h:FV f.2=none):Dj s f=none:=by unfold Dj; rw [if_pos h1,h]
theorem VL {s:O8}{f:Fm}{t:List En}(h1:f.1=1)(h:FV f.2=some t):Dj s f=if 65536≤s.1.length then none else some (s.1++[t],s.2):=by unfold Dj; rw [if_pos h1,h]
theorem VM {s:O8}{f:Fm}(h1:f.1=2)(h:HH f.2=none):Dj s f=none:=by unfold Dj; rw [if_neg Ax,if_pos h1,h]
theorem VN {s:O8}{f:Fm}{c:Cm}(h1:f.1=2)(h:HH f.2=some c):Dj s f=if Fv s.1.length s.2.length c=false∨65536≤s.2.length then none else some (s.1,s.2++[c]):=by unfold Dj; rw [if_neg Ax,if_pos h1,h]
def StandQ (μ:PH)(W:SW)(f:Fm)(r:Value)(W':SW)(μ':PH):Prop:=Le μ μ'∧W'.Ok μ'∧W'.q=W.q∧W'.dead=W.dead ∧
 ((Dj W.pl f=none∧r=.bool false∧W'.pl=W.pl)∨∃ s,Dj W.pl f=some s∧r=.bool true∧W'.pl=s)
theorem Ok.addT{μ μ':PH}{W:SW}(h:W.Ok μ)(hl:Le μ μ'){t:List En}{A:Option Addr}{k:Nat}(hr:Row μ' (.slice A t.length k) 2 t.length (DC t))(hn:W.T.length<65536){B:Option Addr}{c:Nat} :
  SW.Ok μ' { W with T:=W.T++[(.slice A t.length k,t)],tv:=.slice B (W.T.length+1) c}:=by
 refine ⟨⟨B,c,by rw [List.length_append]; rfl⟩,h.cf,fun x hx=>?_,(h.le hl).cr,by rw [List.length_append,List.length_singleton]; omega,h.cl⟩
 rcases List.mem_append.1 hx with hx | hx
 ·exact (h.le hl).tr x hx
 ·obtain rfl:x=(.slice A t.length k,t):=by simpa using hx
  exact hr
theorem Ok.addC{μ μ':PH}{W:SW}(h:W.Ok μ)(hl:Le μ μ'){x:Cm}{A:Option Addr}{k:Nat}(hr:Row μ' (.slice A x.1.length k) 1 x.1.length (x.1.flatMap (Bj .i64)))(hn:W.C.length<65536){B:Option Addr}{c:Nat} :
  SW.Ok μ' { W with C:=W.C++[(.slice A x.1.length k,x)],cv:=.slice B (W.C.length+1) c}:=by
 refine ⟨h.tf,⟨B,c,by rw [List.length_append]; rfl⟩,(h.le hl).tr,fun y hy=>?_,h.tl,by rw [List.length_append,List.length_singleton]; omega⟩
 rcases List.mem_append.1 hy with hy | hy
 ·exact (h.le hl).cr y hy
 ·obtain rfl:y=(.slice A x.1.length k,x):=by simpa using hy
  exact hr
set_option maxHeartbeats 4000000 in
theorem SY (μ:PH)(p:Nat)(W:SW)(hW:W.Ok μ)(f:Fm)(hf:f.2.length≤1073741824):Spec prog 241 [pv p,U9 f] [Cy p W,Df W,Dc W,ro μ] (fun r L=>∃ W' μ',StandQ μ W f r W' μ'∧L=[Cy p W',Df W',Dc W',ro μ']):=by
 have hW0:=hW
 obtain ⟨⟨A1,c1,e1⟩,⟨A2,c2,e2⟩,_,_,hT,hC⟩:=hW
 obtain ⟨q,tv,cv,T,C,dead⟩:=W
 dsimp only at e1 e2 hT hC
 subst e1 e2
 have hno:∀ {r:Value},Dj (SW.pl ⟨q,.slice A1 T.length c1,.slice A2 C.length c2,T,C,dead⟩) f=none→r=.bool false→∀ {μ'},Le μ μ'→StandQ μ ⟨q,.slice A1 T.length c1,.slice A2 C.length c2,T,C,dead⟩ f r ⟨q,.slice A1 T.length c1,.slice A2 C.length c2,T,C,dead⟩ μ':=fun h1 h2 μ' h3=>⟨h3,hW0.le h3,rfl,rfl,.inl ⟨h1,h2,rfl⟩⟩
 refine Spec.of 73 func241 rfl rfl rfl ?_
 refine A0 (Aw (Bi rfl rfl) (fun b3=>?_))
 refine As [0,3] rfl rfl (Ae (A0 (Ac (Ab rfl) (AJ (Ag rfl rfl) (AE [0,3,10] rfl (Au (A0 (Ac (Bp rfl rfl) (As [0,3,10,11] rfl rfl ?_)))))))))
 refine Ak rfl (fun h11=>?_) (fun h11=>?_)
 ·have h11':f.1=1:=by have:=of_decide_eq_true h11; omega
  refine A0 (Ac (Ab rfl) (AJ (Ag rfl rfl) ?_))
  refine Aw (AA (SV f.2 hf) rfl rfl AC) ?_
  rintro v16 L1 ⟨tv,e,t,rfl,hq,rfl⟩
  refine Aj ?_
  refine C5 (v:=tv) (μ:=μ) AC fun μ' hle hrow=>?_
  obtain ⟨A3,c3,rfl⟩:=hrow.sl
  refine Ad rfl (Ac (Ai rfl) (Ac (Ai rfl) (AX rfl (As [0,5,6] rfl rfl (Ae (A0 (Ad rfl (Ac (Bm rfl rfl) (Ad rfl ?_)))))))))
  refine B7 21 rfl (fun h21=>?_) (fun h21=>?_)
  ·have h21':e≠0:=by simpa using h21
   have hd:FV f.2=none:=by
    rcases hq with ⟨h,_⟩ | ⟨_,h,_⟩
    ·exact absurd h h21'
    ·exact h
   refine AI rfl rfl rfl (AI rfl rfl rfl (AI rfl rfl rfl (AI rfl rfl rfl (AI rfl rfl rfl (AI rfl rfl rfl (Ac (B4 rfl rfl) (AE [0,5,28] rfl ?_)))))))
   refine Ak rfl (fun h28=>?_) (fun h28=>by cases h28)
   refine A0 (As [4] rfl rfl (Ar (AN (B6 (AN ?_)))))
   exact Aq [Cy p ⟨q,_,_,T,C,dead⟩,Df ⟨q,_,_,T,C,dead⟩,Dc ⟨q,_,_,T,C,dead⟩,ro μ'] (.tmp rfl .nil) ⟨_,μ',hno (VK h11' hd) rfl hle,rfl⟩ AC
  ·have h21':e=0:=by simpa using h21
   have hd:FV f.2=some t:=by
    rcases hq with ⟨_,h⟩ | ⟨h,_⟩
    ·exact h
    ·exact absurd h21' h
   have hs:=VL (s:=SW.pl ⟨q,.slice A1 T.length c1,.slice A2 C.length c2,T,C,dead⟩) h11' hd
   rw [show (SW.pl ⟨q,.slice A1 T.length c1,.slice A2 C.length c2,T,C,dead⟩).1.length=T.length from List.length_map _] at hs
   refine AQ rfl rfl (Ad rfl (AQ rfl rfl (Ac (Ah rfl) (AQ rfl rfl (Ac (Ab rfl) (AQ rfl rfl (AJ (Ag rfl rfl) (AQ rfl rfl (Ac (BI rfl) (AQ rfl rfl (Ac (CA rfl rfl) (Ac (AT rfl rfl) (AE [0,5,28] rfl ?_)))))))))))))
   refine Ak rfl (fun h28=>?_) (fun h28=>?_)
   ·refine A0 (As [4] rfl rfl (Ar (AN (B6 (AN ?_)))))
    have h28':65536≤T.length:=by have:=of_decide_eq_true h28; omega
    rw [if_pos h28'] at hs
    exact Aq [Cy p ⟨q,_,_,T,C,dead⟩,Df ⟨q,_,_,T,C,dead⟩,Dc ⟨q,_,_,T,C,dead⟩,ro μ'] (.tmp rfl .nil) ⟨_,μ',hno hs rfl hle,rfl⟩ AC
   ·have h28':T.length<65536:=by have:=of_decide_eq_false h28; omega
    rw [if_neg Ax] at hs
    refine Am (Af (A0 (Ad rfl (Ad rfl (Ac (Ah rfl) (Ac (Ab rfl) (AJ (Ag rfl rfl) (Ad rfl (Aw (Bg (qs:=[(0,_)]) rfl rfl rfl) (fun b35=>?_))))))))))
    refine Aw (B9 (l:=T.length) (m:=1) rfl rfl AC (by simp only [maxLen]; omega) Ax) ?_
    rintro v36 -
    refine Cv (fun m h=>Bz h) fun ⟨A36,c36,hv36⟩=>?_
    subst hv36
    refine Ac (Ah rfl) (Ac (Ab rfl) (B5 (AW rfl rfl rfl) (C7 _ .nil (Dp (A0 (As [4] rfl rfl (Ar (B6 (AN ?_)))))))))
    refine Aq [Cy p ⟨q,.slice A36 (T.length+1) c36,.slice A2 C.length c2,T++[(.slice A3 t.length c3,t)],C,dead⟩,own 27 1 (.slice A36 (T.length+1) c36) (T.length+1) (T.flatMap Zy++[.slice A3 t.length c3]),Dc ⟨q,.slice A36 (T.length+1) c36,.slice A2 C.length c2,T,C,dead⟩,ro μ'] (.tmp rfl .nil) ⟨⟨q,.slice A36 (T.length+1) c36,.slice A2 C.length c2,T++[(.slice A3 t.length c3,t)],C,dead⟩,μ',⟨hle,Ok.addT hW0 hle hrow h28',rfl,rfl,.inr ⟨_,hs,rfl,?_⟩⟩,?_⟩ AC
    ·unfold SW.pl; rw [List.map_append]; rfl
    ·simp only [Df,List.length_append,List.length_singleton,List.flatMap_append]; rfl
 ·refine A0 (Ac (Bp rfl rfl) (As [0,3,39] rfl rfl ?_))
  refine Ak rfl (fun h39=>?_) (fun h39=>?_)
  ·have h39':f.1=2:=by have:=of_decide_eq_true h39; omega
   refine A0 (Ac (Ab rfl) (AJ (Ag rfl rfl) ?_))
   refine Aw (AA (Vx μ f.2 hf) rfl rfl AC) ?_
   rintro v44 L1 ⟨cv,e,μ',rfl,rfl,hle,hq⟩
   obtain ⟨c,A3,c3,rfl,hrow,hq⟩:=hq.two
   refine Aj (Ad rfl (Ac (Ai rfl) (Ac (Ai rfl) (Aw (AZ) (fun b7=>?_)))))
   refine B5 (AU rfl rfl rfl rfl) (As [0,7,8] rfl rfl (Ae (A0 (Ad rfl (Ac (Bm rfl rfl) (Ad rfl ?_))))))
   refine B7 49 rfl (fun h49=>?_) (fun h49=>?_)
   ·have h49':e≠0:=by simpa using h49
    have hd:HH f.2=none:=by
     rcases hq with ⟨h,_⟩ | ⟨_,h⟩
     ·exact absurd h h49'
     ·exact h
    refine AI rfl rfl rfl (AI rfl rfl rfl (AI rfl rfl rfl (AI rfl rfl rfl (Ac (B4 rfl rfl) (Ad rfl ?_)))))
    refine B7 55 rfl (fun h55=>?_) (fun h55=>by cases h55)
    refine AI rfl rfl rfl (AI rfl rfl rfl (AI rfl rfl rfl (AI rfl rfl rfl (AI rfl rfl rfl (AI rfl rfl rfl (Ac (B4 rfl rfl) (AE [0,7,62] rfl ?_)))))))
    refine Ak rfl (fun h62=>?_) (fun h62=>by cases h62)
    refine A0 (As [4] rfl rfl (Ar (AN (B6 (AN ?_)))))
    exact Aq [Cy p ⟨q,.slice A1 T.length c1,.slice A2 C.length c2,T,C,dead⟩,Df ⟨q,.slice A1 T.length c1,.slice A2 C.length c2,T,C,dead⟩,Dc ⟨q,.slice A1 T.length c1,.slice A2 C.length c2,T,C,dead⟩,ro μ'] (.tmp rfl .nil) ⟨_,μ',hno (VM h39' hd) rfl hle,rfl⟩ AC
   ·have h49':e=0:=by simpa using h49
    have hd:HH f.2=some c:=by
     rcases hq with ⟨_,h⟩ | ⟨h,_⟩
     ·exact h
     ·exact absurd h49' h
    have hs:=VN (s:=SW.pl ⟨q,.slice A1 T.length c1,.slice A2 C.length c2,T,C,dead⟩) h39' hd
    rw [show (SW.pl ⟨q,.slice A1 T.length c1,.slice A2 C.length c2,T,C,dead⟩).1.length=T.length from List.length_map _,show (SW.pl ⟨q,.slice A1 T.length c1,.slice A2 C.length c2,T,C,dead⟩).2.length=C.length from List.length_map _] at hs
    refine AQ rfl rfl (Ad rfl (AQ rfl rfl (AJ (BP rfl rfl) (AQ rfl rfl ?_))))
    refine Aw (AA (Nc μ' p ⟨q,.slice A1 T.length c1,.slice A2 C.length c2,T,C,dead⟩ (hW0.le hle) (.slice A3 c.1.length c3) c hrow) rfl rfl AC) ?_
    rintro v52 L1 ⟨rfl,rfl⟩
    refine Aj (AQ rfl rfl (Ac (BO rfl) (Ac (AT rfl rfl) (Ad rfl ?_))))
    refine B7 55 rfl (fun h55=>?_) (fun h55=>?_)
    ·have h55':Fv T.length C.length c=false:=by simpa using h55
     rw [if_pos (.inl h55')] at hs
     refine AI rfl rfl rfl (AI rfl rfl rfl (AI rfl rfl rfl (AI rfl rfl rfl (AI rfl rfl rfl (AI rfl rfl rfl (Ac (B4 rfl rfl) (AE [0,7,62] rfl ?_)))))))
     refine Ak rfl (fun h62=>?_) (fun h62=>by cases h62)
     refine A0 (As [4] rfl rfl (Ar (AN (B6 (AN ?_)))))
     exact Aq [Cy p ⟨q,.slice A1 T.length c1,.slice A2 C.length c2,T,C,dead⟩,Df ⟨q,.slice A1 T.length c1,.slice A2 C.length c2,T,C,dead⟩,Dc ⟨q,.slice A1 T.length c1,.slice A2 C.length c2,T,C,dead⟩,ro μ'] (.tmp rfl .nil) ⟨_,μ',hno hs rfl hle,rfl⟩ AC
    ·have h55':Fv T.length C.length c=true:=by simpa using h55
     refine AQ rfl rfl (Ad rfl (AQ rfl rfl (Ac (Ah rfl) (AQ rfl rfl (Ac (Ab rfl) (AQ rfl rfl (AJ (Ag rfl rfl) (AQ rfl rfl (Ac (BI rfl) (AQ rfl rfl (Ac (CA rfl rfl) (Ac (AT rfl rfl) (AE [0,7,62] rfl ?_)))))))))))))
     refine Ak rfl (fun h62=>?_) (fun h62=>?_)
     ·refine A0 (As [4] rfl rfl (Ar (AN (B6 (AN ?_)))))
      have h62':65536≤C.length:=by have:=of_decide_eq_true h62; omega
      rw [if_pos (.inr h62')] at hs
      exact Aq [Cy p ⟨q,.slice A1 T.length c1,.slice A2 C.length c2,T,C,dead⟩,Df ⟨q,.slice A1 T.length c1,.slice A2 C.length c2,T,C,dead⟩,Dc ⟨q,.slice A1 T.length c1,.slice A2 C.length c2,T,C,dead⟩,ro μ'] (.tmp rfl .nil) ⟨_,μ',hno hs rfl hle,rfl⟩ AC
     ·have h62':C.length<65536:=by have:=of_decide_eq_false h62; omega
      rw [if_neg (by rintro (k | k); rw [h55'] at k; cases k; omega)] at hs
      refine Am (Af (Ae ?_))
      refine Ba [4,5] _ [] (by simp only [List.append_nil]; exact Ent.refl _) AK ?_
      refine AD 0 rfl (AG rfl) (AD 1 rfl (AG rfl) (AD 2 rfl (Ah rfl) (AD 3 rfl (Ab rfl) (Bc 4 rfl (Ag rfl rfl) rfl (Bc 5 rfl (BP rfl rfl) rfl (CC 6 rfl AK (Bg (qs:=[(0,_)]) rfl rfl rfl) (fun b69=>?_)))))))
      refine ⟨_,Split.ent AC,?_⟩
      refine BT 7 rfl AK AK (B9 (l:=C.length) (m:=1) rfl rfl AC (by simp only [maxLen]; omega) Ax) ?_
      rintro v70 -
      refine ED (fun m h=>Bz h) fun ⟨A70,c70,hv70⟩=>?_
      subst hv70
      refine AD 8 rfl (Ah rfl) (AD 9 rfl (Ab rfl) (Cj 10 rfl AK AK (AW rfl rfl rfl) (Ml _ .nil (Bs AK (Af (A0 (As [4] rfl rfl (Ar (B6 (AN ?_))))))))))
      refine Aq [Cy p ⟨q,.slice A1 T.length c1,.slice A70 (C.length+1) c70,T,C++[(.slice A3 c.1.length c3,c)],dead⟩,Df ⟨q,.slice A1 T.length c1,.slice A2 C.length c2,T,C,dead⟩,own 88 2 (.slice A70 (C.length+1) c70) (C.length+1) (C.flatMap Yw++[.slice A3 c.1.length c3,.int .i64 c.2]),ro μ'] (.tmp rfl .nil) ⟨⟨q,.slice A1 T.length c1,.slice A70 (C.length+1) c70,T,C++[(.slice A3 c.1.length c3,c)],dead⟩,μ',⟨hle,Ok.addC hW0 hle hrow h62',rfl,rfl,.inr ⟨_,hs,rfl,?_⟩⟩,?_⟩ AC
      ·unfold SW.pl; rw [List.map_append]; rfl
      ·simp only [Dc,List.length_append,List.length_singleton,List.flatMap_append]; rfl
  ·refine Am (AR (Af (A0 (As [4] rfl rfl (Ar ?_)))))
   have h11':f.1≠1:=by have:=of_decide_eq_false h11; omega
   have h39':f.1≠2:=by have:=of_decide_eq_false h39; omega
   exact Aq [Cy p ⟨q,.slice A1 T.length c1,.slice A2 C.length c2,T,C,dead⟩,Df ⟨q,.slice A1 T.length c1,.slice A2 C.length c2,T,C,dead⟩,Dc ⟨q,.slice A1 T.length c1,.slice A2 C.length c2,T,C,dead⟩,ro μ] (.tmp rfl .nil) ⟨_,μ,hno (VJ h11' h39') rfl (Le.refl _),rfl⟩ AC
def eOk (s:List UInt8)(pre:List (Nat×Fm))(x:Nat×Fm):Prop:=(∃ post,Ex s=pre.map (·.2)++x.2::post)∧x.1=Ej (pre.map (·.2))∧x.2.2.length≤1048576∧x.1+(x.2.2.length+9)≤s.length
set_option maxHeartbeats 2000000 in
theorem VO (b:Nat)(s:List UInt8)(hs:s.length≤1073741824):A0J prog 311 [pv b] (fun x:Nat×Fm=>[.int .i64 (x.1:Nat),U9 x.2]) (eOk s) (fun ys=>ys.map (·.2)=Ex s) [] (B1 b 9 [.string (str s)]) (B1 b 9 [.string (str s)]):=by
 intro l I X R h0 hy
 refine Spec.of 31 func311 rfl rfl rfl ?_
 refine AP (L':=[I [],B1 b 9 [.string (str s)]]) ((Ent.perm (List.Perm.swap _ _ _)).trans ((Ent.cons h0).trans (Ent.perm (List.Perm.swap _ _ _)))) (A0 (As [0,1,3] rfl rfl (Au ?_)))
 refine B0 (ι:=Nat×List (Nat×Fm)) (fun x env L=>Sub env [(0,yv l),(1,pv b),(3,.int .i64 (x.1:Nat))]∧Ent L [I x.2,B1 b 9 [.string (str s)]]∧x.1=Ej (x.2.map (·.2))∧Ex s=x.2.map (·.2)++Ex (s.drop x.1)∧x.1≤s.length) (fun x=>s.length-x.1) (0,[]) ⟨⟨rfl,rfl,rfl,trivial⟩,Ent.refl _,rfl,rfl,Nat.zero_le _⟩ ?_
 rintro ⟨pos,pre⟩ env L ⟨hsub,hE,hp,hsc,hps⟩
 dsimp only at hsub hE hp hsc hps ⊢
 refine B3 _ hsub (AP hE ?_)
 clear hsub hE env L
 refine Ae (A0 (Ad rfl (AJ (Ag rfl rfl) (Ac (D0 rfl) (Ac (Bb rfl rfl) (AE [0,1,3,10] rfl ?_))))))
 refine Ak rfl (fun h10=>?_) (fun h10=>?_)
 ·have h10':pos<s.length:=by have:=of_decide_eq_true h10; omega
  refine Am (Af (Au (A0 (AJ (Ag rfl rfl) (Ad rfl (Ac (Il pos rfl rfl rfl hps) ?_))))))
  refine Aw (AA (Vz (s.drop pos) (by rw [List.length_drop]; omega)) rfl rfl AC) ?_
  rintro v15 L1 ⟨fv,n,e,rfl,rfl,hq⟩
  obtain ⟨f,rfl⟩:∃ f:Fm,fv=U9 f:=by rcases hq with ⟨_,f,_,_,h,_⟩ | ⟨_,_,h,_⟩ <;> exact ⟨_,h⟩
  refine Aj (Ad rfl (Ac (Ai rfl) (Ac (Ai rfl) (Ac (Ai rfl) (Aw (AZ) (fun b4=>?_))))))
  refine B5 (AU rfl rfl rfl rfl) (AX rfl (As [0,1,3,4,5,6] rfl rfl (Ae (A0 (Ad rfl (Ac (Bm rfl rfl) (Ad rfl ?_)))))))
  refine B7 21 rfl (fun h21=>?_) (fun h21=>?_)
  ·have h21':e≠0:=by simpa using h21
   have hd:Hg (s.drop pos)=none:=by
    rcases hq with ⟨h,_⟩ | ⟨_,h,_⟩
    ·exact absurd h h21'
    ·exact h
   rw [UX hd,List.append_nil] at hsc
   refine AI rfl rfl rfl (AI rfl rfl rfl (AI rfl rfl rfl (AI rfl rfl rfl (AI rfl rfl rfl (Ac (B4 rfl rfl) (AE [0,1,3,5,27] rfl ?_))))))
   refine Ak rfl (fun h27=>?_) (fun h27=>by cases h27)
   refine Ar (AN (B6 (AN (B6 ?_))))
   exact Co [I pre,B1 b 9 [.string (str s)]] .nil (.inl ⟨pre,hsc.symm,rfl⟩) AC
  ·have h21':e=0:=by simpa using h21
   obtain ⟨k,hd,rfl⟩:∃ k:Nat,Hg (s.drop pos)=some (f,k)∧n=(k:Nat):=by
    rcases hq with ⟨_,f',k,h1,h2,h3⟩ | ⟨h,_⟩
    ·injection h2 with h4
     have h5:=congrArg Array.toList h4
     injection h5 with h6 h7
     injection h6 with _ h8
     injection h7 with h9 _
     injection h9 with h10
     have h11:f=f':=Prod.ext (Int.ofNat_inj.1 h8) (Pq h10)
     rw [h11]
     exact ⟨k,h1,h3⟩
    ·exact absurd h21' h
   obtain ⟨q1,q2,q3,q4,q5⟩:=KC hd
   rw [List.length_drop] at q2
   rw [UY hd,List.drop_drop] at hsc
   have hok:eOk s pre (pos,f):=⟨⟨_,hsc⟩,hp,q5,by show pos+(f.2.length+9)≤s.length; omega⟩
   refine AQ rfl rfl (Ad rfl (AQ rfl rfl (Ad rfl (AQ rfl rfl (AJ (BP rfl rfl) (AQ rfl rfl ?_))))))
   refine Aw (Qt (hy pre (pos,f) hok) rfl rfl AC) ?_
   rintro v1 L1 (⟨rfl,rfl⟩ | ⟨rfl,rfl⟩)
   ·refine Aj (AQ rfl rfl (Ac (BO rfl) (Ac (AT rfl rfl) (AE [0,1,3,5,27] rfl ?_))))
    refine Ak rfl (fun h27=>by cases h27) (fun h27=>?_)
    refine Am (Af (Al (Ad rfl (Ad rfl (Ac (AO ((pos+k:Nat):Int) rfl rfl Ax Ax Ax) (AX rfl (Be [0,1,3] rfl (AH (AR ?_)))))))))
    refine Af ⟨(pos+k,pre++[(pos,f)]),⟨⟨rfl,rfl,rfl,trivial⟩,by show Ent _ [I (pre++[(pos,f)]),B1 b 9 [.string (str s)]]; exact Split.ent' AC,?_,?_,by show pos+k≤s.length; omega⟩,by show s.length-(pos+k)<s.length-pos; omega⟩
    ·show pos+k=_
     rw [List.map_append,KD,← hp,q1]
     show _=pos+(f.2.length+9+0)
     omega
    ·show Ex s=(pre++[(pos,f)]).map (·.2)++Ex (s.drop (pos+k))
     rw [hsc,List.map_append,List.append_assoc]
     rfl
   ·refine Aj (AQ rfl rfl (Ac (BO rfl) (Ac (AT rfl rfl) (AE [0,1,3,5,27] rfl ?_))))
    refine Ak rfl (fun h27=>?_) (fun h27=>by cases h27)
    refine Ar (AN (B6 (AN (B6 ?_))))
    exact Co [X,B1 b 9 [.string (str s)]] .nil (.inr rfl) AC
 ·have h10':=of_decide_eq_false h10
  obtain rfl:pos=s.length:=by omega
  rw [List.drop_length,XY,List.append_nil] at hsc
  refine AY (AS (AS (AV rfl ?_)))
  exact Co [I pre,B1 b 9 [.string (str s)]] .nil (.inl ⟨pre,hsc.symm,rfl⟩) AC
theorem VP (s:List UInt8):Spec prog 240 [.string (str s)] [] (fun r L=>∃ b,r=.func (.func 311) #[] #[pv b]∧L=[B1 b 9 [.string (str s)]]):=by
 refine Spec.of 4 func240 rfl rfl rfl ?_
 refine A0 (Aw (Bi rfl rfl) (fun b1=>?_))
 refine As [1] rfl rfl (A0 (Ac (C9 (vs:=[]) (us:=[_]) rfl rfl) (As [2] rfl rfl (Ar ?_))))
 exact Aq [B1 b1 9 [.string (str s)]] (.tmp rfl .nil) ⟨b1,rfl,rfl⟩ AC
def Gl:O8→List Fm→Option O8
 | s,[]=>some s
 | s,f::l=>match Dj s f with | none=>none | some s'=>Gl s' l
def EZ:O8→List Fm→O8×Nat
 | s,[]=>(s,0)
 | s,f::l=>match Dj s f with | none=>(s,0) | some s'=>((EZ s' l).1,f.2.length+9+(EZ s' l).2)
theorem Lt:∀ {s s' s'':O8} {l:List Fm} {f:Fm},Gl s l=some s'→Dj s' f=some s''→Gl s (l++[f])=some s''
 | s,s',s'',[],f,h1,h2=>by
  cases h1
  show (match Dj s f with | none=>none | some s'=>Gl s' [])=_
  rw [h2]; rfl
 | s,s',s'',g::l,f,h1,h2=>by
  rw [Gl] at h1
  rw [List.cons_append,Gl]
  cases hg:Dj s g with
  | none=>rw [hg] at h1; cases h1
  | some t =>
   rw [hg] at h1
   exact Lt h1 h2
theorem Nk:∀ {s s':O8} {a b:List Fm},Gl s a=some s'→EZ s (a++b)=((EZ s' b).1,Ej a+(EZ s' b).2)
 | s,s',[],b,h=>by cases h; rw [List.nil_append]; exact Prod.ext rfl (Nat.zero_add _).symm
 | s,s',f::a,b,h=>by
  rw [Gl] at h
  rw [List.cons_append,EZ]
  cases hg:Dj s f with
  | none=>rw [hg] at h; cases h
  | some t =>
   rw [hg] at h
   show ((EZ t (a++b)).1,f.2.length+9+(EZ t (a++b)).2)=_
   rw [Nk h]
   refine Prod.ext rfl ?_
   show f.2.length+9+(Ej a+(EZ s' b).2)=Ej ([f]++a)+(EZ s' b).2
   rw [KD]
   show _=f.2.length+9+0+Ej a+_
   omega
theorem YB {s s':O8}{a:List Fm}(h:Gl s a=some s'):EZ s a=(s',Ej a):=by
 have:=Nk (b:=[]) h
 rw [List.append_nil] at this
 rw [this]; rfl
theorem VQ {s s':O8}{a b:List Fm}{f:Fm}(h:Gl s a=some s')(h2:Dj s' f=none):EZ s (a++f::b)=(s',Ej a):=by
 rw [Nk h]
 rw [EZ,h2]
 rfl
def PX (b:UInt8):Bool:=decide (b.toNat<33)||decide (126<b.toNat)
theorem R9 (b:UInt8):Spec prog 310 [.int .u8 (b.toNat:Nat)] [] (fun r L=>r=.bool (PX b)∧L=[]):=by
 refine Spec.of 9 func310 rfl rfl rfl ?_
 refine A0 (As [0] rfl rfl (A0 (Ad rfl (Ac (Bb rfl rfl) (Ad rfl ?_)))))
 refine B7 5 rfl (fun h5=>?_) (fun h5=>?_)
 ·refine AI rfl rfl rfl (AI rfl rfl rfl (Ac (B4 rfl rfl) (As [2] rfl rfl (Ar ?_))))
  refine Aq [] (.tmp rfl .nil) ⟨?_,rfl⟩ AC
  unfold PX
  first
   | (have h:=of_decide_eq_true h5; rw [decide_eq_true (show b.toNat<33 by omega)]; rfl)
   | (
    have h:=of_decide_eq_false h5
    rw [decide_eq_false (show ¬ b.toNat<33 by omega)]
    by_cases h2:126<b.toNat
    ·rw [decide_eq_true h2,decide_eq_true Ax]; rfl
    ·rw [decide_eq_false h2,decide_eq_false Ax]; rfl)
 ·refine AQ rfl rfl (Ad rfl (AQ rfl rfl (Ac (BA rfl rfl) (Ac (AT rfl rfl) (As [2] rfl rfl (Ar ?_))))))
  refine Aq [] (.tmp rfl .nil) ⟨?_,rfl⟩ AC
  unfold PX
  first
   | (have h:=of_decide_eq_true h5; rw [decide_eq_true (show b.toNat<33 by omega)]; rfl)
   | (
    have h:=of_decide_eq_false h5
    rw [decide_eq_false (show ¬ b.toNat<33 by omega)]
    by_cases h2:126<b.toNat
    ·rw [decide_eq_true h2,decide_eq_true Ax]; rfl
    ·rw [decide_eq_false h2,decide_eq_false Ax]; rfl)
theorem Nl {P:Program}{rn:Option Nat}{Q:DP}{N:Nat}{L:List AF}{μ:PH}{env:CQ}{ops:Array Oper}{ol:List Oper}{b:Nat}{o:Obj}{L0:List AF}(hL:Split L0 [one b o,ro μ] L)(h:∀ μ',Le μ μ'→μ' b=some o→G4 P rn ops Q N ol env (ro μ'::L)):G4 P rn ops Q N ol env L0:=fun E D a w hd hf hh=>by
 obtain ⟨μ',h1,h2,h3⟩:=(hh.ent hL.ent).share
 exact h μ' h1 h2 E D a w hd hf h3
theorem Ug {L:List AF}:Ent L (ro (fun _=>none)::L):=fun m h=>⟨fun _=>none,m,(fun k x hk=>by cases hk),h,(fun _=>.inl rfl),(fun _ _ h=>by cases h),(fun _ _ h=>h)⟩
theorem YC (μ:PH)(v:Value)(l:List UInt8)(hr:Row μ v 1 l.length (Dd l))(hl:l.length≤1048576):Spec prog 352 [v,.func (.func 310) #[] #[]] [ro μ] (fun r L=>∃ i:Int,r=.int .i64 i∧(0≤i↔l.any PX=true)∧L=[ro μ]):=by
 refine Spec.of 19 func352 rfl rfl rfl ?_
 refine A0 (As [0,1] rfl rfl (Ae (A0 (Ad rfl (Ac (B2 hr rfl) (Ad rfl (AE [0,1,7,8] rfl (Au ?_))))))))
 refine B0 (ι:=Nat) (fun i env L=>Sub env [(0,v),(1,.func (.func 310) #[] #[]),(7,.int .i64 (l.length:Nat)),(8,.int .i64 (i:Nat))]∧L=[ro μ]∧i≤l.length∧(l.take i).any PX=false) (fun i=>l.length-i) 0 ⟨⟨rfl,rfl,rfl,rfl,trivial⟩,rfl,Nat.zero_le _,rfl⟩ ?_
 rintro i env L ⟨hsub,rfl,hi,hn⟩
 refine B3 _ hsub ?_
 clear hsub env
 refine A0 (Ac (Bb rfl rfl) (AE [0,1,7,8,9] rfl (Ae ?_)))
 refine Ak rfl (fun h9=>?_) (fun h9=>?_)
 ·have h9':i<l.length:=by have:=of_decide_eq_true h9; omega
  obtain ⟨b,hb⟩:∃ b,l[i]? = some b:=⟨_,List.getElem?_eq_getElem h9'⟩
  obtain ⟨g,o,c,hv,_,_,hrr⟩:=hr.pos Ax
  have hc:=(hrr.elem (f:=bc1) (n:=1) (fun _=>rfl) hb).cell
  refine Am (Af (Ae (Au (A0 (Ad rfl (As [0,1,5,7,8] rfl rfl (A0 (Ad rfl (Ad rfl (Ad rfl ?_))))))))))
  refine Ac (AB (o+i*1) (congrArg some hv) rfl Ax Ax (by rw [Int.toNat_natCast])) ?_
  refine AJ (C3 rfl hc) ?_
  refine Aw (AA (R9 b) rfl rfl AC) ?_
  rintro v16 L1 ⟨rfl,rfl⟩
  refine Aj (AE [0,1,5,7,8,16] rfl ?_)
  refine Ak rfl (fun h16=>?_) (fun h16=>?_)
  ·refine A0 (Ad rfl (As [4] rfl rfl (Ar (B6 (AN (AN (B6 (AN ?_))))))))
   refine Aq [ro μ] (.tmp rfl .nil) ⟨i,rfl,⟨fun _=>List.any_eq_true.2 ⟨b,List.mem_of_getElem? hb,h16⟩,fun _=>by omega⟩,rfl⟩ AC
  ·refine Am (AR (Af (Al (Ac (AO ((i+1:Nat):Int) rfl rfl Ax Ax Ax) (Ad rfl (Be [0,1,7,8] rfl (AH ?_)))))))
   refine Af ⟨i+1,⟨⟨rfl,rfl,rfl,rfl,trivial⟩,rfl,h9',?_⟩,by omega⟩
   rw [List.take_add_one,hb,List.any_append,hn]; simp [h16]
 ·have h9':=of_decide_eq_false h9
  obtain rfl:i=l.length:=by omega
  rw [List.take_length] at hn
  refine AY (AS (AS (AV rfl (Af (A0 (As [4] rfl rfl (Ar ?_)))))))
  refine Aq [ro μ] (.tmp rfl .nil) ⟨-1,rfl,⟨fun h=>by omega,fun h=>by rw [hn] at h; cases h⟩,rfl⟩ AC
theorem Jv (μ:PH)(v:Value)(l:List UInt8)(hr:Row μ v 1 l.length (Dd l))(hl:l.length≤1048576):Spec prog 309 [v,.func (.func 310) #[] #[]] [ro μ] (fun r L=>r=.bool (l.any PX)∧L=[ro μ]):=by
 refine Spec.of 9 func309 rfl rfl rfl ?_
 refine A0 (As [0,1] rfl rfl (A0 (Ad rfl (Ad rfl ?_))))
 refine Aw (AA (YC μ v l hr hl) rfl rfl AC) ?_
 rintro v7 L1 ⟨i,rfl,hi,rfl⟩
 refine Aj (Ac (CA rfl rfl) (As [4] rfl rfl (Ar ?_)))
 refine Aq [ro μ] (.tmp rfl .nil) ⟨?_,rfl⟩ AC
 show Value.bool (decide (0≤i))=_
 congr 1
 by_cases h:l.any PX=true
 ·rw [h]; exact decide_eq_true (hi.2 h)
 ·rw [Bool.not_eq_true] at h; rw [h]; exact decide_eq_false (fun k=>by rw [hi.1 k] at h; cases h)
theorem YD (s:ByteArray):DX s=(decide (s.size≠0)&&(decide (s.size≤32)&&!s.data.toList.any PX)):=by
 unfold DX
 congr 1
 ·congr 1; exact propext ⟨fun h=>by omega,fun h=>by omega⟩
 ·congr 1
  rw [List.not_any_eq_all_not]
  congr 1
  funext b
  unfold PX
  by_cases h1:b.toNat<33
  ·rw [decide_eq_true h1,decide_eq_false (show ¬ 33≤b.toNat by omega)]; rfl
  ·rw [decide_eq_false h1,decide_eq_true (show 33≤b.toNat by omega)]
   by_cases h2:126<b.toNat
   ·rw [decide_eq_true h2,decide_eq_false (show ¬ b.toNat≤126 by omega)]; rfl
   ·rw [decide_eq_false h2,decide_eq_true (show b.toNat≤126 by omega)]; rfl
theorem OR (s:ByteArray):Bx s Dn=decide (s.size=0):=by
 by_cases h:s.size=0
 ·rw [decide_eq_true h]
  refine Cl.2 ?_
  cases s with
  | mk d=>congr 1; exact Array.eq_empty_of_size_eq_zero h
 ·rw [decide_eq_false h,Dm]; rintro rfl; exact h rfl
theorem Nn (s:ByteArray):Spec prog 238 [.string s] [] (fun r L=>r=.bool (DX s)∧L=[]):=by
 have hg:=YD s
 have hn:=OR s
 have hll:s.data.toList.length=s.size:=by rw [Array.length_toList]; rfl
 refine Spec.of 16 func238 rfl rfl rfl ?_
 refine A0 (As [0] rfl rfl (A0 (Ad rfl (Ac (Et rfl rfl) (Ad rfl ?_)))))
 refine B7 5 rfl (fun h5=>?_) (fun h5=>?_)
 ·refine AQ rfl rfl (Ad rfl (AQ rfl rfl (Ac (Dw rfl) (AQ rfl rfl (Ac (Ff rfl rfl) (Ac (B4 rfl rfl) (Ad rfl ?_)))))))
  refine B7 10 rfl (fun h10=>?_) (fun h10=>?_)
  ·refine AQ rfl rfl (Ad rfl (AQ rfl rfl ?_))
   refine Aw (Ih rfl (by first | (simp only [maxLen]; have:=of_decide_eq_true h10; omega) | cases h10)) ?_
   rintro g cap cs fr hc1 hc2 hc3
   refine BK Ug ?_
   refine Nl AC fun μ1 _ gg=>?_
   have hrow:=Ha hc1 hc2 hc3 gg
   refine AQ rfl rfl ?_
   refine Aw (AA (Jv μ1 _ _ hrow (by first | (have:=of_decide_eq_true h10; omega) | cases h10)) rfl rfl AC) ?_
   rintro v13 L1 ⟨rfl,rfl⟩
   refine Aj (AQ rfl rfl (Ac (BO rfl) (Ac (B4 rfl rfl) (As [2] rfl rfl (Ar ?_)))))
   refine Aq [] (.tmp rfl .nil) ⟨?_,rfl⟩ AC
   rw [hg]
   rw [hn] at h5
   first
    | (cases h10; done)
    | (
     have h1:s.size≠0:=by simpa using h5
     have h2:=of_decide_eq_true h10
     rw [decide_eq_true h1,decide_eq_true Ax]; rfl)
    | (
     have h1:s.size≠0:=by simpa using h5
     have h2:=of_decide_eq_false h10
     rw [decide_eq_true h1,decide_eq_false (p:=s.size≤32) Ax]; rfl)
    | (
     have h1:s.size=0:=by simpa using h5
     rw [decide_eq_false (p:=s.size≠0) Ax]; rfl)
  ·refine AI rfl rfl rfl (AI rfl rfl rfl (AI rfl rfl rfl (AI rfl rfl rfl (Ac (AT rfl rfl) (As [2] rfl rfl (Ar ?_))))))
   refine Aq [] (.tmp rfl .nil) ⟨?_,rfl⟩ AC
   rw [hg]
   rw [hn] at h5
   first
    | (cases h10; done)
    | (
     have h1:s.size≠0:=by simpa using h5
     have h2:=of_decide_eq_true h10
     rw [decide_eq_true h1,decide_eq_true Ax]; rfl)
    | (
     have h1:s.size≠0:=by simpa using h5
     have h2:=of_decide_eq_false h10
     rw [decide_eq_true h1,decide_eq_false (p:=s.size≤32) Ax]; rfl)
    | (
     have h1:s.size=0:=by simpa using h5
     rw [decide_eq_false (p:=s.size≠0) Ax]; rfl)
 ·refine AI rfl rfl rfl (AI rfl rfl rfl (AI rfl rfl rfl (Ac (AT rfl rfl) (Ad rfl ?_))))
  refine B7 10 rfl (fun h10=>?_) (fun h10=>?_)
  ·refine AQ rfl rfl (Ad rfl (AQ rfl rfl ?_))
   refine Aw (Ih rfl (by first | (simp only [maxLen]; have:=of_decide_eq_true h10; omega) | cases h10)) ?_
   rintro g cap cs fr hc1 hc2 hc3
   refine BK Ug ?_
   refine Nl AC fun μ1 _ gg=>?_
   have hrow:=Ha hc1 hc2 hc3 gg
   refine AQ rfl rfl ?_
   refine Aw (AA (Jv μ1 _ _ hrow (by first | (have:=of_decide_eq_true h10; omega) | cases h10)) rfl rfl AC) ?_
   rintro v13 L1 ⟨rfl,rfl⟩
   refine Aj (AQ rfl rfl (Ac (BO rfl) (Ac (B4 rfl rfl) (As [2] rfl rfl (Ar ?_)))))
   refine Aq [] (.tmp rfl .nil) ⟨?_,rfl⟩ AC
   rw [hg]
   rw [hn] at h5
   first
    | (cases h10; done)
    | (
     have h1:s.size≠0:=by simpa using h5
     have h2:=of_decide_eq_true h10
     rw [decide_eq_true h1,decide_eq_true Ax]; rfl)
    | (
     have h1:s.size≠0:=by simpa using h5
     have h2:=of_decide_eq_false h10
     rw [decide_eq_true h1,decide_eq_false (p:=s.size≤32) Ax]; rfl)
    | (
     have h1:s.size=0:=by simpa using h5
     rw [decide_eq_false (p:=s.size≠0) Ax]; rfl)
  ·refine AI rfl rfl rfl (AI rfl rfl rfl (AI rfl rfl rfl (AI rfl rfl rfl (Ac (AT rfl rfl) (As [2] rfl rfl (Ar ?_))))))
   refine Aq [] (.tmp rfl .nil) ⟨?_,rfl⟩ AC
   rw [hg]
   rw [hn] at h5
   first
    | (cases h10; done)
    | (
     have h1:s.size≠0:=by simpa using h5
     have h2:=of_decide_eq_true h10
     rw [decide_eq_true h1,decide_eq_true Ax]; rfl)
    | (
     have h1:s.size≠0:=by simpa using h5
     have h2:=of_decide_eq_false h10
     rw [decide_eq_true h1,decide_eq_false (p:=s.size≤32) Ax]; rfl)
    | (
     have h1:s.size=0:=by simpa using h5
     rw [decide_eq_false (p:=s.size≠0) Ax]; rfl)
theorem A06(b cl:Nat)(es:BQ ByteArray)(g c:ByteArray)(o:Option Addr):Spec prog 262 [.agg (Cf (g,c,.pointer o)).toArray,.map (some b)] [BF b BM es cl] (fun _ L=>L=[BF b BM (Lm es cl (g,c,.pointer o)) (O3 es cl (g,c,.pointer o))]):=by
 refine Spec.of 15 func262 rfl rfl rfl ?_
 refine A0 (Aw (Bi rfl rfl) (fun b2=>?_))
 refine AE [1,2] rfl (A0 (Ad rfl (Ac (Ab rfl) (AJ (Ag rfl rfl) ?_))))
 refine B5 (Oq (kv:=BM) g rfl rfl AC) ?_
 refine AE [1,2] rfl (A0 (Ac (Ab rfl) (AJ (Ag rfl rfl) (Ac (CF rfl rfl) (AE [1,2,9] rfl ?_)))))
 refine Ak rfl (fun h9=>?_) (fun h9=>?_)
 ·obtain ⟨a,rfl⟩:∃ a,o=some a:=by cases o with | none=>cases h9 | some a=>exact ⟨a,rfl⟩
  refine Al (Ad rfl (Ac (Ab rfl) (AJ (Ag rfl rfl) (Ac (Ab rfl) (AJ (Ag rfl rfl) ?_)))))
  refine B5 (Mt (kv:=BM) c rfl rfl rfl AC) ?_
  refine C7 _ .nil (AH ?_)
  exact H8 [BF b BM (Lm es cl (g,c,.pointer (some a))) (O3 es cl (g,c,.pointer (some a)))] .nil rfl Ent.one
 ·obtain rfl:o=none:=by cases o with | none=>rfl | some a=>cases h9
  refine Am ?_
  exact H8 [BF b BM (Lm es cl (g,c,.pointer none)) (O3 es cl (g,c,.pointer none))] .nil rfl Ent.one
theorem Hq {f:FuncId}[Body prog f]{ca:List Value}{pre:List AF}{K:Int→List AF→Prop}(p:Nat)(q:Int)(n sb fb:Nat)(v:Value)(fa:Int)(off:Bool)(h0:0≤fa∧fa≤9223372036854775807)
  (h:∀ fa':Int,Spec prog f ca (B1 p 100 (J8 q n sb fb v fa' off)::pre) (fun _ L=>K fa' L)) :
  Spec prog 174 [pv p,.func (.func f) #[] ca.toArray] (B1 p 100 (J8 q n sb fb v fa off)::pre) (fun r L=>(fa=1∧r=.int .i64 8∧L=B1 p 100 (J8 q n sb fb v 0 true)::pre)∨(fa≠1∧r=.int .i64 0∧K (if 0<fa then fa-1 else fa) L)):=by
 refine Spec.of 27 func174 rfl rfl rfl ?_
 refine A0 (As [0,1] rfl rfl (Ae (A0 (Ad rfl (Ac (Ah rfl) (Ac (Ab rfl) (AJ (Ag rfl rfl) (Ac (BA rfl rfl) (AE [0,1,9] rfl ?_)))))))))
 refine Ak rfl (fun h9=>?_) (fun h9=>?_)
 ·have h9':0<fa:=by have:=of_decide_eq_true h9; omega
  refine A0 (Ad rfl (Ac (Ah rfl) (Ac (Ab rfl) (AJ (Ag rfl rfl) (Ac (H4 rfl rfl Ax Ax) (Ac (Ah rfl) (Ac (Ab rfl) (B5 (AW rfl rfl rfl) (AE [0,1] rfl (A0 (Ad rfl (Ac (Ah rfl) (Ac (Ab rfl) (AJ (Ag rfl rfl) (Ac (Bp rfl rfl) (AE [0,1,21] rfl ?_))))))))))))))))
  refine Ak rfl (fun h21=>?_) (fun h21=>?_)
  ·have h21':fa=1:=by have:=of_decide_eq_true h21; omega
   refine A0 (Ad rfl (Ac (Ah rfl) (Ac (Ab rfl) (B5 (AW rfl rfl rfl) (C7 _ .nil (Dp (A0 (As [4] rfl rfl (Ar (AN (B8 (B1 p 100 (J8 q n sb fb v 0 true)::pre) (.tmp rfl .nil) (.inl ⟨h21',rfl,rfl⟩) ?_)))))))))))
   rw [show fa-1=0 by omega]; exact Ent.refl _
  ·have h21':fa≠1:=by have:=of_decide_eq_false h21; omega
   refine Am (Af (A0 (Ad rfl (Aw (Gd (fi:=[]) (args:=[]) (ca:=ca) (R:=[]) (h (fa-1)) rfl rfl Split.all) ?_))))
   rintro v26 L1 hk
   rw [List.append_nil]
   refine C7 _ .nil (Dp (A0 (As [4] rfl rfl (Ar ?_))))
   refine Aq L1 (.tmp rfl .nil) (.inr ⟨h21',rfl,?_⟩) (R:=[]) Split.all
   rw [if_pos h9']; exact hk
 ·have h9':¬ 0<fa:=by have:=of_decide_eq_false h9; omega
  refine Am (Af (A0 (Ad rfl (Aw (Gd (fi:=[]) (args:=[]) (ca:=ca) (R:=[]) (h fa) rfl rfl Split.all) ?_))))
  rintro v26 L1 hk
  rw [List.append_nil]
  refine C7 _ .nil (Dp (A0 (As [4] rfl rfl (Ar ?_))))
  refine Aq L1 (.tmp rfl .nil) (.inr ⟨by omega,rfl,?_⟩) (R:=[]) Split.all
  rw [if_neg h9']; exact hk
theorem Iz (p:Nat)(q:Int)(n sb fb:Nat)(w:Value)(fa:Int)(off:Bool)(es:BQ ByteArray)(cl:Nat)(ps:List Pc)(hl:ps.length≤1048576)(g c:ByteArray)(o:Option Addr) :
  Spec prog 178 [pv p,.agg (Cf (g,c,.pointer o)).toArray] [B1 p 100 (J8 q n sb fb w fa off),BF sb BM es cl,own 279 3 w ps.length (ps.flatMap Cf)]
   (fun _ L=>∃ w' ps',ps'=ps++[((g,c,Value.pointer o):Pc)]∧L=[B1 p 100 (J8 q n sb fb w' fa off),BF sb BM (Lm es cl (g,c,.pointer o)) (O3 es cl (g,c,.pointer o)),own 279 3 w' ps'.length (ps'.flatMap Cf)]):=by
 have hps:(ps++[((g,c,Value.pointer o):Pc)]).flatMap Cf=ps.flatMap Cf++[.string g,.string c,.pointer o]:=by rw [List.flatMap_append]; rfl
 have hpl:(ps++[((g,c,Value.pointer o):Pc)]).length=ps.length+1:=by rw [List.length_append]; rfl
 generalize ps++[((g,c,Value.pointer o):Pc)]=ps' at hps hpl
 refine Spec.of 20 func178 rfl rfl rfl ?_
 refine A0 (Aw (Bi rfl rfl) (fun b3=>?_))
 refine AE [0,3] rfl (Ae ?_)
 refine Ba [0,4] _ [] (by simp only [List.append_nil]; exact Ent.refl _) AK ?_
 refine Bc 0 rfl (BP rfl rfl) rfl (AD 1 rfl (AG rfl) (AD 2 rfl (Ah rfl) (AD 3 rfl (Ab rfl) (Bc 4 rfl (Ag rfl rfl) rfl ?_))))
 refine BT 5 rfl AK AK (AA (A06 sb cl es g c o) rfl rfl AC) ?_
 rintro v9 L1 rfl
 refine Cc (C0 [0,3] rfl (Bs AK (Af ?_)))
 refine Ba [4,5] _ [] (by simp only [List.append_nil]; exact Ent.refl _) AK ?_
 refine AD 0 rfl (AG rfl) (AD 1 rfl (AG rfl) (AD 2 rfl (Ah rfl) (AD 3 rfl (Ab rfl) (Bc 4 rfl (Ag rfl rfl) rfl (Bc 5 rfl (BP rfl rfl) rfl (CC 6 rfl AK (Bg (qs:=[(0,_)]) rfl rfl rfl) (fun b16=>?_)))))))
 refine ⟨_,Split.ent AC,?_⟩
 refine BT 7 rfl AK AK (B9 (l:=ps.length) (m:=1) (news:=[.string g,.string c,.pointer o]) rfl rfl AC (by simp only [maxLen]; omega) Ax) ?_
 rintro w' hw'
 obtain ⟨g7,c7,rfl⟩:=hw' (by decide)
 refine AD 8 rfl (Ah rfl) (AD 9 rfl (Ab rfl) (Cj 10 rfl AK AK (AW rfl rfl rfl) (Ml _ .nil (Bs AK ?_))))
 refine Co [B1 p 100 (J8 q n sb fb (.slice (some ⟨g7,0,none⟩) (ps.length+1) c7) fa off),BF sb BM (Lm es cl (g,c,.pointer o)) (O3 es cl (g,c,.pointer o)),own 279 3 (.slice (some ⟨g7,0,none⟩) (ps.length+1) c7) ps'.length (ps'.flatMap Cf)] .nil ⟨_,ps',rfl,rfl⟩ (by rw [hps,hpl]; exact AC)
abbrev fa1 (d:Dk):Dk:={ d with falls:=if 0<d.falls then d.falls-1 else d.falls}
abbrev Jj (d:Dk):Dk:={ d with falls:=0,off:=true}
theorem A07{d:Dk}(h:d.falls=1):Ip d=(Jj d,8):=by unfold Ip; rw [if_pos Ax,if_pos h]
theorem A08{d:Dk}(h:d.falls≠1):Ip d=(fa1 d,0):=by
 unfold Ip
 show _=(({ d with falls:=if 0<d.falls then d.falls-1 else d.falls}:Dk),(0:Int))
 by_cases h0:0<d.falls
 ·rw [if_pos h0,if_neg h,if_pos h0]
 ·rw [if_neg h0,if_neg h0]
theorem Gm {d:Dk}(h:d.falls=1)(f:Dk→Dk):Ey d f=(Jj d,8):=by unfold Ey; rw [A07 h]; rfl
theorem Gn {d:Dk}(h:d.falls≠1)(f:Dk→Dk):Ey d f=(f (fa1 d),0):=by unfold Ey; rw [A08 h]; rfl
theorem Rep.fa{d:Dk}{x:FX}(h:Rep d x)(fl:Int)(off:Bool):Rep { d with falls:=fl,off:=off} x:=⟨h.seen,h.safe,h.bs,h.bf,h.len,h.fl,h.ps⟩
theorem A09{l:List Nm}{c:Cg}{y:Nm}(h:y∈FL l c):y∈l∨(Bx c.come Dn=false∧y.2=c.file):=by
 unfold FL at h
 rcases List.mem_append.1 h with h | h
 ·exact .inl (List.mem_filter.1 h).1
 ·split at h
  ·cases h
  ·next k=>rw [List.mem_singleton.1 h]; exact .inr ⟨by simpa using k,rfl⟩
theorem Rep.chg{d:Dk}{x:FX}(h:Rep d x)(hs:∀ y∈d.seen,Bx y.1 Dn=false){p:Pc}{c:Cg}(hp:Y0 x.rs p c)(hc:Bx c.come Dn=false→∃ r,x.rs[c.file]? = some r∧r.f=d.fl c.file) :
  Rep (d.chg c) { x with es:=Lm x.es x.cs p,cs:=O3 x.es x.cs p,ps:=x.ps++[p]}:=by
 refine ⟨ZM h.seen hs hp fun k=>?_,h.safe,Y1 h.bs p,h.bf,h.len,fun k hk=>?_,?_,fun i q e hq he=>?_⟩
 ·obtain ⟨r,hr,_⟩:=hc k; exact (List.getElem?_eq_some_iff.1 hr).1
 ·have key:DA d k∨(Bx c.come Dn=false∧c.file=k):=by
   rcases hk with ⟨y,hy,e⟩ | hk | ⟨e,he,k1,k2⟩
   ·rcases A09 hy with hy | ⟨k1,k2⟩
    ·exact .inl (.inl ⟨y,hy,e⟩)
    ·exact .inr ⟨k1,by rw [← k2,e]⟩
   ·exact .inl (.inr (.inl hk))
   ·rcases List.mem_append.1 he with he | he
    ·exact .inl (.inr (.inr ⟨e,he,k1,k2⟩))
    ·rw [List.mem_singleton.1 he] at k1 k2; exact .inr ⟨k1,k2⟩
  rcases key with key | ⟨k1,k2⟩
  ·exact h.fl k key
  ·rw [← k2]; exact hc k1
 ·show (x.ps++[p]).length=(d.pend++[c]).length
  rw [List.length_append,List.length_append,h.ps.1]; rfl
 ·have hq':(x.ps++[p])[i]? = some q:=hq
  have he':(d.pend++[c])[i]? = some e:=he
  by_cases hi:i<x.ps.length
  ·rw [List.getElem?_append_left hi] at hq'
   rw [List.getElem?_append_left (by rw [← h.ps.1]; exact hi)] at he'
   exact h.ps.2 i q e hq' he'
  ·have hi2:i=x.ps.length:=by
    have:=(List.getElem?_eq_some_iff.1 hq').1
    rw [List.length_append] at this; simp at this; omega
   subst hi2
   rw [List.getElem?_append_right (Nat.le_refl _),Nat.sub_self] at hq'
   rw [h.ps.1,List.getElem?_append_right (Nat.le_refl _),Nat.sub_self] at he'
   simp at hq' he'
   rw [← hq',← he']; exact hp
theorem A0a{d:Dk}{k:Nat}(f:Fl)(hk:k<d.files.length)(j:Nat):(d.setF k f).fl j=if j=k then f else d.fl j:=by
 unfold Dk.fl Dk.setF
 by_cases e:j=k
 ·subst e; rw [if_pos rfl]; simp [hk]
 ·rw [if_neg e]; simp [Ne.symm e]
theorem Rep.set{d:Dk}{x:FX}(h:Rep d x){k:Nat}{r r':Rc}(hr:x.rs[k]? = some r)(ha:r'.a=r.a):Rep (d.setF k r'.f) { x with rs:=x.rs.set k r'}:=by
 have hk:k<d.files.length:=by rw [← h.len]; exact (List.getElem?_eq_some_iff.1 hr).1
 refine ⟨h.seen.to fun y _=>PE hr ha _,h.safe.to fun y _=>PE hr ha _,h.bs,h.bf,?_,fun j hj=>?_,h.ps.1,fun i p c hp hc=>?_⟩
 ·show (x.rs.set k r').length=(d.files.set k r'.f).length
  rw [List.length_set,List.length_set,h.len]
 ·rw [A0a _ hk]
  by_cases e:j=k
  ·subst e; exact ⟨r',List.getElem?_set_self (List.getElem?_eq_some_iff.1 hr).1,by rw [if_pos rfl]⟩
  ·obtain ⟨r2,h1,h2⟩:=h.fl j hj
   exact ⟨r2,by show (x.rs.set k r')[j]? = _; rw [List.getElem?_set_ne (Ne.symm e)]; exact h1,by rw [if_neg e]; exact h2⟩
 ·obtain ⟨k1,k2,k3⟩:=h.ps.2 i p c hp hc
  refine ⟨k1,k2,?_⟩
  rw [k3]
  split
  ·rfl
  ·exact (PE hr ha _).symm
abbrev VR (d:Dk):Dk:={ d with files:=d.files++[⟨[],0⟩]}
theorem Rep.new{d:Dk}{x:FX}(h:Rep d x)(hd:d.Ok)(r:Rc):Rep (VR d) { x with rs:=x.rs++[r]}:=by
 have hp:∀ c∈d.pend,Bx c.come Dn=false→c.file<x.rs.length:=fun c hc he=>by rw [h.len]; exact (hd.pend c hc he).2
 refine ⟨h.seen.to fun y hy=>PF (by rw [h.len]; exact (hd.seenOk.good y hy).2) r,h.safe.to fun y hy=>PF (by rw [h.len]; exact (hd.safe.good y hy).2) r,h.bs,h.bf,?_,fun j hj=>?_,h.ps.1,fun i p c hp' hc=>?_⟩
 ·show (x.rs++[r]).length=(d.files++([⟨[],0⟩]:List Fl)).length
  rw [List.length_append,List.length_append,h.len]; rfl
 ·obtain ⟨r2,h1,h2⟩:=h.fl j hj
  have hlt:=(List.getElem?_eq_some_iff.1 h1).1
  refine ⟨r2,by show (x.rs++[r])[j]? = _; rw [List.getElem?_append_left hlt]; exact h1,?_⟩
  rw [h2]
  unfold Dk.fl VR
  rw [List.getElem?_append_left (by rw [← h.len]; exact hlt)]
 ·obtain ⟨k1,k2,k3⟩:=h.ps.2 i p c hp' hc
  refine ⟨k1,k2,?_⟩
  rw [k3]
  split
  ·rfl
  ·next k=>exact (PF (hp c (List.mem_of_getElem? hc) (by simpa using k)) r).symm
theorem Rep.find{d:Dk}{x:FX}(h:Rep d x){s:ByteArray}{k:Nat}(hf:BD d.seen s=some k):∃ r,x.rs[k]? = some r∧r.f=d.fl k∧adr x.rs k=pv r.a:=by
 obtain ⟨r,h1,h2⟩:=h.fl k (.inl ⟨_,CS hf,rfl⟩)
 exact ⟨r,h1,h2,JF h1⟩
theorem Dk.Ok.fa{d:Dk}(h:d.Ok){fl:Int}(hf:0≤fl∧fl≤9223372036854775807)(off:Bool):Dk.Ok { d with falls:=fl,off:=off}:=⟨h.q,h.fl,h.safe,h.pend,h.seen,h.hist,hf⟩
theorem Dk.Ok.fa1{d:Dk}(h:d.Ok):(fa1 d).Ok:=h.fa (by have:=h.falls; split <;> omega) d.off
theorem VS {rs:List Rc}{a n:Nat}(hn:n=rs.length){L:List AF}:Ent (B1 a 96 [.int .i64 (n:Nat),.slice none 0 0,.int .i64 0]::BS rs::L) (BS (rs++[⟨a,.slice none 0 0,⟨[],0⟩⟩])::L):=by
 subst hn
 exact (own_nil_ent (e:=5) (n:=1)).trans (Ent.swap.trans (Yv (r:=⟨a,.slice none 0 0,⟨[],0⟩⟩) (Nat.le_refl _)))
theorem Dk.Ok.names{d:Dk}(h:d.Ok):∀ y∈d.seen,Bx y.1 Dn=false:=fun y hy=>Iq (h.seenOk.good y hy).1
theorem PY (p d0 s0:Nat)(q:Int)(n sb fb:Nat)(w:Value)(fa:Int)(off:Bool)(es:BQ ByteArray)(cl:Nat)(ps:List Pc)(hl:ps.length≤1048576)(hn:n≤1048576)(s:ByteArray) :
  Spec prog 239 [pv d0,pv s0] [B1 p 100 (J8 q n sb fb w fa off),B1 d0 23 [pv p],B1 s0 9 [.string s],BF sb BM es cl,own 279 3 w ps.length (ps.flatMap Cf)]
   (fun _ L=>∃ a w' ps',ps'=ps++[((s,s,pv a):Pc)]∧L=[B1 p 100 (J8 q (n+1) sb fb w' fa off),BF sb BM (Lm es cl (s,s,pv a)) (O3 es cl (s,s,pv a)),own 279 3 w' ps'.length (ps'.flatMap Cf),B1 a 96 [.int .i64 (n:Nat),.slice none 0 0,.int .i64 0]]):=by
 refine Spec.of 20 func239 rfl rfl rfl ?_
 refine Ae ?_
 refine Ba [0,1,2,3,6] _ [] (by simp only [List.append_nil]; exact Ent.refl _) AK ?_
 refine Bc 0 rfl (Ag rfl rfl) rfl (Bc 1 rfl (Ag rfl rfl) rfl (Bc 2 rfl (Ag rfl rfl) rfl (Bc 3 rfl (Ag rfl rfl) rfl (AD 4 rfl (Ah rfl) (AD 5 rfl (Ab rfl) (Bc 6 rfl (Ag rfl rfl) rfl (AD 7 rfl (Bo (qs:=[(0,_)]) rfl) (CC 8 rfl AK (Bi rfl rfl) (fun b10=>?_)))))))))
 refine ⟨_,Split.ent AC,?_⟩
 refine AD 9 rfl (Bo (qs:=[(0,_),(1,_),(2,_)]) rfl) ?_
 refine BT 10 rfl AK AK (AA (Iz p q n sb fb w fa off es cl ps hl s s (some ⟨b10,0,none⟩)) rfl rfl AC) ?_
 rintro v12 L1 ⟨w',ps',hps',rfl⟩
 refine Cc (C0 [0] rfl (Bs AK (Af (Al (AJ (Ag rfl rfl) (Ac (Ah rfl) (Ac (Ab rfl) (AJ (Ag rfl rfl) (Ac (AO ((n+1:Nat):Int) rfl rfl Ax Ax Ax) (Ac (Ah rfl) (Ac (Ab rfl) (B5 (AW rfl rfl rfl) (C7 _ .nil (AH ?_))))))))))))))
 exact Co [B1 p 100 (J8 q (n+1) sb fb w' fa off),BF sb BM (Lm es cl (s,s,pv b10)) (O3 es cl (s,s,pv b10)),own 279 3 w' ps'.length (ps'.flatMap Cf),B1 b10 96 [.int .i64 (n:Nat),.slice none 0 0,.int .i64 0]] .nil ⟨b10,w',ps',hps',rfl⟩ AC
theorem Fw {rs:List Rc}{d:Dk}{s:ByteArray}{v:Value}{e:Int}(h:GN rs d s=(v,e)) :
  (e=8∧d.off=true)∨(e=6∧d.off=false∧BD d.seen s=none)∨(e=0∧d.off=false∧∃ k,BD d.seen s=some k∧v=adr rs k):=by
 unfold GN at h
 by_cases ho:d.off=true
 ·rw [if_pos ho] at h; exact .inl ⟨(Prod.mk.inj h).2.symm,ho⟩
 ·rw [if_neg ho] at h
  have ho':d.off=false:=by simpa using ho
  cases hf:BD d.seen s with
  | none=>rw [hf] at h; exact .inr (.inl ⟨(Prod.mk.inj h).2.symm,ho',rfl⟩)
  | some k=>rw [hf] at h; exact .inr (.inr ⟨(Prod.mk.inj h).2.symm,ho',k,rfl,(Prod.mk.inj h).1.symm⟩)
theorem E9 {p:Nat}{d:Dk}{x:FX}(hx:Rep d x){s:ByteArray}{v:Value}{e:Int}(hve:GN x.rs d s=(v,e)):Spec prog 33 [pv p,.string s] [Eg p d x,BF x.sb BM x.es x.cs] (fun r L=>r=.tuple #[v,.int .i64 e]∧L=[Eg p d x,BF x.sb BM x.es x.cs]):=by
 have:=VD p d x hx s
 rw [hve] at this; exact this
def Zz (d:Dk):Prop:=d.files.length≤1000000∧d.pend.length≤1000000
set_option maxHeartbeats 8000000 in
theorem Lu (p:Nat)(d:Dk)(hd:d.Ok)(hw:Zz d)(s:ByteArray):Spec prog 145 [pv p,.string s] [FSA p d] (fun r L=>r=.int .i64 (BH d s).2∧L=[FSA p (BH d s).1]):=by
 refine FSA.open' fun x hx=>?_
 obtain ⟨v,e,hve⟩:∃ v e,GN x.rs d s=(v,e):=⟨_,_,rfl⟩
 have hfs:=E9 (p:=p) hx hve
 have hcs:=Fw hve
 have hsl:=hx.seen.len hd.seenOk.nodup
 refine Spec.of 39 func145 rfl rfl rfl ?_
 refine A0 (Aw (Bi rfl rfl) (fun b2=>?_))
 refine Aw (Bi rfl rfl) fun b3=>?_
 refine As [2,3] rfl rfl (A0 (AJ (Ag rfl rfl) (AJ (Ag rfl rfl) ?_)))
 refine Aw (AA hfs rfl rfl AC) ?_
 rintro v10 L1 ⟨rfl,rfl⟩
 refine Aj (Ad rfl (Ac (Ai rfl) (Ac (Ai rfl) (AX rfl (As [2,3,6] rfl rfl ?_)))))
 refine Cb (fun env L=>Sub env [(2,pv b2),(3,pv b3)]∧Ent L [B1 b2 23 [pv p],B1 b3 9 [.string s],Eg p d x,BF x.sb BM x.es x.cs,BF x.fb BM x.ef x.cf,own 279 3 x.pv x.ps.length (x.ps.flatMap Cf),BS x.rs]∧d.off=false∧DX s=true∧¬ ((BD d.seen s).isNone=true∧64≤d.seen.length)) ?_ ?_
 ·refine Au (A0 (Ad rfl (Ac (Bp rfl rfl) (Ad rfl ?_))))
  refine B7 16 rfl (fun h16=>by simp only [decide_eq_true_eq] at h16; omega) (fun h16=>?_)
  refine AQ rfl rfl (Ad rfl (AQ rfl rfl (Ac (Bp rfl rfl) (Ac (AT rfl rfl) (As [2,3,6,13] rfl rfl ?_)))))
  refine Ak rfl (fun h13=>?_) (fun h13=>?_)
  ·refine A0 (Ad rfl (As [4] rfl rfl (Ar (B6 (AN ?_)))))
   have h13':=of_decide_eq_true h13
   have hoff:d.off=true:=by rcases hcs with ⟨_,h⟩ | ⟨h,_⟩ | ⟨h,_⟩ <;> first | exact h | omega
   have key:BH d s=(d,8):=by unfold BH; rw [if_pos hoff]
   rw [key,h13']
   exact B8 [FSA p d] (.tmp rfl .nil) ⟨rfl,rfl⟩ ((Split.ent' (K:=[Eg p d x,BF x.sb BM x.es x.cs,BF x.fb BM x.ef x.cf,own 279 3 x.pv x.ps.length (x.ps.flatMap Cf),BS x.rs]) AC).trans (BR hx))
  ·have h13':=of_decide_eq_false h13
   have hoff:d.off=false:=by rcases hcs with ⟨h,_⟩ | ⟨_,h,_⟩ | ⟨_,h,_⟩ <;> first | exact h | omega
   refine A0 (AJ (Ag rfl rfl) ?_)
   refine Aw (AA (Nn s) rfl rfl AC) ?_
   rintro v23 L1 ⟨rfl,rfl⟩
   refine Aj (Ac (BO rfl) (As [2,3,6,21] rfl rfl ?_))
   refine Ak rfl (fun h21=>?_) (fun h21=>?_)
   ·refine A0 (As [4] rfl rfl (Ar (B6 (AN ?_))))
    have key:BH d s=(d,1):=by unfold BH; rw [if_neg (by rw [hoff]; decide),if_pos (by simpa using h21)]
    rw [key]
    exact B8 [FSA p d] (.tmp rfl .nil) ⟨rfl,rfl⟩ ((Split.ent' (K:=[Eg p d x,BF x.sb BM x.es x.cs,BF x.fb BM x.ef x.cf,own 279 3 x.pv x.ps.length (x.ps.flatMap Cf),BS x.rs]) AC).trans (BR hx))
   ·refine A0 (Ad rfl (Ac (Bp rfl rfl) (Ad rfl ?_)))
    refine B7 28 rfl (fun h28=>?_) (fun h28=>?_)
    ·refine AQ rfl rfl (AJ (Ag rfl rfl) (AQ rfl rfl (Ac (Ah rfl) (AQ rfl rfl (Ac (Ab rfl) (AQ rfl rfl (AJ (Ag rfl rfl) (AQ rfl rfl (AJ (IY (κ:=ByteArray) rfl) (AQ rfl rfl (Ac (CA rfl rfl) (Ac (B4 rfl rfl) (As [2,3,25] rfl rfl ?_)))))))))))))
     refine Ak rfl (fun h25=>?_) (fun h25=>?_)
     ·refine A0 (As [4] rfl rfl (Ar (B6 (AN ?_))))
      have h28':=of_decide_eq_true h28
      have h25':=of_decide_eq_true h25
      have hno:BD d.seen s=none:=by rcases hcs with ⟨h,_⟩ | ⟨_,_,h⟩ | ⟨h,_⟩ <;> first | exact h | omega
      have key:BH d s=(d,7):=by unfold BH; rw [if_neg (by rw [hoff]; decide),if_neg (by simpa using h21),if_pos ⟨by rw [hno]; rfl,by omega⟩]
      rw [key]
      exact B8 [FSA p d] (.tmp rfl .nil) ⟨rfl,rfl⟩ ((Split.ent' (K:=[Eg p d x,BF x.sb BM x.es x.cs,BF x.fb BM x.ef x.cf,own 279 3 x.pv x.ps.length (x.ps.flatMap Cf),BS x.rs]) AC).trans (BR hx))
     ·refine Am (AR ?_)
      refine Af ⟨⟨rfl,rfl,trivial⟩,Split.ent' AC,hoff,by simpa using h21,?_⟩
      first
       | (rintro ⟨h1,h2⟩; have h3:=of_decide_eq_false h25; omega)
       | (
        rintro ⟨h1,h2⟩
        have h28':=of_decide_eq_false h28
        rcases hcs with ⟨k1,k2⟩ | ⟨k1,k2,k3⟩ | ⟨k1,k2,k,k3,k4⟩
        ·rw [hoff] at k2; cases k2
        ·omega
        ·rw [k3] at h1; cases h1)
    ·refine AI rfl rfl rfl (AI rfl rfl rfl (AI rfl rfl rfl (AI rfl rfl rfl (AI rfl rfl rfl (AI rfl rfl rfl (Ac (AT rfl rfl) (As [2,3,25] rfl rfl ?_)))))))
     refine Ak rfl (fun h25=>by cases h25) (fun h25=>?_)
     refine Am (AR ?_)
     refine Af ⟨⟨rfl,rfl,trivial⟩,Split.ent' AC,hoff,by simpa using h21,?_⟩
     first
      | (rintro ⟨h1,h2⟩; have h3:=of_decide_eq_false h25; omega)
      | (
       rintro ⟨h1,h2⟩
       have h28':=of_decide_eq_false h28
       rcases hcs with ⟨k1,k2⟩ | ⟨k1,k2,k3⟩ | ⟨k1,k2,k,k3,k4⟩
       ·rw [hoff] at k2; cases k2
       ·omega
       ·rw [k3] at h1; cases h1)
 rintro env L ⟨hsub,hE,h1,h2,h3⟩
 refine B3 _ hsub (AP hE ?_)
 clear hsub hE env L
 refine A0 (AJ (Ag rfl rfl) (Ac (C9 (vs:=[]) (us:=[_,_]) rfl rfl) ?_))
 refine Aw (AA (Hq (f:=239) (ca:=[pv b2,pv b3]) (pre:=[B1 b2 23 [pv p],B1 b3 9 [.string s],BF x.sb BM x.es x.cs,own 279 3 x.pv x.ps.length (x.ps.flatMap Cf)]) p d.quota x.rs.length x.sb x.fb x.pv d.falls d.off hd.falls (fun fa'=>PY p b2 b3 d.quota x.rs.length x.sb x.fb x.pv fa' d.off x.es x.cs x.ps (by rw [hx.ps.1]; have:=hw.2; omega) (by rw [hx.len]; have:=hw.1; omega) s)) rfl rfl AC) ?_
 rintro v38 L1 hk
 skip
 refine As [4] rfl rfl (Ar ?_)
 rcases hk with ⟨hf1,rfl,rfl⟩ | ⟨hfn,rfl,a,w',ps',hps,rfl⟩
 ·have key:BH d s=(Jj d,8):=by unfold BH; rw [if_neg (by rw [h1]; decide),if_neg (by rw [h2]; decide),if_neg h3]; exact Gm hf1 _
  rw [key]
  refine B8 [FSA p (Jj d)] (.tmp rfl .nil) ⟨rfl,rfl⟩ ?_
  simp only [List.cons_append,List.nil_append]
  exact ((Split.ent' (K:=[Eg p (Jj d) x,BF x.sb BM x.es x.cs,BF x.fb BM x.ef x.cf,own 279 3 x.pv x.ps.length (x.ps.flatMap Cf),BS x.rs]) AC).trans (BR (d:=Jj d) (hx.fa _ _)))
 ·have key:BH d s=((VR (fa1 d)).chg ⟨Dn,s,d.files.length⟩,0):=by unfold BH; rw [if_neg (by rw [h1]; decide),if_neg (by rw [h2]; decide),if_neg h3]; exact Gn hfn _
  have hl:=hx.len
  have hr:=(hx.fa (fa1 d).falls d.off).new hd.fa1 ⟨a,.slice none 0 0,⟨[],0⟩⟩
  have hr2:=hr.chg (d:=VR (fa1 d)) hd.names (p:=(s,s,pv a)) (c:=⟨Dn,s,d.files.length⟩) ⟨rfl,.inr ⟨rfl,rfl⟩,by show _=if Bx s Dn=true then _ else adr (x.rs++[_]) d.files.length; rw [if_neg (by rw [Iq h2]; decide),← hl,ZL]⟩
   (fun _=>⟨⟨a,.slice none 0 0,⟨[],0⟩⟩,by show (x.rs++[_])[d.files.length]? = _; rw [← hl]; simp,by unfold Dk.fl; simp⟩)
  rw [key]
  refine B8 [FSA p ((VR (fa1 d)).chg ⟨Dn,s,d.files.length⟩)] (.tmp rfl .nil) ⟨rfl,rfl⟩ ?_
  simp only [List.cons_append,List.nil_append]
  refine Ent.trans (Split.ent' (K:=[B1 a 96 [.int .i64 (x.rs.length:Nat),.slice none 0 0,.int .i64 0],BS x.rs,B1 p 100 (J8 d.quota (x.rs.length+1) x.sb x.fb w' (if 0<d.falls then d.falls-1 else d.falls) d.off),BF x.sb BM (Lm x.es x.cs (s,s,pv a)) (O3 x.es x.cs (s,s,pv a)),BF x.fb BM x.ef x.cf,own 279 3 w' ps'.length (ps'.flatMap Cf)]) AC) ?_
  refine (VS rfl).trans ?_
  rw [show x.rs.length+1=(x.rs++[(⟨a,.slice none 0 0,⟨[],0⟩⟩:Rc)]).length by simp,hps]
  refine Ent.trans (Split.ent' (K:=[B1 p 100 (J8 d.quota (x.rs++[(⟨a,.slice none 0 0,⟨[],0⟩⟩:Rc)]).length x.sb x.fb w' (if 0<d.falls then d.falls-1 else d.falls) d.off),BF x.sb BM (Lm x.es x.cs (s,s,pv a)) (O3 x.es x.cs (s,s,pv a)),BF x.fb BM x.ef x.cf,own 279 3 w' (x.ps++[(s,s,pv a)]).length ((x.ps++[(s,s,pv a)]).flatMap Cf),BS (x.rs++[(⟨a,.slice none 0 0,⟨[],0⟩⟩:Rc)])]) AC) ?_
  exact BR (d:=(VR (fa1 d)).chg ⟨Dn,s,d.files.length⟩) (x:={ sb:=x.sb,fb:=x.fb,es:=Lm x.es x.cs (s,s,pv a),cs:=O3 x.es x.cs (s,s,pv a),ef:=x.ef,cf:=x.cf,rs:=x.rs++[⟨a,.slice none 0 0,⟨[],0⟩⟩],ps:=x.ps++[(s,s,pv a)],pv:=w'}) ⟨hr2.seen,hr2.safe,hr2.bs,hr2.bf,hr2.len,hr2.fl,hr2.ps⟩
theorem VT {rs:List Rc}{i:Nat}{r:Rc}(h:rs[i]? = some r)(hg:r.f.safe≤r.f.bytes.length){L:List AF}:Ent (VB i r++Fc rs i::L) (BS rs::L):=by
 have e:rs.set i r=rs:=by
  have:=(List.getElem?_eq_some_iff.1 h)
  rw [← this.2]; exact List.set_getElem_self this.1
 have:=Na (rs:=rs) (i:=i) (r:=r) (L:=L) (List.getElem?_eq_some_iff.1 h).1 hg
 rwa [e] at this
theorem Gp {rs:List Rc}{i:Nat}{r:Rc}(h:rs[i]? = some r)(hg:r.f.safe≤r.f.bytes.length){L:List AF}:Ent (BS rs::L) (own 5 1 r.v r.f.bytes.length (Dd r.f.bytes)::B1 r.a 96 [.int .i64 (i:Nat),r.v,.int .i64 (r.f.safe:Nat)]::Fc rs i::L) :=
 (VC h hg).trans Ent.swap
theorem Ra {rs:List Rc}{i:Nat}(r:Rc)(h:i<rs.length)(hg:r.f.safe≤r.f.bytes.length){L:List AF}:Ent (own 5 1 r.v r.f.bytes.length (Dd r.f.bytes)::B1 r.a 96 [.int .i64 (i:Nat),r.v,.int .i64 (r.f.safe:Nat)]::Fc rs i::L) (BS (rs.set i r)::L) :=
 Ent.swap.trans (Na (r:=r) h hg)
theorem Ez {rs:List Rc}{i:Nat}{r:Rc}(h:rs[i]? = some r)(hg:r.f.safe≤r.f.bytes.length){L:List AF}:Ent (own 5 1 r.v r.f.bytes.length (Dd r.f.bytes)::B1 r.a 96 [.int .i64 (i:Nat),r.v,.int .i64 (r.f.safe:Nat)]::Fc rs i::L) (BS rs::L) :=
 Ent.swap.trans (VT h hg)
def Jk (d:Dk)(s:ByteArray):Nat:=((BD d.seen s).map fun k=>(d.fl k).bytes.length).getD 0
theorem No {es:BQ ByteArray}{l:List Nm}{rs:List Rc}(h:NmRel es l rs)(hn:(l.map (·.1)).Nodup):(es.map (·.1)).Perm (l.map (·.1)):=by
 have:=(h.perm hn).map (·.1)
 rwa [List.map_map,List.map_map] at this
theorem YE {d:Dk}(hd:d.Ok){es:BQ ByteArray}{rs:List Rc}(h:NmRel es d.seen rs):(es.map fun x=>Jk d x.1).sum=d.used:=by
 have h1:(es.map fun x=>Jk d x.1)=(es.map (·.1)).map (Jk d):=by rw [List.map_map]; rfl
 have h2:d.used=((d.seen.map (·.1)).map (Jk d)).sum:=by
  unfold Dk.used
  rw [List.map_map]
  congr 1
  refine List.map_congr_left fun x hx=>?_
  show _=Jk d x.1
  unfold Jk
  rw [ML hd.seenOk.nodup hx]; rfl
 rw [h1,h2]
 exact ((No h hd.seenOk.nodup).map _).sum_nat
theorem Uh {d:Dk}(hd:d.Ok)(s:ByteArray):Jk d s≤Fa:=by
 unfold Jk
 cases BD d.seen s with
 | none=>exact Nat.zero_le _
 | some k=>exact (Dk.fl_ok hd k).1
theorem Rep.at{d:Dk}{x:FX}(h:Rep d x){y:ByteArray×Value×Nat}(hy:y∈x.es):∃ k r,BD d.seen y.1=some k∧x.rs[k]? = some r∧r.f=d.fl k∧y.2.1=pv r.a:=by
 have h1:=QG h.seen.keys hy
 rw [h.seen.look] at h1
 obtain ⟨k,hk,hv⟩:=Option.map_eq_some_iff.1 h1
 obtain ⟨r,hr,hf,ha⟩:=h.find hk
 exact ⟨k,r,hk,hr,hf,by rw [← hv,ha]⟩
set_option maxHeartbeats 2000000 in
theorem VU (p:Nat)(d:Dk)(hd:d.Ok)(x:FX)(hx:Rep d x):Spec prog 9 [pv p] [Eg p d x,BF x.sb BM x.es x.cs,BS x.rs] (fun r L=>r=.int .i64 (d.used:Nat)∧L=[Eg p d x,BF x.sb BM x.es x.cs,BS x.rs]):=by
 have hel:=hx.seen.len hd.seenOk.nodup
 have hsl:=hd.seenLe
 refine Spec.of 25 func9 rfl rfl rfl ?_
 refine A0 (As [0] rfl rfl (A0 (As [0,3] rfl rfl (Ae (A0 (Ad rfl (Ac (CF rfl rfl) (AE [0,3,7] rfl (Qs rfl (A0 (Ad rfl (Ac (Ah rfl) (Ac (Ab rfl) (AJ (Ag rfl rfl) (Aw (Mw (κ:=ByteArray) rfl) ?_)))))))))))))))
 rintro it
 skip
 refine AE [3,12] rfl (Au ?_)
 refine AP (Split.ent' (K:=[Sa it x.sb x.cs [] x.cs,BF x.sb BM x.es x.cs,Eg p d x,BS x.rs]) AC) ?_
 refine B0 (ι:=BQ ByteArray×BQ ByteArray) (fun k env L=>Sub env [(3,.int .i64 ((k.1.map fun y=>Jk d y.1).sum:Nat)),(12,pv it)]∧Ent L [Sa it x.sb x.cs (k.1.map (·.2.2)) x.cs,BF x.sb BM x.es x.cs,Eg p d x,BS x.rs]∧Going x.es k.1 k.2) (fun k=>k.2.length) ([],x.es) ⟨⟨rfl,rfl,trivial⟩,Ent.refl _,Going.start _⟩ ?_
 rintro ⟨dn,td⟩ env L ⟨hsub,hE,hgo⟩
 dsimp only at hsub hE hgo
 refine B3 _ hsub (AP hE ?_)
 clear hsub hE env L
 refine A0 ?_
 refine Aw (Pw (κ:=ByteArray) rfl AC hx.bs.1 (Nat.le_refl _)) ?_
 refine ⟨fun hall=>?_,fun y hy hns=>?_⟩
 ·refine Ac (Ai rfl) (AE [3,12,14] rfl (Ae ?_))
  refine Ak rfl (fun h14=>by cases h14) (fun h14=>?_)
  have htd:=hgo.stop hx.bs hall
  rw [htd] at hgo
  have hsum:(dn.map fun y=>Jk d y.1).sum=d.used:=by
   rw [← YE hd hx.seen]
   refine (List.Perm.map _ ?_).sum_nat
   have:=hgo; unfold Going at this; rwa [List.append_nil] at this
  refine AY (AS (AS (AV rfl (Af (A0 (Ad rfl (As [2] rfl rfl (Ar ?_))))))))
  refine Aq [Eg p d x,BF x.sb BM x.es x.cs,BS x.rs] (.tmp rfl .nil) ⟨by rw [← hsum]; rfl,rfl⟩ AC
 ·refine Ac (Ai rfl) (AE [3,12,14] rfl (Ae ?_))
  refine Ak rfl (fun h14=>?_) (fun h14=>by cases h14)
  obtain ⟨td',hgo',hlt⟩:=hgo.step hy hns
  obtain ⟨k,r,hk,hr,hf,hv⟩:=hx.at hy
  have hle:(dn.map fun y=>Jk d y.1).sum≤64*Fa:=by
   have h1:=PD (fun y:ByteArray×Value×Nat=>Jk d y.1) Fa dn fun y _=>Uh hd y.1
   have h2:dn.length≤64:=by have:=hgo.length_eq; rw [List.length_append] at this; omega
   exact Nat.le_trans h1 (Nat.mul_le_mul_right _ h2)
  have hll:Jk d y.1=r.f.bytes.length:=by unfold Jk; rw [hk,hf]; rfl
  have hlm:=Uh hd y.1
  simp only [Fa] at hle hlm
  refine Am (Af (Au (A0 ?_)))
  refine AJ (Mx (κ:=ByteArray) rfl AC hy hx.bs) ?_
  refine Ac (Ai rfl) (As [3,5,12] rfl rfl ?_)
  rw [hv]
  refine AP (Split.ent' (K:=[BS x.rs,Sa it x.sb x.cs (dn.map (·.2.2)++[y.2.2]) x.cs,BF x.sb BM x.es x.cs,Eg p d x]) AC) ?_
  refine AP (Gp hr (E0 hd hf)) ?_
  refine CG (fun m h=>Bz h) fun hform=>?_
  refine Al (Ad rfl (Ad rfl (Ac (Ah rfl) (Ac (Ab rfl) (AJ (Ag rfl rfl) (Ac (Es hform rfl) ?_))))))
  refine Ac (AO (((dn.map fun y=>Jk d y.1).sum+r.f.bytes.length:Nat):Int) rfl rfl Ax Ax Ax) ?_
  refine AX rfl (Be [3,12] rfl (AH (AR ?_)))
  refine Af ⟨(dn++[y],td'),⟨⟨?_,rfl,trivial⟩,?_,hgo'⟩,by dsimp only; omega⟩
  ·show look _ 3=some (.int .i64 (((dn++[y]).map fun y=>Jk d y.1).sum:Nat))
   rw [List.map_append,List.sum_append]
   simp only [List.map_cons,List.map_nil,List.sum_cons,List.sum_nil,Nat.add_zero,hll]; rfl
  ·refine Ent.trans (Split.ent' (K:=[own 5 1 r.v r.f.bytes.length (Dd r.f.bytes),B1 r.a 96 [.int .i64 (k:Nat),r.v,.int .i64 (r.f.safe:Nat)],Fc x.rs k,Sa it x.sb x.cs (dn.map (·.2.2)++[y.2.2]) x.cs,BF x.sb BM x.es x.cs,Eg p d x]) AC) ?_
   refine (Ez hr (E0 hd hf)).trans ?_
   rw [show (dn++[y]).map (·.2.2)=dn.map (·.2.2)++[y.2.2] by rw [List.map_append]; rfl]
   exact Split.ent' AC
instance:TZv prog 5 (.int .u8 0):=⟨by kernel_rfl⟩
theorem YF (l:List UInt8)(m:Nat):Dd (l.take m)=(Dd l).take m:=by rw [DN,DN,List.map_take]
theorem SZ (a b:List UInt8):Dd (a++b)=Dd a++Dd b:=by rw [DN,DN,DN,List.map_append]
theorem T2:Spec prog 316 [.slice none 0 0] [] (fun v L=>v=.slice none 0 0∧L=[]):=by
 refine Spec.of 8 func316 rfl rfl rfl ?_
 refine A0 (As [0] rfl rfl (Ae (A0 (Ad rfl (Ac (DG rfl rfl) (AE [0,4] rfl (Qs rfl (A0 (As [2] rfl rfl (Ar (AN ?_)))))))))))
 exact Aq [] (.tmp rfl .nil) ⟨rfl,rfl⟩ AC
theorem T3 (g m c:Nat)(bs:List UInt8)(ex:List Value)(hm:m≤bs.length)(hb:bs.length≤1099511627776) :
  Spec prog 316 [.slice (some ⟨g,0,none⟩) m c] [B1 g 5 (Dd bs++ex)] (fun v L=>(∃ A c,v=.slice A m c)∧L=[own 5 1 v m (Dd (bs.take m)),B1 g 5 (Dd bs++ex)]):=by
 have hcl:(Dd (bs.take m)).length=m*1:=by rw [LL,List.length_take,Nat.min_eq_left hm,Nat.mul_one]
 have hcn:∀ (j:Nat) (u:Value),(Dd (bs.take m))[j]? = some u→(Dd bs++ex)[0+j]? = some u:=fun j u hj=>by
  rw [YF,List.getElem?_take] at hj
  split at hj
  ·rw [Nat.zero_add,List.getElem?_append_left (List.getElem?_eq_some_iff.1 hj).1]; exact hj
  ·cases hj
 refine Spec.of 8 func316 rfl rfl rfl ?_
 refine A0 (As [0] rfl rfl (Ae (A0 (Ad rfl (Ac (DG rfl rfl) (AE [0,4] rfl (Dz rfl (Am (Af (A0 (Aw (Bg (qs:=[]) rfl rfl rfl) (fun b5=>?_))))))))))))
 refine Ad rfl ?_
 refine BK (Ec (n:=1) (l:=0) (cap:=0) (xs:=[]) (ex:=[]) rfl rfl (Nat.le_refl _) (by simp [maxLen])) ?_
 refine Aw (Pj (news:=Dd (bs.take m)) rfl rfl AC hcl hcn (ZE _) (by simp only [maxLen]; omega) Ax) ?_
 rintro v' -
 rw [Nat.zero_add,List.nil_append]
 refine Cv (fun m h=>Bz h) fun hform=>?_
 refine As [2] rfl rfl (Ar ?_)
 exact Aq [own 5 1 v' m (Dd (bs.take m)),B1 g 5 (Dd bs++ex)] (.tmp rfl .nil) ⟨hform,rfl⟩ AC
theorem T4 (A:Option Addr)(m l c c':Nat)(bs:List UInt8)(hl:bs.length=l)(hm:m≤l)(hb:bs.length≤1099511627776)(hc:A=none→m=0∧c'=0) :
  Spec prog 316 [.slice A m c'] [own 5 1 (.slice A l c) l (Dd bs)] (fun v' L=>(∃ A c,v'=.slice A m c)∧L=[own 5 1 v' m (Dd (bs.take m)),own 5 1 (.slice A l c) l (Dd bs)]):=by
 subst hl
 refine Spec.own_cases (fun hv l0 x0=>?_) (fun g cap ex hv o1 o2 o3 o4=>?_)
 ·obtain ⟨rfl,h1,rfl⟩:=Value.slice.inj hv
  have hbs:bs=[]:=List.eq_nil_of_length_eq_zero l0
  obtain ⟨rfl,rfl⟩:=hc rfl
  subst hbs
  refine Spec.ent3 T2 ?_
  rintro v L ⟨rfl,rfl⟩
  exact ⟨_,own_nil_ent.trans (Ent.cons own_nil_ent),⟨_,_,rfl⟩,rfl⟩
 ·obtain ⟨rfl,_,rfl⟩:=Value.slice.inj hv
  refine Spec.ent3 (T3 g m c' bs ex hm hb) ?_
  rintro v L ⟨hf,rfl⟩
  exact ⟨_,Ent.cons (Ec o3 o4 o1 o2),hf,rfl⟩
theorem PZ (f0 t0 a k sf l:Nat)(v:Value)(xs:List Value)(s:ByteArray)(hl:l+s.size≤1099511627776) :
  Spec prog 246 [pv f0,pv t0] [B1 f0 92 [pv a],B1 t0 9 [.string s],B1 a 96 [.int .i64 (k:Nat),v,.int .i64 (sf:Nat)],own 5 1 v l xs]
   (fun _ L=>∃ v',L=[B1 f0 92 [pv a],B1 t0 9 [.string s],B1 a 96 [.int .i64 (k:Nat),v',.int .i64 (sf:Nat)],own 5 1 v' (l+s.size) (xs++Dd s.data.toList)]):=by
 refine Spec.of 11 func246 rfl rfl rfl ?_
 refine Ba [0,1,4,5] ([B1 f0 92 [pv a],B1 t0 9 [.string s],B1 a 96 [.int .i64 (k:Nat),v,.int .i64 (sf:Nat)]]) ([own 5 1 v l xs]) (Split.ent AC) AK ?_
 refine Bc 0 rfl (Ag rfl rfl) rfl (Bc 1 rfl (Ag rfl rfl) rfl (AD 2 rfl (Ah rfl) (AD 3 rfl (Ab rfl) (Bc 4 rfl (Ag rfl rfl) rfl (Bc 5 rfl (Ag rfl rfl) rfl ?_)))))
 refine CC 6 rfl AK (Jq rfl rfl AC Ax) ?_
 rintro A' c'
 refine ⟨_,Split.ent AC,?_⟩
 refine AD 7 rfl (Ah rfl) (AD 8 rfl (Ab rfl) (Cs 9 rfl AK AK (AW rfl rfl rfl) (Ml _ .nil (Bs AK ?_))))
 exact Co [B1 f0 92 [pv a],B1 t0 9 [.string s],B1 a 96 [.int .i64 (k:Nat),.slice A' (l+s.size) c',.int .i64 (sf:Nat)],own 5 1 (.slice A' (l+s.size) c') (l+s.size) (xs++Dd s.data.toList)] .nil ⟨_,rfl⟩ AC
theorem T5 (f0 a k sf l:Nat)(v:Value)(hv:∃ A c,v=.slice A l c) :
  Spec prog 247 [pv f0] [B1 f0 92 [pv a],B1 a 96 [.int .i64 (k:Nat),v,.int .i64 (sf:Nat)]]
   (fun _ L=>L=[B1 f0 92 [pv a],B1 a 96 [.int .i64 (k:Nat),v,.int .i64 (l:Nat)]]):=by
 refine Spec.of 9 func247 rfl rfl rfl ?_
 refine Ba [0,1,4] _ [] (by simp only [List.append_nil]; exact Ent.refl _) AK ?_
 refine Bc 0 rfl (Ag rfl rfl) rfl (Bc 1 rfl (Ag rfl rfl) rfl (AD 2 rfl (Ah rfl) (AD 3 rfl (Ab rfl) (Bc 4 rfl (Ag rfl rfl) rfl (AD 5 rfl (Es hv rfl) (AD 6 rfl (Ah rfl) (AD 7 rfl (Ab rfl) (Cs 8 rfl AK AK (AW rfl rfl rfl) (Ml _ .nil (Bs AK ?_))))))))))
 exact Co [B1 f0 92 [pv a],B1 a 96 [.int .i64 (k:Nat),v,.int .i64 (l:Nat)]] .nil rfl AC
theorem VV (f0 n0 a k sf n l c:Nat)(A:Option Addr)(bs:List UInt8)(hl:bs.length=l)(hn:n≤l)(hlc:l≤c)(hb:bs.length≤1099511627776)(hA:A=none→c=0) :
  Spec prog 315 [pv f0,pv n0] [B1 f0 92 [pv a],B1 n0 3 [.int .i64 (n:Nat)],B1 a 96 [.int .i64 (k:Nat),.slice A l c,.int .i64 (sf:Nat)],own 5 1 (.slice A l c) l (Dd bs)]
   (fun _ L=>∃ v',L=[B1 f0 92 [pv a],B1 n0 3 [.int .i64 (n:Nat)],B1 a 96 [.int .i64 (k:Nat),v',.int .i64 (min sf n:Nat)],own 5 1 v' n (Dd (bs.take n)),own 5 1 (.slice A l c) l (Dd bs)]):=by
 have hmin:((min sf n:Nat):Int)=min (sf:Int) (n:Int):=by omega
 refine Spec.of 21 func315 rfl rfl rfl ?_
 refine Ae ?_
 refine Ba [0,1,4,5] _ [] (by simp only [List.append_nil]; exact Ent.refl _) AK ?_
 refine Bc 0 rfl (Ag rfl rfl) rfl (Bc 1 rfl (Ag rfl rfl) rfl (AD 2 rfl (Ah rfl) (AD 3 rfl (Ab rfl) (Bc 4 rfl (Ag rfl rfl) rfl (Bc 5 rfl (Ag rfl rfl) rfl (AD 6 rfl (DB n rfl rfl rfl Ax) ?_))))))
 refine CC 7 rfl AK (AA (T4 A n l c c bs hl hn hb (fun h=>by have:=hA h; omega)) rfl rfl AC) ?_
 rintro v9 L1 ⟨⟨A',c',rfl⟩,rfl⟩
 refine ⟨_,BL (Split.ent AC),?_⟩
 refine AD 8 rfl (Ah rfl) (AD 9 rfl (Ab rfl) (Cs 10 rfl AK AK (AW rfl rfl rfl) (C0 [0,1] rfl (Bs AK (Af ?_)))))
 refine Ba [0,1,4,5] _ [] (by simp only [List.append_nil]; exact Ent.refl _) AK ?_
 refine Bc 0 rfl (Ag rfl rfl) rfl (Bc 1 rfl (Ag rfl rfl) rfl (AD 2 rfl (Ah rfl) (AD 3 rfl (Ab rfl) (Bc 4 rfl (Ag rfl rfl) rfl (Bc 5 rfl (Ag rfl rfl) rfl (AD 6 rfl (Ep rfl rfl) (AD 7 rfl (Ah rfl) (AD 8 rfl (Ab rfl) (Cs 9 rfl AK AK (AW rfl rfl rfl) (Ml _ .nil (Bs AK ?_)))))))))))
 exact Co [B1 f0 92 [pv a],B1 n0 3 [.int .i64 (n:Nat)],B1 a 96 [.int .i64 (k:Nat),.slice A' n c',.int .i64 (min sf n:Nat)],own 5 1 (.slice A' n c') n (Dd (bs.take n)),own 5 1 (.slice A l c) l (Dd bs)] .nil ⟨_,rfl⟩ (R:=[]) (by rw [hmin]; exact AC)
theorem IA {rs:List Rc}{d:Dk}{s:ByteArray}{v:Value}{e:Int}(h:GN rs d s=(v,e))(he:e≠0)(f:Nat→Dk×Int):Fq d s f=(d,e):=by
 unfold Fq
 rcases Fw h with ⟨rfl,h1⟩ | ⟨rfl,h1,h2⟩ | ⟨h0,_⟩
 ·rw [if_pos h1]
 ·rw [if_neg (by rw [h1]; decide),h2]
 ·exact absurd h0 he
theorem Ki {rs:List Rc}{d:Dk}{s:ByteArray}{v:Value}(h:GN rs d s=(v,0)):∃ k,BD d.seen s=some k∧v=adr rs k∧∀ f,Fq d s f=f k:=by
 rcases Fw h with ⟨h0,_⟩ | ⟨h0,_⟩ | ⟨_,h1,k,h2,h3⟩
 ·cases h0
 ·cases h0
 ·refine ⟨k,h2,h3,fun f=>?_⟩
  unfold Fq
  rw [if_neg (by rw [h1]; decide),h2]
theorem Gq (rs:List Rc)(d:Dk)(s:ByteArray):∃ o e,GN rs d s=(.pointer o,e):=by
 unfold GN
 split
 ·exact ⟨_,_,rfl⟩
 ·split
  ·exact ⟨_,_,rfl⟩
  ·next k _ =>
   unfold adr
   split
   ·exact ⟨_,_,rfl⟩
   ·exact ⟨_,_,rfl⟩
theorem T6 {p:Nat}{d:Dk}{x:FX}(hx:Rep d x){k:Nat}{r r':Rc}(hr:x.rs[k]? = some r)(ha:r'.a=r.a)(hg:r'.f.safe≤r'.f.bytes.length){L:List AF} :
  Ent (own 5 1 r'.v r'.f.bytes.length (Dd r'.f.bytes)::B1 r'.a 96 [.int .i64 (k:Nat),r'.v,.int .i64 (r'.f.safe:Nat)]::Fc x.rs k::Eg p d x::BF x.sb BM x.es x.cs::BF x.fb BM x.ef x.cf::own 279 3 x.pv x.ps.length (x.ps.flatMap Cf)::L) (FSA p (d.setF k r'.f)::L):=by
 refine (Ra r' (List.getElem?_eq_some_iff.1 hr).1 hg).trans ?_
 refine Ent.trans (Ent.perm ?_) (BR (hx.set hr ha))
 show List.Perm (BS (x.rs.set k r')::Eg p d x::_::_::_::L) (B1 p 100 (J8 d.quota (x.rs.set k r').length x.sb x.fb x.pv d.falls d.off)::_::_::_::BS (x.rs.set k r')::L)
 rw [List.length_set]
 exact (List.perm_middle (a:=BS (x.rs.set k r')) (l₁:=[Eg p d x,BF x.sb BM x.es x.cs,BF x.fb BM x.ef x.cf,own 279 3 x.pv x.ps.length (x.ps.flatMap Cf)]) (l₂:=L)).symm
theorem JS {f:FuncId}[Body prog f]{ca:List Value}{pre:List AF}{K:List AF→Prop}(p:Nat)(q:Int)(n sb fb:Nat)(v:Value)(fa:Int)(off:Bool)(h0:0≤fa∧fa≤9223372036854775807)
  (h:Spec prog f ca pre (fun _ L=>K L)) :
  Spec prog 174 [pv p,.func (.func f) #[] ca.toArray] (B1 p 100 (J8 q n sb fb v fa off)::pre) (fun r L=>(fa=1∧r=.int .i64 8∧L=B1 p 100 (J8 q n sb fb v 0 true)::pre)∨(fa≠1∧r=.int .i64 0∧∃ L',K L'∧L=B1 p 100 (J8 q n sb fb v (if 0<fa then fa-1 else fa) off)::L')) :=
 Hq (K:=fun fa' L=>∃ L',K L'∧L=B1 p 100 (J8 q n sb fb v fa' off)::L') p q n sb fb v fa off h0 fun fa'=>fun _ _ hw =>
  (h.frame (R:=[B1 p 100 (J8 q n sb fb v fa' off)]) (hw.ent (Ent.perm (List.perm_append_comm (l₁:=[_]))))).mono fun _ _ ⟨v,L',e,hk,hh⟩=>⟨v,_,e,⟨L',hk,rfl⟩,hh.ent (Ent.perm (List.perm_append_comm (l₂:=[_])))⟩
set_option maxHeartbeats 4000000 in
theorem KP (p:Nat)(d:Dk)(hd:d.Ok)(s:ByteArray):Spec prog 157 [pv p,.string s] [FSA p d] (fun r L=>r=.int .i64 (CV d s).2∧L=[FSA p (CV d s).1]):=by
 refine FSA.open' fun x hx=>?_
 obtain ⟨o,e,hve⟩:=Gq x.rs d s
 have hfs:=E9 (p:=p) hx hve
 refine Spec.of 19 func157 rfl rfl rfl ?_
 refine A0 (As [0,1] rfl rfl (A0 (Ad rfl (Ad rfl ?_))))
 refine Aw (AA hfs rfl rfl AC) ?_
 rintro v10 L1 ⟨rfl,rfl⟩
 refine Aj (Ad rfl (Ac (Ai rfl) (Ac (Ai rfl) (Aw (AZ) (fun b5=>?_)))))
 refine B5 (AW rfl rfl rfl) (As [0,5,6] rfl rfl (Ae (A0 (Ad rfl (Ac (Bm rfl rfl) (AE [0,5,6,14] rfl ?_))))))
 refine Ak rfl (fun h14=>?_) (fun h14=>?_)
 ·refine A0 (Ad rfl (As [4] rfl rfl (Ar (AN ?_))))
  have h14':e≠0:=by simpa using h14
  unfold CV
  rw [IA hve h14']
  exact B8 [FSA p d] (.tmp rfl .nil) ⟨rfl,rfl⟩ ((Split.ent' (K:=[Eg p d x,BF x.sb BM x.es x.cs,BF x.fb BM x.ef x.cf,own 279 3 x.pv x.ps.length (x.ps.flatMap Cf),BS x.rs]) AC).trans (BR hx))
 ·refine Am (Af (Ae ?_))
  have h14':e=0:=by simpa using h14
  subst h14'
  obtain ⟨k,hk1,hk2,hk3⟩:=Ki hve
  obtain ⟨r,hr,hf,ha⟩:=hx.find hk1
  rw [ha] at hk2
  rw [hk2]
  refine AP (Split.ent' (K:=[BS x.rs,B1 b5 92 [pv r.a],Eg p d x,BF x.sb BM x.es x.cs,BF x.fb BM x.ef x.cf,own 279 3 x.pv x.ps.length (x.ps.flatMap Cf)]) AC) ?_
  refine AP (Gp hr (E0 hd hf)) ?_
  refine CG (fun m h=>Bz h) fun hform=>?_
  refine Al (Ad rfl (Ac (C9 (vs:=[]) (us:=[_]) rfl rfl) ?_))
  refine Aw (AA (JS (f:=247) (ca:=[pv b5]) (pre:=[B1 b5 92 [pv r.a],B1 r.a 96 [.int .i64 (k:Nat),r.v,.int .i64 (r.f.safe:Nat)]]) p d.quota x.rs.length x.sb x.fb x.pv d.falls d.off hd.falls (T5 b5 r.a k r.f.safe r.f.bytes.length r.v hform)) rfl rfl AC) ?_
  rintro v18 L1 hs
  skip
  refine As [4] rfl rfl (Ar ?_)
  rcases hs with ⟨hf1,rfl,rfl⟩ | ⟨hfn,rfl,L',rfl,rfl⟩
  ·have key:CV d s=(Jj d,8):=by unfold CV; rw [hk3]; exact Gm hf1 _
   rw [key]
   refine B8 [FSA p (Jj d)] (.tmp rfl .nil) ⟨rfl,rfl⟩ ?_
   simp only [List.cons_append,List.nil_append]
   refine Ent.trans (Split.ent' (K:=[own 5 1 r.v r.f.bytes.length (Dd r.f.bytes),B1 r.a 96 [.int .i64 (k:Nat),r.v,.int .i64 (r.f.safe:Nat)],Fc x.rs k,Eg p (Jj d) x,BF x.sb BM x.es x.cs,BF x.fb BM x.ef x.cf,own 279 3 x.pv x.ps.length (x.ps.flatMap Cf)]) AC) ?_
   refine (Ez hr (E0 hd hf)).trans ?_
   exact ((Split.ent' (K:=[Eg p (Jj d) x,BF x.sb BM x.es x.cs,BF x.fb BM x.ef x.cf,own 279 3 x.pv x.ps.length (x.ps.flatMap Cf),BS x.rs]) AC).trans (BR (d:=Jj d) (hx.fa _ _)))
  ·have key:CV d s=((fa1 d).setF k ⟨r.f.bytes,r.f.bytes.length⟩,0):=by
    unfold CV; rw [hk3,Gn hfn]
    show ((fa1 d).setF k ⟨(d.fl k).bytes,(d.fl k).bytes.length⟩,_)=_
    rw [← hf]
   rw [key]
   refine B8 [FSA p ((fa1 d).setF k ⟨r.f.bytes,r.f.bytes.length⟩)] (.tmp rfl .nil) ⟨rfl,rfl⟩ ?_
   simp only [List.cons_append,List.nil_append]
   refine Ent.trans (Split.ent' (K:=[own 5 1 r.v r.f.bytes.length (Dd r.f.bytes),B1 r.a 96 [.int .i64 (k:Nat),r.v,.int .i64 (r.f.bytes.length:Nat)],Fc x.rs k,Eg p (fa1 d) x,BF x.sb BM x.es x.cs,BF x.fb BM x.ef x.cf,own 279 3 x.pv x.ps.length (x.ps.flatMap Cf)]) AC) ?_
   exact T6 (hx.fa _ _) hr (r':=⟨r.a,r.v,⟨r.f.bytes,r.f.bytes.length⟩⟩) rfl (Nat.le_refl _)
theorem A0b{e n:Nat}{v:Value}{l:Nat}{xs:List Value}{L:List AF}{m:PH}(h:Sat (own e n v l xs::L) m):∃ A c,v=.slice A l c∧l≤c∧(A=none→c=0):=by
 obtain ⟨m1,_,⟨_,ho⟩,_⟩:=h
 rcases ho with ⟨rfl,rfl⟩ | ⟨g,cap,cur,rfl,_,h3,_⟩
 ·exact ⟨_,_,rfl,Nat.le_refl _,fun _=>rfl⟩
 ·exact ⟨_,_,rfl,h3,fun h=>by cases h⟩
theorem Ui (s:ByteArray):s.data.toList.length=s.size:=by rw [Array.length_toList]; rfl
set_option maxHeartbeats 4000000 in
theorem Lv (p:Nat)(d:Dk)(hd:d.Ok)(s t:ByteArray)(ht:t.size≤1048576):Spec prog 155 [pv p,.string s,.string t] [FSA p d] (fun r L=>r=.int .i64 (BW d s t.data.toList).2∧L=[FSA p (BW d s t.data.toList).1]):=by
 refine FSA.open' fun x hx=>?_
 obtain ⟨o,e,hve⟩:=Gq x.rs d s
 have hfs:=E9 (p:=p) hx hve
 have hul:=Dk.used_le hd
 have hn:=OR t
 have hq:=hd.q
 refine Spec.of 35 func155 rfl rfl rfl ?_
 refine A0 (Aw (Bi rfl rfl) (fun b5=>?_))
 refine As [0,1,5] rfl rfl (A0 (Ad rfl (Ad rfl ?_)))
 refine Aw (AA hfs rfl rfl AC) ?_
 rintro v12 L1 ⟨rfl,rfl⟩
 refine Aj (Ad rfl (Ac (Ai rfl) (Ac (Ai rfl) (Aw (AZ) (fun b7=>?_)))))
 refine B5 (AW rfl rfl rfl) (As [0,5,7,8] rfl rfl (Ae (A0 (Ad rfl (Ac (Bm rfl rfl) (AE [0,5,7,8,16] rfl ?_))))))
 refine Ak rfl (fun h16=>?_) (fun h16=>?_)
 ·refine A0 (Ad rfl (As [6] rfl rfl (Ar (AN ?_))))
  have h16':e≠0:=by simpa using h16
  unfold BW
  rw [IA hve h16']
  exact B8 [FSA p d] (.tmp rfl .nil) ⟨rfl,rfl⟩ ((Split.ent' (K:=[Eg p d x,BF x.sb BM x.es x.cs,BF x.fb BM x.ef x.cf,own 279 3 x.pv x.ps.length (x.ps.flatMap Cf),BS x.rs]) AC).trans (BR hx))
 ·have h16':e=0:=by simpa using h16
  subst h16'
  obtain ⟨k,hk1,hk2,hk3⟩:=Ki hve
  obtain ⟨r,hr,hf,ha⟩:=hx.find hk1
  rw [ha] at hk2
  rw [hk2]
  have hlen:=(Dk.fl_ok hd k).1
  simp only [Fa] at hlen
  rw [← hf] at hlen
  refine Am (Af ?_)
  refine Cb (fun env L=>Sub env [(0,pv p),(5,pv b5),(7,pv b7)]∧Ent L [B1 b7 92 [pv r.a],B1 b5 9 [.string t],Eg p d x,BF x.sb BM x.es x.cs,BF x.fb BM x.ef x.cf,own 279 3 x.pv x.ps.length (x.ps.flatMap Cf),BS x.rs]∧¬ (0<t.data.toList.length∧d.quota<(d.used:Int)+t.data.toList.length)) ?_ ?_
  ·refine Ae ?_
   refine Ba [0,5,11] ([Eg p d x,B1 b5 9 [.string t]]) ([B1 b7 92 [pv r.a],BF x.sb BM x.es x.cs,BF x.fb BM x.ef x.cf,own 279 3 x.pv x.ps.length (x.ps.flatMap Cf),BS x.rs]) (Split.ent AC) AK ?_
   refine Bc 0 rfl (Ag rfl rfl) rfl (AD 1 rfl (Et rfl rfl) (AD 2 rfl (AG rfl) ?_))
   refine DH 20 rfl (fun h20=>?_) (fun h20=>?_)
   ·refine Bh 3 rfl rfl rfl (AG rfl) AK AK AK (CJ 5 rfl rfl rfl (Ag rfl rfl) rfl AK AK AK (Bh 6 rfl rfl rfl (Dw rfl) AK AK AK (Bh 8 rfl rfl rfl (AG rfl) AK AK AK (Bh 9 rfl rfl rfl (Ah rfl) AK AK AK (Bh 10 rfl rfl rfl (Ab rfl) AK AK AK (CJ 11 rfl rfl rfl (Ag rfl rfl) rfl AK AK AK (FG [4] AK rfl ?_)))))))
    refine E3 4 rfl (GOn.some rfl rfl) (AA (VU p d hd x hx) rfl rfl AC) ?_
    rintro v22 L1 ⟨rfl,rfl⟩
    refine ⟨_,BL (Split.ent AC),?_⟩
    refine Bh 7 rfl rfl rfl (AO ((d.used+t.size:Nat):Int) rfl rfl Ax Ax Ax) AK AK AK (Bh 12 rfl rfl rfl (BA rfl rfl) AK AK AK (AD 13 rfl (B4 rfl rfl) (C0 [0,5,7,31] rfl (DL AK (Af ?_)))))
    refine Ak rfl (fun h31=>?_) (fun h31=>?_)
    ·refine A0 (As [6] rfl rfl (Ar (AN ?_)))
     have h31':=of_decide_eq_true h31
     have key:BW d s t.data.toList=(d,7):=by
      unfold BW
      rw [hk3,if_pos]
      rw [Ui]
      rw [hn] at h20
      have h20':t.size≠0:=by simpa using h20
      exact ⟨by omega,by omega⟩
     rw [key]
     exact B8 [FSA p d] (.tmp rfl .nil) ⟨rfl,rfl⟩ ((Split.ent' (K:=[Eg p d x,BF x.sb BM x.es x.cs,BF x.fb BM x.ef x.cf,own 279 3 x.pv x.ps.length (x.ps.flatMap Cf),BS x.rs]) AC).trans (BR hx))
    ·refine Am ?_
     refine Af ⟨⟨rfl,rfl,rfl,trivial⟩,Split.ent' AC,?_⟩
     rw [Ui]
     first
      | (have h31':=of_decide_eq_false h31; rintro ⟨_,h2⟩; omega)
      | (
       rw [hn] at h20
       have h20':t.size=0:=by simpa using h20
       rintro ⟨h1,_⟩; omega)
   ·refine Cn 3 rfl rfl rfl rfl AK AK AK (Cn 4 rfl rfl rfl rfl AK AK AK (Cn 5 rfl rfl rfl rfl AK AK AK (Cn 6 rfl rfl rfl rfl AK AK AK (Cn 7 rfl rfl rfl rfl AK AK AK (Cn 8 rfl rfl rfl rfl AK AK AK (Cn 9 rfl rfl rfl rfl AK AK AK (Cn 10 rfl rfl rfl rfl AK AK AK (Cn 11 rfl rfl rfl rfl AK AK AK (Cn 12 rfl rfl rfl rfl AK AK AK (AD 13 rfl (AT rfl rfl) (C0 [0,5,7,31] rfl (DL AK (Af ?_)))))))))))))
    refine Ak rfl (fun h31=>by cases h31) (fun h31=>?_)
    refine Am ?_
    refine Af ⟨⟨rfl,rfl,rfl,trivial⟩,Split.ent' AC,?_⟩
    rw [Ui]
    first
     | (have h31':=of_decide_eq_false h31; rintro ⟨_,h2⟩; omega)
     | (
      rw [hn] at h20
      have h20':t.size=0:=by simpa using h20
      rintro ⟨h1,_⟩; omega)
  rintro env L ⟨hsub,hE,h1⟩
  refine B3 _ hsub (AP hE ?_)
  clear hsub hE env L
  refine Ae ?_
  refine AP (Split.ent' (K:=[BS x.rs,B1 b7 92 [pv r.a],B1 b5 9 [.string t],Eg p d x,BF x.sb BM x.es x.cs,BF x.fb BM x.ef x.cf,own 279 3 x.pv x.ps.length (x.ps.flatMap Cf)]) AC) ?_
  refine AP (Gp hr (E0 hd hf)) (Al (Ad rfl (Ac (C9 (vs:=[]) (us:=[_,_]) rfl rfl) ?_)))
  refine Aw (AA (JS (f:=246) (ca:=[pv b7,pv b5]) (pre:=[B1 b7 92 [pv r.a],B1 b5 9 [.string t],B1 r.a 96 [.int .i64 (k:Nat),r.v,.int .i64 (r.f.safe:Nat)],own 5 1 r.v r.f.bytes.length (Dd r.f.bytes)]) p d.quota x.rs.length x.sb x.fb x.pv d.falls d.off hd.falls (PZ b7 b5 r.a k r.f.safe r.f.bytes.length r.v (Dd r.f.bytes) t Ax)) rfl rfl AC) ?_
  rintro v34 L1 hs
  skip
  refine As [6] rfl rfl (Ar ?_)
  rcases hs with ⟨hf1,rfl,rfl⟩ | ⟨hfn,rfl,L',⟨v',rfl⟩,rfl⟩
  ·have key:BW d s t.data.toList=(Jj d,8):=by unfold BW; rw [hk3,if_neg h1]; exact Gm hf1 _
   rw [key]
   refine B8 [FSA p (Jj d)] (.tmp rfl .nil) ⟨rfl,rfl⟩ ?_
   simp only [List.cons_append,List.nil_append]
   refine Ent.trans (Split.ent' (K:=[own 5 1 r.v r.f.bytes.length (Dd r.f.bytes),B1 r.a 96 [.int .i64 (k:Nat),r.v,.int .i64 (r.f.safe:Nat)],Fc x.rs k,Eg p (Jj d) x,BF x.sb BM x.es x.cs,BF x.fb BM x.ef x.cf,own 279 3 x.pv x.ps.length (x.ps.flatMap Cf)]) AC) ?_
   refine (Ez hr (E0 hd hf)).trans ?_
   exact ((Split.ent' (K:=[Eg p (Jj d) x,BF x.sb BM x.es x.cs,BF x.fb BM x.ef x.cf,own 279 3 x.pv x.ps.length (x.ps.flatMap Cf),BS x.rs]) AC).trans (BR (d:=Jj d) (hx.fa _ _)))
  ·have key:BW d s t.data.toList=((fa1 d).setF k ⟨r.f.bytes++t.data.toList,r.f.safe⟩,0):=by
    unfold BW; rw [hk3,if_neg h1,Gn hfn]
    show ((fa1 d).setF k ⟨(d.fl k).bytes++_,(d.fl k).safe⟩,_)=_
    rw [← hf]
   rw [key]
   refine B8 [FSA p ((fa1 d).setF k ⟨r.f.bytes++t.data.toList,r.f.safe⟩)] (.tmp rfl .nil) ⟨rfl,rfl⟩ ?_
   simp only [List.cons_append,List.nil_append]
   have hl2:r.f.bytes.length+t.size=(r.f.bytes++t.data.toList).length:=by rw [List.length_append,Ui]
   rw [hl2,← SZ]
   refine Ent.trans (Split.ent' (K:=[own 5 1 v' (r.f.bytes++t.data.toList).length (Dd (r.f.bytes++t.data.toList)),B1 r.a 96 [.int .i64 (k:Nat),v',.int .i64 (r.f.safe:Nat)],Fc x.rs k,Eg p (fa1 d) x,BF x.sb BM x.es x.cs,BF x.fb BM x.ef x.cf,own 279 3 x.pv x.ps.length (x.ps.flatMap Cf)]) AC) ?_
   exact T6 (hx.fa _ _) hr (r':=⟨r.a,v',⟨r.f.bytes++t.data.toList,r.f.safe⟩⟩) rfl (by have:=E0 hd hf; show r.f.safe≤(r.f.bytes++t.data.toList).length; rw [List.length_append]; omega)
set_option maxHeartbeats 4000000 in
theorem YG (p:Nat)(d:Dk)(hd:d.Ok)(s:ByteArray)(n:Int):Spec prog 244 [pv p,.string s,.int .i64 n] [FSA p d] (fun r L=>r=.int .i64 (JD d s n).2∧L=[FSA p (JD d s n).1]):=by
 refine FSA.open' fun x hx=>?_
 obtain ⟨o,e,hve⟩:=Gq x.rs d s
 have hfs:=E9 (p:=p) hx hve
 refine Spec.of 32 func244 rfl rfl rfl ?_
 refine A0 (Aw (Bi rfl rfl) (fun b5=>?_))
 refine As [0,1,5] rfl rfl (A0 (Ad rfl (Ad rfl ?_)))
 refine Aw (AA hfs rfl rfl AC) ?_
 rintro v12 L1 ⟨rfl,rfl⟩
 refine Aj (Ad rfl (Ac (Ai rfl) (Ac (Ai rfl) (Aw (AZ) (fun b7=>?_)))))
 refine B5 (AW rfl rfl rfl) (As [0,5,7,8] rfl rfl (Ae (A0 (Ad rfl (Ac (Bm rfl rfl) (AE [0,5,7,8,16] rfl ?_))))))
 refine Ak rfl (fun h16=>?_) (fun h16=>?_)
 ·refine A0 (Ad rfl (As [6] rfl rfl (Ar (AN ?_))))
  have h16':e≠0:=by simpa using h16
  unfold JD
  rw [IA hve h16']
  exact B8 [FSA p d] (.tmp rfl .nil) ⟨rfl,rfl⟩ ((Split.ent' (K:=[Eg p d x,BF x.sb BM x.es x.cs,BF x.fb BM x.ef x.cf,own 279 3 x.pv x.ps.length (x.ps.flatMap Cf),BS x.rs]) AC).trans (BR hx))
 ·have h16':e=0:=by simpa using h16
  subst h16'
  obtain ⟨k,hk1,hk2,hk3⟩:=Ki hve
  obtain ⟨r,hr,hf,ha⟩:=hx.find hk1
  rw [ha] at hk2
  rw [hk2]
  have hlen:=(Dk.fl_ok hd k).1
  simp only [Fa] at hlen
  rw [← hf] at hlen
  refine AP (Split.ent' (K:=[BS x.rs,B1 b7 92 [pv r.a],B1 b5 3 [.int .i64 n],Eg p d x,BF x.sb BM x.es x.cs,BF x.fb BM x.ef x.cf,own 279 3 x.pv x.ps.length (x.ps.flatMap Cf)]) AC) ?_
  refine AP (Gp hr (E0 hd hf)) ?_
  refine CG (fun m h=>A0b h) fun ⟨A,c,hv,hlc,hA⟩=>?_
  refine Am (Af ?_)
  refine Cb (fun env L=>Sub env [(0,pv p),(5,pv b5),(7,pv b7)]∧Ent L [own 5 1 r.v r.f.bytes.length (Dd r.f.bytes),B1 r.a 96 [.int .i64 (k:Nat),r.v,.int .i64 (r.f.safe:Nat)],Fc x.rs k,B1 b7 92 [pv r.a],B1 b5 3 [.int .i64 n],Eg p d x,BF x.sb BM x.es x.cs,BF x.fb BM x.ef x.cf,own 279 3 x.pv x.ps.length (x.ps.flatMap Cf)]∧0≤n∧n≤r.f.bytes.length) ?_ ?_
  ·refine Ae ?_
   refine Ba [0,3,4,7] _ [] (by simp only [List.append_nil]; exact Ent.refl _) AK ?_
   refine Bc 0 rfl (Ag rfl rfl) rfl (AD 1 rfl (Bb rfl rfl) (AD 2 rfl (AG rfl) ?_))
   refine DH 20 rfl (fun h20=>?_) (fun h20=>?_)
   ·refine Cn 3 rfl rfl rfl rfl AK AK AK (Cn 4 rfl rfl rfl rfl AK AK AK (Cn 5 rfl rfl rfl rfl AK AK AK (Cn 6 rfl rfl rfl rfl AK AK AK (Cn 7 rfl rfl rfl rfl AK AK AK (Cn 8 rfl rfl rfl rfl AK AK AK (Cn 9 rfl rfl rfl rfl AK AK AK (AD 10 rfl (B4 rfl rfl) (C0 [0,5,7,28] rfl (DL AK (Af ?_))))))))))
    refine Ak rfl (fun h28=>?_) (fun h28=>by cases h28)
    refine A0 (As [6] rfl rfl (Ar (AN ?_)))
    have h20':=of_decide_eq_true h20
    have key:JD d s n=(d,1):=by unfold JD; rw [hk3,if_pos (.inl h20')]
    rw [key]
    refine B8 [FSA p d] (.tmp rfl .nil) ⟨rfl,rfl⟩ ?_
    refine Ent.trans (Split.ent' (K:=[own 5 1 r.v r.f.bytes.length (Dd r.f.bytes),B1 r.a 96 [.int .i64 (k:Nat),r.v,.int .i64 (r.f.safe:Nat)],Fc x.rs k,Eg p d x,BF x.sb BM x.es x.cs,BF x.fb BM x.ef x.cf,own 279 3 x.pv x.ps.length (x.ps.flatMap Cf)]) AC) ?_
    exact (Ez hr (E0 hd hf)).trans ((Split.ent' (K:=[Eg p d x,BF x.sb BM x.es x.cs,BF x.fb BM x.ef x.cf,own 279 3 x.pv x.ps.length (x.ps.flatMap Cf),BS x.rs]) AC).trans (BR hx))
   ·refine CJ 3 rfl rfl rfl (Ag rfl rfl) rfl AK AK AK (CJ 4 rfl rfl rfl (Ag rfl rfl) rfl AK AK AK (Bh 5 rfl rfl rfl (Ah rfl) AK AK AK (Bh 6 rfl rfl rfl (Ab rfl) AK AK AK (CJ 7 rfl rfl rfl (Ag rfl rfl) rfl AK AK AK (Bh 8 rfl rfl rfl (Es ⟨A,c,hv⟩ rfl) AK AK AK (Bh 9 rfl rfl rfl (BA rfl rfl) AK AK AK (AD 10 rfl (AT rfl rfl) (C0 [0,5,7,28] rfl (DL AK (Af ?_))))))))))
    refine Ak rfl (fun h28=>?_) (fun h28=>?_)
    ·refine A0 (As [6] rfl rfl (Ar (AN ?_)))
     have h28':=of_decide_eq_true h28
     have key:JD d s n=(d,1):=by unfold JD; rw [hk3,if_pos (.inr (by rw [← hf]; exact h28'))]
     rw [key]
     refine B8 [FSA p d] (.tmp rfl .nil) ⟨rfl,rfl⟩ ?_
     refine Ent.trans (Split.ent' (K:=[own 5 1 r.v r.f.bytes.length (Dd r.f.bytes),B1 r.a 96 [.int .i64 (k:Nat),r.v,.int .i64 (r.f.safe:Nat)],Fc x.rs k,Eg p d x,BF x.sb BM x.es x.cs,BF x.fb BM x.ef x.cf,own 279 3 x.pv x.ps.length (x.ps.flatMap Cf)]) AC) ?_
     exact (Ez hr (E0 hd hf)).trans ((Split.ent' (K:=[Eg p d x,BF x.sb BM x.es x.cs,BF x.fb BM x.ef x.cf,own 279 3 x.pv x.ps.length (x.ps.flatMap Cf),BS x.rs]) AC).trans (BR hx))
    ·refine Am ?_
     exact Af ⟨⟨rfl,rfl,rfl,trivial⟩,Split.ent' AC,by have:=of_decide_eq_false h20; omega,by have:=of_decide_eq_false h28; omega⟩
  rintro env L ⟨hsub,hE,h1,h2⟩
  refine B3 _ hsub (AP hE ?_)
  clear hsub hE env L
  obtain ⟨m,rfl⟩:∃ m:Nat,n=(m:Int):=⟨n.toNat,by omega⟩
  have h2':m≤r.f.bytes.length:=by omega
  have hv2:r.v=.slice A r.f.bytes.length c:=hv
  refine A0 (Ad rfl (Ac (C9 (vs:=[]) (us:=[_,_]) rfl rfl) ?_))
  refine Aw (AA (JS (f:=315) (ca:=[pv b7,pv b5]) (pre:=[B1 b7 92 [pv r.a],B1 b5 3 [.int .i64 (m:Nat)],B1 r.a 96 [.int .i64 (k:Nat),r.v,.int .i64 (r.f.safe:Nat)],own 5 1 r.v r.f.bytes.length (Dd r.f.bytes)]) p d.quota x.rs.length x.sb x.fb x.pv d.falls d.off hd.falls (by rw [hv2]; exact VV b7 b5 r.a k r.f.safe m r.f.bytes.length c A r.f.bytes rfl h2' hlc Ax hA)) rfl rfl AC) ?_
  rintro v31 L1 hs
  skip
  refine As [6] rfl rfl (Ar ?_)
  rcases hs with ⟨hf1,rfl,rfl⟩ | ⟨hfn,rfl,L',⟨v',rfl⟩,rfl⟩
  ·have key:JD d s (m:Int)=(Jj d,8):=by unfold JD; rw [hk3,if_neg (by rw [← hf]; omega)]; exact Gm hf1 _
   rw [key]
   refine B8 [FSA p (Jj d)] (.tmp rfl .nil) ⟨rfl,rfl⟩ ?_
   simp only [List.cons_append,List.nil_append]
   refine Ent.trans (Split.ent' (K:=[own 5 1 r.v r.f.bytes.length (Dd r.f.bytes),B1 r.a 96 [.int .i64 (k:Nat),r.v,.int .i64 (r.f.safe:Nat)],Fc x.rs k,Eg p (Jj d) x,BF x.sb BM x.es x.cs,BF x.fb BM x.ef x.cf,own 279 3 x.pv x.ps.length (x.ps.flatMap Cf)]) AC) ?_
   refine (Ez hr (E0 hd hf)).trans ?_
   exact ((Split.ent' (K:=[Eg p (Jj d) x,BF x.sb BM x.es x.cs,BF x.fb BM x.ef x.cf,own 279 3 x.pv x.ps.length (x.ps.flatMap Cf),BS x.rs]) AC).trans (BR (d:=Jj d) (hx.fa _ _)))
  ·have key:JD d s (m:Int)=((fa1 d).setF k ⟨r.f.bytes.take m,min r.f.safe m⟩,0):=by
    unfold JD; rw [hk3,if_neg (by rw [← hf]; omega),Gn hfn]
    show ((fa1 d).setF k ⟨(d.fl k).bytes.take (m:Int).toNat,min (d.fl k).safe (m:Int).toNat⟩,_)=_
    rw [← hf,Int.toNat_natCast]
   rw [key]
   refine B8 [FSA p ((fa1 d).setF k ⟨r.f.bytes.take m,min r.f.safe m⟩)] (.tmp rfl .nil) ⟨rfl,rfl⟩ ?_
   simp only [List.cons_append,List.nil_append]
   have hl2:m=(r.f.bytes.take m).length:=by rw [List.length_take,Nat.min_eq_left h2']
   refine Ent.trans (Split.ent' (K:=[own 5 1 v' m (Dd (r.f.bytes.take m)),B1 r.a 96 [.int .i64 (k:Nat),v',.int .i64 (min r.f.safe m:Nat)],Fc x.rs k,Eg p (fa1 d) x,BF x.sb BM x.es x.cs,BF x.fb BM x.ef x.cf,own 279 3 x.pv x.ps.length (x.ps.flatMap Cf)]) AC) ?_
   have:=T6 (p:=p) (L:=[]) (hx.fa (fa1 d).falls d.off) hr (r':=⟨r.a,v',⟨r.f.bytes.take m,min r.f.safe m⟩⟩) rfl (by have:=E0 hd hf; show min r.f.safe m≤(r.f.bytes.take m).length; rw [List.length_take]; omega)
   simp only [← hl2] at this
   exact this
instance:MClone prog 261:=⟨_,func261,by kernel_rfl,by kernel_rfl,by kernel_rfl,by kernel_rfl⟩
theorem Rb (b:Nat)(es:BQ ByteArray)(cl:Nat):Spec prog 176 [.map (some b)] [BF b BM es cl] (fun r L=>∃ b',r=.map (some b')∧L=[BF b' BM es cl,BF b BM es cl]):=by
 refine Spec.of 9 func176 rfl rfl rfl ?_
 refine A0 (As [0] rfl rfl (Ae (A0 (Ad rfl (Ac (Jr rfl rfl) (AE [0,4] rfl (Dz rfl (Am (Af (A0 (Ad rfl (Ac (Eh rfl) (Aw (UP (κ:=ByteArray) rfl rfl) ?_)))))))))))))
 rintro b7
 skip
 refine Ac (Ka rfl) (As [2] rfl rfl (Ar ?_))
 exact Aq [BF b7 BM es cl,BF b BM es cl] (.tmp rfl .nil) ⟨b7,rfl,rfl⟩ AC
theorem Re (p d0:Nat)(q:Int)(n sb fb:Nat)(w:Value)(fa:Int)(off:Bool)(es:BQ ByteArray)(cl:Nat) :
  Spec prog 175 [pv d0] [B1 p 100 (J8 q n sb fb w fa off),B1 d0 23 [pv p],BF sb BM es cl]
   (fun _ L=>∃ fb',L=[B1 p 100 (J8 q n sb fb' (.slice none 0 0) fa off),BF sb BM es cl,BF fb' BM es cl]):=by
 refine Spec.of 12 func175 rfl rfl rfl ?_
 refine Ae ?_
 refine Ba [0,1,4] ([B1 p 100 (J8 q n sb fb w fa off),B1 d0 23 [pv p]]) ([BF sb BM es cl]) (Split.ent AC) AK ?_
 refine Bc 0 rfl (Ag rfl rfl) rfl (Bc 1 rfl (Ag rfl rfl) rfl (AD 2 rfl (Ah rfl) (AD 3 rfl (Ab rfl) (Bc 4 rfl (Ag rfl rfl) rfl ?_))))
 refine CC 5 rfl AK (AA (Rb sb es cl) rfl rfl AC) ?_
 rintro v6 L1 ⟨b',rfl,rfl⟩
 refine ⟨_,BL (Split.ent AC),?_⟩
 refine AD 6 rfl (Ah rfl) (AD 7 rfl (Ab rfl) (Cs 8 rfl AK AK (AW rfl rfl rfl) (C0 [0] rfl (Bs AK (Af (Al (AJ (Ag rfl rfl) (Ac (Ah rfl) (Ac (Ab rfl) (B5 (AW rfl rfl rfl) (C7 _ .nil (AH ?_))))))))))))
 exact Co [B1 p 100 (J8 q n sb b' (.slice none 0 0) fa off),BF sb BM es cl,BF b' BM es cl] .nil ⟨b',rfl⟩ AC
theorem Rep.sync{d:Dk}{x:FX}(h:Rep d x)(fb':Nat):Rep { d with safe:=d.seen,pend:=[]} { x with fb:=fb',ef:=x.es,cf:=x.cs,ps:=[],pv:=.slice none 0 0} :=
 ⟨h.seen,h.seen,h.bs,h.bs,h.len,fun k hk=>h.fl k (by
  rcases hk with hk | hk | ⟨c,hc,_⟩
  ·exact .inl hk
  ·exact .inl hk
  ·cases hc),rfl,fun i p c hp=>by cases hp⟩
set_option maxHeartbeats 4000000 in
theorem JT (p:Nat)(d:Dk)(hd:d.Ok):Spec prog 99 [pv p] [FSA p d] (fun r L=>r=.int .i64 (BN d).2∧L=[FSA p (BN d).1]):=by
 refine FSA.open' fun x hx=>?_
 obtain ⟨o,e,hve⟩:=Gq x.rs d Dn
 have hfs:=E9 (p:=p) hx hve
 have hcs:=Fw hve
 have hno:BD d.seen Dn=none:=JE.2 fun x hx e=>by have:=hd.names x hx; rw [e,BZ] at this; cases this
 refine Spec.of 16 func99 rfl rfl rfl ?_
 refine A0 (Aw (Bi rfl rfl) (fun b1=>?_))
 refine As [1] rfl rfl (Ae (A0 (AJ (Ag rfl rfl) ?_)))
 refine Aw (AA hfs rfl rfl AC) ?_
 rintro v7 L1 ⟨rfl,rfl⟩
 refine Aj (Ad rfl (Ac (Ai rfl) (Ac (Ai rfl) (AX rfl (As [1,4] rfl rfl (A0 (Ad rfl (Ac (Bm rfl rfl) (AE [1,4,11] rfl ?_)))))))))
 refine Ak rfl (fun h11=>?_) (fun h11=>?_)
 ·refine A0 (Ad rfl (As [2] rfl rfl (Ar (AN ?_))))
  have h11':e≠6:=by simpa using h11
  have h8:e=8∧d.off=true:=by
   rcases hcs with h | ⟨h,_⟩ | ⟨_,_,k,h,_⟩
   ·exact h
   ·exact absurd h h11'
   ·rw [hno] at h; cases h
  have key:BN d=(d,8):=by unfold BN; rw [if_pos h8.2]
  rw [key,h8.1]
  exact B8 [FSA p d] (.tmp rfl .nil) ⟨rfl,rfl⟩ ((Split.ent' (K:=[Eg p d x,BF x.sb BM x.es x.cs,BF x.fb BM x.ef x.cf,own 279 3 x.pv x.ps.length (x.ps.flatMap Cf),BS x.rs]) AC).trans (BR hx))
 ·have h11':e=6:=by simpa using h11
  have hoff:d.off=false:=by
   rcases hcs with ⟨h,_⟩ | ⟨_,h,_⟩ | ⟨h,_⟩
   ·rw [h11'] at h; cases h
   ·exact h
   ·rw [h11'] at h; cases h
  refine Am (Af (A0 (AJ (Ag rfl rfl) (Ac (C9 (vs:=[]) (us:=[_]) rfl rfl) ?_))))
  refine Aw (AA (Hq (f:=175) (ca:=[pv b1]) (pre:=[B1 b1 23 [pv p],BF x.sb BM x.es x.cs]) p d.quota x.rs.length x.sb x.fb x.pv d.falls d.off hd.falls (fun fa'=>Re p b1 d.quota x.rs.length x.sb x.fb x.pv fa' d.off x.es x.cs)) rfl rfl AC) ?_
  rintro v15 L1 hs
  skip
  refine As [2] rfl rfl (Ar ?_)
  rcases hs with ⟨hf1,rfl,rfl⟩ | ⟨hfn,rfl,fb',rfl⟩
  ·have key:BN d=(Jj d,8):=by unfold BN; rw [if_neg (by rw [hoff]; decide)]; exact Gm hf1 _
   rw [key]
   refine B8 [FSA p (Jj d)] (.tmp rfl .nil) ⟨rfl,rfl⟩ ?_
   simp only [List.cons_append,List.nil_append]
   exact ((Split.ent' (K:=[Eg p (Jj d) x,BF x.sb BM x.es x.cs,BF x.fb BM x.ef x.cf,own 279 3 x.pv x.ps.length (x.ps.flatMap Cf),BS x.rs]) AC).trans (BR (d:=Jj d) (hx.fa _ _)))
  ·have key:BN d=(({ (fa1 d) with safe:=d.seen,pend:=[]}:Dk),0):=by unfold BN; rw [if_neg (by rw [hoff]; decide)]; exact Gn hfn _
   rw [key]
   refine B8 [FSA p ({ (fa1 d) with safe:=d.seen,pend:=[]}:Dk)] (.tmp rfl .nil) ⟨rfl,rfl⟩ ?_
   simp only [List.cons_append,List.nil_append]
   refine Ent.trans (own_nil_ent (e:=279) (n:=3)) ?_
   refine Ent.trans (Split.ent' (K:=[B1 p 100 (J8 d.quota x.rs.length x.sb fb' (.slice none 0 0) (if 0<d.falls then d.falls-1 else d.falls) d.off),BF x.sb BM x.es x.cs,BF fb' BM x.es x.cs,own 279 3 (.slice none 0 0) 0 [],BS x.rs]) AC) ?_
   exact BR (d:={ (fa1 d) with safe:=d.seen,pend:=[]}) (x:={ x with fb:=fb',ef:=x.es,cf:=x.cs,ps:=[],pv:=.slice none 0 0}) ((hx.fa (fa1 d).falls d.off).sync fb')
theorem Q1 (p d0 s0 t0 f0 a:Nat)(q:Int)(n sb fb:Nat)(w:Value)(fa:Int)(off:Bool)(es:BQ ByteArray)(cl:Nat)(ps:List Pc)(hl:ps.length≤1048576)(s t:ByteArray) :
  Spec prog 259 [pv s0,pv t0,pv d0,pv f0] [B1 p 100 (J8 q n sb fb w fa off),B1 s0 9 [.string s],B1 t0 9 [.string t],B1 d0 23 [pv p],B1 f0 92 [pv a],BF sb BM es cl,own 279 3 w ps.length (ps.flatMap Cf)]
   (fun _ L=>(Bx s t=true∧L=[B1 p 100 (J8 q n sb fb w fa off),BF sb BM es cl,own 279 3 w ps.length (ps.flatMap Cf)])∨(Bx s t=false∧∃ w' ps',ps'=ps++[((s,t,pv a):Pc)]∧L=[B1 p 100 (J8 q n sb fb w' fa off),BF sb BM (Lm es cl (s,t,pv a)) (O3 es cl (s,t,pv a)),own 279 3 w' ps'.length (ps'.flatMap Cf)])):=by
 refine Spec.of 13 func259 rfl rfl rfl ?_
 refine A0 (AJ (Ag rfl rfl) (AJ (Ag rfl rfl) (Ac (Et rfl rfl) (AE [0,1,2,3,6] rfl ?_))))
 refine Ak rfl (fun h6=>?_) (fun h6=>?_)
 ·refine Al (AJ (Ag rfl rfl) (AJ (Ag rfl rfl) (AJ (Ag rfl rfl) (AJ (Ag rfl rfl) (Ac (Bo (qs:=[(0,_),(1,_),(2,_)]) rfl) ?_)))))
  refine Aw (AA (Iz p q n sb fb w fa off es cl ps hl s t (some ⟨a,0,none⟩)) rfl rfl AC) ?_
  rintro v12 L1 ⟨w',ps',hps',rfl⟩
  refine Aj (C7 _ .nil (AH ?_))
  exact Co [B1 p 100 (J8 q n sb fb w' fa off),BF sb BM (Lm es cl (s,t,pv a)) (O3 es cl (s,t,pv a)),own 279 3 w' ps'.length (ps'.flatMap Cf)] .nil (.inr ⟨by simpa using h6,w',ps',hps',rfl⟩) AC
 ·refine Am ?_
  exact Co [B1 p 100 (J8 q n sb fb w fa off),BF sb BM es cl,own 279 3 w ps.length (ps.flatMap Cf)] .nil (.inl ⟨by simpa using h6,rfl⟩) AC
theorem Q2 (p d0 s0:Nat)(q:Int)(n sb fb:Nat)(w:Value)(fa:Int)(off:Bool)(es:BQ ByteArray)(cl:Nat)(ps:List Pc)(hl:ps.length≤1048576)(s:ByteArray) :
  Spec prog 177 [pv d0,pv s0] [B1 p 100 (J8 q n sb fb w fa off),B1 s0 9 [.string s],B1 d0 23 [pv p],BF sb BM es cl,own 279 3 w ps.length (ps.flatMap Cf)]
   (fun _ L=>∃ w' ps',ps'=ps++[((s,Dn,.pointer none):Pc)]∧L=[B1 p 100 (J8 q n sb fb w' fa off),BF sb BM (Lm es cl (s,Dn,.pointer none)) (O3 es cl (s,Dn,.pointer none)),own 279 3 w' ps'.length (ps'.flatMap Cf)]):=by
 refine Spec.of 6 func177 rfl rfl rfl ?_
 refine Al (AJ (Ag rfl rfl) (AJ (Ag rfl rfl) (Ac (Bo (qs:=[(0,_)]) rfl) ?_)))
 refine Aw (AA (Iz p q n sb fb w fa off es cl ps hl s Dn none) rfl rfl AC) ?_
 rintro v5 L1 ⟨w',ps',hps',rfl⟩
 refine Aj (C7 _ .nil (AH ?_))
 exact Co [B1 p 100 (J8 q n sb fb w' fa off),BF sb BM (Lm es cl (s,Dn,.pointer none)) (O3 es cl (s,Dn,.pointer none)),own 279 3 w' ps'.length (ps'.flatMap Cf)] .nil ⟨w',ps',hps',rfl⟩ AC
set_option maxHeartbeats 4000000 in
theorem Rf (p:Nat)(d:Dk)(hd:d.Ok)(hw:Zz d)(s:ByteArray):Spec prog 100 [pv p,.string s] [FSA p d] (fun r L=>r=.int .i64 (DY d s).2∧L=[FSA p (DY d s).1]):=by
 refine FSA.open' fun x hx=>?_
 obtain ⟨o,e,hve⟩:=Gq x.rs d s
 have hfs:=E9 (p:=p) hx hve
 refine Spec.of 19 func100 rfl rfl rfl ?_
 refine A0 (Aw (Bi rfl rfl) (fun b2=>?_))
 refine Aw (Bi rfl rfl) fun b3=>?_
 refine As [2,3] rfl rfl (Ae (A0 (AJ (Ag rfl rfl) (AJ (Ag rfl rfl) ?_))))
 refine Aw (AA hfs rfl rfl AC) ?_
 rintro v10 L1 ⟨rfl,rfl⟩
 refine Aj (Ad rfl (Ac (Ai rfl) (Ac (Ai rfl) (AX rfl (As [2,3,6] rfl rfl (A0 (Ad rfl (Ac (Bm rfl rfl) (AE [2,3,6,14] rfl ?_)))))))))
 refine Ak rfl (fun h14=>?_) (fun h14=>?_)
 ·refine A0 (Ad rfl (As [4] rfl rfl (Ar (AN ?_))))
  have h14':e≠0:=by simpa using h14
  unfold DY
  rw [IA hve h14']
  exact B8 [FSA p d] (.tmp rfl .nil) ⟨rfl,rfl⟩ ((Split.ent' (K:=[Eg p d x,BF x.sb BM x.es x.cs,BF x.fb BM x.ef x.cf,own 279 3 x.pv x.ps.length (x.ps.flatMap Cf),BS x.rs]) AC).trans (BR hx))
 ·have h14':e=0:=by simpa using h14
  subst h14'
  obtain ⟨k,hk1,hk2,hk3⟩:=Ki hve
  refine Am (Af (A0 (AJ (Ag rfl rfl) (Ac (C9 (vs:=[]) (us:=[_,_]) rfl rfl) ?_))))
  refine Aw (AA (Hq (f:=177) (ca:=[pv b2,pv b3]) (pre:=[B1 b3 9 [.string s],B1 b2 23 [pv p],BF x.sb BM x.es x.cs,own 279 3 x.pv x.ps.length (x.ps.flatMap Cf)]) p d.quota x.rs.length x.sb x.fb x.pv d.falls d.off hd.falls (fun fa'=>Q2 p b2 b3 d.quota x.rs.length x.sb x.fb x.pv fa' d.off x.es x.cs x.ps (by rw [hx.ps.1]; have:=hw.2; omega) s)) rfl rfl AC) ?_
  rintro v18 L1 hs
  skip
  refine As [4] rfl rfl (Ar ?_)
  rcases hs with ⟨hf1,rfl,rfl⟩ | ⟨hfn,rfl,w',ps',hps,rfl⟩
  ·have key:DY d s=(Jj d,8):=by unfold DY; rw [hk3]; exact Gm hf1 _
   rw [key]
   refine B8 [FSA p (Jj d)] (.tmp rfl .nil) ⟨rfl,rfl⟩ ?_
   simp only [List.cons_append,List.nil_append]
   exact ((Split.ent' (K:=[Eg p (Jj d) x,BF x.sb BM x.es x.cs,BF x.fb BM x.ef x.cf,own 279 3 x.pv x.ps.length (x.ps.flatMap Cf),BS x.rs]) AC).trans (BR (d:=Jj d) (hx.fa _ _)))
  ·have key:DY d s=((fa1 d).chg ⟨s,Dn,0⟩,0):=by unfold DY; rw [hk3]; exact Gn hfn _
   have hr:=(hx.fa (fa1 d).falls d.off).chg hd.names (p:=(s,Dn,.pointer none)) (c:=⟨s,Dn,0⟩) ⟨rfl,.inl rfl,by show _=if Bx Dn Dn=true then _ else _; rw [if_pos (BZ _)]⟩ (fun h=>absurd h (by show ¬ Bx Dn Dn=false; rw [BZ]; decide))
   rw [key]
   refine B8 [FSA p ((fa1 d).chg ⟨s,Dn,0⟩)] (.tmp rfl .nil) ⟨rfl,rfl⟩ ?_
   simp only [List.cons_append,List.nil_append]
   rw [hps]
   refine Ent.trans (Split.ent' (K:=[B1 p 100 (J8 d.quota x.rs.length x.sb x.fb w' (if 0<d.falls then d.falls-1 else d.falls) d.off),BF x.sb BM (Lm x.es x.cs (s,Dn,.pointer none)) (O3 x.es x.cs (s,Dn,.pointer none)),BF x.fb BM x.ef x.cf,own 279 3 w' (x.ps++[(s,Dn,Value.pointer none)]).length ((x.ps++[(s,Dn,Value.pointer none)]).flatMap Cf),BS x.rs]) AC) ?_
   exact BR (d:=(fa1 d).chg ⟨s,Dn,0⟩) (x:={ x with es:=Lm x.es x.cs (s,Dn,.pointer none),cs:=O3 x.es x.cs (s,Dn,.pointer none),ps:=x.ps++[(s,Dn,Value.pointer none)],pv:=w'}) ⟨hr.seen,hr.safe,hr.bs,hr.bf,hr.len,hr.fl,hr.ps⟩
set_option maxHeartbeats 4000000 in
theorem Rg (p:Nat)(d:Dk)(hd:d.Ok)(hw:Zz d)(s t:ByteArray):Spec prog 172 [pv p,.string s,.string t] [FSA p d] (fun r L=>r=.int .i64 (CX d s t).2∧L=[FSA p (CX d s t).1]):=by
 refine FSA.open' fun x hx=>?_
 obtain ⟨o,e,hve⟩:=Gq x.rs d s
 have hfs:=E9 (p:=p) hx hve
 refine Spec.of 24 func172 rfl rfl rfl ?_
 refine A0 (Aw (Bi rfl rfl) (fun b3=>?_))
 refine Aw (Bi rfl rfl) fun b4=>?_
 refine Aw (Bi rfl rfl) fun b5=>?_
 refine As [3,4,5] rfl rfl (A0 (AJ (Ag rfl rfl) (AJ (Ag rfl rfl) ?_)))
 refine Aw (AA hfs rfl rfl AC) ?_
 rintro v12 L1 ⟨rfl,rfl⟩
 refine Aj (Ad rfl (Ac (Ai rfl) (Ac (Ai rfl) (Aw (AZ) (fun b7=>?_)))))
 refine B5 (AW rfl rfl rfl) (As [3,4,5,7,8] rfl rfl (Ae (A0 (Ad rfl (Ac (Bm rfl rfl) (AE [3,4,5,7,8,16] rfl ?_))))))
 refine Ak rfl (fun h16=>?_) (fun h16=>?_)
 ·refine A0 (Ad rfl (As [6] rfl rfl (Ar (AN ?_))))
  have h16':e≠0:=by simpa using h16
  unfold CX
  rw [IA hve h16']
  exact B8 [FSA p d] (.tmp rfl .nil) ⟨rfl,rfl⟩ ((Split.ent' (K:=[Eg p d x,BF x.sb BM x.es x.cs,BF x.fb BM x.ef x.cf,own 279 3 x.pv x.ps.length (x.ps.flatMap Cf),BS x.rs]) AC).trans (BR hx))
 ·have h16':e=0:=by simpa using h16
  subst h16'
  obtain ⟨k,hk1,hk2,hk3⟩:=Ki hve
  obtain ⟨r,hr,hf,ha⟩:=hx.find hk1
  rw [ha] at hk2
  rw [hk2]
  refine Am (Af (Ae (A0 (AJ (Ag rfl rfl) ?_))))
  refine Aw (AA (Nn t) rfl rfl AC) ?_
  rintro v19 L1 ⟨rfl,rfl⟩
  refine Aj (Ac (BO rfl) (AE [3,4,5,7,20] rfl ?_))
  refine Ak rfl (fun h20=>?_) (fun h20=>?_)
  ·refine A0 (As [6] rfl rfl (Ar (AN ?_)))
   have h20':DX t=false:=by simpa using h20
   have key:CX d s t=(d,1):=by unfold CX; rw [hk3,if_pos h20']
   rw [key]
   exact B8 [FSA p d] (.tmp rfl .nil) ⟨rfl,rfl⟩ ((Split.ent' (K:=[Eg p d x,BF x.sb BM x.es x.cs,BF x.fb BM x.ef x.cf,own 279 3 x.pv x.ps.length (x.ps.flatMap Cf),BS x.rs]) AC).trans (BR hx))
  ·have h20':DX t=true:=by simpa using h20
   refine Am (Af (A0 (AJ (Ag rfl rfl) (Ac (C9 (vs:=[]) (us:=[_,_,_,_]) rfl rfl) ?_))))
   refine Aw (AA (Hq (f:=259) (ca:=[pv b4,pv b5,pv b3,pv b7]) (pre:=[B1 b4 9 [.string s],B1 b5 9 [.string t],B1 b3 23 [pv p],B1 b7 92 [pv r.a],BF x.sb BM x.es x.cs,own 279 3 x.pv x.ps.length (x.ps.flatMap Cf)]) p d.quota x.rs.length x.sb x.fb x.pv d.falls d.off hd.falls (fun fa'=>Q1 p b3 b4 b5 b7 r.a d.quota x.rs.length x.sb x.fb x.pv fa' d.off x.es x.cs x.ps (by rw [hx.ps.1]; have:=hw.2; omega) s t)) rfl rfl AC) ?_
   rintro v23 L1 hs
   skip
   refine As [6] rfl rfl (Ar ?_)
   rcases hs with ⟨hf1,rfl,rfl⟩ | ⟨hfn,rfl,hs⟩
   ·have key:CX d s t=(Jj d,8):=by unfold CX; rw [hk3,if_neg (by rw [h20']; decide)]; exact Gm hf1 _
    rw [key]
    refine B8 [FSA p (Jj d)] (.tmp rfl .nil) ⟨rfl,rfl⟩ ?_
    simp only [List.cons_append,List.nil_append]
    exact ((Split.ent' (K:=[Eg p (Jj d) x,BF x.sb BM x.es x.cs,BF x.fb BM x.ef x.cf,own 279 3 x.pv x.ps.length (x.ps.flatMap Cf),BS x.rs]) AC).trans (BR (d:=Jj d) (hx.fa _ _)))
   ·have key:CX d s t=((if Bx s t=true then fa1 d else (fa1 d).chg ⟨s,t,k⟩),0):=by unfold CX; rw [hk3,if_neg (by rw [h20']; decide)]; exact Gn hfn _
    rw [key]
    rcases hs with ⟨hst,rfl⟩ | ⟨hst,w',ps',hps,rfl⟩
    ·rw [if_pos hst]
     refine B8 [FSA p (fa1 d)] (.tmp rfl .nil) ⟨rfl,rfl⟩ ?_
     simp only [List.cons_append,List.nil_append]
     exact (Split.ent' (K:=[Eg p (fa1 d) x,BF x.sb BM x.es x.cs,BF x.fb BM x.ef x.cf,own 279 3 x.pv x.ps.length (x.ps.flatMap Cf),BS x.rs]) AC).trans (BR (d:=fa1 d) (hx.fa _ _))
    ·rw [if_neg (by rw [hst]; decide)]
     have hr:=(hx.fa (fa1 d).falls d.off).chg hd.names (p:=(s,t,pv r.a)) (c:=⟨s,t,k⟩) ⟨rfl,.inl rfl,by show _=if Bx t Dn=true then _ else adr x.rs k; rw [if_neg (by rw [Iq h20']; decide),ha]⟩ (fun _=>⟨r,hr,hf⟩)
     refine B8 [FSA p ((fa1 d).chg ⟨s,t,k⟩)] (.tmp rfl .nil) ⟨rfl,rfl⟩ ?_
     simp only [List.cons_append,List.nil_append]
     rw [hps]
     refine Ent.trans (Split.ent' (K:=[B1 p 100 (J8 d.quota x.rs.length x.sb x.fb w' (if 0<d.falls then d.falls-1 else d.falls) d.off),BF x.sb BM (Lm x.es x.cs (s,t,pv r.a)) (O3 x.es x.cs (s,t,pv r.a)),BF x.fb BM x.ef x.cf,own 279 3 w' (x.ps++[(s,t,pv r.a)]).length ((x.ps++[(s,t,pv r.a)]).flatMap Cf),BS x.rs]) AC) ?_
     exact BR (d:=(fa1 d).chg ⟨s,t,k⟩) (x:={ x with es:=Lm x.es x.cs (s,t,pv r.a),cs:=O3 x.es x.cs (s,t,pv r.a),ps:=x.ps++[(s,t,pv r.a)],pv:=w'}) ⟨hr.seen,hr.safe,hr.bs,hr.bf,hr.len,hr.fl,hr.ps⟩
theorem YH {rs:List Rc}{d:Dk}{s:ByteArray}{v:Value}{e:Int}(h:GN rs d s=(v,e))(he:e≠0):D1 d s=([],e):=by
 unfold D1
 rcases Fw h with ⟨rfl,h1⟩ | ⟨rfl,h1,h2⟩ | ⟨h0,_⟩
 ·rw [if_pos h1]
 ·rw [if_neg (by rw [h1]; decide),h2]
 ·exact absurd h0 he
set_option maxHeartbeats 4000000 in
theorem KR (p:Nat)(d:Dk)(hd:d.Ok)(s:ByteArray):Spec prog 8 [pv p,.string s] [FSA p d] (fun r L=>r=.tuple #[.string ⟨(D1 d s).1.toArray⟩,.int .i64 (D1 d s).2]∧L=[FSA p d]):=by
 refine FSA.open' fun x hx=>?_
 obtain ⟨o,e,hve⟩:=Gq x.rs d s
 have hfs:=E9 (p:=p) hx hve
 refine Spec.of 22 func8 rfl rfl rfl ?_
 refine A0 (AX rfl (As [0,1] rfl rfl (A0 (Ad rfl (Ad rfl ?_)))))
 refine Aw (AA hfs rfl rfl AC) ?_
 rintro v11 L1 ⟨rfl,rfl⟩
 refine Aj (Ad rfl (Ac (Ai rfl) (Ac (Ai rfl) (AX rfl (As [6,7] rfl rfl (Ae (A0 (Ad rfl (Ac (Bm rfl rfl) (AE [6,7,15] rfl ?_))))))))))
 refine Ak rfl (fun h15=>?_) (fun h15=>?_)
 ·refine A0 (Ad rfl (AX rfl (As [4,5] rfl rfl (Ar (AN ?_)))))
  have h15':e≠0:=by simpa using h15
  rw [YH hve h15']
  exact B8 [FSA p d] (.tmp rfl (.tmp rfl .nil)) ⟨rfl,rfl⟩ ((Split.ent' (K:=[Eg p d x,BF x.sb BM x.es x.cs,BF x.fb BM x.ef x.cf,own 279 3 x.pv x.ps.length (x.ps.flatMap Cf),BS x.rs]) AC).trans (BR hx))
 ·have h15':e=0:=by simpa using h15
  subst h15'
  have hk3:∃ k,BD d.seen s=some k∧.pointer o=adr x.rs k∧D1 d s=((d.fl k).bytes,0):=by
   rcases Fw hve with ⟨h0,_⟩ | ⟨h0,_⟩ | ⟨_,h1,k,h2,h3⟩
   ·cases h0
   ·cases h0
   ·refine ⟨k,h2,h3,?_⟩
    unfold D1
    rw [if_neg (by rw [h1]; decide),h2]
  obtain ⟨k,hk1,hk2,hk3⟩:=hk3
  obtain ⟨r,hr,hf,ha⟩:=hx.find hk1
  rw [ha] at hk2
  rw [hk2]
  refine AP (Split.ent' (K:=[BS x.rs,Eg p d x,BF x.sb BM x.es x.cs,BF x.fb BM x.ef x.cf,own 279 3 x.pv x.ps.length (x.ps.flatMap Cf)]) AC) ?_
  refine AP (Gp hr (E0 hd hf)) (Am (Af (A0 (Ad rfl (Ac (Ah rfl) (Ac (Ab rfl) (AJ (Ag rfl rfl) ?_)))))))
  refine AJ (HE r.f.bytes rfl K3) ?_
  refine AX rfl (As [4,5] rfl rfl (Ar ?_))
  rw [hk3,← hf]
  refine B8 [FSA p d] (.tmp rfl (.tmp rfl .nil)) ⟨rfl,rfl⟩ ?_
  refine Ent.trans (Split.ent' (K:=[own 5 1 r.v r.f.bytes.length (Dd r.f.bytes),B1 r.a 96 [.int .i64 (k:Nat),r.v,.int .i64 (r.f.safe:Nat)],Fc x.rs k,Eg p d x,BF x.sb BM x.es x.cs,BF x.fb BM x.ef x.cf,own 279 3 x.pv x.ps.length (x.ps.flatMap Cf)]) AC) ?_
  exact (Ez hr (E0 hd hf)).trans ((Split.ent' (K:=[Eg p d x,BF x.sb BM x.es x.cs,BF x.fb BM x.ef x.cf,own 279 3 x.pv x.ps.length (x.ps.flatMap Cf),BS x.rs]) AC).trans (BR hx))
theorem YI (p:Nat)(d:Dk):Spec prog 72 [pv p] [FSA p d] (fun r L=>r=.bool d.off∧L=[FSA p d]):=by
 refine FSA.open' fun x hx=>?_
 refine Spec.of 11 func72 rfl rfl rfl ?_
 refine A0 (As [0] rfl rfl (A0 (Ad rfl (Ac (CF rfl rfl) (Ad rfl ?_)))))
 refine B7 5 rfl (fun h5=>?_) (fun h5=>by cases h5)
 refine AQ rfl rfl (Ad rfl (AQ rfl rfl (Ac (Ah rfl) (AQ rfl rfl (Ac (Ab rfl) (AQ rfl rfl (AJ (Ag rfl rfl) (Ac (B4 rfl rfl) (As [2] rfl rfl (Ar ?_))))))))))
 exact B8 [FSA p d] (.tmp rfl .nil) ⟨rfl,rfl⟩ ((Split.ent' (K:=[Eg p d x,BF x.sb BM x.es x.cs,BF x.fb BM x.ef x.cf,own 279 3 x.pv x.ps.length (x.ps.flatMap Cf),BS x.rs]) AC).trans (BR hx))
theorem YJ (q:Int)(sb fb:Nat):Rep (GW q) ⟨sb,fb,[],0,[],0,[],[],.slice none 0 0⟩ :=
 ⟨.nil _,.nil _,.nil _,.nil _,rfl,(fun k hk=>by
  rcases hk with ⟨⟨y,hy,_⟩⟩ | ⟨⟨y,hy,_⟩⟩ | ⟨c,hc,_⟩
  ·cases hy
  ·cases hy
  ·cases hc),rfl,fun i p c hp=>by cases hp⟩
def A0R (q:Int):Prop:=0≤q∧q≤16777216
theorem YK (q:Int):Spec prog 23 [.int .i64 q] [] (fun r L=>(¬ A0R q∧r=.tuple #[.pointer none,.int .i64 1]∧L=[])∨(A0R q∧∃ p,r=.tuple #[pv p,.int .i64 0]∧L=[FSA p (GW q)])):=by
 refine Spec.of 15 func23 rfl rfl rfl ?_
 refine A0 (AX rfl (As [0] rfl rfl (Ae (A0 (Ad rfl (Ac (Bb rfl rfl) (Ad rfl ?_)))))))
 refine B7 6 rfl (fun h6=>?_) (fun h6=>?_)
 ·refine AI rfl rfl rfl (AI rfl rfl rfl (Ac (B4 rfl rfl) (AE [0,9] rfl ?_)))
  refine Ak rfl (fun h9=>?_) (fun h9=>by cases h9)
  refine A0 (AX rfl (As [2,3] rfl rfl (Ar (AN ?_))))
  exact Aq [] (.tmp rfl (.tmp rfl .nil)) (.inl ⟨fun h=>by have:=of_decide_eq_true h6; have:=h.1; omega,rfl,rfl⟩) AC
 ·refine AQ rfl rfl (Ad rfl (AQ rfl rfl (Ac (BA rfl rfl) (Ac (AT rfl rfl) (AE [0,9] rfl ?_)))))
  refine Ak rfl (fun h9=>?_) (fun h9=>?_)
  ·refine A0 (AX rfl (As [2,3] rfl rfl (Ar (AN ?_))))
   exact Aq [] (.tmp rfl (.tmp rfl .nil)) (.inl ⟨fun h=>by have:=of_decide_eq_true h9; have:=h.2; omega,rfl,rfl⟩) AC
  ·refine Am (Af (A0 (Ad rfl (Aw (Fj (kv:=BM)) (fun b11=>?_)))))
   refine Aw (Fj (kv:=BM)) fun b12=>?_
   refine Ac (Bo (qs:=[(0,_),(2,_),(3,_)]) rfl) (Aw (Bi rfl rfl) (fun b14=>?_))
   refine AX rfl (As [2,3] rfl rfl (Ar ?_))
   refine B8 [FSA b14 (GW q)] (.tmp rfl (.tmp rfl .nil)) (.inr ⟨⟨by have:=of_decide_eq_false h6; omega,by have:=of_decide_eq_false h9; omega⟩,b14,rfl,rfl⟩) ?_
   refine Ent.trans (own_nil_ent (e:=279) (n:=3)) ?_
   have e1:Ent [] [BS []]:=DM (K:=[]) (L:=[])
   exact Ent.trans (Split.ent' (K:=[B1 b14 100 [.int .i64 q,.int .i64 0,.map (some b11),.map (some b12),.slice none 0 0,.int .i64 0,.bool false],BF b11 BM [] 0,BF b12 BM [] 0,own 279 3 (.slice none 0 0) 0 []]) AC) ((Ent.under (X:=[B1 b14 100 [.int .i64 q,.int .i64 0,.map (some b11),.map (some b12),.slice none 0 0,.int .i64 0,.bool false],BF b11 BM [] 0,BF b12 BM [] 0,own 279 3 (.slice none 0 0) 0 []]) e1).trans (BR (YJ q b11 b12)))
def brk (k:Nat)(W:AF):Nat→AF:=fun i=>if i=k then W else (fun _=>False:AF)
theorem Uj (k:Nat)(W:AF):brk k W k=W:=if_pos rfl
theorem YL {k i:Nat}(W:AF)(h:¬ i=k){m:PH}(hm:brk k W i m):False:=by
 have e:brk k W i=(fun _=>False:AF):=if_neg h
 rw [e] at hm; exact hm
abbrev logN:ByteArray:=⟨#[108,111,103]⟩
def D9 (d:Dk)(n len:Nat):Dk×Int:=if n=len then (d,0) else JD d logN (n:Nat)
def E1 (d:Dk)(n len:Nat):Dk×Int :=
 if (D9 d n len).2≠0 then D9 d n len else
 if (CV (D9 d n len).1 logN).2≠0 then CV (D9 d n len).1 logN else BN (CV (D9 d n len).1 logN).1
abbrev Jl (q b5 b3 b2 p:Nat)(W:SW)(d:Dk)(n:Nat)(s:List UInt8):List AF:=[FSA q d,B1 b5 3 [.int .i64 (n:Nat)],B1 b3 9 [.string (str s)],B1 b2 39 [pv p],Cy p W]
theorem VW (b5 b3 b2 p:Nat)(W:SW)(d:Dk)(hd:d.Ok)(n:Nat)(s:List UInt8):Spec prog 243 [pv b5,pv b3,pv b2] (Jl W.q b5 b3 b2 p W d n s) (fun r L=>r=.int .i64 (D9 d n s.length).2∧L=Jl W.q b5 b3 b2 p W (D9 d n s.length).1 n s):=by
 refine Spec.of 14 func243 rfl rfl rfl ?_
 refine A0 (As [0,1,2] rfl rfl (Ae (A0 (AJ (Ag rfl rfl) (AJ (Ag rfl rfl) (Ac (D0 rfl) (Ac (Bp rfl rfl) (AE [0,2,7] rfl ?_))))))))
 refine Ak rfl (fun h7=>?_) (fun h7=>?_)
 ·refine A0 (As [3] rfl rfl (Ar (AN ?_)))
  have h7':n=s.length:=by have:=of_decide_eq_true h7; omega
  have e:D9 d n s.length=(d,0):=by unfold D9; rw [if_pos h7']
  rw [e]
  exact Aq (Jl W.q b5 b3 b2 p W d n s) (.tmp rfl .nil) ⟨rfl,rfl⟩ AC
 ·have h7':¬ n=s.length:=fun e=>(of_decide_eq_false h7) Ax
  have e:D9 d n s.length=JD d logN (n:Nat):=by unfold D9; rw [if_neg h7']
  rw [e]
  refine Am (Af (Ae ?_))
  refine Ba [0,3,4] _ [] (by simp only [List.append_nil]; exact Ent.refl _) AK ?_
  refine Bc 0 rfl (Ag rfl rfl) rfl (AD 1 rfl (Ah rfl) (AD 2 rfl (Ab rfl) (Bc 3 rfl (Ag rfl rfl) rfl (Bc 4 rfl (Ag rfl rfl) rfl ?_))))
  refine BT 5 rfl AK AK (AA (YG W.q d hd logN (n:Nat)) rfl rfl AC) ?_
  rintro v13 L1 ⟨rfl,rfl⟩
  refine Cc (AD 6 rfl (Bl rfl) (C0 [3] rfl (Bs AK (Af (Ar ?_)))))
  exact Aq (Jl W.q b5 b3 b2 p W (JD d logN (n:Nat)).1 n s) (.tmp rfl .nil) ⟨rfl,rfl⟩ AC
theorem VX (b5 b3 b2 p:Nat)(W:SW)(d:Dk)(hd:d.Ok)(n:Nat)(s:List UInt8):Spec prog 245 [pv b2] (Jl W.q b5 b3 b2 p W d n s) (fun r L=>r=.int .i64 (CV d logN).2∧L=Jl W.q b5 b3 b2 p W (CV d logN).1 n s):=by
 refine Spec.of 7 func245 rfl rfl rfl ?_
 refine A0 (As [0] rfl rfl (A0 (AJ (Ag rfl rfl) (Ac (Ah rfl) (Ac (Ab rfl) (AJ (Ag rfl rfl) ?_))))))
 refine Aw (AA (KP W.q d hd logN) rfl rfl AC) ?_
 rintro v6 L1 ⟨rfl,rfl⟩
 refine Aj (As [1] rfl rfl (Ar ?_))
 exact Aq (Jl W.q b5 b3 b2 p W (CV d logN).1 n s) (.tmp rfl .nil) ⟨rfl,rfl⟩ AC
theorem VY (b5 b3 b2 p:Nat)(W:SW)(d:Dk)(hd:d.Ok)(n:Nat)(s:List UInt8):Spec prog 99 [pv W.q] (Jl W.q b5 b3 b2 p W d n s) (fun r L=>r=.int .i64 (BN d).2∧L=Jl W.q b5 b3 b2 p W (BN d).1 n s) :=
 Spec.mono (Spec.fr (JT W.q d hd) [B1 b5 3 [.int .i64 (n:Nat)],B1 b3 9 [.string (str s)],B1 b2 39 [pv p],Cy p W]) (by rintro r L ⟨L',⟨rfl,rfl⟩,rfl⟩; exact ⟨rfl,rfl⟩)
theorem Q3 (b5 b3 b2 p:Nat)(W:SW)(d:Dk)(hd:d.Ok)(n:Nat)(s:List UInt8) :
  JP [.func (.func 243) #[] #[pv b5,pv b3,pv b2],.func (.func 245) #[] #[pv b2],.func (.func 99) #[pv W.q] #[]] (Jl W.q b5 b3 b2 p W d n s) (fun e L=>e=(E1 d n s.length).2∧L=Jl W.q b5 b3 b2 p W (E1 d n s.length).1 n s):=by
 have hd1:(D9 d n s.length).1.Ok:=by unfold D9; split; exact hd; exact ZQ hd _ _
 refine ⟨243,inferInstance,[],[pv b5,pv b3,pv b2],rfl,Spec.mono (VW b5 b3 b2 p W d hd n s) ?_⟩
 rintro r L ⟨rfl,rfl⟩
 refine ⟨_,rfl,?_⟩
 by_cases h1:(D9 d n s.length).2=0
 ·refine .inl ⟨h1,245,inferInstance,[],[pv b2],rfl,Spec.mono (VX b5 b3 b2 p W _ hd1 n s) ?_⟩
  rintro r L ⟨rfl,rfl⟩
  refine ⟨_,rfl,?_⟩
  by_cases h2:(CV (D9 d n s.length).1 logN).2=0
  ·refine .inl ⟨h2,99,inferInstance,[pv W.q],[],rfl,Spec.mono (VY b5 b3 b2 p W _ (Y3 hd1 _) n s) ?_⟩
   rintro r L ⟨rfl,rfl⟩
   have e:E1 d n s.length=BN (CV (D9 d n s.length).1 logN).1:=by unfold E1; rw [if_neg (not_not_intro h1),if_neg (not_not_intro h2)]
   refine ⟨_,rfl,?_⟩
   by_cases h3:(BN (CV (D9 d n s.length).1 logN).1).2=0
   ·exact .inl ⟨h3,by rw [e]; exact ⟨h3.symm,rfl⟩⟩
   ·exact .inr ⟨h3,by rw [e]; exact ⟨rfl,rfl⟩⟩
  ·have e:E1 d n s.length=CV (D9 d n s.length).1 logN:=by unfold E1; rw [if_neg (not_not_intro h1),if_pos h2]
   exact .inr ⟨h2,by rw [e]; exact ⟨rfl,rfl⟩⟩
 ·have e:E1 d n s.length=D9 d n s.length:=by unfold E1; rw [if_pos h1]
  exact .inr ⟨h1,by rw [e]; exact ⟨rfl,rfl⟩⟩
abbrev A1h (μ:PH)(W:SW)(l:List Fm):Type:={x:SW×PH // Le μ x.2∧x.1.Ok x.2∧x.1.q=W.q∧x.1.dead=W.dead∧Gl W.pl l=some x.1.pl}
abbrev O9 (q b5 b3 b2 p:Nat)(d:Dk)(s:List UInt8)(n:Nat)(x:SW×PH):List AF:=Jl q b5 b3 b2 p x.1 d n s++[Df x.1,Dc x.1,ro x.2]
def A2k (μ:PH)(W:SW)(b5 b3 b2 p:Nat)(d:Dk)(s:List UInt8)(l:List Fm):AF:=exA fun x:A1h μ W l=>O9 W.q b5 b3 b2 p d s (Ej l) x.1
abbrev A1i (μ:PH)(W:SW)(l:List Fm):Type:={x:SW×PH // Le μ x.2∧x.1.Ok x.2∧x.1.q=W.q∧x.1.dead=W.dead∧x.1.pl=(EZ W.pl l).1}
def A1V (μ:PH)(W:SW)(b5 b3 b2 p:Nat)(d:Dk)(s:List UInt8):AF:=exA fun x:A1i μ W (Ex s)=>O9 W.q b5 b3 b2 p d s (EZ W.pl (Ex s)).2 x.1
theorem StandQ.two{μ μ':PH}{W W':SW}{f:Fm}{r:Value}(h:StandQ μ W f r W' μ'):∃ b:Bool,r=.bool b∧(b=false→Dj W.pl f=none∧W'.pl=W.pl)∧(b=true→Dj W.pl f=some W'.pl):=by
 obtain ⟨_,_,_,_,h⟩:=h
 rcases h with ⟨h1,h2,h3⟩ | ⟨s,h1,h2,h3⟩
 ·exact ⟨false,h2,fun _=>⟨h1,h3⟩,fun k=>(by cases k)⟩
 ·exact ⟨true,h2,fun k=>(by cases k),fun _=>by rw [h3]; exact h1⟩
set_option maxHeartbeats 4000000 in
theorem Q4 (μ:PH)(p:Nat)(W:SW)(hW:W.Ok μ)(d:Dk)(hd:d.Ok)(s:List UInt8)(hs:s.length≤1073741824):Spec prog 146 [pv p,.string (str s)] [FSA W.q d,Cy p W,Df W,Dc W,ro μ]
  (fun r L=>∃ W' μ',Le μ μ'∧W'.Ok μ'∧W'.q=W.q∧W'.dead=W.dead∧W'.pl=(EZ W.pl (Ex s)).1∧r=.int .i64 (E1 d (EZ W.pl (Ex s)).2 s.length).2∧L=[FSA W.q (E1 d (EZ W.pl (Ex s)).2 s.length).1,Cy p W',Df W',Dc W',ro μ']):=by
 refine Spec.of 29 func146 rfl rfl rfl ?_
 refine A0 (Aw (Bi rfl rfl) (fun b2=>?_))
 refine Aw (Bi rfl rfl) fun b3=>?_
 refine As [2,3] rfl rfl (A0 (Aw (AZ) (fun b5=>?_)))
 refine B5 (AW rfl rfl rfl) (AE [2,3,5] rfl ?_)
 refine Cb (fun env L=>Sub env [(2,pv b2),(3,pv b3),(5,pv b5)]∧Ent L [A1V μ W b5 b3 b2 p d s]) ?_ ?_
 ·refine A0 (AJ (Ag rfl rfl) ?_)
  refine Aw (AA (VP s) rfl rfl AC) ?_
  rintro v9 L1 ⟨be,rfl,rfl⟩
  refine Aj (AE [2,3,5,9] rfl (Au ?_))
  refine So (VO be s hs) (B:=O9 W.q b5 b3 b2 p d s 0 (W,μ)) (fun pre=>A2k μ W b5 b3 b2 p d s (pre.map (·.2))) (fun _=>False) (brk 0 (A1V μ W b5 b3 b2 p d s)) rfl rfl (fun _=>rfl) ((Split.ent (K:=[B1 be 9 [.string (str s)],FSA W.q d,B1 b5 3 [.int .i64 0],B1 b3 9 [.string (str s)],B1 b2 39 [pv p],Cy p W,Df W,Dc W,ro μ]) AC).trans (by rw [List.append_nil]; exact Ent.refl _)) (LK (F:=fun x:A1h μ W []=>O9 W.q b5 b3 b2 p d s 0 x.1) ⟨(W,μ),Le.refl _,hW,rfl,rfl,rfl⟩) ?_ ?_ ?_ ?_
  ·rintro ln pre x ⟨⟨post,hpost⟩,hx1,hx2,hx3⟩
   refine EQ fun ⟨⟨W1,μ1⟩,h1,h2,h3,h4,h5⟩=>?_
   refine FB ?_
   dsimp only at h1 h2 h3 h4 h5 ⊢
   simp only [O9,Jl,List.cons_append,List.nil_append]
   refine A0 (As [2,5,6,11] rfl rfl (Al (Aw (AZ) (fun b7=>?_))))
   refine B5 (AU rfl rfl rfl rfl) (AE [2,5,6,7] rfl (Au (Ae (A0 (AJ (Ag rfl rfl) (AJ (BP rfl rfl) ?_))))))
   refine Aw (AA (SY μ1 p W1 h2 x.2 Ax) rfl rfl AC) ?_
   rintro v14 L1 ⟨W2,μ2,hst,rfl⟩
   obtain ⟨bv,rfl,hb1,hb2⟩:=hst.two
   obtain ⟨g1,g2,g3,g4,_⟩:=hst
   refine Aj (Ac (BO rfl) (AE [5,6,7,15] rfl ?_))
   refine Ak rfl (fun h15=>?_) (fun h15=>?_)
   ·refine AY (AS (RM rfl (A1I ?_)))
    have hbv:bv=false:=by simpa using h15
    obtain ⟨k1,k2⟩:=hb1 hbv
    have hrun:EZ W.pl (Ex s)=(W1.pl,Ej (pre.map (·.2))):=by rw [hpost]; exact VQ h5 k1
    rw [Uj]
    refine (Split.ent' (K:=[FSA W.q d,B1 b5 3 [.int .i64 (Ej (pre.map (·.2)):Nat)],B1 b3 9 [.string (str s)],B1 b2 39 [pv p],Cy p W2,Df W2,Dc W2,ro μ2]) AC).trans ?_
    have e2:Ej (pre.map (·.2))=(EZ W.pl (Ex s)).2:=by rw [hrun]
    rw [e2]
    exact LK (F:=fun x:A1i μ W (Ex s)=>O9 W.q b5 b3 b2 p d s (EZ W.pl (Ex s)).2 x.1) ⟨(W2,μ2),h1.trans g1,g2,g3.trans h3,g4.trans h4,by rw [hrun]; exact k2⟩
   ·refine Am (Af (Al (Ad rfl (AJ (BP rfl rfl) ?_))))
    have hsz:x.1+(x.2.2.length+9)=Ej ((pre++[x]).map (·.2)):=by
     rw [List.map_append,KD,← hx1]
     show _=x.1+(x.2.2.length+9+0)
     omega
    refine Aw (AA (SQ x.2 hx2) rfl rfl AC) ?_
    rintro v18 L2 ⟨rfl,rfl⟩
    refine Aj (Ac (AO ((Ej ((pre++[x]).map (·.2)):Nat):Int) rfl rfl Ax Ax Ax) (B5 (AW rfl rfl rfl) (C7 _ .nil (AH (AR (A0C ?_))))))
    have hbv:bv=true:=by simpa using h15
    have k1:=hb2 hbv
    refine (Split.ent' (K:=[FSA W.q d,B1 b5 3 [.int .i64 (Ej ((pre++[x]).map (·.2)):Nat)],B1 b3 9 [.string (str s)],B1 b2 39 [pv p],Cy p W2,Df W2,Dc W2,ro μ2]) AC).trans ?_
    exact LK (F:=fun y:A1h μ W ((pre++[x]).map (·.2))=>O9 W.q b5 b3 b2 p d s (Ej ((pre++[x]).map (·.2))) y.1) ⟨(W2,μ2),h1.trans g1,g2,g3.trans h3,g4.trans h4,by rw [List.map_append]; exact Lt h5 k1⟩
  ·rintro ys hys
   refine AR ?_
   refine Af ⟨⟨rfl,rfl,rfl,trivial⟩,?_⟩
   rw [hys]
   refine QQ fun ⟨⟨W1,μ1⟩,h1,h2,h3,h4,h5⟩=>?_
   have hrun:=YB h5
   have e2:Ej (Ex s)=(EZ W.pl (Ex s)).2:=by rw [hrun]
   rw [e2]
   simp only [O9,Jl,List.cons_append,List.nil_append]
   refine (Split.ent' (K:=[FSA W.q d,B1 b5 3 [.int .i64 ((EZ W.pl (Ex s)).2:Nat)],B1 b3 9 [.string (str s)],B1 b2 39 [pv p],Cy p W1,Df W1,Dc W1,ro μ1]) AC).trans ?_
   exact LK (F:=fun x:A1i μ W (Ex s)=>O9 W.q b5 b3 b2 p d s (EZ W.pl (Ex s)).2 x.1) ⟨(W1,μ1),h1,h2,h3,h4,by rw [hrun]⟩
  ·exact CG (p:=False) (fun m h=>by obtain ⟨_,_,h,_⟩:=h; exact h) False.elim
  ·intro j
   by_cases hj:j=0
   ·subst hj
    refine AY (AV rfl ?_)
    exact Af ⟨⟨rfl,rfl,rfl,trivial⟩,by rw [Uj]; exact Split.ent' AC⟩
   ·exact CG (p:=False) (fun m h=>by obtain ⟨_,_,h,_⟩:=h; exact YL _ hj h) False.elim
 rintro env L ⟨hsub,hE⟩
 refine B3 _ hsub (AP hE ?_)
 clear hsub hE env L
 refine EQ fun ⟨⟨W1,μ1⟩,h1,h2,h3,h4,h5⟩=>?_
 refine FB ?_
 dsimp only at h1 h2 h3 h4 h5 ⊢
 simp only [O9,Jl,List.cons_append,List.nil_append]
 generalize (EZ W.pl (Ex s)).2=n at *
 rw [← h3]
 refine A0 (Ac (C9 (vs:=[]) (us:=[_,_,_]) rfl rfl) (Ac (C9 (vs:=[]) (us:=[_]) rfl rfl) (AJ (Ag rfl rfl) (Ac (Ah rfl) (Ac (Ab rfl) (AJ (Ag rfl rfl) (Ac (C9 (vs:=[_]) (us:=[]) rfl rfl) (Aw (Bg (qs:=[(0,_),(1,_),(2,_)]) rfl rfl rfl) (fun b27=>?_)))))))))
 refine Aw (AA (JQ b27 3 [.func (.func 243) #[] #[pv b5,pv b3,pv b2],.func (.func 245) #[] #[pv b2],.func (.func 99) #[pv W1.q] #[]] (Jl W1.q b5 b3 b2 p W1 d n s) _ (by show 3≤1000; decide) (Q3 b5 b3 b2 p W1 d hd n s)) rfl rfl AC) ?_
 rintro v28 L1 ⟨e,L2,rfl,⟨rfl,rfl⟩,rfl⟩
 refine Aj (As [4] rfl rfl (Ar ?_))
 exact Aq [FSA W1.q (E1 d n s.length).1,Cy p W1,Df W1,Dc W1,ro μ1] (.tmp rfl .nil) ⟨W1,μ1,h1,h2,rfl,h4,h5,rfl,rfl⟩ AC
theorem VZ {d:Dk}(h:d.Ok)(s:ByteArray):(D1 d s).1.length≤1073741824:=by
 unfold D1
 split
 ·exact Nat.zero_le _
 ·split
  ·exact Nat.zero_le _
  ·rename_i k hk
   have:=(Dk.fl_ok h k).1
   unfold Fa at this
   show (d.fl k).bytes.length≤_
   omega
theorem W0 {d:Dk}{s:ByteArray}(h:(D1 d s).2≠0):(D1 d s).1=[]:=by
 unfold D1 at h ⊢
 split
 ·rfl
 ·split
  ·rfl
  ·rename_i h1 _ _ hk
   rw [if_neg h1,hk] at h
   exact absurd rfl h
def HP (d:Dk):Dk×Int:=if (BH d logN).2≠0 then BH d logN else BN (BH d logN).1
def Rh (d:Dk):O8:=(EZ ([],[]) (Ex (D1 d logN).1)).1
def F2 (d:Dk):Dk×Int:=if (D1 d logN).2=6 then HP d else if (D1 d logN).2≠0 then (d,(D1 d logN).2) else
 E1 d (EZ ([],[]) (Ex (D1 d logN).1)).2 (D1 d logN).1.length
theorem T7 (b1 q:Nat)(d:Dk)(hd:d.Ok)(hw:Zz d):Spec prog 144 [pv b1] [FSA q d,B1 b1 23 [pv q]] (fun r L=>r=.int .i64 (BH d logN).2∧L=[FSA q (BH d logN).1,B1 b1 23 [pv q]]):=by
 refine Spec.of 4 func144 rfl rfl rfl ?_
 refine A0 (As [0] rfl rfl (A0 (AJ (Ag rfl rfl) ?_)))
 refine Aw (AA (Lu q d hd hw logN) rfl rfl AC) ?_
 rintro v3 L1 ⟨rfl,rfl⟩
 refine Aj (As [1] rfl rfl (Ar ?_))
 exact Aq [FSA q (BH d logN).1,B1 b1 23 [pv q]] (.tmp rfl .nil) ⟨rfl,rfl⟩ AC
theorem Ri (b1 q:Nat)(d:Dk)(hd:d.Ok)(hw:Zz d) :
  JP [.func (.func 144) #[] #[pv b1],.func (.func 99) #[pv q] #[]] [FSA q d,B1 b1 23 [pv q]] (fun e L=>e=(HP d).2∧L=[FSA q (HP d).1,B1 b1 23 [pv q]]):=by
 have hd1:=MP hd logN
 refine ⟨144,inferInstance,[],[pv b1],rfl,Spec.mono (T7 b1 q d hd hw) ?_⟩
 rintro r L ⟨rfl,rfl⟩
 refine ⟨_,rfl,?_⟩
 by_cases h1:(BH d logN).2=0
 ·refine .inl ⟨h1,99,inferInstance,[pv q],[],rfl,Spec.mono (Spec.fr (JT q _ hd1) [B1 b1 23 [pv q]]) ?_⟩
  rintro r L ⟨L',⟨rfl,rfl⟩,rfl⟩
  have e:HP d=BN (BH d logN).1:=by unfold HP; rw [if_neg (not_not_intro h1)]
  refine ⟨_,rfl,?_⟩
  by_cases h3:(BN (BH d logN).1).2=0
  ·exact .inl ⟨h3,by rw [e]; exact ⟨h3.symm,rfl⟩⟩
  ·exact .inr ⟨h3,by rw [e]; exact ⟨rfl,rfl⟩⟩
 ·have e:HP d=BH d logN:=by unfold HP; rw [if_pos h1]
  exact .inr ⟨h1,by rw [e]; exact ⟨rfl,rfl⟩⟩
def A0S (μ:PH)(q:Nat)(d:Dk)(e:Int)(W:SW)(μ':PH):Prop:=Le μ μ'∧W.Ok μ'∧W.q=q∧W.dead=false∧e=(F2 d).2∧(e=0→W.pl=Rh d)
abbrev Np (q:Nat):SW:=⟨q,.slice none 0 0,.slice none 0 0,[],[],false⟩
theorem Nq (μ:PH)(q:Nat):(Np q).Ok μ:=⟨⟨none,0,rfl⟩,⟨none,0,rfl⟩,fun x hx=>(by cases hx),fun x hx=>(by cases hx),Nat.zero_le _,Nat.zero_le _⟩
set_option maxHeartbeats 4000000 in
theorem W3 (μ:PH)(q:Nat)(d:Dk)(hd:d.Ok)(hw:Zz d):Spec prog 76 [pv q] [FSA q d,ro μ] (fun r L=>∃ p W μ' e,A0S μ q d e W μ'∧r=.tuple #[if e=0 then pv p else .pointer none,.int .i64 e]∧L=[FSA q (F2 d).1,Cy p W,Df W,Dc W,ro μ']):=by
 refine Spec.of 34 func76 rfl rfl rfl ?_
 refine A0 (Aw (Bi rfl rfl) (fun b1=>?_))
 refine AX rfl (As [1] rfl rfl (Ae (A0 (AJ (Ag rfl rfl) (Ac (Bd rfl rfl) (AE [1,8] rfl (Dz rfl (Am (Af (A0 (AJ (Ag rfl rfl) (Ac (Bo (qs:=[(0,_)]) rfl) (Aw (Bi rfl rfl) (fun b11=>?_))))))))))))))
 refine AX rfl (Be [1,4] rfl (BK (own_nil_ent (e:=27) (n:=1)) (BK (own_nil_ent (e:=88) (n:=2)) ?_)))
 refine BK (L':=[FSA q d,Cy b11 (Np q),Df (Np q),Dc (Np q),B1 b1 23 [pv q],ro μ]) ?_ ?_
 ·show Ent [own 88 2 (.slice none 0 0) 0 [],own 27 1 (.slice none 0 0) 0 [],B1 b11 156 [pv q,.slice none 0 0,.slice none 0 0,.bool false],B1 b1 23 [pv q],FSA q d,ro μ] [FSA q d,B1 b11 156 [pv q,.slice none 0 0,.slice none 0 0,.bool false],own 27 1 (.slice none 0 0) 0 [],own 88 2 (.slice none 0 0) 0 [],B1 b1 23 [pv q],ro μ]
  exact Split.ent' AC
 refine Dp (A0 (AJ (Ag rfl rfl) ?_))
 refine Aw (AA (KR q d hd logN) rfl rfl AC) ?_
 rintro v14 L1 ⟨rfl,rfl⟩
 rw [show (⟨(D1 d logN).1.toArray⟩:ByteArray)=str (D1 d logN).1 from rfl]
 refine Aj (Ad rfl (Ac (Ai rfl) (Ac (Ai rfl) (AX rfl (As [1,4,5,6] rfl rfl ?_)))))
 refine Cb (fun env L=>∃ W μ' e,A0S μ q d e W μ'∧Sub env [(4,pv b11),(6,.int .i64 e)]∧Ent L [FSA q (F2 d).1,Cy b11 W,Df W,Dc W,ro μ']) ?_ ?_
 ·refine A0 (Ad rfl (AE [1,4,5,6,17] rfl (Au (A0 (Ac (Bp rfl rfl) (As [1,4,5,6,17,18] rfl rfl ?_))))))
  refine Ak rfl (fun h18=>?_) (fun h18=>?_)
  ·refine Al (Ac (C9 (vs:=[]) (us:=[_]) rfl rfl) (AJ (Ag rfl rfl) (Ac (C9 (vs:=[_]) (us:=[]) rfl rfl) (Aw (Bg (qs:=[(0,_),(1,_)]) rfl rfl rfl) (fun b23=>?_)))))
   refine Aw (AA (JQ b23 2 [.func (.func 144) #[] #[pv b1],.func (.func 99) #[pv q] #[]] [FSA q d,B1 b1 23 [pv q]] _ (by show 2≤1000; decide) (Ri b1 q d hd hw)) rfl rfl AC) ?_
   rintro v24 L1 ⟨e,L2,rfl,⟨rfl,rfl⟩,rfl⟩
   refine Aj (AX rfl (Be [4,6] rfl (AH (AR ?_))))
   have h18':(D1 d logN).2=6:=by simpa using h18
   have he:F2 d=HP d:=by unfold F2; rw [if_pos h18']
   have hs:Rh d=([],[]):=by unfold Rh; rw [W0 (by rw [h18']; decide)]; rfl
   refine Af ⟨Np q,μ,_,⟨Le.refl _,Nq μ q,rfl,rfl,by rw [he],fun _=>by rw [hs]; rfl⟩,⟨rfl,rfl,trivial⟩,?_⟩
   rw [he]
   exact Split.ent' AC
  ·refine A0 (Ac (Bp rfl rfl) (As [4,5,6,25] rfl rfl ?_))
   refine Ak rfl (fun h25=>?_) (fun h25=>?_)
   ·refine Al (Ad rfl (Ad rfl ?_))
    refine Aw (AA (Q4 μ b11 (Np q) (Nq μ q) d hd (D1 d logN).1 (VZ hd logN)) rfl rfl AC) ?_
    rintro v29 L1 ⟨W',μ',g1,g2,g3,g4,g5,rfl,rfl⟩
    refine Aj (AX rfl (Be [4,6] rfl (AH (AR ?_))))
    have h18':(D1 d logN).2≠6:=by simpa using h18
    have h25':(D1 d logN).2=0:=by simpa using h25
    have he:F2 d=E1 d (EZ ([],[]) (Ex (D1 d logN).1)).2 (D1 d logN).1.length:=by unfold F2; rw [if_neg h18',if_neg (not_not_intro h25')]
    refine Af ⟨W',μ',_,⟨g1,g2,g3,g4,by rw [he]; rfl,fun _=>g5⟩,⟨rfl,rfl,trivial⟩,?_⟩
    rw [he]
    show Ent [FSA q (E1 d (EZ ([],[]) (Ex (D1 d logN).1)).2 (D1 d logN).1.length).1,Cy b11 W',Df W',Dc W',ro μ',B1 b1 23 [pv q]] _
    exact Split.ent' AC
   ·refine Am (AR ?_)
    have h18':(D1 d logN).2≠6:=by simpa using h18
    have h25':(D1 d logN).2≠0:=by simpa using h25
    have he:F2 d=(d,(D1 d logN).2):=by unfold F2; rw [if_neg h18',if_pos h25']
    refine Af ⟨Np q,μ,_,⟨Le.refl _,Nq μ q,rfl,rfl,by rw [he],fun k=>absurd k h25'⟩,⟨rfl,rfl,trivial⟩,?_⟩
    rw [he]
    exact Split.ent' AC
 rintro env L ⟨W,μ',e,hq,hsub,hE⟩
 refine B3 _ hsub (AP hE ?_)
 clear hsub hE env L
 refine Ae (A0 (Ad rfl (Ac (Bm rfl rfl) (AE [4,6,31] rfl ?_))))
 refine Ak rfl (fun h31=>?_) (fun h31=>?_)
 ·refine A0 (Ad rfl (AX rfl (As [2,3] rfl rfl (Ar (AN ?_)))))
  have h31':e≠0:=by simpa using h31
  exact Aq [FSA q (F2 d).1,Cy b11 W,Df W,Dc W,ro μ'] (.tmp rfl (.tmp rfl .nil)) ⟨b11,W,μ',e,hq,by rw [if_neg h31']; rfl,rfl⟩ AC
 ·refine Am (Af (A0 (Ad rfl (AX rfl (As [2,3] rfl rfl (Ar ?_))))))
  have h31':e=0:=by simpa using h31
  subst h31'
  exact Aq [FSA q (F2 d).1,Cy b11 W,Df W,Dc W,ro μ'] (.tmp rfl (.tmp rfl .nil)) ⟨b11,W,μ',0,hq,by rw [if_pos rfl]; rfl,rfl⟩ AC
theorem IB (μ:PH)(v:Value)(t:List En)(hv:Row μ v 2 t.length (DC t))(hl:t.length≤1048576):Spec prog 87 [v] [ro μ] (fun r L=>∃ A c,r=.slice A t.length c∧L=[own 111 2 (.slice A t.length c) t.length (DC t),ro μ]):=by
 obtain ⟨A,cap,rfl⟩:=hv.sl
 refine Spec.of 8 func87 rfl rfl rfl ?_
 refine A0 (As [0] rfl rfl (Ae (A0 (Ad rfl (Ac (DG rfl rfl) (AE [0,4] rfl ?_))))))
 refine Ak rfl (fun h4=>?_) (fun h4=>?_)
 ·refine A0 (As [2] rfl rfl (Ar (AN ?_)))
  have hA:A=none:=by cases A <;> simp_all
  subst hA
  have h0:t=[]:=by
   cases t with
   | nil=>rfl
   | cons x l=>obtain ⟨b,o,c,h,_⟩:=hv.pos (by simp); cases h
  subst h0
  exact B8 [own 111 2 (.slice none 0 0) 0 [],ro μ] (.tmp rfl .nil) ⟨none,0,rfl,rfl⟩ own_nil_ent
 ·refine Am (Af (A0 (Aw (Bg (qs:=[]) rfl rfl rfl) (fun b5=>?_))))
  refine Ad rfl (BK (G6 (n:=2)) ?_)
  refine Aw (D8 hv rfl rfl AC (Pp _) (by simp only [maxLen]; omega) Ax) ?_
  rintro v7 -
  rw [Nat.zero_add,List.nil_append]
  refine Cv (fun m h=>Bz h) fun ⟨A7,c7,hv7⟩=>?_
  subst hv7
  refine As [2] rfl rfl (Ar ?_)
  exact Aq [own 111 2 (.slice A7 t.length c7) t.length (DC t),ro μ] (.tmp rfl .nil) ⟨A7,c7,rfl,rfl⟩ AC
theorem FQ (μ:PH)(v:Value)(xs:List Int)(hv:Row μ v 1 xs.length (xs.flatMap (Bj .i64)))(hl:xs.length≤1048576):Spec prog 91 [v] [ro μ] (fun r L=>∃ A c,r=.slice A xs.length c∧L=[own 3 1 (.slice A xs.length c) xs.length (xs.flatMap (Bj .i64)),ro μ]):=by
 obtain ⟨A,cap,rfl⟩:=hv.sl
 refine Spec.of 8 func91 rfl rfl rfl ?_
 refine A0 (As [0] rfl rfl (Ae (A0 (Ad rfl (Ac (DG rfl rfl) (AE [0,4] rfl ?_))))))
 refine Ak rfl (fun h4=>?_) (fun h4=>?_)
 ·refine A0 (As [2] rfl rfl (Ar (AN ?_)))
  have hA:A=none:=by cases A <;> simp_all
  subst hA
  have h0:xs=[]:=by
   cases xs with
   | nil=>rfl
   | cons x l=>obtain ⟨b,o,c,h,_⟩:=hv.pos (by simp); cases h
  subst h0
  exact B8 [own 3 1 (.slice none 0 0) 0 [],ro μ] (.tmp rfl .nil) ⟨none,0,rfl,rfl⟩ own_nil_ent
 ·refine Am (Af (A0 (Aw (Bg (qs:=[]) rfl rfl rfl) (fun b5=>?_))))
  refine Ad rfl (BK (G6 (n:=1)) ?_)
  refine Aw (D8 hv rfl rfl AC (QD _) (by simp only [maxLen]; omega) Ax) ?_
  rintro v7 -
  rw [Nat.zero_add,List.nil_append]
  refine Cv (fun m h=>Bz h) fun ⟨A7,c7,hv7⟩=>?_
  subst hv7
  refine As [2] rfl rfl (Ar ?_)
  exact Aq [own 3 1 (.slice A7 xs.length c7) xs.length (xs.flatMap (Bj .i64)),ro μ] (.tmp rfl .nil) ⟨A7,c7,rfl,rfl⟩ AC
def writeD (d:Dk)(f:Fm):Dk×Int:=if (BW d logN (DW f)).2≠0 then BW d logN (DW f) else CV (BW d logN (DW f)).1 logN
theorem YM (q:Nat)(d:Dk)(hd:d.Ok)(s:ByteArray)(l:List UInt8)(hl:l.length≤1048576):Spec prog 155 [pv q,.string s,.string (str l)] [FSA q d] (fun r L=>r=.int .i64 (BW d s l).2∧L=[FSA q (BW d s l).1]):=Lv q d hd s (str l) hl
abbrev Q5 (b3 b7 p:Nat)(W:SW)(d:Dk)(f:Fm):List AF:=[FSA W.q d,B1 b3 39 [pv p],B1 b7 9 [.string (str (DW f))],Cy p W]
theorem W4 (b3 b7 p:Nat)(W:SW)(d:Dk)(hd:d.Ok)(f:Fm)(hf:f.2.length≤1048567):Spec prog 154 [pv b3,pv b7] (Q5 b3 b7 p W d f) (fun r L=>r=.int .i64 (BW d logN (DW f)).2∧L=Q5 b3 b7 p W (BW d logN (DW f)).1 f):=by
 refine Spec.of 9 func154 rfl rfl rfl ?_
 refine A0 (As [0,1] rfl rfl (Ae ?_))
 refine Ba [0,3,4] _ [] (by simp only [List.append_nil]; exact Ent.refl _) AK ?_
 refine Bc 0 rfl (Ag rfl rfl) rfl (AD 1 rfl (Ah rfl) (AD 2 rfl (Ab rfl) (Bc 3 rfl (Ag rfl rfl) rfl (Bc 4 rfl (Ag rfl rfl) rfl ?_))))
 refine BT 5 rfl AK AK (AA (YM W.q d hd logN (DW f) (by rw [Hf]; omega)) rfl rfl AC) ?_
 rintro v8 L1 ⟨rfl,rfl⟩
 refine Cc (AD 6 rfl (Bl rfl) (C0 [2] rfl (Bs AK (Af (Ar ?_)))))
 exact Aq (Q5 b3 b7 p W (BW d logN (DW f)).1 f) (.tmp rfl .nil) ⟨rfl,rfl⟩ AC
theorem W5 (b3 b7 p:Nat)(W:SW)(d:Dk)(hd:d.Ok)(f:Fm):Spec prog 156 [pv b3] (Q5 b3 b7 p W d f) (fun r L=>r=.int .i64 (CV d logN).2∧L=Q5 b3 b7 p W (CV d logN).1 f):=by
 refine Spec.of 7 func156 rfl rfl rfl ?_
 refine A0 (As [0] rfl rfl (A0 (AJ (Ag rfl rfl) (Ac (Ah rfl) (Ac (Ab rfl) (AJ (Ag rfl rfl) ?_))))))
 refine Aw (AA (KP W.q d hd logN) rfl rfl AC) ?_
 rintro v6 L1 ⟨rfl,rfl⟩
 refine Aj (As [1] rfl rfl (Ar ?_))
 exact Aq (Q5 b3 b7 p W (CV d logN).1 f) (.tmp rfl .nil) ⟨rfl,rfl⟩ AC
theorem Rj (b3 b7 p:Nat)(W:SW)(d:Dk)(hd:d.Ok)(f:Fm)(hf:f.2.length≤1048567) :
  JP [.func (.func 154) #[] #[pv b3,pv b7],.func (.func 156) #[] #[pv b3]] (Q5 b3 b7 p W d f) (fun e L=>e=(writeD d f).2∧L=Q5 b3 b7 p W (writeD d f).1 f):=by
 have hd1:=Sr hd logN (DW f)
 refine ⟨154,inferInstance,[],[pv b3,pv b7],rfl,Spec.mono (W4 b3 b7 p W d hd f hf) ?_⟩
 rintro r L ⟨rfl,rfl⟩
 refine ⟨_,rfl,?_⟩
 by_cases h1:(BW d logN (DW f)).2=0
 ·refine .inl ⟨h1,156,inferInstance,[],[pv b3],rfl,Spec.mono (W5 b3 b7 p W _ hd1 f) ?_⟩
  rintro r L ⟨rfl,rfl⟩
  have e:writeD d f=CV (BW d logN (DW f)).1 logN:=by unfold writeD; rw [if_neg (not_not_intro h1)]
  refine ⟨_,rfl,?_⟩
  by_cases h3:(CV (BW d logN (DW f)).1 logN).2=0
  ·exact .inl ⟨h3,by rw [e]; exact ⟨h3.symm,rfl⟩⟩
  ·exact .inr ⟨h3,by rw [e]; exact ⟨rfl,rfl⟩⟩
 ·have e:writeD d f=BW d logN (DW f):=by unfold writeD; rw [if_pos h1]
  exact .inr ⟨h1,by rw [e]; exact ⟨rfl,rfl⟩⟩
set_option maxHeartbeats 2000000 in
theorem Nr (p:Nat)(W:SW)(d:Dk)(hd:d.Ok)(f:Fm)(h1:0<f.1)(h2:f.1<256)(hf:f.2.length≤1048567):Spec prog 86 [pv p,.int .i64 (f.1:Nat),.string (str f.2)] [FSA W.q d,Cy p W] (fun r L=>r=.int .i64 (writeD d f).2∧L=[FSA W.q (writeD d f).1,Cy p { W with dead:=decide ((writeD d f).2=8)}]):=by
 refine Spec.of 28 func86 rfl rfl rfl ?_
 refine A0 (Aw (Bi rfl rfl) (fun b3=>?_))
 refine As [1,2,3] rfl rfl (A0 (Ad rfl (Ad rfl (Ac (Bo (qs:=[(0,_),(1,_)]) rfl) ?_))))
 refine Aw (AA (Vy f h1 h2 Ax) rfl rfl AC) ?_
 rintro v13 L1 ⟨rfl,rfl⟩
 refine Aj (Ad rfl (Ac (Ai rfl) (Ac (Ai rfl) (Aw (AZ) (fun b7=>?_)))))
 refine B5 (AW rfl rfl rfl) (As [3,7,8] rfl rfl (Ae (A0 (Ad rfl (Ac (Bp rfl rfl) (AE [3,7,8,17] rfl (Qs rfl (Al (Ac (C9 (vs:=[]) (us:=[_,_]) rfl rfl) (Ac (C9 (vs:=[]) (us:=[_]) rfl rfl) (Aw (Bg (qs:=[(0,_),(1,_)]) rfl rfl rfl) (fun b20=>?_))))))))))))
 refine Aw (AA (JQ b20 2 [.func (.func 154) #[] #[pv b3,pv b7],.func (.func 156) #[] #[pv b3]] (Q5 b3 b7 p W d f) _ (by show 2≤1000; decide) (Rj b3 b7 p W d hd f hf)) rfl rfl AC) ?_
 rintro v21 L1 ⟨e,L2,rfl,⟨rfl,rfl⟩,rfl⟩
 refine Aj (As [3,8] rfl rfl (A0 (AJ (Ag rfl rfl) (Ad rfl (Ac (Bp rfl rfl) (Ac (Ah rfl) (Ac (Ab rfl) (B5 (AW rfl rfl rfl) (AE [8] rfl (A0 (Ad rfl (As [6] rfl rfl (Ar ?_)))))))))))))
 exact Aq [FSA W.q (writeD d f).1,Cy p { W with dead:=decide ((writeD d f).2=8)}] (.tmp rfl .nil) ⟨rfl,rfl⟩ AC
theorem OS (p:Nat)(W:SW):Spec prog 84 [pv p] [Cy p W] (fun r L=>r=.int .i64 (if W.dead=true then 8 else 0)∧L=[Cy p W]):=by
 refine Spec.of 11 func84 rfl rfl rfl ?_
 refine A0 (As [0] rfl rfl (Ae (Au (A0 (Ad rfl (Ac (Bd rfl rfl) (As [0,3] rfl rfl (Dz rfl (A0 (Ad rfl (Ac (Ah rfl) (Ac (Ab rfl) (AJ (Ag rfl rfl) (As [6] rfl rfl ?_))))))))))))))
 refine Ak rfl (fun h6=>?_) (fun h6=>?_)
 ·refine A0 (As [2] rfl rfl (Ar (B6 (AN ?_))))
  exact Aq [Cy p W] (.tmp rfl .nil) ⟨by rw [if_pos h6]; rfl,rfl⟩ AC
 ·refine Am (AR (Af (A0 (As [2] rfl rfl (Ar ?_)))))
  exact Aq [Cy p W] (.tmp rfl .nil) ⟨by rw [if_neg (by rw [h6]; decide)]; rfl,rfl⟩ AC
abbrev Ck:Type:=Nat×List UInt8
abbrev FR (x:Ck):List Value:=[.int .u32 (x.1:Nat),.string (str x.2)]
theorem JU {μ:PH}{v:Value}{l:List Ck}(h:Row μ v 2 l.length (l.flatMap FR)){i:Nat}{x:Ck}(hi:l[i]? = some x):∃ b off cap,v=.slice (some ⟨b,off,none⟩) l.length cap∧RowAt μ b (off+i*2) (FR x):=by
 have hl:=(List.getElem?_eq_some_iff.1 hi).1
 obtain ⟨b,off,cap,hv,_,_,hr⟩:=h.pos Ax
 exact ⟨b,off,cap,hv,hr.elem (f:=FR) (n:=2) (fun _=>rfl) hi⟩
theorem YN (μ:PH)(v:Value)(l:List Ck)(K:List AF)(fn:FuncId)[Body prog fn](fi ca:List Value)(p:Ck→Bool)(h:Row μ v 2 l.length (l.flatMap FR))
  (hf:∀ x∈l,Spec prog fn (fi++[.agg (FR x).toArray]++ca) (ro μ::K) (fun r L=>r=.bool (p x)∧L=ro μ::K)):Spec prog 252 [v,.func (.func fn) fi.toArray ca.toArray] (ro μ::K) (fun r L=>r=.bool (l.any p)∧L=ro μ::K):=by
 have hidx:Spec prog 319 [v,.func (.func fn) fi.toArray ca.toArray] (ro μ::K) (fun r L=>(∃ k:Int,r=.int .i64 k∧(decide (0≤k)=l.any p))∧L=ro μ::K):=by
  have hsm:=h.small
  refine Spec.of 19 func319 rfl rfl rfl ?_
  refine A0 (As [0,1] rfl rfl (Ae (A0 (Ad rfl (Ac (B2 h rfl) (Ad rfl (AE [0,1,7,8] rfl (Au ?_))))))))
  refine B0 (ι:=Nat) (fun i env L=>Sub env [(0,v),(1,.func (.func fn) fi.toArray ca.toArray),(7,.int .i64 (l.length:Nat)),(8,.int .i64 (i:Nat))]∧L=ro μ::K∧i≤l.length∧∀ y∈l.take i,p y=false) (fun i=>l.length-i) 0 ⟨⟨rfl,rfl,rfl,rfl,trivial⟩,rfl,Nat.zero_le _,fun y hy=>by simp at hy⟩ ?_
  rintro i env L ⟨hsub,rfl,hi,hno⟩
  refine B3 _ hsub ?_
  clear hsub env
  refine A0 (Ac (Bb rfl rfl) (AE [0,1,7,8,9] rfl (Ae ?_)))
  refine Ak rfl (fun h9=>?_) (fun h9=>?_)
  ·have h9':i<l.length:=by have:=of_decide_eq_true h9; omega
   obtain ⟨x,hx⟩:∃ x,l[i]? = some x:=⟨_,List.getElem?_eq_getElem h9'⟩
   obtain ⟨b,off,cap,hv,hr⟩:=JU h hx
   refine Am (Af (Ae (Au (A0 (Ad rfl (As [0,1,5,7,8] rfl rfl (A0 (Ad rfl (Ad rfl (Ad rfl ?_))))))))))
   refine Ac (AB (off+i*2) (congrArg some hv) rfl Ax Ax (by rw [Int.toNat_natCast])) ?_
   refine AJ (CZ (vs:=FR x) rfl rfl hr) (Aw (Gd (R:=[]) (hf x (List.mem_of_getElem? hx)) rfl rfl (Split.all)) ?_)
   rintro v1 L1 ⟨rfl,rfl⟩
   rw [List.append_nil]
   refine AE [0,1,5,7,8,16] rfl ?_
   refine Ak rfl (fun h16=>?_) (fun h16=>?_)
   ·refine A0 (Ad rfl (As [4] rfl rfl (Ar (B6 (AN (AN (B6 (AN ?_))))))))
    exact Aq _ (.tmp rfl .nil) ⟨⟨i,rfl,by rw [decide_eq_true Ax]; exact (List.any_eq_true.2 ⟨x,List.mem_of_getElem? hx,h16⟩).symm⟩,rfl⟩ Split.all
   ·refine Am (AR (Af (Al (Ac (AO ((i+1:Nat):Int) rfl rfl Ax Ax Ax) (Ad rfl (Be [0,1,7,8] rfl (AH ?_)))))))
    exact Af ⟨i+1,⟨⟨rfl,rfl,rfl,rfl,trivial⟩,rfl,h9',fun y hy=>by
     rw [List.take_add_one,hx] at hy
     rcases List.mem_append.1 hy with hy | hy
     ·exact hno y hy
     ·obtain rfl:y=x:=by simpa using hy
      exact h16⟩,by omega⟩
  ·have h9':=of_decide_eq_false h9
   obtain rfl:i=l.length:=by omega
   refine AY (AS (AS (AV rfl (Af (A0 (As [4] rfl rfl (Ar ?_)))))))
   refine Aq _ (.tmp rfl .nil) ⟨⟨-1,rfl,?_⟩,rfl⟩ Split.all
   rw [List.take_length] at hno
   rw [decide_eq_false Ax]
   symm
   rw [List.any_eq_false]
   exact fun x hx=>by rw [hno x hx]; simp
 refine Spec.of 9 func252 rfl rfl rfl ?_
 refine A0 (As [0,1] rfl rfl (A0 (Ad rfl (Ad rfl (Aw (AA (R:=[]) hidx rfl rfl (Split.all)) ?_)))))
 rintro v1 L1 ⟨⟨k,rfl,hk⟩,rfl⟩
 rw [List.append_nil]
 refine Ac (CA rfl rfl) (As [4] rfl rfl (Ar ?_))
 exact Aq _ (.tmp rfl .nil) ⟨congrArg Value.bool hk,rfl⟩ Split.all
theorem W6 (x y:Ck)(b:Nat)(A:AF)(K:List AF):Spec prog 253 [.agg (FR y).toArray,pv b] (A::B1 b 267 (FR x)::K) (fun r L=>r=.bool (decide (y.1=x.1))∧L=A::B1 b 267 (FR x)::K):=by
 refine Spec.of 9 func253 rfl rfl rfl ?_
 refine A0 (Aw (Bi rfl rfl) (fun b2=>?_))
 refine As [1,2] rfl rfl (A0 (Ac (Ab rfl) (AJ (Ag rfl rfl) (Ac (Ab rfl) (AJ (Ag rfl rfl) (Ac (Bp rfl rfl) (As [3] rfl rfl (Ar ?_))))))))
 refine Aq _ (.tmp rfl .nil) ⟨?_,rfl⟩ (Split.skip Split.all)
 show Value.bool _=Value.bool _
 congr 1
 exact decide_eq_decide.2 Ax
theorem OT (n:Int):Spec prog 321 [.int .u32 n] [] (fun r L=>r=.bool false∧L=[]):=by
 refine Spec.of 6 func321 rfl rfl rfl ?_
 refine A0 (As [0] rfl rfl (A0 (Ad rfl (Ad rfl (Ac (Bm rfl rfl) (As [2] rfl rfl (Ar ?_)))))))
 exact Aq [] (.tmp rfl .nil) ⟨congrArg Value.bool (by simp),rfl⟩ AC
theorem W7 (a b:Nat)(h:b<a):Spec prog 257 [.int .u32 (a:Nat),.int .u32 (b:Nat)] [] (fun r L=>r=.int .i64 1∧L=[]):=by
 refine Spec.of 20 func257 rfl rfl rfl ?_
 refine A0 (As [0,1] rfl rfl (A0 (Ad rfl ?_)))
 refine Aw (AA (OT (a:Nat)) rfl rfl AC) ?_
 rintro v8 L1 ⟨rfl,rfl⟩
 refine Aj (As [0,1,5] rfl rfl (A0 (Ad rfl ?_)))
 refine Aw (AA (OT (b:Nat)) rfl rfl AC) ?_
 rintro v10 L1 ⟨rfl,rfl⟩
 refine Aj (As [0,1,5,6] rfl rfl (Ae (A0 (Ad rfl (AE [0,1,6,11] rfl (Dz rfl (Am (Af (Ae (A0 (Ad rfl (AE [0,1,13] rfl (Dz rfl (Am (Af (Ae (A0 (Ad rfl (Ad rfl (Ac (Bb rfl rfl) (AE [0,1,16] rfl ?_)))))))))))))))))))))
 refine Ak rfl (fun h16=>by have:=of_decide_eq_true h16; omega) (fun h16=>?_)
 refine Am (Af (Ae (A0 (Ad rfl (Ad rfl (Ac (BA rfl rfl) (AE [19] rfl ?_)))))))
 refine Ak rfl (fun h19=>?_) (fun h19=>by have:=of_decide_eq_false h19; omega)
 refine A0 (As [4] rfl rfl (Ar (AN ?_)))
 exact Aq [] (.tmp rfl .nil) ⟨rfl,rfl⟩ AC
theorem W8 (x y:Ck)(h:y.1<x.1):Spec prog 256 [.agg (FR x).toArray,.agg (FR y).toArray] [] (fun r L=>r=.int .i64 1∧L=[]):=by
 refine Spec.of 10 func256 rfl rfl rfl ?_
 refine A0 (Aw (Bi rfl rfl) (fun b2=>?_))
 refine Aw (Bi rfl rfl) fun b3=>?_
 refine As [2,3] rfl rfl (A0 (Ac (Ab rfl) (AJ (Ag rfl rfl) (Ac (Ab rfl) (AJ (Ag rfl rfl) ?_)))))
 refine Aw (AA (W7 x.1 y.1 h) rfl rfl AC) ?_
 rintro v9 L1 ⟨rfl,rfl⟩
 refine Aj (As [4] rfl rfl (Ar ?_))
 exact Aq [] (.tmp rfl .nil) ⟨rfl,rfl⟩ AC
def AscC (l:List Ck):Prop:=l.Pairwise fun x y=>x.1<y.1
theorem AscC.lt{l:List Ck}(h:AscC l){i j:Nat}{x y:Ck}(hx:l[i]? = some x)(hy:l[j]? = some y)(hij:i<j):x.1<y.1:=by
 obtain ⟨hi,rfl⟩:=List.getElem?_eq_some_iff.1 hx
 obtain ⟨hj,rfl⟩:=List.getElem?_eq_some_iff.1 hy
 exact List.pairwise_iff_getElem.1 h i j hi hj hij
theorem AscC.no{l:List Ck}(h:AscC l){i:Nat}{x:Ck}(hx:l[i]? = some x):(l.take i).any (fun y=>decide (y.1=x.1))=false:=by
 rw [List.any_eq_false]
 intro y hy hh
 have he:y.1=x.1:=by simpa using hh
 obtain ⟨j,hj⟩:=List.getElem?_of_mem hy
 have hjl:=(List.getElem?_eq_some_iff.1 hj).1
 rw [List.length_take] at hjl
 rw [List.getElem?_take_of_lt Ax] at hj
 have:=h.lt hj hx Ax
 omega
theorem W9 (μ:PH)(v:Value)(l:List Ck)(h:Row μ v 2 l.length (l.flatMap FR))(ha:AscC l):Spec prog 355 [v,.int .i64 0,.int .i64 (l.length:Nat),.func (.func 256) #[] #[]] [ro μ] (fun r L=>r=.tuple #[]∧L=[ro μ]):=by
 have hsm:=h.small
 refine Spec.of 53 func355 rfl rfl rfl ?_
 refine A0 (Ad rfl (Ac (AO ((0+1:Nat):Int) rfl rfl Ax Ax Ax) (As [0,1,2,3,8] rfl rfl (Au ?_))))
 refine B0 (ι:=Nat) (fun i env L=>Sub env [(0,v),(1,.int .i64 0),(2,.int .i64 (l.length:Nat)),(3,.func (.func 256) #[] #[]),(8,.int .i64 (i:Nat))]∧Ent L [ro μ]∧1≤i) (fun i=>l.length-i) 1 ⟨⟨rfl,rfl,rfl,rfl,rfl,trivial⟩,Ent.refl _,Nat.le_refl _⟩ ?_
 rintro i env L ⟨hsub,hE,hi⟩
 refine B3 _ hsub (AP hE ?_)
 clear hsub hE env L
 refine Ae (A0 (Ad rfl (Ad rfl (Ac (Bb rfl rfl) (AE [0,1,2,3,8,14] rfl ?_)))))
 refine Ak rfl (fun h14=>?_) (fun h14=>?_)
 ·have h14':i<l.length:=by have:=of_decide_eq_true h14; omega
  obtain ⟨x,hx⟩:∃ x,l[i]? = some x:=⟨_,List.getElem?_eq_getElem h14'⟩
  obtain ⟨y,hy⟩:∃ y,l[i-1]? = some y:=⟨_,List.getElem?_eq_getElem Ax⟩
  obtain ⟨b,off,cap,hv,hr⟩:=JU h hx
  obtain ⟨b2,off2,cap2,hv2,hr2⟩:=JU h hy
  have hlt:=ha.lt hy hx Ax
  refine Am (Af (Ae (Au (A0 (Ad rfl (As [0,1,2,3,8,9] rfl rfl (Au ?_)))))))
  refine B0 (ι:=Nat) (fun _ env L=>Sub env [(0,v),(1,.int .i64 0),(2,.int .i64 (l.length:Nat)),(3,.func (.func 256) #[] #[]),(8,.int .i64 (i:Nat)),(9,.int .i64 (i:Nat))]∧Ent L [ro μ]) (fun i=>i) 0 ⟨⟨rfl,rfl,rfl,rfl,rfl,rfl,trivial⟩,Ent.refl _⟩ ?_
  rintro _ env L ⟨hsub,hE⟩
  refine B3 _ hsub (AP hE ?_)
  clear hsub hE env L
  refine Ae (Ae ?_)
  refine Ba [8,13] _ [] (by simp only [List.append_nil]; exact Ent.refl _) AK ?_
  refine AD 0 rfl (AG rfl) (AD 1 rfl (AG rfl) (AD 2 rfl (BA rfl rfl) (AD 3 rfl (AG rfl) ?_)))
  refine DH 21 rfl (fun h21=>?_) (fun h21=>by have:=of_decide_eq_false h21; omega)
  refine Bh 4 rfl rfl rfl (AG rfl) AK AK AK (Bh 5 rfl rfl rfl (AG rfl) AK AK AK (Bh 6 rfl rfl rfl (AG rfl) AK AK AK ?_))
  refine Bh 7 rfl rfl rfl (AB (off+i*2) (congrArg some hv) rfl Ax Ax (by rw [Int.toNat_natCast])) AK AK AK ?_
  refine CJ 8 rfl rfl rfl (CZ (vs:=FR x) rfl rfl hr) rfl AK AK AK (Bh 9 rfl rfl rfl (AG rfl) AK AK AK (Bh 10 rfl rfl rfl (AG rfl) AK AK AK (Bh 11 rfl rfl rfl (BY ((i-1:Nat):Int) rfl rfl Ax Ax Ax) AK AK AK ?_)))
  refine Bh 12 rfl rfl rfl (AB (off2+(i-1)*2) (congrArg some hv2) rfl Ax Ax (by rw [Int.toNat_natCast])) AK AK AK ?_
  refine CJ 13 rfl rfl rfl (CZ (vs:=FR y) rfl rfl hr2) rfl AK AK AK (FG [14] AK rfl ?_)
  refine Pk 14 rfl (GOn.some rfl rfl) AK (Gd (fi:=[]) (args:=[.agg (FR x).toArray,.agg (FR y).toArray]) (ca:=[]) (W8 x y hlt) rfl rfl AC) ?_
  rintro v32 L1 ⟨rfl,rfl⟩
  refine Cc (Bh 15 rfl rfl rfl (Bb rfl rfl) AK AK AK (AD 16 rfl (B4 rfl rfl) (C0 [0,1,2,3,8,9,34] rfl (Bs AK (Af (Dz rfl (AY (AS (AS (AV rfl (AR (Af (Al (Ad rfl (Ac (AO ((i+1:Nat):Int) rfl rfl Ax Ax Ax) (AX rfl (Be [0,1,2,3,8] rfl (AH ?_))))))))))))))))))
  exact Af ⟨i+1,⟨⟨rfl,rfl,rfl,rfl,rfl,trivial⟩,Split.ent' AC,by omega⟩,by omega⟩
 ·refine AY (AS (AS (AV rfl ?_)))
  exact Co [ro μ] .nil ⟨rfl,rfl⟩ AC
end SX
