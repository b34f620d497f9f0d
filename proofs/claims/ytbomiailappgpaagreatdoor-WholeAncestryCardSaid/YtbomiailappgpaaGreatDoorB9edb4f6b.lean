/- A part of the proof: walks of the program's functions, and the rules by which they go. -/
import Derived.Test.YtbomiailappgpaaGreatDoorB2ad0237d
import Derived.Test.YtbomiailappgpaaGreatDoorBa288ffc6
import Derived.Test.YtbomiailappgpaaGreatDoorB47b6cacc
import Derived.Test.YtbomiailappgpaaGreatDoorB7bb7a395
namespace SX
open Go Go.Proofs Go.Proofs.Tryz

theorem A0p(r i:Nat)(hi:i<64):((1#64:BitVec 64) <<< r).getLsbD i=decide (i=r):=by
 rw [BitVec.getLsbD_shiftLeft]
 by_cases h:i=r
 ·subst h; simp [hi]
 ·by_cases h2:i<r
  ·simp [h2,h]
  ·have:i-r≠0:=by omega
   simp [h2,h,this]
theorem A0q{ws:List (BitVec 64)}{i:Nat}(w:BitVec 64)(hi:i<ws.length)(j:Nat):FS (ws.set i w) j=if j / 64=i then w.getLsbD (j % 64) else FS ws j:=by
 unfold FS
 rw [List.getD_eq_getElem?_getD,List.getElem?_set]
 split
 ·rename_i h; subst h; simp
 ·rename_i h; rw [if_neg (Ne.symm h),List.getD_eq_getElem?_getD]
theorem A0r{ws:List (BitVec 64)}{m:Nat}{w:BitVec 64}(hw:ws[m / 64]? = some w)(j:Nat):FS (ws.set (m / 64) (w ||| (1#64 <<< (m % 64)))) j=(FS ws j||decide (j=m)):=by
 have hi:m / 64<ws.length:=(List.getElem?_eq_some_iff.1 hw).1
 rw [A0q _ hi]
 split
 ·rename_i h
  rw [BitVec.getLsbD_or,A0p _ _ (Nat.mod_lt _ (by decide)),Qd hw h]
  congr 1
  by_cases e:j=m
  ·subst e; simp
  ·have:j % 64≠m % 64:=by omega
   simp [e,this]
 ·rename_i h
  have:j≠m:=fun e=>h (by rw [e])
  simp [this]
theorem A1Y(p n:Nat)(v:Value)(ws:List (BitVec 64))(k:Int)(hl:ws.length=(n+63) / 64)(hn:n≤1048576) :
  Spec prog 204 [.pointer (some ⟨p,0,none⟩),.int .i64 k] (WH p n v ws) (fun r L=>r=.bool (decide (0≤k)&&(decide (k<n)&&!FS ws k.toNat))∧∃ ws',ws'.length=ws.length∧(∀ j,FS ws' j=(FS ws j||(decide (0≤k∧k<n)&&decide (j=k.toNat))))∧L=WH p n v ws'):=by
 refine Spec.of 31 func204 rfl rfl rfl ?_
 refine A0 (As [0,1] rfl rfl (Ae (A0 (Ad rfl (Ac (Bb rfl rfl) (Ad rfl ?_))))))
 refine B7 7 rfl (fun h7=>?_) (fun h7=>?_)
 ·refine AI rfl rfl rfl (AI rfl rfl rfl (AI rfl rfl rfl (AI rfl rfl rfl (Ac (B4 rfl rfl) (Ad rfl (AI rfl rfl rfl (AI rfl rfl rfl (AI rfl rfl rfl (Ac (B4 rfl rfl) (AE [0,1,17] rfl ?_))))))))))
  refine Ak rfl (fun h17=>?_) (fun h17=>by cases h17)
  refine A0 (As [4] rfl rfl (Ar (AN ?_)))
  have h7':=of_decide_eq_true h7
  exact Aq (WH p n v ws) (.tmp rfl .nil) ⟨by simp [H7,Int.not_le.2 h7'],ws,rfl,fun j=>by simp [Int.not_le.2 h7'],rfl⟩ AC
 ·refine AQ rfl rfl (Ad rfl (AQ rfl rfl (Ad rfl (AQ rfl rfl ?_))))
  refine Aw (AA (Ts p n v) rfl rfl AC) ?_
  rintro v1 L1 ⟨rfl,rfl⟩
  refine Aj (AQ rfl rfl (Ac (CA rfl rfl) (Ac (AT rfl rfl) (Ad rfl ?_))))
  refine B7 13 rfl (fun h13=>?_) (fun h13=>?_)
  ·refine AI rfl rfl rfl (AI rfl rfl rfl (AI rfl rfl rfl (Ac (B4 rfl rfl) (AE [0,1,17] rfl ?_))))
   refine Ak rfl (fun h17=>?_) (fun h17=>by cases h17)
   refine A0 (As [4] rfl rfl (Ar (AN ?_)))
   have h13':=of_decide_eq_true h13
   exact Aq (WH p n v ws) (.tmp rfl .nil) ⟨by simp [H7,Int.not_lt.2 h13'],ws,rfl,fun j=>by simp [Int.not_lt.2 h13'],rfl⟩ AC
  ·refine AQ rfl rfl (Ad rfl (AQ rfl rfl (Ad rfl (AQ rfl rfl ?_))))
   refine Aw (AA (A0T p n v ws k hl hn) rfl rfl AC) ?_
   rintro v1 L1 ⟨rfl,rfl⟩
   refine Aj (Ac (AT rfl rfl) (AE [0,1,17] rfl ?_))
   refine Ak rfl (fun h17=>?_) (fun h17=>?_)
   ·refine A0 (As [4] rfl rfl (Ar (AN ?_)))
    have h7':=of_decide_eq_false h7
    have h13':=of_decide_eq_false h13
    have h17':FS ws k.toNat=true:=by simp only [Bool.and_eq_true] at h17; exact h17.2.2
    exact Aq (WH p n v ws) (.tmp rfl .nil) ⟨by simp [H7,h17'],ws,rfl,fun j=>by
     by_cases e:j=k.toNat
     ·subst e; simp [h17']
     ·simp [e],rfl⟩ AC
   ·refine Am (Af (Ae ?_))
    have h7':=of_decide_eq_false h7
    have h13':=of_decide_eq_false h13
    obtain ⟨m,rfl⟩:∃ m:Nat,k=m:=⟨k.toNat,by omega⟩
    have hmi:m / 64<ws.length:=by omega
    obtain ⟨w,hw⟩:∃ w,ws[m / 64]? = some w:=⟨_,List.getElem?_eq_getElem hmi⟩
    refine Db (A:=own 215 1 v ws.length (CU ws)) K3 ?_
    refine GA (fun h0 l0 _=>by omega) (fun b cap ex hv h1 h2 h3 h4=>?_)
    subst hv
    refine Ba [3,7] _ [] (by simp only [List.append_nil]; exact Ent.refl _) AK ?_
    refine AD 0 rfl (AG rfl) (AD 1 rfl (Ah rfl) (AD 2 rfl (Ab rfl) (Bc 3 rfl (Ag rfl rfl) rfl (AD 4 rfl (AG rfl) (AD 5 rfl (EB ((m / 64:Nat):Int) rfl rfl Ax Ax Ax Ax) (AD 6 rfl (AB (m / 64) rfl rfl Ax Ax Ax) (Bc 7 rfl (Ag rfl (FA hw)) rfl (AD 8 rfl (AG rfl) (AD 9 rfl (IR ((m % 64:Nat):Int) rfl rfl Ax Ax Ax) (AD 10 rfl (Ms (a:=1#64) (m % 64) rfl rfl Ax) (AD 11 rfl (TP (a:=w) rfl rfl) (AD 12 rfl (AB (m / 64) rfl rfl Ax Ax Ax) ?_))))))))))))
    refine Cs 13 rfl AK AK (Eb rfl rfl rfl (by rw [List.length_append,Fz]; omega)) ?_
    refine Ml _ .nil (Bs AK (Af (Ae ?_)))
    refine AP (Split.ent' (K:=[B1 b 215 ((CU ws++ex).set (m / 64) (wv (w ||| (1#64 <<< (m % 64))))),B1 p 396 [.int .i64 (n:Nat),.slice (some ⟨b,0,none⟩) ws.length cap]]) AC) ?_
    rw [Tr hmi]
    refine Al (As [4] rfl rfl (Ar ?_))
    have hm17:FS ws m=false:=by
     have h:(decide ((0:Int)≤m)&&(decide ((m:Int)<n)&&FS ws (m:Int).toNat))=false:=h17
     rw [decide_eq_true Ax,decide_eq_true Ax,Bool.true_and,Bool.true_and,Int.toNat_natCast] at h; exact h
    have hls:(ws.set (m / 64) (w ||| (1#64 <<< (m % 64)))).length=ws.length:=List.length_set
    refine B8 (WH p n (.slice (some ⟨b,0,none⟩) ws.length cap) (ws.set (m / 64) (w ||| (1#64 <<< (m % 64))))) (.tmp rfl .nil) ⟨?_,_,hls,fun j=>?_,rfl⟩ ?_
    ·rw [Int.toNat_natCast,decide_eq_true (show (0:Int)≤m by omega),decide_eq_true (show (m:Int)<n by omega),hm17]; rfl
    ·rw [A0r hw,Int.toNat_natCast,decide_eq_true (show (0:Int)≤m∧(m:Int)<n by omega),Bool.true_and]
    ·have hc:=Gt (b:=b) (cap:=cap) (ws:=ws.set (m / 64) (w ||| (1#64 <<< (m % 64)))) (ex:=ex) (L:=[B1 p 396 [.int .i64 (n:Nat),.slice (some ⟨b,0,none⟩) ws.length cap]]) Ax h2 (by rw [hls]; exact h4)
     rw [hls] at hc
     show Ent _ [B1 p 396 [.int .i64 (n:Nat),.slice (some ⟨b,0,none⟩) ws.length cap],own 215 1 (.slice (some ⟨b,0,none⟩) ws.length cap) (ws.set (m / 64) (w ||| (1#64 <<< (m % 64)))).length (CU (ws.set (m / 64) (w ||| (1#64 <<< (m % 64)))))]
     rw [hls]
     exact hc.trans Ent.swap


abbrev opr (p n:Nat)(v:Value)(ws:List (BitVec 64))(μ:PH):List AF:=[B1 p 396 [.int .i64 (n:Nat),v],own 215 1 v ws.length (CU ws),ro μ]
def Z6 (S:Nat→Bool)(k r:Int):Prop:=(r = -1∧∀ j:Nat,k≤j→S j=false)∨∃ j:Nat,r=j∧k≤j∧S j=true∧∀ i:Nat,k≤i→i<j→S i=false
theorem A1o{ws:List (BitVec 64)}{k:Nat}(h:64*ws.length≤k):FS ws k=false:=by
 unfold FS
 rw [List.getD_eq_getElem?_getD,List.getElem?_eq_none Ax]
 simp
theorem A2l{w:BitVec 64}(h:(!decide ((w.toNat:Int)=0))=true):w≠0#64:=fun e=>by subst e; simp at h
theorem A2m{w:BitVec 64}(h:(!decide ((w.toNat:Int)=0))=false):w=0#64:=by
 have:=of_decide_eq_true (Xi h)
 exact BitVec.eq_of_toNat_eq (by simpa using this)

set_option maxHeartbeats 1000000 in
theorem Z7 (μ:PH)(p n:Nat)(v:Value)(ws:List (BitVec 64))(k:Int)(hT:RowAt μ 2 0 tabV)(hl:ws.length=(n+63) / 64)(hn:n≤1048576)(hS:∀ j,n≤j→FS ws j=false) :
  Spec prog 282 [.pointer (some ⟨p,0,none⟩),.int .i64 k] (opr p n v ws μ) (fun r L=>∃ x,r=.int .i64 x∧Z6 (FS ws) k x∧L=opr p n v ws μ):=by
 obtain ⟨m,hm⟩:∃ m:Nat,max k 0=m:=⟨(max k 0).toNat,by omega⟩
 refine Spec.of 52 func282 rfl rfl rfl ?_
 refine A0 (As [0,1] rfl rfl (A0 (Ad rfl (Ac (FC rfl rfl) (AX rfl (Be [0,1] rfl ?_))))))
 rw [hm]
 refine Dp (Ae (A0 (Ad rfl (Ad rfl ?_))))
 refine Aw (AA (Ts p n v) rfl rfl AC) ?_
 rintro v1 L1 ⟨rfl,rfl⟩
 refine Aj (Ac (CA rfl rfl) (AE [0,1,12] rfl ?_))
 refine Ak rfl (fun h12=>?_) (fun h12=>?_)
 ·refine A0 (As [4] rfl rfl (Ar (AN ?_)))
  have h12':=of_decide_eq_true h12
  exact Aq (opr p n v ws μ) (.tmp rfl .nil) ⟨-1,rfl,.inl ⟨rfl,fun j hj=>hS j Ax⟩,rfl⟩ AC
 ·refine Am (Af (Ae ?_))
  have h12':=of_decide_eq_false h12
  have hmi:m / 64<ws.length:=by omega
  obtain ⟨w0,hw0⟩:∃ w,ws[m / 64]? = some w:=⟨_,List.getElem?_eq_getElem hmi⟩
  refine Db (A:=own 215 1 v ws.length (CU ws)) K3 ?_
  refine GA (fun h0 l0 _=>by omega) (fun b cap ex hv h1 h2 h3 h4=>?_)
  subst hv
  refine Ba [5,9] _ [] (by simp only [List.append_nil]; exact Ent.refl _) AK ?_
  refine AD 0 rfl (AG rfl) (AD 1 rfl (EB ((m / 64:Nat):Int) rfl rfl Ax Ax Ax Ax) (AD 2 rfl (AG rfl) (AD 3 rfl (Ah rfl) (AD 4 rfl (Ab rfl) (Bc 5 rfl (Ag rfl rfl) rfl (AD 6 rfl (AG rfl) (AD 7 rfl (EB ((m / 64:Nat):Int) rfl rfl Ax Ax Ax Ax) (AD 8 rfl (AB (m / 64) rfl rfl Ax Ax Ax) (Bc 9 rfl (Ag rfl (FA hw0)) rfl (AD 10 rfl (AG rfl) (AD 11 rfl (IR ((m % 64:Nat):Int) rfl rfl Ax Ax Ax) (AD 12 rfl (K6 (a:=w0) (m % 64) rfl rfl Ax) (AD 13 rfl (AG rfl) (AD 14 rfl (IR ((m % 64:Nat):Int) rfl rfl Ax Ax Ax) (AD 15 rfl (Ms (a:=w0 >>> (m % 64)) (m % 64) rfl rfl Ax) (AD 16 rfl (Bl rfl) (AD 17 rfl (Bl rfl) (C0 [0,5,6] rfl (DL AK (Af (Au ?_)))))))))))))))))))))
  refine B0 (ι:=Nat×BitVec 64) (fun x env L=>env=[(0,.pointer (some ⟨p,0,none⟩)),(5,.int .i64 (x.1:Nat)),(6,wv x.2)]∧L=[B1 b 215 (CU ws++ex),B1 p 396 [.int .i64 (n:Nat),.slice (some ⟨b,0,none⟩) ws.length cap],ro μ] ∧
   m / 64≤x.1∧x.1<ws.length∧(∀ j,m≤j→j<64*x.1→FS ws j=false)∧(∀ r,r<64→x.2.getLsbD r=(FS ws (64*x.1+r)&&decide (m≤64*x.1+r)))) (fun x=>ws.length-x.1) (m / 64,(w0 >>> (m % 64)) <<< (m % 64)) ⟨rfl,rfl,Nat.le_refl _,hmi,fun j h1 h2=>by simp only at h2; omega,fun r hr=>?_⟩ ?_
  ·show ((w0 >>> (m % 64)) <<< (m % 64)).getLsbD r=_
   rw [BitVec.getLsbD_shiftLeft,BitVec.getLsbD_ushiftRight,Qd hw0 (k:=64*(m / 64)+r) Ax]
   have e1:(64*(m / 64)+r) % 64=r:=by omega
   rw [e1]
   by_cases hrs:r<m % 64
   ·have:¬ m≤64*(m / 64)+r:=by omega
    simp [hrs,this]
   ·have:m≤64*(m / 64)+r:=by omega
    have e2:m % 64+(r-m % 64)=r:=by omega
    simp [hrs,this,hr,e2]
  rintro ⟨i,w⟩ env L ⟨rfl,rfl,him,hi,hlo,hbits⟩
  simp only [] at him hi hlo hbits
  dsimp only
  refine Ae (Au (Ae (A0 (Ad rfl (Ac (Bm rfl rfl) (AE [0,5,6,37] rfl ?_))))))
  refine Ak rfl (fun h37=>?_) (fun h37=>?_)
  ·have hw:=A2l h37
   obtain ⟨hc1,hc2,hc3⟩:=Qw hw
   refine A0 (Ad rfl (Ac (G5 ((64*i:Nat):Int) rfl rfl Ax Ax Ax) (Ad rfl ?_)))
   refine Aw (AA (A0o μ w hT hw) rfl rfl AC) ?_
   rintro v1 L1 ⟨rfl,rfl⟩
   refine Aj (Ac (AO ((64*i+ctz w:Nat):Int) rfl rfl Ax Ax Ax) (As [4] rfl rfl (Ar (AN (B6 (AN (AN (B6 ?_))))))))
   have hb:=hbits _ hc1
   rw [hc2] at hb
   have hb1:=(Bool.and_eq_true_iff.1 hb.symm)
   have hb2:=of_decide_eq_true hb1.2
   refine B8 (opr p n _ ws μ) (.tmp rfl .nil) ⟨_,rfl,.inr ⟨64*i+ctz w,rfl,by omega,hb1.1,fun j h1 h2=>?_⟩,rfl⟩
    ((Split.ent' (K:=[B1 b 215 (CU ws++ex),B1 p 396 [.int .i64 (n:Nat),.slice (some ⟨b,0,none⟩) ws.length cap],ro μ]) AC).trans ((Gt h1 h2 h4).trans Ent.swap))
   rcases Nat.lt_or_ge j (64*i) with h | h
   ·exact hlo j Ax h
   ·have hj:=hbits (j-64*i) Ax
    rw [hc3 _ Ax,show 64*i+(j-64*i)=j by omega,decide_eq_true (show m≤j by omega),Bool.and_true] at hj
    exact hj.symm
  ·have hw:=A2m h37
   have hlo2:∀ j,m≤j→j<64*(i+1)→FS ws j=false:=fun j h1 h2=>by
    rcases Nat.lt_or_ge j (64*i) with h | h
    ·exact hlo j h1 h
    ·have hj:=hbits (j-64*i) Ax
     rw [hw,show 64*i+(j-64*i)=j by omega,decide_eq_true h1,Bool.and_true] at hj
     rw [← hj]; simp
   refine Am (Af (A0 (Ad rfl (Ac (AO ((i+1:Nat):Int) rfl rfl Ax Ax Ax) (As [0,5] rfl rfl (A0 (Ad rfl (Ad rfl (Ac (Ah rfl) (Ac (Ab rfl) (AJ (Ag rfl rfl) (Ac (BI rfl) (Ac (Bp rfl rfl) (AE [0,5,51] rfl ?_))))))))))))))
   refine Ak rfl (fun h51=>?_) (fun h51=>?_)
   ·refine A0 (As [4] rfl rfl (Ar (B6 (AN (AN (B6 ?_))))))
    have h51':=of_decide_eq_true h51
    exact B8 (opr p n _ ws μ) (.tmp rfl .nil) ⟨_,rfl,.inl ⟨rfl,fun j hj=>by
      rcases Nat.lt_or_ge j (64*(i+1)) with h | h
      ·exact hlo2 j Ax h
      ·exact A1o Ax⟩,rfl⟩
     ((Split.ent' (K:=[B1 b 215 (CU ws++ex),B1 p 396 [.int .i64 (n:Nat),.slice (some ⟨b,0,none⟩) ws.length cap],ro μ]) AC).trans ((Gt h1 h2 h4).trans Ent.swap))
   ·have h51':=of_decide_eq_false h51
    have hi1:i+1<ws.length:=by omega
    obtain ⟨w1,hw1⟩:∃ w,ws[i+1]? = some w:=⟨_,List.getElem?_eq_getElem hi1⟩
    refine Am (AR (Af (Al (Ad rfl (Ac (Ah rfl) (Ac (Ab rfl) (AJ (Ag rfl rfl) (Ad rfl (Ac (AB (i+1) rfl rfl Ax Ax Ax) (AJ (Ag rfl (FA hw1)) (AX rfl (Be [0,5,6] rfl (AH ?_)))))))))))))
    refine Af ⟨(i+1,w1),⟨rfl,rfl,by show m / 64≤i+1; omega,hi1,hlo2,fun r hr=>?_⟩,by show ws.length-(i+1)<ws.length-i; omega⟩
    show w1.getLsbD r=(FS ws (64*(i+1)+r)&&decide (m≤64*(i+1)+r))
    rw [Qd hw1 (k:=64*(i+1)+r) Ax,show (64*(i+1)+r) % 64=r by omega]
    have hmle:m≤64*(i+1)+r:=by
     rcases Nat.lt_or_ge (64*(i+1)+r) m with h | h
     ·exact absurd h Ax
     ·exact h
    rw [decide_eq_true hmle,Bool.and_true]


def P2 (l:List Nat):List Int:=l.map fun k:Nat=>(k:Int)
def Bu (j:Nat)(S:Nat→Bool):List Int:=P2 ((List.range j).filter S)
theorem JX {S:Nat→Bool}{k:Nat}:∀ {j:Nat},k≤j→(∀ i,k≤i→i<j→S i=false)→Bu j S=Bu k S
 | 0,h,_=>by
   have:k=0:=by omega
   subst this; rfl
 | j+1,h,hS=>by
  rcases Nat.lt_or_ge j k with h1 | h1
  ·have:k=j+1:=by omega
   subst this; rfl
  ·have e:Bu (j+1) S=Bu j S:=by
    unfold Bu
    rw [List.range_succ,List.filter_append]
    simp [hS j h1 Ax]
   rw [e]
   exact JX h1 (fun i a b=>hS i a Ax)
theorem NG {S:Nat→Bool}{j:Nat}(h:S j=true):Bu (j+1) S=Bu j S++[(j:Int)]:=by
 unfold Bu P2
 rw [List.range_succ,List.filter_append]
 simp [h]
theorem WJ (j:Nat)(S:Nat→Bool):(Bu j S).length≤j:=by
 unfold Bu P2
 rw [List.length_map]
 exact Nat.le_trans (List.length_filter_le _ _) (by simp)

set_option maxHeartbeats 1000000 in
theorem A1p(μ:PH)(p n:Nat)(v:Value)(ws:List (BitVec 64))(hT:RowAt μ 2 0 tabV)(hl:ws.length=(n+63) / 64)(hn:n≤1048576)(hS:∀ j,n≤j→FS ws j=false) :
  Spec prog 201 [.pointer (some ⟨p,0,none⟩)] (opr p n v ws μ) (fun r L=>L=[own 3 1 r (Bu n (FS ws)).length ((Bu n (FS ws)).flatMap (Bj .i64)),B1 p 396 [.int .i64 (n:Nat),v],own 215 1 v ws.length (CU ws),ro μ]):=by
 have inv:∀ (k:Nat) (x:Int),k≤n→Z6 (FS ws) (k:Int) x→(x = -1∧Bu k (FS ws)=Bu n (FS ws))∨∃ j:Nat,x=j∧k≤j∧j<n∧FS ws j=true∧Bu k (FS ws)=Bu j (FS ws):=by
  rintro k x hk (⟨rfl,h⟩ | ⟨j,rfl,h1,h2,h3⟩)
  ·exact .inl ⟨rfl,(JX hk (fun i a _=>h i Ax)).symm⟩
  ·refine .inr ⟨j,rfl,by omega,?_,h2,(JX Ax (fun i a b=>h3 i Ax b)).symm⟩
   rcases Nat.lt_or_ge j n with h4 | h4
   ·exact h4
   ·rw [hS j h4] at h2; cases h2
 refine Spec.of 18 func201 rfl rfl rfl ?_
 refine A0 (As [0] rfl rfl (A0 (AX rfl (Be [0,3] rfl (BK (own_nil_ent (e:=3) (n:=1)) (Dp (Ae (A0 (Ad rfl ?_)))))))))
 refine Aw (AA (Z7 μ p n v ws 0 hT hl hn hS) rfl rfl AC) ?_
 rintro v1 L1 ⟨x,rfl,hx,rfl⟩
 refine Aj (AX rfl (Be [0,3,4] rfl ?_))
 refine BK (Split.ent' (K:=[own 3 1 (.slice none 0 0) 0 [],B1 p 396 [.int .i64 (n:Nat),v],own 215 1 v ws.length (CU ws),ro μ]) AC) ?_
 refine Dp (Au ?_)
 refine B0 (ι:=Value×Int×Nat) (fun k env L=>env=[(0,.pointer (some ⟨p,0,none⟩)),(3,k.1),(4,.int .i64 k.2.1)]∧L=[own 3 1 k.1 (Bu k.2.2 (FS ws)).length ((Bu k.2.2 (FS ws)).flatMap (Bj .i64)),B1 p 396 [.int .i64 (n:Nat),v],own 215 1 v ws.length (CU ws),ro μ] ∧
  ((k.2.1 = -1∧k.2.2=n)∨(k.2.1=k.2.2∧k.2.2<n∧FS ws k.2.2=true))) (fun k=>if k.2.1<0 then 0 else n+1-k.2.2) (.slice none 0 0,x,if x<0 then n else x.toNat) ⟨rfl,?_,?_⟩ ?_
 ·rcases inv 0 x (Nat.zero_le _) hx with ⟨rfl,h⟩ | ⟨j,rfl,_,_,_,h⟩
  ·show [own 3 1 (.slice none 0 0) 0 [],_,_,_]=[own 3 1 (.slice none 0 0) (Bu n (FS ws)).length ((Bu n (FS ws)).flatMap (Bj .i64)),_,_,_]
   rw [← h]; rfl
  ·have hj:¬ ((j:Int)<0):=by omega
   simp only [hj,if_false,Int.toNat_natCast]
   rw [← h]; rfl
 ·rcases inv 0 x (Nat.zero_le _) hx with ⟨rfl,h⟩ | ⟨j,rfl,_,h2,h3,h⟩
  ·exact .inl ⟨rfl,rfl⟩
  ·have hj:¬ ((j:Int)<0):=by omega
   simp only [hj,if_false,Int.toNat_natCast]
   exact .inr ⟨trivial,h2,h3⟩
 rintro ⟨v3,x,j⟩ env L ⟨rfl,rfl,hx⟩
 simp only [] at hx
 dsimp only
 refine Ae (A0 (Ad rfl (Ac (CA rfl rfl) (AE [0,3,4,8] rfl ?_))))
 refine Ak rfl (fun h8=>?_) (fun h8=>?_)
 ·have h8':=of_decide_eq_true h8
  obtain ⟨rfl,hjn,hj⟩:x=(j:Int)∧j<n∧FS ws j=true:=by
   rcases hx with ⟨h,_⟩ | h
   ·omega
   ·exact h
  have hle:=WJ j (FS ws)
  refine Am (Af (Ae (Au (Al (Ad rfl (Ad rfl (Aw (Bg (qs:=[(0,_)]) rfl rfl rfl) (fun b15=>?_))))))))
  refine Aw (B9 (l:=(Bu j (FS ws)).length) (m:=1) rfl rfl AC (by simp only [maxLen]; omega) Ax) ?_
  rintro v' hv'
  skip
  refine AX rfl (Be [0,3,4] rfl ?_)
  have e1:(Bu j (FS ws)).length+1=(Bu (j+1) (FS ws)).length:=by rw [NG hj,List.length_append]; rfl
  have e2:(Bu j (FS ws)).flatMap (Bj .i64)++[.int .i64 (j:Nat)]=(Bu (j+1) (FS ws)).flatMap (Bj .i64):=by rw [NG hj,List.flatMap_append]; rfl
  rw [e1,e2]
  refine AH (AR (Af (Al (Ad rfl (Ad rfl (Ac (AO ((j+1:Nat):Int) rfl rfl Ax Ax Ax) ?_))))))
  refine Aw (AA (Z7 μ p n v ws ((j+1:Nat):Int) hT hl hn hS) rfl rfl AC) ?_
  rintro v1 L1 ⟨x,rfl,hx2,rfl⟩
  refine Aj (AX rfl (Be [0,3,4] rfl ?_))
  refine BK (Split.ent' (K:=[own 3 1 v' (Bu (j+1) (FS ws)).length ((Bu (j+1) (FS ws)).flatMap (Bj .i64)),B1 p 396 [.int .i64 (n:Nat),v],own 215 1 v ws.length (CU ws),ro μ]) AC) ?_
  refine AH ?_
  rcases inv (j+1) x hjn hx2 with ⟨rfl,h⟩ | ⟨i,rfl,h0,h2,h3,h⟩
  ·rw [h]
   exact Af ⟨(v',-1,n),⟨rfl,rfl,.inl ⟨rfl,rfl⟩⟩,by
    show (if (-1:Int)<0 then 0 else n+1-n)<(if (j:Int)<0 then 0 else n+1-j)
    rw [if_pos (by decide),if_neg Ax]; omega⟩
  ·rw [h]
   exact Af ⟨(v',(i:Int),i),⟨rfl,rfl,.inr ⟨rfl,h2,h3⟩⟩,by
    show (if (i:Int)<0 then 0 else n+1-i)<(if (j:Int)<0 then 0 else n+1-j)
    rw [if_neg Ax,if_neg Ax]; omega⟩
 ·have h8':=of_decide_eq_false h8
  obtain ⟨rfl,rfl⟩:x = -1∧j=n:=by
   rcases hx with h | ⟨h,_⟩
   ·exact h
   ·omega
  refine AY (AS (AS (AV rfl (Af (A0 (Ad rfl (As [2] rfl rfl (Ar ?_))))))))
  exact Aq [own 3 1 v3 (Bu j (FS ws)).length ((Bu j (FS ws)).flatMap (Bj .i64)),B1 p 396 [.int .i64 (j:Nat),v],own 215 1 v ws.length (CU ws),ro μ] (.tmp rfl .nil) rfl AC

theorem KY {f:FuncId}{args:List Value}{pre:List AF}{post:Value→List AF→Prop}{p n:Nat}{S:Nat→Bool}(h:∀ v ws,Wf n ws S→Spec prog f args (B1 p 396 [.int .i64 (n:Nat),v]::own 215 1 v ws.length (CU ws)::pre) post):Spec prog f args (CN p n S::pre) post :=
 Spec.exA' fun x=>h x.1.1 x.1.2 x.2
theorem A1q{n:Nat}{ws:List (BitVec 64)}{S:Nat→Bool}(hw:Wf n ws S)(k:Int):(decide (0≤k)&&(decide (k<n)&&FS ws k.toNat))=(decide (0≤k)&&S k.toNat):=by
 rw [hw.2.2.1]
 by_cases h0:0≤k
 ·by_cases h:k<n
  ·simp [h]
  ·rw [hw.2.2.2 k.toNat Ax]; simp
 ·simp [h0]
theorem A1Z(p n:Nat)(S:Nat→Bool)(k:Int):Spec prog 205 [.pointer (some ⟨p,0,none⟩),.int .i64 k] [CN p n S] (fun r L=>r=.bool (decide (0≤k)&&S k.toNat)∧L=[CN p n S]):=by
 refine KY fun v ws hw=>?_
 refine Spec.ent3 (A0T p n v ws k hw.1 hw.2.1) ?_
 rintro r L ⟨rfl,rfl⟩
 exact ⟨_,HZ hw,by rw [A1q hw],rfl⟩
theorem A20(p n:Nat)(S:Nat→Bool)(k:Int):Spec prog 204 [.pointer (some ⟨p,0,none⟩),.int .i64 k] [CN p n S] (fun r L=>r=.bool (decide (0≤k)&&(decide (k<n)&&!S k.toNat))∧L=[CN p n (fun j=>S j||(decide (0≤k∧k<n)&&decide (j=k.toNat)))]):=by
 refine KY fun v ws hw=>?_
 refine Spec.ent3 (A1Y p n v ws k hw.1 hw.2.1) ?_
 rintro r L ⟨rfl,ws',h1,h2,rfl⟩
 refine ⟨_,HZ (ws:=ws') ⟨by rw [h1]; exact hw.1,hw.2.1,fun j=>by rw [h2,hw.2.2.1],fun j hj=>?_⟩,by rw [hw.2.2.1],rfl⟩
 rw [hw.2.2.2 j hj,Bool.false_or]
 by_cases h:0≤k∧k<n
 ·rw [decide_eq_false (show ¬ j=k.toNat by omega),Bool.and_false]
 ·simp [h]
theorem Z8 (μ:PH)(p n:Nat)(S:Nat→Bool)(hT:RowAt μ 2 0 tabV):Spec prog 201 [.pointer (some ⟨p,0,none⟩)] [CN p n S,ro μ] (fun r L=>L=[own 3 1 r (Bu n S).length ((Bu n S).flatMap (Bj .i64)),CN p n S,ro μ]):=by
 refine KY fun v ws hw=>?_
 have hS:FS ws=S:=funext hw.2.2.1
 refine Spec.ent3 (A1p μ p n v ws hT hw.1 hw.2.1 (fun j hj=>by rw [hS]; exact hw.2.2.2 j hj)) ?_
 rintro r L rfl
 rw [hS]
 exact ⟨_,Ent.cons (HZ hw),rfl⟩

end SX
namespace SX.Wq
open Go Go.Proofs SX
abbrev WI:Type:=Int
abbrev wiV (x:WI):Value:=.int .i64 x
def wiZ:WI:=0
def ltW (a b:WI):Bool:=decide (b<a)
theorem ltW_ord:Hp.Ord ltW:=⟨fun a b h=>by
 have h' : @LT.lt Int _ b a:=of_decide_eq_true h
 exact decide_eq_false (show ¬ @LT.lt Int _ a b by omega),fun a b c h1 h2=>by
 have h1':¬ @LT.lt Int _ a b:=of_decide_eq_false h1
 have h2':¬ @LT.lt Int _ b c:=of_decide_eq_false h2
 exact decide_eq_false (show ¬ @LT.lt Int _ a c by omega)⟩
theorem before_w(a b:WI):Spec Tryz.prog 418 [wiV a,wiV b] [] (fun v L=>v=.bool (ltW a b)∧L=[]):=by
 refine Spec.of 8 Tryz.func418 rfl rfl rfl ?_
 refine A0 (As [0,1] rfl rfl (A0 (Ad rfl (Ad rfl (Ac (BA rfl rfl) (As [4] rfl rfl (Ar ?_)))))))
 exact Aq [] (.tmp rfl .nil) ⟨rfl,rfl⟩ AC
end SX.Wq
namespace SX.Wq
open Go Go.Proofs SX

abbrev aW:=Hp.ahd ltW
def wcs (e:WI×Nat):List Value:=[wiV e.1,.int .u64 (e.2:Nat)]
theorem wcs_len(e:WI×Nat):(wcs e).length=2:=rfl
def wents (es:List (WI×Nat)):List Value:=es.flatMap wcs
theorem wents_len(es:List (WI×Nat)):(wents es).length=es.length*2:=by unfold wents; rw [Ca wcs_len]
theorem wents_snoc(es:List (WI×Nat))(x:WI)(n:Nat):wents es++[wiV x,.int .u64 (n:Nat)]=wents (es++[(x,n)]):=by simp [wents,wcs]

theorem ahead_w(a b:WI)(n1 n2:Nat):Spec Tryz.prog 342 [.agg #[wiV a,.int .u64 (n1:Nat)],.agg #[wiV b,.int .u64 (n2:Nat)]] []
  (fun v L=>v=.bool (aW (a,n1) (b,n2))∧L=[]):=by
 refine Spec.of 25 Tryz.func342 rfl rfl rfl ?_
 refine A0 (Aw (Bi rfl rfl) (fun b2=>?_))
 refine Aw (Bi rfl rfl) fun b3=>?_
 refine As [2,3] rfl rfl (Ae (A0 (Ac (Ab rfl) (AJ (Ag rfl rfl) (Ac (Eh rfl) (Ac (Ab rfl) (AJ (Ag rfl rfl) ?_)))))))
 refine Aw (Ph rfl (before_w _ _) rfl AC) ?_
 rintro v L1 ⟨rfl,rfl⟩
 refine Aj (AE [2,3,10] rfl ?_)
 refine Ak rfl (fun h10=>?_) (fun h10=>?_)
 ·refine A0 (As [4] rfl rfl (Ar (AN ?_)))
  exact Aq [] (.tmp rfl .nil) ⟨by simp [H7,h10,Hp.ahd],rfl⟩ AC
 ·refine Am (Af (A0 (Ac (Ab rfl) (AJ (Ag rfl rfl) (Ac (Eh rfl) (Ac (Ab rfl) (AJ (Ag rfl rfl) ?_)))))))
  refine Aw (Ph rfl (before_w _ _) rfl AC) ?_
  rintro v L1 ⟨rfl,rfl⟩
  refine Aj (Ac (BO rfl) (Ad rfl ?_))
  refine B7 18 rfl (fun h18=>?_) (fun h18=>?_)
  ·refine AQ rfl rfl (Ac (Ab rfl) (AQ rfl rfl (AJ (Ag rfl rfl) (AQ rfl rfl (Ac (Ab rfl) (AQ rfl rfl (AJ (Ag rfl rfl) (AQ rfl rfl (Ac (Bb rfl rfl) (Ac (B4 rfl rfl) (As [4] rfl rfl (Ar ?_))))))))))))
   exact Aq [] (.tmp rfl .nil) ⟨by simp [H7,h10,h18,Hp.ahd],rfl⟩ AC
  ·refine AI rfl rfl rfl (AI rfl rfl rfl (AI rfl rfl rfl (AI rfl rfl rfl (AI rfl rfl rfl (Ac (AT rfl rfl) (As [4] rfl rfl (Ar ?_)))))))
   exact Aq [] (.tmp rfl .nil) ⟨by simp [H7,h10,h18,Hp.ahd],rfl⟩ AC

def wraw (q:Nat)(es:List (WI×Nat))(C4:Nat):AF:=exA (fun v:Value=>[B1 q 387 [v,.int .u64 (C4:Nat)],own 389 2 v es.length (wents es)])
theorem wraw_close{q g cap C4:Nat}{es:List (WI×Nat)}{ex:List Value}{L:List AF}(h1:es.length≤cap)(h2:cap≤maxLen)(h4:ex.length=(cap-es.length)*2) :
  Ent (B1 g 389 (wents es++ex)::B1 q 387 [.slice (some ⟨g,0,none⟩) es.length cap,.int .u64 (C4:Nat)]::L) (wraw q es C4::L) :=
 (Ec (wents_len es) h4 h1 h2).trans (Fg (F:=fun v=>[B1 q 387 [v,.int .u64 (C4:Nat)],own 389 2 v es.length (wents es)]) (.slice (some ⟨g,0,none⟩) es.length cap) AC)
theorem wraw_nil{q C4:Nat}{L:List AF}:Ent (B1 q 387 [.slice none 0 0,.int .u64 (C4:Nat)]::L) (wraw q [] C4::L) :=
 Ent.imp fun m hm=>⟨.slice none 0 0,m,fun _=>none,hm,⟨fun _=>none,fun _=>none,Pf _ _ _,trivial,by simp,by simp,by simp⟩,by simp,fun _ _ h=>h,by simp⟩

set_option maxHeartbeats 1000000 in
theorem push_w(q:Nat)(es:List (WI×Nat))(C4:Nat)(x:WI)(hb1:es.length≤1099511627776)(hb2:C4≤18446744073709551614) :
  Spec Tryz.prog 280 [.pointer (some ⟨q,0,none⟩),wiV x] [wraw q es C4] (fun v L=>v=.tuple #[]∧L=[wraw q (Hp.up aW es.length (es++[(x,C4)]) es.length) (C4+1)]):=by
 refine Spec.of 84 Tryz.func280 rfl rfl rfl ?_
 refine EQ fun v=>?_
 refine FB (Ae (A0 (Ad rfl (Ac (Bd rfl rfl) (AE [0,1,7] rfl (Dz rfl (Am (Af (Ae ?_)))))))))
 refine Ba [4,9] _ [] (by simp only [List.append_nil]; exact Ent.refl _) AK ?_
 refine AD 0 rfl (AG rfl) (AD 1 rfl (AG rfl) (AD 2 rfl (Ah rfl) (AD 3 rfl (Ab rfl) (Bc 4 rfl (Ag rfl rfl) rfl (AD 5 rfl (AG rfl) (AD 6 rfl (AG rfl) (AD 7 rfl (Ah rfl) (AD 8 rfl (Ab rfl) (Bc 9 rfl (Ag rfl rfl) rfl (AD 10 rfl (Bo (qs:=[(0,_),(1,_)]) rfl) (CC 11 rfl AK (Bg (qs:=[(0,_)]) rfl rfl rfl) (fun b19=>?_))))))))))))
 refine ⟨_,Split.ent AC,?_⟩
 refine BT 12 rfl AK AK (B9 (l:=es.length) (m:=1) rfl rfl AC (by simp only [maxLen]; omega) Ax) ?_
 rintro v' hv'
 obtain ⟨g,cap,rfl⟩:=hv' (by decide)
 rw [wents_snoc]
 refine AD 13 rfl (Ah rfl) (AD 14 rfl (Ab rfl) (Cj 15 rfl AK AK (AW rfl rfl rfl) (C0 [0] rfl (Bs AK (Af (A0 (Ad rfl (Ac (Ah rfl) (Ac (Ab rfl) (AJ (Ag rfl rfl) (Ac (Mh ((C4+1:Nat):Int) rfl rfl Ax Ax Ax) (Ac (Ah rfl) (Ac (Ab rfl) (B5 (AW rfl rfl rfl) (AE [0] rfl (A0 (Ad rfl (Ac (Ah rfl) (Ac (Ab rfl) (AJ (Ag rfl rfl) (Ac (BI rfl) (Ac (BY (es.length:Int) rfl rfl Ax Ax Ax) (AX rfl (Be [0,4] rfl ?_))))))))))))))))))))))))
 refine Pm K3 (fun h _ _=>by cases h) (fun hb cap' ex hv h1 h2 h3 h4=>?_)
 cases hv
 have hlen:(es++[(x,C4)]).length=es.length+1:=by simp
 refine Dp (Au ?_)
 refine B0 (ι:=Nat×List (WI×Nat)) (fun k env L=>env=[(0,.pointer (some ⟨q,0,none⟩)),(4,.int .i64 (k.1:Nat))] ∧
  L=[B1 g 389 (wents k.2++ex),B1 q 387 [.slice (some ⟨g,0,none⟩) (es.length+1) cap,.int .u64 ((C4+1:Nat):Int)]] ∧
  k.2.length=es.length+1∧k.1≤es.length∧Hp.up aW k.1 k.2 k.1=Hp.up aW es.length (es++[(x,C4)]) es.length) (fun k=>k.1) (es.length,es++[(x,C4)]) ⟨rfl,rfl,hlen,Nat.le_refl _,rfl⟩ ?_
 rintro ⟨i,fs⟩ env L ⟨rfl,rfl,hl,hi,hup⟩
 simp only [] at hl hi hup
 dsimp only
 refine Ae (A0 (Ad rfl (Ac (BA rfl rfl) (AE [0,4,37] rfl ?_))))
 refine Ak rfl (fun h37=>?_) (fun h37=>?_)
 ·have h37':0<i:=by simpa using h37
  obtain ⟨ei,hei⟩:∃ e,fs[i]? = some e:=⟨_,List.getElem?_eq_getElem Ax⟩
  obtain ⟨ep,hep⟩:∃ e,fs[(i-1) / 2]? = some e:=⟨_,List.getElem?_eq_getElem Ax⟩
  refine Am (Af (Au (A0 (Ad rfl (Ac (H4 rfl rfl Ax Ax) (Ac (EB (((i-1) / 2:Nat):Int) rfl rfl Ax Ax Ax Ax) (As [0,4,5] rfl rfl (Ae (Ae ?_)))))))))
  refine Ba [3,6,10,13] _ [] (by simp only [List.append_nil]; exact Ent.refl _) AK ?_
  refine AD 0 rfl (AG rfl) (AD 1 rfl (Ah rfl) (AD 2 rfl (Ab rfl) (Bc 3 rfl (Ag rfl rfl) rfl (AD 4 rfl (AG rfl) ?_))))
  refine AD 5 rfl (AB (i*2) rfl rfl Ax Ax (by simp)) ?_
  refine Bc 6 rfl (Cw (vs:=wcs ei) rfl (by rfl) (C1 wcs_len fs ex i ei hei)) rfl ?_
  refine AD 7 rfl (AG rfl) (AD 8 rfl (Ah rfl) (AD 9 rfl (Ab rfl) (Bc 10 rfl (Ag rfl rfl) rfl (AD 11 rfl (AG rfl) (AD 12 rfl (AB ((i-1) / 2*2) rfl rfl Ax Ax Ax) ?_)))))
  refine Bc 13 rfl (Cw (vs:=wcs ep) rfl (by rfl) (C1 wcs_len fs ex ((i-1) / 2) ep hep)) rfl ?_
  refine BT 14 rfl AK AK (AA (ahead_w _ _ _ _) rfl rfl AC) ?_
  rintro v L1 ⟨rfl,rfl⟩
  refine Cc (AD 15 rfl (BO rfl) (C0 [0,4,5,56] rfl (Bs AK (Af ?_))))
  refine Ak rfl (fun h56=>?_) (fun h56=>?_)
  ·have hT:Hp.up aW es.length (es++[(x,C4)]) es.length=fs:=by
    rw [← hup]; exact Hp.up_stop hei hep (A0B h56)
   refine Ar (AN (B6 (AN (B6 ?_))))
   rw [hT]
   have hl':fs.length=es.length+1:=hl
   rw [← hl'] at h1 h4 ⊢
   exact B8 [wraw q fs (C4+1)] .nil ⟨rfl,rfl⟩ ((Split.ent' (K:=[B1 g 389 (wents fs++ex),B1 q 387 [.slice (some ⟨g,0,none⟩) fs.length cap,.int .u64 ((C4+1:Nat):Int)]]) AC).trans (wraw_close h1 h2 h4))
  ·have hel:(wents fs).length=(es.length+1)*2:=by rw [wents_len,hl]
   refine Am (Af (Ae ?_))
   refine Ba [3,8,13,16,20,23] _ [] (by simp only [List.append_nil]; exact Ent.refl _) AK ?_
   refine AD 0 rfl (AG rfl) (AD 1 rfl (Ah rfl) (AD 2 rfl (Ab rfl) (Bc 3 rfl (Ag rfl rfl) rfl (AD 4 rfl (AG rfl) (AD 5 rfl (AG rfl) (AD 6 rfl (Ah rfl) (AD 7 rfl (Ab rfl) (Bc 8 rfl (Ag rfl rfl) rfl (AD 9 rfl (AG rfl) (AD 10 rfl (AG rfl) (AD 11 rfl (Ah rfl) (AD 12 rfl (Ab rfl) (Bc 13 rfl (Ag rfl rfl) rfl (AD 14 rfl (AG rfl) (AD 15 rfl (AB ((i-1) / 2*2) rfl rfl Ax Ax Ax) ?_)))))))))))))))
   refine Bc 16 rfl (Cw (vs:=wcs ep) rfl (by rfl) (C1 wcs_len fs ex ((i-1) / 2) ep hep)) rfl ?_
   refine AD 17 rfl (AG rfl) (AD 18 rfl (Ah rfl) (AD 19 rfl (Ab rfl) (Bc 20 rfl (Ag rfl rfl) rfl (AD 21 rfl (AG rfl) (AD 22 rfl (AB (i*2) rfl rfl Ax Ax Ax) ?_)))))
   refine Bc 23 rfl (Cw (vs:=wcs ei) rfl (by rfl) (C1 wcs_len fs ex i ei hei)) rfl ?_
   refine AD 24 rfl (AB (i*2) rfl rfl Ax Ax Ax) ?_
   refine Cs 25 rfl AK AK (CH (vs:=wcs ep) rfl rfl (Dv wcs_len fs ex i ep Ax) (by rw [List.length_append,← wents,hel,wcs_len]; omega) rfl rfl) ?_
   refine AD 26 rfl (AB ((i-1) / 2*2) rfl rfl Ax Ax Ax) ?_
   refine Cj 27 rfl AK AK (CH (vs:=wcs ei) rfl rfl (Dv wcs_len (fs.set i ep) ex ((i-1) / 2) ei (by simp; omega)) (by rw [List.length_append,Ca wcs_len,wcs_len,List.length_set]; omega) rfl rfl) ?_
   refine C0 [0,5] rfl (Bs AK (Af (Al (Ad rfl (AX rfl (Be [0,4] rfl (AH (AR ?_))))))))
   refine Af ⟨((i-1) / 2,(fs.set i ep).set ((i-1) / 2) ei),⟨rfl,rfl,by simp [hl],by show (i-1) / 2≤es.length; omega,?_⟩,by show (i-1) / 2<i; omega⟩
   rw [← hup,Hp.up_step h37' hei hep (Xi h56)]
 ·obtain rfl:i=0:=by simp at h37; omega
  have hT:Hp.up aW es.length (es++[(x,C4)]) es.length=fs:=by rw [← hup]; rfl
  refine AY (AS (AS (AV rfl ?_)))
  rw [hT]
  have hl':fs.length=es.length+1:=hl
  rw [← hl'] at h1 h4 ⊢
  exact B8 [wraw q fs (C4+1)] .nil ⟨rfl,rfl⟩ ((Split.ent' (K:=[B1 g 389 (wents fs++ex),B1 q 387 [.slice (some ⟨g,0,none⟩) fs.length cap,.int .u64 ((C4+1:Nat):Int)]]) AC).trans (wraw_close h1 h2 h4))
end SX.Wq
namespace SX.Wq
open Go Go.Proofs SX

def bestTo (es:List (WI×Nat))(i:Nat):Nat→Nat
 | 0=>i
 | 1=>Hp.better aW es (2*i+1) i
 | _=>Hp.best aW es i
theorem bestTo_lt{es:List (WI×Nat)}{i:Nat}(hi:i<es.length):∀ j,bestTo es i j<es.length:=by
 have hb:∀ k m,m<es.length→Hp.better aW es k m<es.length:=fun k m hm=>by
  rcases Hp.better_cases (ah:=aW) es k m with ⟨e,_⟩ | ⟨e,a,b,ha,_⟩
  ·rw [e]; exact hm
  ·rw [e]; exact (List.getElem?_eq_some_iff.1 ha).1
 intro j
 match j with
 | 0=>exact hi
 | 1=>exact hb _ _ hi
 | j+2=>exact hb _ _ (hb _ _ hi)
theorem bestTo_succ{es:List (WI×Nat)}{i j:Nat}(hj:j<2):bestTo es i (j+1)=Hp.better aW es (2*i+1+j) (bestTo es i j):=by
 match j,hj with
 | 0,_=>rfl
 | 1,_=>rfl
theorem bestTo_end{es:List (WI×Nat)}{i j:Nat}(h:2≤j∨es.length≤2*i+1+j):bestTo es i j=Hp.best aW es i:=by
 have hn:∀ k m,es.length≤k→Hp.better aW es k m=m:=fun k m hk=>by
  have:es[k]? = none:=List.getElem?_eq_none_iff.2 hk
  simp [Hp.better,this]
 match j with
 | 0 =>
  have h':es.length≤2*i+1:=by omega
  show i=Hp.better aW es (2*i+2) (Hp.better aW es (2*i+1) i)
  rw [hn _ _ h',hn _ _ Ax]
 | 1 =>
  have h':es.length≤2*i+2:=by omega
  show Hp.better aW es (2*i+1) i=Hp.better aW es (2*i+2) (Hp.better aW es (2*i+1) i)
  rw [hn _ _ h']
 | j+2=>rfl
theorem better_of{es:List (WI×Nat)}{k m:Nat}{a b:WI×Nat}(ha:es[k]? = some a)(hb:es[m]? = some b):Hp.better aW es k m=if aW a b then k else m:=by simp [Hp.better,ha,hb]

set_option maxHeartbeats 2000000 in
theorem sink_w(q g cap:Nat)(nx:Value)(es:List (WI×Nat))(ex:List Value)(hb1:es.length≤1099511627776) :
  Spec Tryz.prog 279 [.pointer (some ⟨q,0,none⟩)] [B1 q 387 [.slice (some ⟨g,0,none⟩) es.length cap,nx],B1 g 389 (wents es++ex)]
   (fun v L=>v=.tuple #[]∧L=[B1 q 387 [.slice (some ⟨g,0,none⟩) es.length cap,nx],B1 g 389 (wents (Hp.down aW es.length es 0)++ex)]):=by
 refine Spec.of 71 Tryz.func279 rfl rfl rfl ?_
 refine A0 (As [0,2] rfl rfl (Au ?_))
 refine B0 (ι:=Nat×List (WI×Nat)) (fun k env L=>env=[(0,.pointer (some ⟨q,0,none⟩)),(2,.int .i64 (k.1:Nat))] ∧
   L=[B1 q 387 [.slice (some ⟨g,0,none⟩) es.length cap,nx],B1 g 389 (wents k.2++ex)] ∧
   k.2.length=es.length∧(k.1<es.length∨k.1=0)∧Hp.down aW es.length k.2 k.1=Hp.down aW es.length es 0) (fun k=>es.length-k.1) (0,es) ⟨rfl,rfl,rfl,.inr rfl,rfl⟩ ?_
 rintro ⟨i,fs⟩ env L ⟨rfl,rfl,hl,hi,hdn⟩
 simp only [] at hl hi hdn
 dsimp only
 refine Au (A0 (Ad rfl (As [0,2,3] rfl rfl ?_)))
 refine Cb (fun env L=>env=[(0,.pointer (some ⟨q,0,none⟩)),(2,.int .i64 (i:Nat)),(3,.int .i64 (Hp.best aW fs i:Nat))]∧L=[B1 q 387 [.slice (some ⟨g,0,none⟩) es.length cap,nx],B1 g 389 (wents fs++ex)]) ?_ ?_
 ·refine A0 (Ad rfl (Ac (H5 rfl rfl Ax Ax) (Ac (AO ((2*i+1+0:Nat):Int) rfl rfl Ax Ax Ax) (As [0,2,3,4] rfl rfl (Au ?_)))))
  refine B0 (ι:=Nat) (fun j env L=>env=[(0,.pointer (some ⟨q,0,none⟩)),(2,.int .i64 (i:Nat)),(3,.int .i64 (bestTo fs i j:Nat)),(4,.int .i64 ((2*i+1+j:Nat):Int))]∧j≤2 ∧
    L=[B1 q 387 [.slice (some ⟨g,0,none⟩) es.length cap,nx],B1 g 389 (wents fs++ex)]) (fun j=>2-j) 0 ⟨rfl,by omega,rfl⟩ ?_
  rintro j env L ⟨rfl,hj,rfl⟩
  refine Ae (A0 (Ad rfl (Ad rfl (Ac (H5 rfl rfl Ax Ax) (Ac (H3 rfl rfl Ax Ax) (Ac (Ff rfl rfl) (Ad rfl ?_)))))))
  refine B7 14 rfl (fun h14=>?_) (fun h14=>?_)
  ·have h14':j<2:=by simp at h14; omega
   refine AQ rfl rfl (Ad rfl (AQ rfl rfl (Ad rfl (AQ rfl rfl (Ac (Ah rfl) (AQ rfl rfl (Ac (Ab rfl) (AQ rfl rfl (AJ (Ag rfl rfl) (AQ rfl rfl (Ac (BI rfl) (AQ rfl rfl (Ac (Bb rfl rfl) (Ac (B4 rfl rfl) (AE [0,2,3,4,22] rfl ?_)))))))))))))))
   refine Ak rfl (fun h22=>?_) (fun h22=>?_)
   ·have h22':2*i+1+j<es.length:=by simp at h22; omega
    have hil:i<fs.length:=by omega
    obtain ⟨ek,hek⟩:∃ e,fs[2*i+1+j]? = some e:=⟨_,List.getElem?_eq_getElem Ax⟩
    have hfl:=bestTo_lt hil j
    obtain ⟨ef,hef⟩:∃ e,fs[bestTo fs i j]? = some e:=⟨_,List.getElem?_eq_getElem hfl⟩
    have hsucc:=bestTo_succ (es:=fs) (i:=i) h14'
    rw [better_of hek hef] at hsucc
    refine Am (Af (Ae (Au (Ae ?_))))
    refine Ba [3,6,10,13] _ [] (by simp only [List.append_nil]; exact Ent.refl _) AK ?_
    refine AD 0 rfl (AG rfl) (AD 1 rfl (Ah rfl) (AD 2 rfl (Ab rfl) (Bc 3 rfl (Ag rfl rfl) rfl (AD 4 rfl (AG rfl) (AD 5 rfl (AB ((2*i+1+j)*2) rfl rfl Ax Ax Ax) ?_)))))
    refine Bc 6 rfl (Cw (vs:=wcs ek) rfl (by rfl) (C1 wcs_len fs ex _ ek hek)) rfl ?_
    refine AD 7 rfl (AG rfl) (AD 8 rfl (Ah rfl) (AD 9 rfl (Ab rfl) (Bc 10 rfl (Ag rfl rfl) rfl (AD 11 rfl (AG rfl) (AD 12 rfl (AB (bestTo fs i j*2) rfl rfl Ax Ax Ax) ?_)))))
    refine Bc 13 rfl (Cw (vs:=wcs ef) rfl (by rfl) (C1 wcs_len fs ex _ ef hef)) rfl ?_
    refine BT 14 rfl AK AK (AA (ahead_w _ _ _ _) rfl rfl AC) ?_
    rintro v L1 ⟨rfl,rfl⟩
    refine Cc (C0 [0,2,3,4,39] rfl (Bs AK (Af ?_)))
    refine Ak rfl (fun h39=>?_) (fun h39=>?_)
    ·rw [if_pos h39] at hsucc
     refine Al (Ad rfl (AX rfl (Be [0,2,3,4] rfl (AH (AR (Af (Al (Ad rfl (Ac (AO ((2*i+1+(j+1):Nat):Int) rfl rfl Ax Ax Ax) (AX rfl (Be [0,2,3,4] rfl (AH ?_))))))))))))
     refine Af ⟨j+1,⟨?_,by omega,rfl⟩,by omega⟩
     rw [hsucc]
    ·rw [if_neg (by simp [h39])] at hsucc
     refine Am (AR (Af (Al (Ad rfl (Ac (AO ((2*i+1+(j+1):Nat):Int) rfl rfl Ax Ax Ax) (AX rfl (Be [0,2,3,4] rfl (AH ?_))))))))
     refine Af ⟨j+1,⟨?_,by omega,rfl⟩,by omega⟩
     rw [hsucc]
   ·have hbe:=bestTo_end (es:=fs) (i:=i) (j:=j) (.inr (by simp at h22; omega))
    refine B3 _ (I8 0 rfl (I8 2 rfl (I8 3 rfl .nil))) (AY (AS (AS (AV rfl ?_))))
    refine Af ⟨?_,rfl⟩
    rw [hbe]
  ·refine AI rfl rfl rfl (AI rfl rfl rfl (AI rfl rfl rfl (AI rfl rfl rfl (AI rfl rfl rfl (AI rfl rfl rfl (AI rfl rfl rfl (Ac (AT rfl rfl) (AE [0,2,3,4,22] rfl ?_))))))))
   refine Ak rfl (fun h22=>by cases h22) (fun h22=>?_)
   have hbe:=bestTo_end (es:=fs) (i:=i) (j:=j) (.inl (by simp at h14; omega))
   refine B3 _ (I8 0 rfl (I8 2 rfl (I8 3 rfl .nil))) (AY (AS (AS (AV rfl ?_))))
   refine Af ⟨?_,rfl⟩
   rw [hbe]
 rintro env L ⟨rfl,rfl⟩
 refine Ae (A0 (Ad rfl (Ad rfl (Ac (Bp rfl rfl) (AE [0,2,3,43] rfl ?_)))))
 refine Ak rfl (fun h43=>?_) (fun h43=>?_)
 ·have hbi:Hp.best aW fs i=i:=by simp at h43; omega
  refine Ar (AN (B6 (AN (B6 ?_))))
  rw [← hdn,Hp.down_stop hbi]
  exact Aq _ .nil ⟨rfl,rfl⟩ AC
 ·have hbi:Hp.best aW fs i≠i:=by simp at h43; omega
  have hgt:=Hp.best_gt hbi
  obtain ⟨ei,hei⟩:∃ e,fs[i]? = some e:=⟨_,List.getElem?_eq_getElem Ax⟩
  obtain ⟨ep,hep⟩:∃ e,fs[Hp.best aW fs i]? = some e:=⟨_,List.getElem?_eq_getElem hgt.2⟩
  rw [Hp.down_step Ax hbi hei hep] at hdn
  generalize Hp.best aW fs i=p at *
  have hel:(wents fs).length=es.length*2:=by rw [wents_len,hl]
  refine Am (Af (Ae ?_))
  refine Ba [3,8,13,16,20,23] _ [] (by simp only [List.append_nil]; exact Ent.refl _) AK ?_
  refine AD 0 rfl (AG rfl) (AD 1 rfl (Ah rfl) (AD 2 rfl (Ab rfl) (Bc 3 rfl (Ag rfl rfl) rfl (AD 4 rfl (AG rfl) (AD 5 rfl (AG rfl) (AD 6 rfl (Ah rfl) (AD 7 rfl (Ab rfl) (Bc 8 rfl (Ag rfl rfl) rfl (AD 9 rfl (AG rfl) (AD 10 rfl (AG rfl) (AD 11 rfl (Ah rfl) (AD 12 rfl (Ab rfl) (Bc 13 rfl (Ag rfl rfl) rfl (AD 14 rfl (AG rfl) (AD 15 rfl (AB (p*2) rfl rfl Ax Ax Ax) ?_)))))))))))))))
  refine Bc 16 rfl (Cw (vs:=wcs ep) rfl (by rfl) (C1 wcs_len fs ex p ep hep)) rfl ?_
  refine AD 17 rfl (AG rfl) (AD 18 rfl (Ah rfl) (AD 19 rfl (Ab rfl) (Bc 20 rfl (Ag rfl rfl) rfl (AD 21 rfl (AG rfl) (AD 22 rfl (AB (i*2) rfl rfl Ax Ax Ax) ?_)))))
  refine Bc 23 rfl (Cw (vs:=wcs ei) rfl (by rfl) (C1 wcs_len fs ex i ei hei)) rfl ?_
  refine AD 24 rfl (AB (i*2) rfl rfl Ax Ax Ax) ?_
  refine Cs 25 rfl AK AK (CH (vs:=wcs ep) rfl rfl (Dv wcs_len fs ex i ep Ax) (by rw [List.length_append,← wents,hel,wcs_len]; omega) rfl rfl) ?_
  refine AD 26 rfl (AB (p*2) rfl rfl Ax Ax Ax) ?_
  refine Cj 27 rfl AK AK (CH (vs:=wcs ei) rfl rfl (Dv wcs_len (fs.set i ep) ex p ei (by simp; omega)) (by rw [List.length_append,Ca wcs_len,wcs_len,List.length_set]; omega) rfl rfl) ?_
  refine C0 [0,3] rfl (Bs AK (Af (Al (Ad rfl (AX rfl (Be [0,2] rfl (AH (AR ?_))))))))
  exact Af ⟨(p,(fs.set i ep).set p ei),⟨rfl,rfl,by simp [hl],.inl (by show p<es.length; omega),hdn⟩,by show es.length-p<es.length-i; omega⟩
end SX.Wq
namespace SX.Wq
open Go Go.Proofs SX

theorem wraw_fold{q C4:Nat}{v:Value}{es:List (WI×Nat)}{L:List AF}:Ent (B1 q 387 [v,.int .u64 (C4:Nat)]::own 389 2 v es.length (wents es)::L) (wraw q es C4::L) :=
 Fg (F:=fun v=>[B1 q 387 [v,.int .u64 (C4:Nat)],own 389 2 v es.length (wents es)]) v AC
theorem len_w(q:Nat)(es:List (WI×Nat))(C4:Nat):Spec Tryz.prog 341 [.pointer (some ⟨q,0,none⟩)] [wraw q es C4] (fun v L=>v=.int .i64 es.length∧L=[wraw q es C4]):=by
 refine Spec.of 10 Tryz.func341 rfl rfl rfl ?_
 refine EQ fun v=>?_
 refine FB ?_
 refine Db (A:=own 389 2 v es.length (wents es)) K3 ?_
 refine CG (fun m h=>Bz h) fun ⟨A,cap,hv⟩=>?_
 subst hv
 refine A0 (As [0] rfl rfl (Ae (A0 (Ad rfl (Ac (Bd rfl rfl) (AE [0,4] rfl (Dz rfl (Am (Af (A0 (Ad rfl (Ac (Ah rfl) (Ac (Ab rfl) (AJ (Ag rfl rfl) (Ac (BI rfl) (As [2] rfl rfl (Ar ?_)))))))))))))))))
 exact B8 [wraw q es C4] (.tmp rfl .nil) ⟨rfl,rfl⟩ ((Split.ent' (K:=[B1 q 387 [.slice A es.length cap,.int .u64 (C4:Nat)],own 389 2 (.slice A es.length cap) es.length (wents es)]) AC).trans wraw_fold)
theorem peek_w0(q C4:Nat):Spec Tryz.prog 278 [.pointer (some ⟨q,0,none⟩)] [wraw q [] C4] (fun v L=>v=.tuple #[wiV wiZ,.bool false]∧L=[wraw q [] C4]):=by
 refine Spec.of 16 Tryz.func278 rfl rfl rfl ?_
 refine A0 (AX rfl (As [0] rfl rfl (Ae (A0 (Ad rfl ?_)))))
 refine Aw (AA (len_w q [] C4) rfl rfl AC) ?_
 rintro v L1 ⟨rfl,rfl⟩
 refine Aj (Ac (Bp rfl rfl) (AE [0,7] rfl ?_))
 refine Ak rfl (fun h7=>?_) (fun h7=>by simp at h7)
 refine A0 (As [4] rfl rfl (A0 (Ad rfl (AX rfl (As [2,3] rfl rfl (Ar (AN ?_)))))))
 exact Aq [wraw q [] C4] (.tmp rfl (.tmp rfl .nil)) ⟨rfl,rfl⟩ AC
theorem peek_w(q C4:Nat)(e:WI×Nat)(es:List (WI×Nat)):Spec Tryz.prog 278 [.pointer (some ⟨q,0,none⟩)] [wraw q (e::es) C4] (fun v L=>v=.tuple #[wiV e.1,.bool true]∧L=[wraw q (e::es) C4]):=by
 refine Spec.of 16 Tryz.func278 rfl rfl rfl ?_
 refine A0 (AX rfl (As [0] rfl rfl (Ae (A0 (Ad rfl ?_)))))
 refine Aw (AA (len_w q (e::es) C4) rfl rfl AC) ?_
 rintro v L1 ⟨rfl,rfl⟩
 refine Aj (Ac (Bp rfl rfl) (AE [0,7] rfl ?_))
 refine Ak rfl (fun h7=>by simp at h7; omega) (fun h7=>?_)
 refine Am (Af (Ae ?_))
 refine EQ fun v=>?_
 refine FB ?_
 refine Db (A:=own 389 2 v (e::es).length (wents (e::es))) K3 ?_
 refine GA (fun h h0 h1=>by simp at h0) (fun g cap ex hv o1 o2 o3 o4=>?_)
 subst v
 refine Al (Ad rfl (Ac (Ah rfl) (Ac (Ab rfl) (AJ (Ag rfl rfl) ?_))))
 refine Ac (AB 0 rfl rfl Ax (by simp) rfl) ?_
 refine Ac (Ab rfl) (AJ (Ag (v:=wiV e.1) rfl rfl) (AX rfl (As [2,3] rfl rfl (Ar ?_))))
 exact B8 [wraw q (e::es) C4] (.tmp rfl (.tmp rfl .nil)) ⟨rfl,rfl⟩ ((Split.ent' (K:=[B1 g 389 (wents (e::es)++ex),B1 q 387 [.slice (some ⟨g,0,none⟩) (e::es).length cap,.int .u64 (C4:Nat)]]) AC).trans (wraw_close o1 o2 o4))

theorem pop_w0(q C4:Nat):Spec Tryz.prog 197 [.pointer (some ⟨q,0,none⟩)] [wraw q [] C4] (fun v L=>v=.tuple #[wiV wiZ,.bool false]∧L=[wraw q [] C4]):=by
 refine Spec.of 52 Tryz.func197 rfl rfl rfl ?_
 refine A0 (AX rfl (As [0] rfl rfl (A0 (Ad rfl ?_))))
 refine Aw (AA (peek_w0 q C4) rfl rfl AC) ?_
 rintro v L1 ⟨rfl,rfl⟩
 refine Aj (Ad rfl (Ac (Ai rfl) (Ac (Ai rfl) (AX rfl (As [0,4,5] rfl rfl (Ae (A0 (Ad rfl (Ac (BO rfl) (AE [0,4,13] rfl (Qs rfl (A0 (Ad rfl (AX rfl (As [2,3] rfl rfl (Ar (AN ?_)))))))))))))))))
 exact Aq [wraw q [] C4] (.tmp rfl (.tmp rfl .nil)) ⟨rfl,rfl⟩ AC

def wzcs:List Value:=[wiV wiZ,.int .u64 0]
theorem wents_app(a b:List (WI×Nat)):wents (a++b)=wents a++wents b:=by unfold wents; exact List.flatMap_append
theorem wents_over(es:List (WI×Nat))(ex:List Value)(i:Nat)(e:WI×Nat)(h:i<es.length):FD (wents es++ex) (wcs e) (i*2)=wents (es.set i e)++ex:=Dv wcs_len es ex i e h
theorem wover_cut(es:List (WI×Nat))(ex zs:List Value)(hz:zs.length=2)(hne:es≠[]):FD (wents es++ex) zs ((es.length-1)*2)=wents es.dropLast++(zs++ex):=by
 have e:=List.dropLast_concat_getLast hne
 have hl:(es.length-1)*2=(wents es.dropLast).length:=by rw [wents_len,List.length_dropLast]
 have h1:wents es=wents es.dropLast++wents [es.getLast hne]:=by rw [← wents_app,e]
 have h2:(wents [es.getLast hne]).length=2:=by rw [wents_len]; rfl
 generalize wents [es.getLast hne]=u at h1 h2
 rw [hl,h1]
 unfold FD
 rw [hz,List.append_assoc (wents es.dropLast) u ex,List.take_left,List.drop_append]
 rw [show (wents es.dropLast).length+2-(wents es.dropLast).length=2 by omega,List.drop_append,h2]
 rw [List.drop_eq_nil_of_le (by omega:(wents es.dropLast).length≤_),List.drop_eq_nil_of_le (by omega:u.length≤_)]
 simp

set_option maxHeartbeats 1000000 in
theorem pop_w(q C4:Nat)(e:WI×Nat)(es:List (WI×Nat))(hb1:(e::es).length≤1099511627776):Spec Tryz.prog 197 [.pointer (some ⟨q,0,none⟩)] [wraw q (e::es) C4]
  (fun v L=>v=.tuple #[wiV e.1,.bool true]∧L=[wraw q (Hp.pop aW (e::es)) C4]):=by
 refine Spec.of 52 Tryz.func197 rfl rfl rfl ?_
 refine A0 (AX rfl (As [0] rfl rfl (A0 (Ad rfl ?_))))
 refine Aw (AA (peek_w q C4 e es) rfl rfl AC) ?_
 rintro v L1 ⟨rfl,rfl⟩
 refine Aj (Ad rfl (Ac (Ai rfl) (Ac (Ai rfl) (AX rfl (As [0,4,5] rfl rfl (Ae (A0 (Ad rfl (Ac (BO rfl) (AE [0,4,13] rfl (Dz rfl (Am (Af (Ae ?_))))))))))))))
 obtain ⟨fs,hfs⟩:∃ fs,fs=e::es:=⟨_,rfl⟩
 have hne:fs≠[]:=by rw [hfs]; simp
 rw [← hfs] at hb1 ⊢
 have hpos:0<fs.length:=List.length_pos_iff.2 hne
 refine Db (A:=wraw q fs C4) K3 ?_
 refine EQ fun v=>?_
 refine FB ?_
 refine Db (A:=own 389 2 v fs.length (wents fs)) K3 ?_
 refine GA (fun h h0 h1=>by omega) (fun g cap ex hv o1 o2 o3 o4=>?_)
 subst v
 refine Al (Ad rfl (Ac (Ah rfl) (Ac (Ab rfl) (AJ (Ag rfl rfl) (Ac (BI rfl) (Ac (BY ((fs.length-1:Nat):Int) rfl rfl Ax Ax Ax) (As [0,4,6] rfl rfl (Ae ?_))))))))
 have hel:(wents fs).length=fs.length*2:=wents_len fs
 obtain ⟨l,hlast⟩:∃ l,fs[fs.length-1]? = some l:=⟨_,List.getElem?_eq_getElem Ax⟩
 refine Ba [3,7,10] _ [] (by simp only [List.append_nil]; exact Ent.refl _) AK ?_
 refine AD 0 rfl (AG rfl) (AD 1 rfl (Ah rfl) (AD 2 rfl (Ab rfl) (Bc 3 rfl (Ag rfl rfl) rfl (AD 4 rfl (AG rfl) (AD 5 rfl (Ah rfl) (AD 6 rfl (Ab rfl) (Bc 7 rfl (Ag rfl rfl) rfl (AD 8 rfl (AG rfl) (AD 9 rfl (AB ((fs.length-1)*2) rfl rfl Ax Ax Ax) ?_)))))))))
 refine Bc 10 rfl (Cw (vs:=wcs l) rfl (by rfl) (C1 wcs_len fs ex _ l hlast)) rfl ?_
 refine AD 11 rfl (AB (0*2) rfl rfl Ax Ax Ax) ?_
 refine Cs 12 rfl AK AK (CH (vs:=wcs l) rfl rfl (wents_over fs ex 0 l hpos) (by rw [List.length_append,wents_len,wcs_len]; omega) rfl rfl) ?_
 refine C0 [0,4,6] rfl (Bs AK (Af (Ae ?_)))
 have hl2:(fs.set 0 l).length=fs.length:=List.length_set
 have hne2:fs.set 0 l≠[]:=by intro h; rw [h] at hl2; simp at hl2; omega
 refine Al (Ad rfl (Ac (Ah rfl) (Ac (Ab rfl) (AJ (Ag rfl rfl) (Ad rfl (Ac (Bo (qs:=[]) rfl) ?_))))))
 refine Ac (AB (((fs.set 0 l).length-1)*2) rfl rfl Ax Ax (by rw [hl2]; omega)) ?_
 refine B5 (CH (vs:=wzcs) rfl rfl (wover_cut (fs.set 0 l) ex wzcs rfl hne2) (by rw [List.length_append,wents_len,hl2]; show _+2≤_; omega) rfl rfl) ?_
 refine AE [0,4,6] rfl (A0 (Ad rfl (Ad rfl (Ac (Ah rfl) (Ac (Ab rfl) (AJ (Ag rfl rfl) (Ad rfl (Ac (DB (fs.length-1) rfl rfl rfl Ax) (Ac (Ah rfl) (Ac (Ab rfl) (B5 (AW rfl rfl rfl) (AE [0,4] rfl (A0 (Ad rfl ?_))))))))))))))
 have hl3:(fs.set 0 l).dropLast.length=fs.length-1:=by rw [List.length_dropLast,hl2]
 rw [← hl3]
 refine Aw (AA (sink_w q g cap _ (fs.set 0 l).dropLast (wzcs++ex) Ax) rfl rfl AC) ?_
 rintro v L1 ⟨rfl,rfl⟩
 refine Aj (AE [4] rfl (A0 (Ad rfl (AX rfl (As [2,3] rfl rfl (Ar ?_))))))
 have hp:Hp.pop aW fs=Hp.down aW (fs.set 0 l).dropLast.length (fs.set 0 l).dropLast 0:=by
  have hgl:fs.getLast? = some l:=by rw [List.getLast?_eq_getElem?]; exact hlast
  unfold Hp.pop
  rw [hgl]
  exact Hp.down_enough _ _ _ _ Ax Ax
 have hpl:(Hp.pop aW fs).length=(fs.set 0 l).dropLast.length:=by rw [hp,Hp.down_length]
 rw [← hp,← hpl]
 exact B8 [wraw q (Hp.pop aW fs) C4] (.tmp rfl (.tmp rfl .nil)) ⟨rfl,rfl⟩
  ((
  Split.ent' (K:=[B1 g 389 (wents (Hp.pop aW fs)++(wzcs++ex)),B1 q 387 [.slice (some ⟨g,0,none⟩) (Hp.pop aW fs).length cap,.int .u64 (C4:Nat)]]) AC).trans
  (wraw_close Ax o2 (by rw [List.length_append,o4,hpl,hl3]; show 2+_=_; omega)))
end SX.Wq
namespace SX.Wq
open Go Go.Proofs SX

theorem aW_trans(a b c:WI×Nat)(h1:aW a b=true)(h2:aW b c=true):aW a c=true:=Hp.ahd_trans ltW_ord a b c h1 h2

def wa (q:Nat)(S:List (WI×Nat))(C4:Nat):AF:=exA (fun es : {es:List (WI×Nat) // Hp.Rep aW es S∧∀ y∈S,y.2<C4}=>[wraw q es.1 C4])
theorem wa_close{q C4:Nat}{es S:List (WI×Nat)}{L:List AF}(h:Hp.Rep aW es S)(h2:∀ y∈S,y.2<C4):Ent (wraw q es C4::L) (wa q S C4::L) :=
 Fg (F:=fun es : {es:List (WI×Nat) // Hp.Rep aW es S∧∀ y∈S,y.2<C4}=>[wraw q es.1 C4]) ⟨es,h,h2⟩ AC
theorem push_a(q:Nat)(S:List (WI×Nat))(C4:Nat)(x:WI)(hb1:S.length≤1099511627776)(hb2:C4≤18446744073709551614) :
  Spec Tryz.prog 280 [.pointer (some ⟨q,0,none⟩),wiV x] [wa q S C4] (fun v L=>v=.tuple #[]∧L=[wa q (Hp.ins aW (x,C4) S) (C4+1)]):=by
 refine Spec.exA' fun ⟨es,hr,hn⟩=>?_
 refine Spec.ent2 (push_w q es C4 x (by rw [hr.length]; exact hb1) hb2) (wa_close ?_ ?_)
 ·refine hr.push (Hp.ahd_ord ltW_ord) aW_trans fun y hy h=>Hp.ahd_total (by have:=hn y hy; simp only; omega) h
 ·intro y hy
  rcases Hp.mem_ins.1 hy with rfl | hy
  ·simp
  ·have:=hn y hy; omega
theorem pop_a0(q C4:Nat):Spec Tryz.prog 197 [.pointer (some ⟨q,0,none⟩)] [wa q [] C4] (fun v L=>v=.tuple #[wiV wiZ,.bool false]∧L=[wa q [] C4]):=by
 refine Spec.exA' fun ⟨es,hr,hn⟩=>?_
 have he:es=[]:=List.eq_nil_of_length_eq_zero (by rw [hr.length]; rfl)
 subst he
 exact Spec.ent2 (pop_w0 q C4) (wa_close hr hn)
theorem pop_a(q C4:Nat)(s:WI×Nat)(S:List (WI×Nat))(hb:(s::S).length≤1099511627776):Spec Tryz.prog 197 [.pointer (some ⟨q,0,none⟩)] [wa q (s::S) C4] (fun v L=>v=.tuple #[wiV s.1,.bool true]∧L=[wa q S C4]):=by
 refine Spec.exA' fun ⟨es,hr,hn⟩=>?_
 cases es with
 | nil=>have:=hr.length; simp at this
 | cons e es =>
  have hz:e=s:=hr.head (Hp.ahd_ord ltW_ord) rfl
  subst hz
  exact Spec.ent2 (pop_w q C4 e es (by rw [hr.length]; exact hb)) (wa_close (hr.pop (Hp.ahd_ord ltW_ord)) fun y hy=>hn y (List.mem_cons_of_mem _ hy))
theorem new_w:Spec Tryz.prog 277 [.slice none 0 0] [] (fun v L=>∃ q,v=.pointer (some ⟨q,0,none⟩)∧L=[wa q [] 0]):=by
 refine Spec.of 19 Tryz.func277 rfl rfl rfl ?_
 refine A0 (As [0] rfl rfl (A0 (Ac (Bo (qs:=[]) rfl) (Aw (Bi rfl rfl) (fun b7=>?_)))))
 refine As [0,3] rfl rfl (Ae (Ae (AP (wraw_nil (C4:=0)) ?_)))
 refine AP (wa_close Hp.Rep.nil (by simp)) ?_
 refine Al (Ad rfl (Ac (BI rfl) (Ad rfl (AE [3,8,9,10] rfl (Au ?_)))))
 refine B0 (ι:=Unit) (fun _ env L=>env=[(3,_),(8,_),(9,.int .i64 0),(10,.int .i64 0)]∧L=[wa _ [] 0]) (fun _=>0) () ⟨rfl,rfl⟩ ?_
 rintro _ env L ⟨rfl,rfl⟩
 refine A0 (Ac (Bb rfl rfl) (AE [3,8,9,10,11] rfl (Ae (Dz rfl (AY (AS (AS (AV rfl (Af (A0 (Ad rfl (As [2] rfl rfl (Ar ?_)))))))))))))
 exact Aq _ (.tmp rfl .nil) ⟨_,rfl,rfl⟩ AC
end SX.Wq
namespace SX.Wq
open Go Go.Proofs SX

theorem ins_fst{x nx:Nat}:∀ {S:List (WI×Nat)} {Q:List Nat},S.map (·.1)=Q.map (fun k:Nat=>(k:Int))→x∉Q→(Hp.ins aW ((x:Int),nx) S).map (·.1)=(F8 x Q).map (fun k:Nat=>(k:Int))
 | [],[],_,_=>rfl
 | [],_::_,h,_=>by simp at h
 | _::_,[],h,_=>by simp at h
 | s::S,q::Q,h,hx=>by
  rw [List.map_cons,List.map_cons,List.cons.injEq] at h
  obtain ⟨h1,h2⟩:=h
  have hne:x≠q:=fun e=>hx (by rw [e]; exact List.mem_cons_self ..)
  have hA:aW ((x:Int),nx) s=decide (q<x):=by
   unfold aW Hp.ahd ltW
   rw [h1,Bool.eq_iff_iff]
   simp only [Bool.or_eq_true,Bool.and_eq_true,Bool.not_eq_true',decide_eq_true_eq,decide_eq_false_iff_not]
   show (@LT.lt Int _ q x∨_)↔_
   have e1:(@LT.lt Int _ q x)↔q<x:=by omega
   have e2:(@LT.lt Int _ x q)↔x<q:=by omega
   constructor
   ·rintro (h | ⟨h,_⟩)
    ·exact e1.1 h
    ·have h':¬ @LT.lt Int _ (x:Int) (q:Int):=h
     omega
   ·exact fun h=>.inl (e1.2 h)
  unfold Hp.ins F8
  rw [hA]
  by_cases hq:q<x
  ·rw [if_pos (decide_eq_true hq),if_pos hq,List.map_cons,List.map_cons,h1,h2]; rfl
  ·rw [if_neg (by rw [decide_eq_false hq]; simp),if_neg hq,List.map_cons,List.map_cons,h1,ins_fst h2 (fun hm=>hx (List.mem_cons_of_mem _ hm))]
def cq (q:Nat)(Q:List Nat)(nx:Nat):AF:=exA (fun S : {S:List (WI×Nat) // S.map (·.1)=Q.map (fun k:Nat=>(k:Int))}=>[wa q S.1 nx])
theorem cq_close{q nx:Nat}{S:List (WI×Nat)}{Q:List Nat}{L:List AF}(h:S.map (·.1)=Q.map (fun k:Nat=>(k:Int))):Ent (wa q S nx::L) (cq q Q nx::L) :=
 Fg (F:=fun S : {S:List (WI×Nat) // S.map (·.1)=Q.map (fun k:Nat=>(k:Int))}=>[wa q S.1 nx]) ⟨S,h⟩ AC
theorem len_fst{S:List (WI×Nat)}{Q:List Nat}(h:S.map (·.1)=Q.map (fun k:Nat=>(k:Int))):S.length=Q.length:=by have:=congrArg List.length h; rwa [List.length_map,List.length_map] at this
theorem push_q(q:Nat)(Q:List Nat)(nx x:Nat)(hx:x∉Q)(hb1:Q.length≤1099511627776)(hb2:nx≤18446744073709551614) :
  Spec Tryz.prog 280 [.pointer (some ⟨q,0,none⟩),.int .i64 (x:Nat)] [cq q Q nx] (fun v L=>v=.tuple #[]∧L=[cq q (F8 x Q) (nx+1)]):=by
 refine Spec.exA' fun ⟨S,hS⟩=>?_
 exact Spec.ent2 (push_a q S nx (x:Int) (by rw [len_fst hS]; exact hb1) hb2) (cq_close (ins_fst hS hx))
theorem pop_q0(q nx:Nat):Spec Tryz.prog 197 [.pointer (some ⟨q,0,none⟩)] [cq q [] nx] (fun v L=>v=.tuple #[.int .i64 0,.bool false]∧L=[cq q [] nx]):=by
 refine Spec.exA' fun ⟨S,hS⟩=>?_
 have he:S=[]:=List.eq_nil_of_length_eq_zero (by rw [len_fst hS]; rfl)
 subst he
 exact Spec.ent2 (pop_a0 q nx) (cq_close rfl)
theorem pop_q(q nx c:Nat)(Q:List Nat)(hb:(c::Q).length≤1099511627776):Spec Tryz.prog 197 [.pointer (some ⟨q,0,none⟩)] [cq q (c::Q) nx] (fun v L=>v=.tuple #[.int .i64 (c:Nat),.bool true]∧L=[cq q Q nx]):=by
 refine Spec.exA' fun ⟨S,hS⟩=>?_
 cases S with
 | nil=>simp at hS
 | cons s S =>
  rw [List.map_cons,List.map_cons,List.cons.injEq] at hS
  have h:=pop_a q nx s S (by have:=len_fst hS.2; simp only [List.length_cons] at hb ⊢; omega)
  rw [hS.1] at h
  exact Spec.ent2 h (cq_close hS.2)
theorem new_q:Spec Tryz.prog 277 [.slice none 0 0] [] (fun v L=>∃ q,v=.pointer (some ⟨q,0,none⟩)∧L=[cq q [] 0]) :=
 Spec.ent3 new_w fun v L ⟨q,hv,hL⟩=>⟨_,by rw [hL]; exact cq_close rfl,q,hv,rfl⟩
end SX.Wq
namespace SX
open Go Go.Proofs Go.Proofs.Tryz

def Gu (gs:List Int)(c:Int):Int:=if 0≤c then gs.getD c.toNat 1024 else 1024

structure Src where
 t:TypeId
 v:Value
 d:Nat
 hd:d≤7
 g:List (List Int)
 hg:Fo g
 hn:g.length≤65536
 σ:Type
 A:σ→PH→AF
 mono:∀ {s μ μ'},Le μ μ'→Ent [A s μ] [A s μ']
 ok:σ→Nat→Prop
 step:σ→Nat→σ
 μ0:PH
 commits : ∀ s μ, InvS prog d t v "Commits" [] [A s μ] (fun r L => r = .int .i64 (g.length : Nat) ∧ L = [A s μ])
 parents : ∀ s μ (c : Nat), Le μ0 μ → c < g.length → ok s c → InvS prog d t v "Parents" [.int .i64 (c : Nat)] [A s μ, ro μ] (fun r L => ∃ μ', Le μ μ' ∧ Row μ' r 1 (BU g c).length ((BU g c).flatMap (Bj .i64)) ∧ L = [A (step s c) μ', ro μ'])
abbrev Src.n(X:Src):Nat:=X.g.length
abbrev Src.sv(X:Src):Value:=.iface X.t X.v
theorem Src.up{X:Src}{s:X.σ}{μ μ':PH}{L R:List AF}(h:Le μ μ')(hL:Split L [X.A s μ] R):Ent L (X.A s μ'::R):=hL.ent.trans (Ent.app (X.mono h))
theorem I0 (X:Src)(s:X.σ)(μ:PH):Spec prog 203 [X.sv] [X.A s μ] (fun r L=>r=.int .i64 (X.n:Nat)∧L=[X.A s μ]):=by
 have hn:=X.hn
 refine Spec.of 7 func203 rfl rfl rfl ?_
 refine A0 (As [0] rfl rfl (A0 (Ad rfl ?_)))
 refine Aw (DU rfl X.hd (X.commits s μ) rfl AC) ?_
 rintro v4 L1 ⟨rfl,rfl⟩
 refine Aj (Ac (FC rfl rfl) (Ac (Ep rfl rfl) (As [2] rfl rfl (Ar ?_))))
 exact Aq [X.A s μ] (.tmp rfl .nil) ⟨by show Value.int .i64 _=_; rw [show min (max (X.g.length:Int) 0) 65536=(X.g.length:Int) by omega],rfl⟩ AC
theorem Us (p n:Nat)(S:Nat→Bool)(k:Int):Spec prog 204 [.pointer (some ⟨p,0,none⟩),.int .i64 k] [CN p n S] (fun r L=>r=.bool (PP n S k)∧L=[CN p n (KH n S k)]):=A20 p n S k
abbrev P3 (w sp q:Nat)(sv:Value):AF:=B1 w 313 [sv,.pointer (some ⟨sp,0,none⟩),.pointer (some ⟨q,0,none⟩)]
set_option maxHeartbeats 1000000 in
theorem NH (w sp q n:Nat)(sv v:Value)(s:Wk)(xs:List Int)(A:AF)(hn:n≤65536)(hx:Ints prog 3 [A] v xs)(hs:WkOk n s) :
  Spec prog 199 [.pointer (some ⟨w,0,none⟩),v] [P3 w sp q sv,CN sp n s.1,Wq.cq q s.2 (CE n s.1),A] (fun r L=>r=.tuple #[]∧WkOk n (addAll n s xs)∧L=[P3 w sp q sv,CN sp n (addAll n s xs).1,Wq.cq q (addAll n s xs).2 (CE n (addAll n s xs).1),A]):=by
 have key:∀ s':Wk,Ints prog 3 [P3 w sp q sv,CN sp n s'.1,Wq.cq q s'.2 (CE n s'.1),A] v xs:=fun s'=>hx.weak.weak.weak
 obtain ⟨V,cv,rfl,hlv,_⟩:=hx
 refine Spec.of 25 func199 rfl rfl rfl ?_
 refine A0 (Ad rfl (Ac (BI rfl) (Ad rfl (AE [0,6,7,8] rfl (Au ?_)))))
 refine B0 (ι:=Nat) (fun i env L=>env=[(0,.pointer (some ⟨w,0,none⟩)),(6,.slice V xs.length cv),(7,.int .i64 (xs.length:Nat)),(8,.int .i64 (i:Nat))]∧L=[P3 w sp q sv,CN sp n (addAll n s (xs.take i)).1,Wq.cq q (addAll n s (xs.take i)).2 (CE n (addAll n s (xs.take i)).1),A]∧i≤xs.length∧WkOk n (addAll n s (xs.take i))) (fun i=>xs.length-i) 0 ⟨rfl,rfl,Nat.zero_le _,hs⟩ ?_
 rintro i env L ⟨rfl,rfl,hi,hok⟩
 refine A0 (Ac (Bb rfl rfl) (AE [0,6,7,8,9] rfl (Ae ?_)))
 refine Ak rfl (fun h9=>?_) (fun h9=>?_)
 ·have h9':i<xs.length:=by have:=of_decide_eq_true h9; omega
  obtain ⟨c,hc⟩:∃ c,xs[i]? = some c:=⟨_,List.getElem?_eq_getElem h9'⟩
  have hsu:=QS (n:=n) (s:=s) hc
  have key':=key (addAll n s (xs.take i))
  generalize addAll n s (xs.take i)=si at *
  obtain ⟨V',cv',hve,_,hld⟩:=key'
  obtain ⟨vb,vo,hV,hxl⟩:=hld Ax
  injection hve with e1 e2 e3
  subst e1 e3 hV
  refine Am (Af (Ae (Au (A0 ?_))))
  refine Ac (AB (vo+i*1) rfl rfl Ax Ax (by rw [Int.toNat_natCast])) ?_
  refine AJ (Dt rfl (by rw [Nat.mul_one]; exact hxl i c hc)) ?_
  refine As [0,5,6,7,8] rfl rfl (A0 (Ad rfl (Ac (Ah rfl) (Ac (Ab rfl) (AJ (Ag rfl rfl) (Ad rfl ?_))))))
  refine Aw (AA (Us sp n si.1 c) rfl rfl AC) ?_
  rintro v17 L1 ⟨rfl,rfl⟩
  refine Aj (AE [0,5,6,7,8,17] rfl ?_)
  refine Ak rfl (fun h17=>?_) (fun h17=>?_)
  ·obtain ⟨k,rfl,hk,hkq,a1,a2,a3,a4⟩:=Y9 h17 hok
   have hql:=Ed hok.falls hok.lt
   have hsl:=QU n si.1
   refine Al (Ad rfl (Ac (Ah rfl) (Ac (Ab rfl) (AJ (Ag rfl rfl) (Ad rfl ?_)))))
   refine Aw (AA (Wq.push_q q si.2 (CE n si.1) k hkq Ax Ax) rfl rfl AC) ?_
   rintro v23 L1 ⟨rfl,rfl⟩
   refine Aj (Be [0,6,7,8] rfl (AH (AR (Af (Al ?_)))))
   refine BK (Split.ent' (K:=[P3 w sp q sv,CN sp n (KH n si.1 (k:Int)),Wq.cq q (F8 k si.2) (CE n si.1+1),A]) AC) ?_
   refine Ac (AO ((i+1:Nat):Int) rfl rfl Ax Ax Ax) (Ad rfl (Be [0,6,7,8] rfl (AH ?_)))
   refine Af ⟨i+1,⟨rfl,?_,h9',by rw [hsu]; exact a4⟩,by omega⟩
   rw [hsu,a1,a2,a3]
  ·obtain ⟨a1,a2⟩:=Ya h17
   refine Am (AR (Af (Al ?_)))
   refine BK (Split.ent' (K:=[P3 w sp q sv,CN sp n (KH n si.1 c),Wq.cq q si.2 (CE n si.1),A]) AC) ?_
   refine Ac (AO ((i+1:Nat):Int) rfl rfl Ax Ax Ax) (Ad rfl (Be [0,6,7,8] rfl (AH ?_)))
   refine Af ⟨i+1,⟨rfl,?_,h9',by rw [hsu,a1]; exact hok⟩,by omega⟩
   rw [hsu,a1,a2]
 ·have h9':=of_decide_eq_false h9
  obtain rfl:i=xs.length:=by omega
  rw [List.take_length] at *
  refine AY (AS (AS (AV rfl ?_)))
  exact Co _ .nil ⟨rfl,hok,rfl⟩ Split.all
theorem KZ {n:Nat}(h:n≤65536):IH (n:Int)=n:=by unfold IH; omega
theorem WkOk.start(n:Nat):WkOk n (fun _=>false,[]):=⟨.nil,fun _ h=>(by cases h),fun _ h=>(by cases h)⟩
theorem NI (n:Nat):CE n (fun _=>false)=0:=by unfold CE; rw [List.filter_eq_nil_iff.2 (fun _ _ h=>by cases h)]; rfl
abbrev Ut:Wk:=(fun _=>false,[])
theorem II (X:Src)(s:X.σ)(μ:PH)(v:Value)(xs:List Int)(B:AF)(hx:Ints prog 3 [B] v xs) :
  Spec prog 196 [X.sv,v] [X.A s μ,B] (fun r L=>∃ w sp q,r=.pointer (some ⟨w,0,none⟩)∧WkOk X.n (addAll X.n Ut xs)∧L=[P3 w sp q X.sv,CN sp X.n (addAll X.n Ut xs).1,Wq.cq q (addAll X.n Ut xs).2 (CE X.n (addAll X.n Ut xs).1),X.A s μ,B]):=by
 have hn:=X.hn
 refine Spec.of 17 func196 rfl rfl rfl ?_
 refine A0 (As [0,1] rfl rfl (A0 (Ad rfl (Ad rfl ?_))))
 refine Aw (AA (I0 X s μ) rfl rfl AC) ?_
 rintro v8 L1 ⟨rfl,rfl⟩
 refine Aj ?_
 refine Aw (AA (Ur (X.n:Nat)) rfl rfl AC) ?_
 rintro v9 L1 ⟨sp,rfl,rfl⟩
 refine Aj ?_
 refine Aw (AA Wq.new_q rfl rfl AC) ?_
 rintro v10 L1 ⟨q,rfl,rfl⟩
 refine Aj (Ac (Bo (qs:=[(0,_),(1,_),(2,_)]) rfl) (Aw (Bi rfl rfl) (fun b12=>?_)))
 refine As [1,5] rfl rfl (Ae ?_)
 rw [KZ hn,show Wq.cq q [] 0=Wq.cq q [] (CE X.n (fun _=>false)) by rw [NI]]
 refine Al (Ad rfl (Ad rfl ?_))
 refine Aw (AA (NH b12 sp q X.n X.sv v Ut xs B hn hx (WkOk.start _)) rfl rfl AC) ?_
 rintro v15 L1 ⟨rfl,hok,rfl⟩
 refine Aj (AE [5] rfl (A0 (Ad rfl (As [4] rfl rfl (Ar ?_)))))
 exact Aq [P3 b12 sp q X.sv,CN sp X.n (addAll X.n Ut xs).1,Wq.cq q (addAll X.n Ut xs).2 (CE X.n (addAll X.n Ut xs).1),X.A s μ,B] (.tmp rfl .nil) ⟨b12,sp,q,rfl,hok,rfl⟩ AC
instance:TIface prog 304:=⟨⟨_,underlying304⟩⟩

theorem M3 (q nx:Nat)(Q:List Nat)(hb:Q.length≤1099511627776):Spec prog 197 [.pointer (some ⟨q,0,none⟩)] [Wq.cq q Q nx] (fun v L=>v=.tuple #[.int .i64 (Q.headD 0:Nat),.bool (!Q.isEmpty)]∧L=[Wq.cq q Q.tail nx]):=by
 cases Q with
 | nil=>exact Wq.pop_q0 q nx
 | cons c Q=>exact Wq.pop_q q nx c Q hb
def Src.at_(X:Src)(s0:X.σ)(μ:PH)(ys:List Nat):AF:=exA fun m : {m:PH // Le μ m}=>[X.A (ys.foldl X.step s0) m.1,ro m.1]
theorem Src.at_close{X:Src}{s0:X.σ}{μ m:PH}{ys:List Nat}{L:List AF}(h:Le μ m):Ent (X.A (ys.foldl X.step s0) m::ro m::L) (X.at_ s0 μ ys::L) :=
 Fg (F:=fun m : {m:PH // Le μ m}=>[X.A (ys.foldl X.step s0) m.1,ro m.1]) ⟨m,h⟩ AC
set_option maxHeartbeats 2000000 in
theorem WK (X:Src)(s0:X.σ)(μ:PH)(b1 b2:Nat)(v:Value)(xs:List Int)(h1:CellAt μ b1 0 X.sv)(h2:CellAt μ b2 0 v)(hv:Row μ v 1 xs.length (xs.flatMap (Bj .i64)))(h0:Le X.μ0 μ)
  (hok:∀ pre x post,DE X.g xs=pre++x::post→X.ok (pre.foldl X.step s0) x) :
  A0L prog 343 [.pointer (some ⟨b1,0,none⟩),.pointer (some ⟨b2,0,none⟩)] (fun x:Nat=>[.int .i64 (x:Nat)]) (fun pre x=>∃ post,DE X.g xs=pre++x::post) (fun ys=>ys=DE X.g xs)
   [X.A s0 μ,ro μ] (fun pre _=>X.at_ s0 μ pre) (fun pre _=>X.at_ s0 μ pre) (fun ys=>X.at_ s0 μ ys):=by
 intro l I Z R h0' hy
 obtain ⟨kI,kN⟩:=MZ (n:=X.g.length) xs
 have hn:=X.hn
 refine Spec.of 38 func343 rfl rfl rfl ?_
 refine AP (L':=[X.A s0 μ,ro μ,R]) (Ent.refl _) (Ae (A0 (AJ (C3 rfl h1) (Ac (FZ rfl rfl) (AE [0,1,2,8] rfl (Dz rfl (Am (Af (A0 (AJ (C3 rfl h1) (AJ (C3 rfl h2) ?_)))))))))))
 refine Aw (AA (II X s0 μ v xs (ro μ) (Ints.row hv)) rfl rfl AC) ?_
 rintro v11 L1 ⟨w,sp,q,rfl,ok0,rfl⟩
 refine Aj (As [0,1,4] rfl rfl (Ae ?_))
 have hq0:=Ed ok0.falls ok0.lt
 have kD:DE X.g xs=[]++Hk (BU X.g) X.g.length X.g.length (addAll X.n Ut xs):=rfl
 have kI':WkI X.g.length X.g.length (addAll X.n Ut xs):=kI
 generalize addAll X.n Ut xs=st0 at *
 refine Al (Ad rfl (Ac (Ah rfl) (Ac (Ab rfl) (AJ (Ag rfl rfl) ?_))))
 refine Aw (AA (M3 q (CE X.n st0.1) st0.2 (by show _≤_; have:X.n=X.g.length:=rfl; omega)) rfl rfl AC) ?_
 rintro v17 L1 ⟨rfl,rfl⟩
 refine Aj (Ad rfl (Ac (Ai rfl) (Ac (Ai rfl) (AX rfl (As [0,1,4,5,6] rfl rfl (Au ?_))))))
 refine AP (Split.ent' (K:=[P3 w sp q X.sv,CN sp X.n st0.1,Wq.cq q st0.2.tail (CE X.n st0.1),X.A s0 μ,ro μ,R]) AC) ?_
 refine AP ((Ent.cons (Ent.cons (Ent.cons (Ent.cons (Ent.cons h0')))))) ?_
 refine B0 (ι:=Nat×PH×List Nat×Wk) (fun k env L=>env=[(0,yv l),(1,.pointer (some ⟨b1,0,none⟩)),(4,.pointer (some ⟨w,0,none⟩)),(5,.int .i64 (k.2.2.2.2.headD 0:Nat)),(6,.bool (!k.2.2.2.2.isEmpty))]
  ∧ L=[P3 w sp q X.sv,CN sp X.n k.2.2.2.1,Wq.cq q k.2.2.2.2.tail (CE X.n k.2.2.2.1),X.A (k.2.2.1.foldl X.step s0) k.2.1,ro k.2.1,I k.2.2.1]
  ∧ DE X.g xs=k.2.2.1++Hk (BU X.g) X.g.length k.1 k.2.2.2∧(∃ m,WkI X.g.length m k.2.2.2∧m≤k.1∧m≤X.g.length)∧WkOk X.n k.2.2.2∧Le μ k.2.1) (fun k=>k.1) (X.g.length,μ,[],st0) ⟨rfl,rfl,kD,⟨_,kI',Nat.le_refl _,Nat.le_refl _⟩,ok0,Le.refl _⟩ ?_
 rintro ⟨f,μ1,pre,S,Q⟩ env L ⟨rfl,rfl,hD,⟨m,hI,hmf,hmn⟩,hokk,hle⟩
 dsimp only at hD hI hmf hmn hokk hle ⊢
 refine Ae (A0 (Ad rfl (AE [0,1,4,5,20] rfl ?_)))
 refine Ak rfl (fun h20=>?_) (fun h20=>?_)
 ·obtain ⟨c,Q,rfl⟩:∃ c Q',Q=c::Q':=by
   cases Q with
   | nil=>cases h20
   | cons c Q=>exact ⟨c,Q,rfl⟩
  have hcm:c<m:=hI.lt c (List.mem_cons_self ..)
  obtain ⟨f,rfl⟩:∃ f',f=f'+1:=⟨f-1,by omega⟩
  rw [OH] at hD
  have hrow:∀ p∈BU X.g c,0≤p∧p<c:=fun p hp=>⟨(CD X.hg hp).1,(CD X.hg hp).2.1⟩
  obtain ⟨hI2,_,_⟩:=hI.pop.addAll hrow Ax
  simp only [List.tail_cons,List.headD_cons]
  refine AP (Split.ent' (K:=[X.A (pre.foldl X.step s0) μ1,ro μ1,I pre,P3 w sp q X.sv,CN sp X.n S,Wq.cq q Q (CE X.n S)]) AC) ?_
  refine AP (Src.at_close hle) (Am (Af (Ae (Au (Ae (A0 (Ad rfl (Ad rfl ?_))))))))
  refine Aw (Qt (hy pre c ⟨_,hD⟩) rfl rfl AC) ?_
  rintro v1 L1 (⟨rfl,rfl⟩ | ⟨rfl,rfl⟩)
  ·refine Aj (Ac (BO rfl) (AE [0,1,4,5,32] rfl ?_))
   refine Ak rfl (fun h32=>by cases h32) (fun h32=>?_)
   refine Am (Af ?_)
   refine AP (Split.ent' (K:=[X.at_ s0 μ pre,I (pre++[c]),P3 w sp q X.sv,CN sp X.n S,Wq.cq q Q (CE X.n S)]) AC) ?_
   refine EQ fun ⟨μ2,hμ2⟩=>?_
   simp only [List.cons_append,List.nil_append]
   have hok2:WkOk X.n (S,Q):=⟨(List.pairwise_cons.1 hokk.falls).2,fun k hk=>hokk.lt k (List.mem_cons_of_mem _ hk),fun k hk=>hokk.sub k (List.mem_cons_of_mem _ hk)⟩
   refine Al (Ad rfl (AJ (C3 rfl (h1.le hμ2)) (Ad rfl ?_)))
   refine Aw (DU rfl X.hd (X.parents (pre.foldl X.step s0) μ2 c (h0.trans hμ2) Ax (hok pre c _ hD)) rfl AC) ?_
   rintro v36 L1 ⟨μ3,hμ3,hr,rfl⟩
   refine Aj ?_
   refine Aw (AA (NH w sp q X.n X.sv v36 (S,Q) (BU X.g c) (ro μ3) hn (Ints.row hr) hok2) rfl rfl AC) ?_
   rintro v37 L1 ⟨rfl,hok3,rfl⟩
   refine Aj (Be [0,1,4] rfl (AH (AR (Af ?_))))
   have hq3:=Ed hok3.falls hok3.lt
   have hI3:WkI X.g.length c (addAll X.n (S,Q) (BU X.g c)):=hI2
   have hD3:DE X.g xs=(pre++[c])++Hk (BU X.g) X.g.length f (addAll X.n (S,Q) (BU X.g c)):=by rw [hD,List.append_assoc]; rfl
   generalize addAll X.n (S,Q) (BU X.g c)=st at *
   refine Al (Ad rfl (Ac (Ah rfl) (Ac (Ab rfl) (AJ (Ag rfl rfl) ?_))))
   refine Aw (AA (M3 q (CE X.n st.1) st.2 (by have:X.n=X.g.length:=rfl; omega)) rfl rfl AC) ?_
   rintro v26 L1 ⟨rfl,rfl⟩
   refine Aj (Ad rfl (Ac (Ai rfl) (Ac (Ai rfl) (AX rfl (AX rfl (Be [0,1,4,5,6] rfl ?_))))))
   refine BK (Split.ent' (K:=[P3 w sp q X.sv,CN sp X.n st.1,Wq.cq q st.2.tail (CE X.n st.1),X.A (X.step (pre.foldl X.step s0) c) μ3,ro μ3,I (pre++[c])]) AC) ?_
   refine AH ?_
   refine Af ⟨(f,μ3,pre++[c],st),⟨rfl,?_,hD3,⟨c,hI3,by show c≤f; omega,by omega⟩,hok3,hμ2.trans hμ3⟩,Nat.lt_succ_self f⟩
   rw [List.foldl_append]; rfl
  ·refine Aj (Ac (BO rfl) (AE [0,1,4,5,32] rfl ?_))
   refine Ak rfl (fun h32=>?_) (fun h32=>by cases h32)
   refine Ar (AN (B6 (AN (AN (B6 ?_)))))
   exact Aq [Z] .nil (.inr rfl) AC
 ·obtain rfl:Q=[]:=by
   cases Q with
   | nil=>rfl
   | cons c Q=>cases h20
  rw [V8,List.append_nil] at hD
  refine AP (Split.ent' (K:=[X.A (pre.foldl X.step s0) μ1,ro μ1,I pre]) AC) ?_
  refine AP (Src.at_close hle) (AY (AS (AS (AV rfl ?_))))
  exact Co [I pre,X.at_ s0 μ pre] .nil (.inl ⟨pre,hD.symm,rfl⟩) AC

def Cu (n:Nat)(ls:List (List Int)):Int:=if (ls.all fun l=>l.all (O2 n))=true then 0 else 9
set_option maxHeartbeats 1000000 in
theorem NJ (X:Src)(s:X.σ)(μ:PH)(lv:Value)(G:List (Value×List Int))(hG:Graph μ lv G):Spec prog 195 [X.sv,lv] [X.A s μ,ro μ] (fun r L=>r=.int .i64 (Cu X.n (EI G))∧L=[X.A s μ,ro μ]):=by
 have hsm:=hG.1.small
 refine Spec.of 35 func195 rfl rfl rfl ?_
 refine A0 (As [0,1] rfl rfl (Ae (A0 (Ad rfl (Ac (FZ rfl rfl) (AE [0,1,11] rfl (Dz rfl (Am (Af (A0 (Ad rfl ?_)))))))))))
 refine Aw (AA (I0 X s μ) rfl rfl AC) ?_
 rintro v13 L1 ⟨rfl,rfl⟩
 refine Aj (As [1,5] rfl rfl (Ae (A0 (Ad rfl (Ac (B2 hG.1 rfl) (Ad rfl (AE [5,14,15,16] rfl (Au ?_))))))))
 refine B0 (ι:=Nat) (fun i env L=>env=[(5,.int .i64 (X.n:Nat)),(14,lv),(15,.int .i64 (G.length:Nat)),(16,.int .i64 (i:Nat))]∧L=[X.A s μ,ro μ]∧i≤G.length∧((EI G).take i).all (fun l=>l.all (O2 X.n))=true) (fun i=>G.length-i) 0 ⟨rfl,rfl,Nat.zero_le _,rfl⟩ ?_
 rintro i env L ⟨rfl,rfl,hi,hall⟩
 refine A0 (Ac (Bb rfl rfl) (AE [5,14,15,16,17] rfl (Ae ?_)))
 refine Ak rfl (fun h17=>?_) (fun h17=>?_)
 ·have h17':i<G.length:=by have:=of_decide_eq_true h17; omega
  obtain ⟨gb,off,cap,x,hv,hx,hxc,hxr,hnx⟩:=Z1 hG h17'
  have hsx:=hxr.small
  refine Am (Af (Ae (Au (A0 ?_))))
  refine Ac (AB (off+i*1) (congrArg some hv) rfl Ax Ax (by rw [Int.toNat_natCast])) ?_
  refine AJ (C3 rfl hxc) (As [5,7,14,15,16] rfl rfl (A0 (Ad rfl (Ac (B2 hxr rfl) (Ad rfl (AE [5,14,15,16,20,21,22] rfl (Au ?_)))))))
  refine B0 (ι:=Nat) (fun j env L=>env=[(5,.int .i64 (X.n:Nat)),(14,lv),(15,.int .i64 (G.length:Nat)),(16,.int .i64 (i:Nat)),(20,x.1),(21,.int .i64 (x.2.length:Nat)),(22,.int .i64 (j:Nat))]∧L=[X.A s μ,ro μ]∧j≤x.2.length∧(x.2.take j).all (O2 X.n)=true) (fun j=>x.2.length-j) 0 ⟨rfl,rfl,Nat.zero_le _,rfl⟩ ?_
  rintro j env L ⟨rfl,rfl,hj,hin⟩
  refine A0 (Ac (Bb rfl rfl) (AE [5,14,15,16,20,21,22,23] rfl (Ae ?_)))
  refine Ak rfl (fun h23=>?_) (fun h23=>?_)
  ·have h23':j<x.2.length:=by have:=of_decide_eq_true h23; omega
   obtain ⟨c,hc⟩:∃ c,x.2[j]? = some c:=⟨_,List.getElem?_eq_getElem h23'⟩
   obtain ⟨pb,po,pc,hpv,hpc⟩:=hxr.at_ hc
   have hbad:O2 X.n c=false→(EI G).all (fun l=>l.all (O2 X.n))=false:=fun h=>by
    rw [List.all_eq_false]
    refine ⟨x.2,List.mem_of_getElem? hnx,?_⟩
    rw [List.all_eq_true]
    intro h2
    rw [h2 c (List.mem_of_getElem? hc)] at h; cases h
   refine Am (Af (Ae (Au (A0 ?_))))
   refine Ac (AB (po+j*1) (congrArg some hpv) rfl Ax Ax (by rw [Int.toNat_natCast])) ?_
   refine AJ (C3 rfl hpc) (As [5,9,14,15,16,20,21,22] rfl rfl (A0 (Ad rfl (Ac (Bb rfl rfl) (Ad rfl ?_)))))
   refine B7 28 rfl (fun h28=>?_) (fun h28=>?_)
   ·refine AI rfl rfl rfl (AI rfl rfl rfl (AI rfl rfl rfl (Ac (B4 rfl rfl) (AE [5,14,15,16,20,21,22,32] rfl ?_))))
    refine Ak rfl (fun h32=>?_) (fun h32=>by cases h32)
    refine A0 (As [4] rfl rfl (Ar (B6 (AN (AN (B6 (B6 (AN (AN (B6 (AN ?_)))))))))))
    have h28':=of_decide_eq_true h28
    refine Aq [X.A s μ,ro μ] (.tmp rfl .nil) ⟨?_,rfl⟩ AC
    unfold Cu
    rw [if_neg (by rw [hbad (by unfold O2; rw [decide_eq_false Ax]; rfl)]; exact Bool.false_ne_true)]; rfl
   ·refine AQ rfl rfl (Ad rfl (AQ rfl rfl (Ad rfl (AQ rfl rfl (Ac (CA rfl rfl) (Ac (AT rfl rfl) (AE [5,14,15,16,20,21,22,32] rfl ?_)))))))
    refine Ak rfl (fun h32=>?_) (fun h32=>?_)
    ·refine A0 (As [4] rfl rfl (Ar (B6 (AN (AN (B6 (B6 (AN (AN (B6 (AN ?_)))))))))))
     have h32':=of_decide_eq_true h32
     refine Aq [X.A s μ,ro μ] (.tmp rfl .nil) ⟨?_,rfl⟩ AC
     unfold Cu
     rw [if_neg (by rw [hbad (by unfold O2; rw [decide_eq_false (p:=c<(X.n:Int)) Ax,Bool.and_false])]; exact Bool.false_ne_true)]; rfl
    ·refine Am (AR (Af (Al (Ac (AO ((j+1:Nat):Int) rfl rfl Ax Ax Ax) (Ad rfl (Be [5,14,15,16,20,21,22] rfl (AH ?_)))))))
     have h28':=of_decide_eq_false h28
     have h32':=of_decide_eq_false h32
     refine Af ⟨j+1,⟨rfl,rfl,h23',?_⟩,by omega⟩
     rw [List.take_add_one,hc,List.all_append,hin]
     show (true&&([c].all _))=true
     simp only [List.all_cons,List.all_nil,Bool.and_true,Bool.true_and]
     unfold O2
     rw [decide_eq_true (show 0≤c by omega),decide_eq_true (show c<(X.n:Int) by omega)]; rfl
  ·have h23':=of_decide_eq_false h23
   obtain rfl:j=x.2.length:=by omega
   rw [List.take_length] at hin
   refine AY (AS (AS (AV rfl (AR (Af (Al (Ac (AO ((i+1:Nat):Int) rfl rfl Ax Ax Ax) (Ad rfl (Be [5,14,15,16] rfl (AH ?_))))))))))
   refine Af ⟨i+1,⟨rfl,rfl,h17',?_⟩,by omega⟩
   rw [List.take_add_one,hnx,List.all_append,hall]
   show (true&&([x.2].all _))=true
   simp only [List.all_cons,List.all_nil,Bool.and_true,Bool.true_and]
   exact hin
 ·have h17':=of_decide_eq_false h17
  obtain rfl:i=G.length:=by omega
  refine AY (AS (AS (AV rfl (Af (A0 (As [4] rfl rfl (Ar ?_)))))))
  refine Aq [X.A s μ,ro μ] (.tmp rfl .nil) ⟨?_,rfl⟩ AC
  rw [List.take_of_length_le (by rw [List.length_map]; exact Nat.le_refl _)] at hall
  unfold Cu
  rw [if_pos hall]; rfl
theorem WL (sv:Value)(μ:PH)(v:Value)(xs:List Int)(hv:Row μ v 1 xs.length (xs.flatMap (Bj .i64)))(hl:xs.length≤1048576)(t:Nat)(u:Value)(hsv:sv=.iface t u) :
  Spec prog 281 [sv,v] [ro μ] (fun r L=>∃ μ' b1 b2 v',r=.func (.func 343) #[] #[.pointer (some ⟨b1,0,none⟩),.pointer (some ⟨b2,0,none⟩)]∧Le μ μ'∧CellAt μ' b1 0 sv∧CellAt μ' b2 0 v'∧Row μ' v' 1 xs.length (xs.flatMap (Bj .i64))∧L=[ro μ']):=by
 subst hsv
 obtain ⟨A,cap,rfl⟩:=hv.sl
 refine Spec.of 9 func281 rfl rfl rfl ?_
 refine A0 (Aw (Bi rfl rfl) (fun b2=>?_))
 refine Aw (Bi rfl rfl) fun b3=>?_
 refine As [2,3] rfl rfl (A0 (Aw (Bg (qs:=[]) rfl rfl rfl) (fun b5=>?_)))
 refine BK (G6 (e:=3) (n:=1)) (AJ (Ag rfl rfl) ?_)
 refine Aw (D8 hv rfl rfl AC (QD _) (by simp only [maxLen]; omega) Ax) ?_
 rintro v7 -
 rw [Nat.zero_add,List.nil_append]
 refine Cv (fun m h=>Bz h) fun ⟨A7,cap7,hA7⟩=>?_
 subst hA7
 refine B5 (AW rfl rfl rfl) (AE [2,3] rfl (Ae ?_))
 refine BC (μ:=μ) AC fun μ1 h1 r1=>?_
 refine Oc (b:=b2) (μ:=μ1) AC fun μ2 h2 k2=>?_
 refine Oc (b:=b3) (μ:=μ2) AC fun μ3 h3 k3=>?_
 refine Al (Ac (C9 (vs:=[]) (us:=[_,_]) rfl rfl) (As [4] rfl rfl (Ar ?_)))
 exact Aq [ro μ3] (.tmp rfl .nil) ⟨μ3,b2,b3,_,rfl,h1.trans (h2.trans h3),⟨_,_,_,h3 _ _ k2,rfl⟩,⟨_,_,_,k3,rfl⟩,r1.le (h2.trans h3),rfl⟩ AC

theorem A0s{n x:Nat}{pre:List Nat}(hx:x<n):KH n (fun j=>decide (j∈pre)) (x:Int)=fun j=>decide (j∈pre++[x]):=by
 funext j
 unfold KH
 rw [Int.toNat_natCast,decide_eq_true (show 0≤(x:Int)∧(x:Int)<n by omega),Bool.true_and,Bool.eq_iff_iff]
 simp [List.mem_append]
theorem A1r{P:Program}{env:CQ}{L:List AF}{ro:Option Nat}{α:Type}{F:α→List AF}{ops:Array Oper}{l:List Oper}{Q:DP}{N:Nat}(h:∀ x,G4 P ro ops Q N l env (F x++L)):G4 P ro ops Q N l env (exA F::L):=fun E D a w hd hf hh=>by
 obtain ⟨k1,k2,k3,k4,k5⟩:=hh
 have k6:Sat (exA F::((E.add D).X++L)) (fun b=>w.heap[b]?):=Sat.perm (BJ (.refl _)) _ k5
 obtain ⟨x,hx⟩:=Ei k6
 refine h x E D a w hd hf ⟨k1,k2,k3,k4,Sat.perm ?_ _ hx⟩
 rw [← List.append_assoc,← List.append_assoc]
 exact List.Perm.append_right _ List.perm_append_comm
set_option maxHeartbeats 1000000 in
theorem Qe (X:Src)(s0:X.σ)(μ:PH)(v:Value)(xs:List Int)(hv:Row μ v 1 xs.length (xs.flatMap (Bj .i64)))(hl:xs.length≤1048576)(h0:Le X.μ0 μ)
  (hok:∀ pre x post,DE X.g xs=pre++x::post→X.ok (pre.foldl X.step s0) x) :
  Spec prog 200 [X.sv,v] [X.A s0 μ,ro μ] (fun r L=>∃ p μ',Le μ μ'∧r=.pointer (some ⟨p,0,none⟩)∧L=[CN p X.n (fun j=>decide (j∈DE X.g xs)),X.at_ s0 μ' (DE X.g xs)]):=by
 have hn:=X.hn
 have hsp:=JM X.hg xs
 refine Spec.of 18 func200 rfl rfl rfl ?_
 refine A0 (As [0,1] rfl rfl (A0 (Ad rfl ?_)))
 refine Aw (AA (I0 X s0 μ) rfl rfl AC) ?_
 rintro v8 L1 ⟨rfl,rfl⟩
 refine Aj ?_
 refine Aw (AA (Ur (X.n:Nat)) rfl rfl AC) ?_
 rintro v9 L1 ⟨p,rfl,rfl⟩
 refine Aj (Aw (AZ) (fun b5=>?_))
 refine B5 (AW rfl rfl rfl) (AE [0,1,5] rfl (Ae (A0 (Ad rfl (Ad rfl ?_)))))
 refine Aw (AA (WL X.sv μ v xs hv hl X.t X.v rfl) rfl rfl AC) ?_
 rintro v12 L1 ⟨μ1,c1,c2,v',rfl,h1,hc1,hc2,hr,rfl⟩
 refine Aj (Be [5,12] rfl ?_)
 rw [KZ hn]
 refine BK (X.up (s:=s0) h1 AC) ?_
 refine Dp (Au ?_)
 refine SC (WK X s0 μ1 c1 c2 v' xs hc1 hc2 hr (h0.trans h1) hok) (B:=[B1 b5 310 [.pointer (some ⟨p,0,none⟩)],CN p X.n (fun _=>false)]) (fun pre=>FF [B1 b5 310 [.pointer (some ⟨p,0,none⟩)],CN p X.n (fun j=>decide (j∈pre))]) (fun _=>False) (fun _ _=>False) rfl rfl (fun _=>rfl) (Split.ent AC) ?_ ?_ ?_ ?_ ?_
 ·rw [show (fun _:Nat=>false)=(fun j=>decide (j∈([]:List Nat))) from funext fun j=>by simp]
  exact Dl
 ·rintro ln pre x ⟨post,hpost⟩
  have hx:x<X.g.length:=hsp.2.1 x (by rw [hpost]; simp)
  refine AP A1M ?_
  refine AP (star_ent (K:=[B1 b5 310 [.pointer (some ⟨p,0,none⟩)],CN p X.n (fun j=>decide (j∈pre))]) (L:=[X.at_ s0 μ1 pre])) ?_
  simp only [List.cons_append,List.nil_append]
  refine Al (As [5,6] rfl rfl (Au (Al (AJ (Ag rfl rfl) (Ad rfl ?_)))))
  refine Aw (AA (Us p X.n (fun j=>decide (j∈pre)) (x:Nat)) rfl rfl AC) ?_
  rintro v16 L1 ⟨rfl,rfl⟩
  refine Aj (C7 _ .nil ?_)
  rw [A0s hx]
  refine AH (AR (A0C ?_))
  refine (Split.ent' (K:=[B1 b5 310 [.pointer (some ⟨p,0,none⟩)],CN p X.n (fun j=>decide (j∈pre++[x])),X.at_ s0 μ1 pre]) AC).trans ?_
  exact (DM (K:=[B1 b5 310 [.pointer (some ⟨p,0,none⟩)],CN p X.n (fun j=>decide (j∈pre++[x]))]) (L:=[X.at_ s0 μ1 pre])).trans Dl
 ·rintro ys rfl
  refine AR (Af (Ae ?_))
  refine AP (star_ent (K:=[B1 b5 310 [.pointer (some ⟨p,0,none⟩)],CN p X.n (fun j=>decide (j∈DE X.g xs))]) (L:=[X.at_ s0 μ1 (DE X.g xs)])) ?_
  simp only [List.cons_append,List.nil_append]
  refine Al (AJ (Ag rfl rfl) (As [4] rfl rfl (Ar ?_)))
  exact Aq [CN p X.n (fun j=>decide (j∈DE X.g xs)),X.at_ s0 μ1 (DE X.g xs)] (.tmp rfl .nil) ⟨p,μ1,h1,rfl,rfl⟩ AC
 ·exact CG (p:=False) (fun m h=>by obtain ⟨_,_,h,_⟩:=h; exact h) False.elim
 ·exact fun i=>CG (p:=False) (fun m h=>by obtain ⟨_,_,h,_⟩:=h; exact h) False.elim
def F3 (g:List (List Int))(xs:List Int):Int:=Cu g.length [xs]
def Ea (g:List (List Int))(xs:List Int):List Int:=if F3 g xs=0 then Bu g.length (fun j=>decide (j∈DE g xs)) else []
theorem NK (X:Src)(s0:X.σ)(μ:PH)(v:Value)(xs:List Int)(hT:RowAt μ 2 0 tabV)(hv:Row μ v 1 xs.length (xs.flatMap (Bj .i64)))(hl:xs.length≤1048576)(h0:Le X.μ0 μ)
  (hok:∀ pre x post,DE X.g xs=pre++x::post→X.ok (pre.foldl X.step s0) x) :
  Spec prog 120 [X.sv,v] [X.A s0 μ,ro μ] (fun r L=>∃ lv μ',Le μ μ'∧r=.tuple #[lv,.int .i64 (F3 X.g xs)]∧L=[own 3 1 lv (Ea X.g xs).length ((Ea X.g xs).flatMap (Bj .i64)),X.A (if F3 X.g xs=0 then (DE X.g xs).foldl X.step s0 else s0) μ',ro μ']):=by
 obtain ⟨A,cap,rfl⟩:=hv.sl
 refine Spec.of 18 func120 rfl rfl rfl ?_
 refine A0 (AX rfl (As [0,1] rfl rfl (Ae (A0 (Ad rfl (Ad rfl (Aw (Bg (qs:=[(0,_)]) rfl rfl rfl) (fun b9=>?_))))))))
 refine Fh (b:=b9) (μ:=μ) AC fun μ1 h1 k1=>?_
 refine BK (X.up (s:=s0) h1 AC) ?_
 have hG:Graph μ1 (.slice (some ⟨b9,0,none⟩) 1 1) [(.slice A xs.length cap,xs)]:=⟨Ew k1 (by rfl) (by decide),fun x hx=>by obtain rfl:=List.mem_singleton.1 hx; exact hv.le h1⟩
 refine Aw (AA (NJ X s0 μ1 _ _ hG) rfl rfl AC) ?_
 rintro v10 L1 ⟨rfl,rfl⟩
 refine Aj ?_
 rw [show Cu X.n (EI [(Value.slice A xs.length cap,xs)])=F3 X.g xs from rfl]
 refine As [0,1,6] rfl rfl (A0 (Ad rfl (Ac (Bm rfl rfl) (AE [0,1,6,12] rfl ?_))))
 refine Ak rfl (fun h12=>?_) (fun h12=>?_)
 ·have he:F3 X.g xs≠0:=by simpa using h12
  refine A0 (Ad rfl (AX rfl (As [4,5] rfl rfl (Ar (AN (B8 [own 3 1 (.slice none 0 0) (Ea X.g xs).length ((Ea X.g xs).flatMap (Bj .i64)),X.A (if F3 X.g xs=0 then (DE X.g xs).foldl X.step s0 else s0) μ1,ro μ1] (.tmp rfl (.tmp rfl .nil)) ⟨_,μ1,h1,rfl,rfl⟩ ?_))))))
  rw [if_neg he,Ea,if_neg he]
  exact (Split.ent' (K:=[X.A s0 μ1,ro μ1]) AC).trans own_nil_ent
 ·have he:F3 X.g xs=0:=by simpa using h12
  refine Am (Af (A0 (Ad rfl (Ad rfl ?_))))
  refine Aw (AA (Qe X s0 μ1 _ xs (hv.le h1) hl (h0.trans h1) hok) rfl rfl AC) ?_
  rintro v16 L1 ⟨p,μ2,h2,rfl,rfl⟩
  refine Aj ?_
  refine BK (Split.ent' (K:=[X.at_ s0 μ2 (DE X.g xs),CN p X.n (fun j=>decide (j∈DE X.g xs))]) AC) ?_
  refine A1r fun ⟨μ3,h3⟩=>?_
  simp only [List.cons_append,List.nil_append]
  refine Aw (AA (Z8 μ3 p X.n (fun j=>decide (j∈DE X.g xs)) (((hT.le h1).le h2).le h3)) rfl rfl AC) ?_
  rintro v17 L1 rfl
  refine Aj (AX rfl (As [4,5] rfl rfl (Ar ?_)))
  refine B8 [own 3 1 v17 (Ea X.g xs).length ((Ea X.g xs).flatMap (Bj .i64)),X.A (if F3 X.g xs=0 then (DE X.g xs).foldl X.step s0 else s0) μ3,ro μ3] (.tmp rfl (.tmp rfl .nil)) ⟨_,μ3,h1.trans (h2.trans h3),by rw [he]; rfl,rfl⟩ ?_
  rw [if_pos he,Ea,if_pos he]
  exact Split.ent' AC


def Src.fine(X:Src)(s0:X.σ):Prop:=∀ (ys:List Nat) (c:Nat),ys.Nodup→c∉ys→(∀ y∈ys,y<X.g.length)→c<X.g.length→X.ok (ys.foldl X.step s0) c
theorem Ru {l:List Nat}(h:I3 l):l.Nodup:=h.imp fun h e=>by omega
theorem Src.fine.down{X:Src}{s0:X.σ}(h:X.fine s0)(xs:List Int):∀ pre x post,DE X.g xs=pre++x::post→X.ok (pre.foldl X.step s0) x:=fun pre x post e=>by
 obtain ⟨h1,h2,_⟩:=JM X.hg xs
 rw [e] at h1 h2
 have hn:=Ru h1
 rw [List.nodup_append] at hn
 exact h pre x hn.1 (fun hx=>hn.2.2 x hx x (List.mem_cons_self ..) rfl) (fun y hy=>h2 y (List.mem_append_left _ hy)) (h2 x (List.mem_append_right _ (List.mem_cons_self ..)))
structure GenOf (X:Src) (gen:Int→Int) where
 ask : ∀ s μ c, Le X.μ0 μ → InvS prog X.d X.t X.v "Gen" [.int .i64 c] [X.A s μ, ro μ] (fun r L => r = .int .i64 (gen c) ∧ L = [X.A s μ, ro μ])
def M4 (n:Nat)(gen:Int→Int)(a:Int)(ys:List Nat):Prop:=ys.Nodup∧∀ y∈ys,y<n∧a<(y:Int)∧MD (gen y) (gen a)=true
def Jx (g:List (List Int))(a b:Int):Bool:=decide (Cu g.length [[a,b]]=0)&&up g b.toNat a.toNat
set_option maxHeartbeats 2000000 in
theorem Tt (X:Src)(gen:Int→Int)(Y:GenOf X gen)(s0:X.σ)(μ:PH)(a b:Int)(h0:Le X.μ0 μ)(hf:X.fine s0)
  (hmay:∀ c k:Nat,Reach X.g c k→c≠k→MD (gen c) (gen k)=true) :
  Spec prog 119 [X.sv,.int .i64 a,.int .i64 b] [X.A s0 μ,ro μ] (fun r L=>∃ ys μ',M4 X.n gen a ys∧Le μ μ'∧r=.tuple #[.bool (Jx X.g a b),.int .i64 (Cu X.n [[a,b]])]∧L=[X.A (ys.foldl X.step s0) μ',ro μ']):=by
 have hn:=X.hn
 refine Spec.of 64 func119 rfl rfl rfl ?_
 refine A0 (AX rfl (As [0,1,2] rfl rfl (Ae (A0 (Ad rfl (Ad rfl (Ad rfl (Aw (Bg (qs:=[(0,_),(1,_)]) rfl rfl rfl) (fun b16=>?_)))))))))
 refine Aw (Bg (qs:=[(0,_)]) rfl rfl rfl) fun b17=>?_
 refine Fh (b:=b16) (μ:=μ) AC fun μ0 h1a k0=>?_
 refine Fh (b:=b17) (μ:=μ0) AC fun μ1 h1b k1=>?_
 have h1:=h1a.trans h1b
 refine BK (X.up (s:=s0) h1 AC) ?_
 have r1:=(Ew (n:=1) (l:=2) (cs:=[a,b].flatMap (Bj .i64)) k0 (by rfl) (by decide)).le h1b
 have hG:Graph μ1 (.slice (some ⟨b17,0,none⟩) 1 1) [(.slice (some ⟨b16,0,none⟩) 2 2,[a,b])]:=⟨Ew k1 (by rfl) (by decide),fun x hx=>by obtain rfl:=List.mem_singleton.1 hx; exact r1⟩
 refine Aw (AA (NJ X s0 μ1 _ _ hG) rfl rfl AC) ?_
 rintro v18 L1 ⟨rfl,rfl⟩
 refine Aj ?_
 rw [show Cu X.n (EI [(Value.slice (some ⟨b16,0,none⟩) 2 2,[a,b])])=Cu X.n [[a,b]] from rfl]
 refine As [0,1,2,8] rfl rfl (A0 (Ad rfl (Ac (Bm rfl rfl) (AE [0,1,2,8,20] rfl ?_))))
 refine Ak rfl (fun h20=>?_) (fun h20=>?_)
 ·have he:Cu X.n [[a,b]]≠0:=by simpa using h20
  refine A0 (Ad rfl (AX rfl (As [6,7] rfl rfl (Ar (AN ?_)))))
  refine Aq [X.A s0 μ1,ro μ1] (.tmp rfl (.tmp rfl .nil)) ⟨[],μ1,⟨List.nodup_nil,fun y hy=>by cases hy⟩,h1,?_,rfl⟩ AC
  unfold Jx
  rw [decide_eq_false he]; rfl
 ·have he:Cu X.n [[a,b]]=0:=by simpa using h20
  have hab:(0≤a∧a<X.g.length)∧(0≤b∧b<X.g.length):=by
   unfold Cu at he
   split at he
   ·rename_i h
    simp [O2] at h
    exact h
   ·cases he
  obtain ⟨a,rfl⟩:∃ k:Nat,a=k:=⟨a.toNat,by omega⟩
  obtain ⟨b,rfl⟩:∃ k:Nat,b=k:=⟨b.toNat,by omega⟩
  refine Am (Af (A0 (Ad rfl (Ad rfl ?_))))
  refine Aw (DU rfl X.hd (Y.ask s0 μ1 a (h0.trans h1)) rfl AC) ?_
  rintro v24 L1 ⟨rfl,rfl⟩
  refine Aj (As [0,1,2,9] rfl rfl (A0 (Ad rfl (Ad rfl (Aw (Bg (qs:=[(0,_)]) rfl rfl rfl) (fun b27=>?_))))))
  refine Aw (AA (II X s0 μ1 (.slice (some ⟨b27,0,none⟩) 1 1) [(b:Int)] (B1 b27 3 [.int .i64 (b:Nat)]) (XG (cs:=[(b:Int)]) rfl (by rw [List.length_singleton]; decide))) rfl rfl AC) ?_
  rintro v28 L1 ⟨w,sp,q,rfl,ok0,rfl⟩
  refine Aj (As [0,1,9,10] rfl rfl (Ae (Ae ?_)))
  obtain ⟨kI,kN⟩:=MZ (n:=X.g.length) [(b:Int)]
  have kI':WkI X.g.length X.g.length (addAll X.n Ut [(b:Int)]):=kI
  have kN':∀ k,k∈(addAll X.n Ut [(b:Int)]).2↔k=b:=fun k=>(kN k).trans (by rw [J2]; simp; omega)
  clear kI kN
  generalize addAll X.n Ut [(b:Int)]=st0 at *
  have hq0:=Ed ok0.falls ok0.lt
  have hXn:X.n=X.g.length:=rfl
  refine Al (Ad rfl (Ac (Ah rfl) (Ac (Ab rfl) (AJ (Ag rfl rfl) ?_))))
  refine Aw (AA (M3 q (CE X.n st0.1) st0.2 Ax) rfl rfl AC) ?_
  rintro v34 L1 ⟨rfl,rfl⟩
  refine Aj (Ad rfl (Ac (Ai rfl) (Ac (Ai rfl) (AX rfl (As [0,1,9,10,11,12] rfl rfl (Au ?_))))))
  refine AP (Split.ent' (K:=[P3 w sp q X.sv,CN sp X.n st0.1,Wq.cq q st0.2.tail (CE X.n st0.1),X.A s0 μ1,ro μ1]) AC) ?_
  refine B0 (ι:=Nat×PH×List Nat×Wk) (fun k env L=>env=[(0,X.sv),(1,.int .i64 (a:Nat)),(9,.int .i64 (gen (a:Nat))),(10,.pointer (some ⟨w,0,none⟩)),(11,.int .i64 (k.2.2.2.2.headD 0:Nat)),(12,.bool (!k.2.2.2.2.isEmpty))]
   ∧ L=[P3 w sp q X.sv,CN sp X.n k.2.2.2.1,Wq.cq q k.2.2.2.2.tail (CE X.n k.2.2.2.1),X.A (k.2.2.1.foldl X.step s0) k.2.1,ro k.2.1]
   ∧ WkI X.g.length k.1 k.2.2.2∧k.1≤X.g.length∧(∀ y∈k.2.2.1,k.1≤y)∧WkOk X.n k.2.2.2∧M4 X.n gen a k.2.2.1∧Le μ k.2.1∧(∀ q∈k.2.2.2.2,Reach X.g b q)∧(Reach X.g b a→∃ q∈k.2.2.2.2,Reach X.g q a)) (fun k=>k.1) (X.g.length,μ1,[],st0)
   ⟨rfl,rfl,kI',Nat.le_refl _,fun y hy=>(by cases hy),ok0,⟨List.nodup_nil,fun y hy=>by cases hy⟩,h1,fun q hq=>by rw [(kN' q).1 hq]; exact .refl _,fun hr=>⟨b,(kN' b).2 rfl,hr⟩⟩ ?_
  rintro ⟨m,μ2,ys,S,Q⟩ env L ⟨rfl,rfl,hI,hmn,hym,hokk,hask,hle,hsnd,hcov⟩
  dsimp only at hI hmn hym hokk hask hle hsnd hcov ⊢
  refine Ae (A0 (Ad rfl (AE [0,1,9,10,11,37] rfl ?_)))
  refine Ak rfl (fun h37=>?_) (fun h37=>?_)
  ·obtain ⟨c,Q,rfl⟩:∃ c Q',Q=c::Q':=by
    cases Q with
    | nil=>cases h37
    | cons c Q=>exact ⟨c,Q,rfl⟩
   have hcm:c<m:=hI.lt c (List.mem_cons_self ..)
   have hrow:∀ p∈BU X.g c,0≤p∧p<c:=fun p hp=>⟨(CD X.hg hp).1,(CD X.hg hp).2.1⟩
   obtain ⟨hI2,hQ2,_⟩:=hI.pop.addAll hrow Ax
   have hok2:WkOk X.n (S,Q):=⟨(List.pairwise_cons.1 hokk.falls).2,fun k hk=>hokk.lt k (List.mem_cons_of_mem _ hk),fun k hk=>hokk.sub k (List.mem_cons_of_mem _ hk)⟩
   have hsc:=hsnd c (List.mem_cons_self ..)
   simp only [List.tail_cons,List.headD_cons]
   refine Am (Af ?_)
   refine Cb (fun env L=>∃ (ys':List Nat) (μ':PH) (st:Wk),env=[(0,X.sv),(1,.int .i64 (a:Nat)),(9,.int .i64 (gen (a:Nat))),(10,.pointer (some ⟨w,0,none⟩))]∧L=[P3 w sp q X.sv,CN sp X.n st.1,Wq.cq q st.2 (CE X.n st.1),X.A (ys'.foldl X.step s0) μ',ro μ']∧WkI X.g.length c st∧(∀ y∈ys',c≤y)∧WkOk X.n st∧M4 X.n gen a ys'∧Le μ μ'∧(∀ q∈st.2,Reach X.g b q)∧(Reach X.g b a→∃ q∈st.2,Reach X.g q a)) ?_ ?_
   ·refine Au (Ae (A0 (Ad rfl (Ad rfl (Ac (Bp rfl rfl) (AE [0,1,9,10,11,48] rfl ?_))))))
    refine Ak rfl (fun h48=>?_) (fun h48=>?_)
    ·obtain rfl:c=a:=by have:=of_decide_eq_true h48; omega
     refine A0 (AX rfl (As [6,7] rfl rfl (Ar (AN (B6 (AN (AN (B6 (AN ?_)))))))))
     refine Aq [X.A (ys.foldl X.step s0) μ2,ro μ2] (.tmp rfl (.tmp rfl .nil)) ⟨ys,μ2,hask,hle,?_,rfl⟩ AC
     unfold Jx
     rw [show Cu X.n [[(c:Int),(b:Int)]]=0 from he,Int.toNat_natCast,Int.toNat_natCast,(Gf X.hg b c).2 hsc]; rfl
    ·have hca:c≠a:=fun e=>by have:=of_decide_eq_false h48; omega
     refine Am (Af (A0 (Ad rfl (Ad rfl (Ac (BA rfl rfl) (Ad rfl ?_))))))
     refine B7 52 rfl (fun h52=>?_) (fun h52=>?_)
     ·refine AQ rfl rfl (Ad rfl (AQ rfl rfl (Ad rfl (AQ rfl rfl ?_))))
      refine Aw (DU rfl X.hd (Y.ask (ys.foldl X.step s0) μ2 c (h0.trans hle)) rfl AC) ?_
      rintro v55 L1 ⟨rfl,rfl⟩
      refine Aj (AQ rfl rfl (Ad rfl (AQ rfl rfl ?_)))
      refine Aw (AA (Z2 (gen c) (gen a)) rfl rfl AC) ?_
      rintro v57 L1 ⟨rfl,rfl⟩
      refine Aj (Ac (B4 rfl rfl) (AE [0,1,9,10,11,58] rfl ?_))
      refine Ak rfl (fun h58=>?_) (fun h58=>?_)
      ·have h52':a<c:=by have:=of_decide_eq_true h52; omega
       have hcy:c∉ys:=fun hy=>by have:=hym c hy; omega
       refine Al (Ad rfl (Ad rfl (Ad rfl ?_)))
       refine Aw (DU rfl X.hd (X.parents (ys.foldl X.step s0) μ2 c (h0.trans hle) Ax (hf ys c hask.1 hcy (fun y hy=>(hask.2 y hy).1) Ax)) rfl AC) ?_
       rintro v62 L1 ⟨μ3,hμ3,hr,rfl⟩
       refine Aj ?_
       refine Aw (AA (NH w sp q X.n X.sv v62 (S,Q) (BU X.g c) (ro μ3) hn (Ints.row hr) hok2) rfl rfl AC) ?_
       rintro v63 L1 ⟨rfl,hok3,rfl⟩
       refine Aj (Be [0,1,9,10] rfl ?_)
       refine BK (Split.ent' (K:=[P3 w sp q X.sv,CN sp X.n (addAll X.n (S,Q) (BU X.g c)).1,Wq.cq q (addAll X.n (S,Q) (BU X.g c)).2 (CE X.n (addAll X.n (S,Q) (BU X.g c)).1),X.A (X.step (ys.foldl X.step s0) c) μ3,ro μ3]) AC) ?_
       refine AH (AR ?_)
       refine Af ⟨ys++[c],μ3,addAll X.n (S,Q) (BU X.g c),rfl,?_,hI2,fun y hy=>?_,hok3,⟨?_,fun y hy=>?_⟩,hle.trans hμ3,fun k hk=>?_,fun hr=>?_⟩
       ·rw [List.foldl_append]; rfl
       ·rcases List.mem_append.1 hy with hy | hy
        ·have:=hym y hy; omega
        ·rw [List.mem_singleton.1 hy]; exact Nat.le_refl _
       ·rw [List.nodup_append]
        exact ⟨hask.1,by simp,fun x hx y hy e=>by rw [List.mem_singleton.1 hy] at e; subst e; exact hcy hx⟩
       ·rcases List.mem_append.1 hy with hy | hy
        ·exact hask.2 y hy
        ·rw [List.mem_singleton.1 hy]; exact ⟨by omega,by omega,h58⟩
       ·rcases (hQ2 k).1 hk with hk | hk
        ·exact hsnd k (List.mem_cons_of_mem _ hk)
        ·exact hsc.trans (.step hk (.refl _))
       ·obtain ⟨x,hx,hxr⟩:=hcov hr
        rcases List.mem_cons.1 hx with rfl | hx
        ·cases hxr with
         | refl=>exact absurd rfl hca
         | step hp hr2=>exact ⟨_,(hQ2 _).2 (.inr hp),hr2⟩
        ·exact ⟨x,(hQ2 x).2 (.inl hx),hxr⟩
      ·refine B3 _ (I8 0 rfl (I8 1 rfl (I8 9 rfl (I8 10 rfl .nil)))) ?_
       refine AP (Split.ent' (K:=[P3 w sp q X.sv,CN sp X.n S,Wq.cq q Q (CE X.n S),X.A (ys.foldl X.step s0) μ2,ro μ2]) AC) ?_
       refine Am (AR ?_)
       refine Af ⟨ys,μ2,(S,Q),rfl,rfl,hI.pop,fun y hy=>by have:=hym y hy; omega,hok2,hask,hle,fun k hk=>hsnd k (List.mem_cons_of_mem _ hk),fun hr=>?_⟩
       obtain ⟨x,hx,hxr⟩:=hcov hr
       rcases List.mem_cons.1 hx with rfl | hx
       ·rw [hmay _ _ hxr hca] at h58; cases h58
       ·exact ⟨x,hx,hxr⟩
     ·refine AI rfl rfl rfl (AI rfl rfl rfl (AI rfl rfl rfl (AI rfl rfl rfl (AI rfl rfl rfl (Ac (AT rfl rfl) (AE [0,1,9,10,11,58] rfl ?_))))))
      refine Ak rfl (fun h58=>by cases h58) (fun h58=>?_)
      refine B3 _ (I8 0 rfl (I8 1 rfl (I8 9 rfl (I8 10 rfl .nil)))) ?_
      refine AP (Split.ent' (K:=[P3 w sp q X.sv,CN sp X.n S,Wq.cq q Q (CE X.n S),X.A (ys.foldl X.step s0) μ2,ro μ2]) AC) ?_
      refine Am (AR ?_)
      refine Af ⟨ys,μ2,(S,Q),rfl,rfl,hI.pop,fun y hy=>by have:=hym y hy; omega,hok2,hask,hle,fun k hk=>hsnd k (List.mem_cons_of_mem _ hk),fun hr=>?_⟩
      obtain ⟨x,hx,hxr⟩:=hcov hr
      rcases List.mem_cons.1 hx with rfl | hx
      ·have:=hxr.le X.hg
       have:=of_decide_eq_false h52
       omega
      ·exact ⟨x,hx,hxr⟩
   rintro env L ⟨ys',μ',st,rfl,rfl,hI',hym',hok',hask',hle',hsnd',hcov'⟩
   have hq3:=Ed hok'.falls hok'.lt
   refine Al (Ad rfl (Ac (Ah rfl) (Ac (Ab rfl) (AJ (Ag rfl rfl) ?_))))
   refine Aw (AA (M3 q (CE X.n st.1) st.2 Ax) rfl rfl AC) ?_
   rintro v43 L1 ⟨rfl,rfl⟩
   refine Aj (Ad rfl (Ac (Ai rfl) (Ac (Ai rfl) (AX rfl (AX rfl (Be [0,1,9,10,11,12] rfl ?_))))))
   refine BK (Split.ent' (K:=[P3 w sp q X.sv,CN sp X.n st.1,Wq.cq q st.2.tail (CE X.n st.1),X.A (ys'.foldl X.step s0) μ',ro μ']) AC) ?_
   refine AH ?_
   exact Af ⟨(c,μ',ys',st),⟨rfl,rfl,hI',by show c≤_; omega,hym',hok',hask',hle',hsnd',hcov'⟩,hcm⟩
  ·obtain rfl:Q=[]:=by
    cases Q with
    | nil=>rfl
    | cons c Q=>cases h37
   refine AY (AS (AS (AV rfl (Af (A0 (AX rfl (As [6,7] rfl rfl (Ar ?_))))))))
   refine Aq [X.A (ys.foldl X.step s0) μ2,ro μ2] (.tmp rfl (.tmp rfl .nil)) ⟨ys,μ2,hask,hle,?_,rfl⟩ AC
   have hno:up X.g b a=false:=by
    cases hu:up X.g b a with
    | false=>rfl
    | true =>
     obtain ⟨x,hx,_⟩:=hcov ((Gf X.hg b a).1 hu)
     cases hx
   unfold Jx
   rw [show Cu X.n [[(a:Int),(b:Int)]]=0 from he,Int.toNat_natCast,Int.toNat_natCast,hno,Bool.and_false]; rfl

theorem A21(p n:Nat)(S:Nat→Bool)(k:Nat):Spec prog 205 [.pointer (some ⟨p,0,none⟩),.int .i64 (k:Nat)] [CN p n S] (fun r L=>r=.bool (S k)∧L=[CN p n S]):=by
 have h:=A1Z p n S (k:Int)
 rw [decide_eq_true (show (0:Int)≤(k:Int) by omega),Int.toNat_natCast,Bool.true_and] at h
 exact h
def I7 (g:List (List Int))(xs ys:List Int):Int:=Cu g.length [xs,ys]
def Km (n:Nat)(zs:List Nat):Prop:=zs.Nodup∧∀ y∈zs,y<n
theorem P4 {n:Nat}{ls:List (List Int)}(h:Cu n ls=0){l:List Int}(hl:l∈ls):∀ p∈l,0≤p∧p<n:=by
 unfold Cu at h
 split at h
 ·rename_i ha
  intro p hp
  have:=List.all_eq_true.1 (List.all_eq_true.1 ha l hl) p hp
  simpa [O2] using this
 ·cases h
end SX
namespace SX.Bq
open Go Go.Proofs SX
abbrev WI:Type:=Int
abbrev wiV (x:WI):Value:=.int .i64 x
def wiZ:WI:=0
def ltW (a b:WI):Bool:=decide (b<a)
theorem ltW_ord:Hp.Ord ltW:=⟨fun a b h=>by
 have h' : @LT.lt Int _ b a:=of_decide_eq_true h
 exact decide_eq_false (show ¬ @LT.lt Int _ a b by omega),fun a b c h1 h2=>by
 have h1':¬ @LT.lt Int _ a b:=of_decide_eq_false h1
 have h2':¬ @LT.lt Int _ b c:=of_decide_eq_false h2
 exact decide_eq_false (show ¬ @LT.lt Int _ a c by omega)⟩
theorem before_w(a b:WI):Spec Tryz.prog 420 [wiV a,wiV b] [] (fun v L=>v=.bool (ltW a b)∧L=[]):=by
 refine Spec.of 8 Tryz.func420 rfl rfl rfl ?_
 refine A0 (As [0,1] rfl rfl (A0 (Ad rfl (Ad rfl (Ac (BA rfl rfl) (As [4] rfl rfl (Ar ?_)))))))
 exact Aq [] (.tmp rfl .nil) ⟨rfl,rfl⟩ AC
end SX.Bq
namespace SX.Bq
open Go Go.Proofs SX

abbrev aW:=Hp.ahd ltW
def wcs (e:WI×Nat):List Value:=[wiV e.1,.int .u64 (e.2:Nat)]
theorem wcs_len(e:WI×Nat):(wcs e).length=2:=rfl
def wents (es:List (WI×Nat)):List Value:=es.flatMap wcs
theorem wents_len(es:List (WI×Nat)):(wents es).length=es.length*2:=by unfold wents; rw [Ca wcs_len]
theorem wents_snoc(es:List (WI×Nat))(x:WI)(n:Nat):wents es++[wiV x,.int .u64 (n:Nat)]=wents (es++[(x,n)]):=by simp [wents,wcs]

theorem ahead_w(a b:WI)(n1 n2:Nat):Spec Tryz.prog 377 [.agg #[wiV a,.int .u64 (n1:Nat)],.agg #[wiV b,.int .u64 (n2:Nat)]] []
  (fun v L=>v=.bool (aW (a,n1) (b,n2))∧L=[]):=by
 refine Spec.of 25 Tryz.func377 rfl rfl rfl ?_
 refine A0 (Aw (Bi rfl rfl) (fun b2=>?_))
 refine Aw (Bi rfl rfl) fun b3=>?_
 refine As [2,3] rfl rfl (Ae (A0 (Ac (Ab rfl) (AJ (Ag rfl rfl) (Ac (Eh rfl) (Ac (Ab rfl) (AJ (Ag rfl rfl) ?_)))))))
 refine Aw (Ph rfl (before_w _ _) rfl AC) ?_
 rintro v L1 ⟨rfl,rfl⟩
 refine Aj (AE [2,3,10] rfl ?_)
 refine Ak rfl (fun h10=>?_) (fun h10=>?_)
 ·refine A0 (As [4] rfl rfl (Ar (AN ?_)))
  exact Aq [] (.tmp rfl .nil) ⟨by simp [H7,h10,Hp.ahd],rfl⟩ AC
 ·refine Am (Af (A0 (Ac (Ab rfl) (AJ (Ag rfl rfl) (Ac (Eh rfl) (Ac (Ab rfl) (AJ (Ag rfl rfl) ?_)))))))
  refine Aw (Ph rfl (before_w _ _) rfl AC) ?_
  rintro v L1 ⟨rfl,rfl⟩
  refine Aj (Ac (BO rfl) (Ad rfl ?_))
  refine B7 18 rfl (fun h18=>?_) (fun h18=>?_)
  ·refine AQ rfl rfl (Ac (Ab rfl) (AQ rfl rfl (AJ (Ag rfl rfl) (AQ rfl rfl (Ac (Ab rfl) (AQ rfl rfl (AJ (Ag rfl rfl) (AQ rfl rfl (Ac (Bb rfl rfl) (Ac (B4 rfl rfl) (As [4] rfl rfl (Ar ?_))))))))))))
   exact Aq [] (.tmp rfl .nil) ⟨by simp [H7,h10,h18,Hp.ahd],rfl⟩ AC
  ·refine AI rfl rfl rfl (AI rfl rfl rfl (AI rfl rfl rfl (AI rfl rfl rfl (AI rfl rfl rfl (Ac (AT rfl rfl) (As [4] rfl rfl (Ar ?_)))))))
   exact Aq [] (.tmp rfl .nil) ⟨by simp [H7,h10,h18,Hp.ahd],rfl⟩ AC

def wraw (q:Nat)(es:List (WI×Nat))(C4:Nat):AF:=exA (fun v:Value=>[B1 q 461 [v,.int .u64 (C4:Nat)],own 498 2 v es.length (wents es)])
theorem wraw_close{q g cap C4:Nat}{es:List (WI×Nat)}{ex:List Value}{L:List AF}(h1:es.length≤cap)(h2:cap≤maxLen)(h4:ex.length=(cap-es.length)*2) :
  Ent (B1 g 498 (wents es++ex)::B1 q 461 [.slice (some ⟨g,0,none⟩) es.length cap,.int .u64 (C4:Nat)]::L) (wraw q es C4::L) :=
 (Ec (wents_len es) h4 h1 h2).trans (Fg (F:=fun v=>[B1 q 461 [v,.int .u64 (C4:Nat)],own 498 2 v es.length (wents es)]) (.slice (some ⟨g,0,none⟩) es.length cap) AC)
theorem wraw_nil{q C4:Nat}{L:List AF}:Ent (B1 q 461 [.slice none 0 0,.int .u64 (C4:Nat)]::L) (wraw q [] C4::L) :=
 Ent.imp fun m hm=>⟨.slice none 0 0,m,fun _=>none,hm,⟨fun _=>none,fun _=>none,Pf _ _ _,trivial,by simp,by simp,by simp⟩,by simp,fun _ _ h=>h,by simp⟩

set_option maxHeartbeats 1000000 in
theorem push_w(q:Nat)(es:List (WI×Nat))(C4:Nat)(x:WI)(hb1:es.length≤1099511627776)(hb2:C4≤18446744073709551614) :
  Spec Tryz.prog 346 [.pointer (some ⟨q,0,none⟩),wiV x] [wraw q es C4] (fun v L=>v=.tuple #[]∧L=[wraw q (Hp.up aW es.length (es++[(x,C4)]) es.length) (C4+1)]):=by
 refine Spec.of 84 Tryz.func346 rfl rfl rfl ?_
 refine EQ fun v=>?_
 refine FB (Ae (A0 (Ad rfl (Ac (Bd rfl rfl) (AE [0,1,7] rfl (Dz rfl (Am (Af (Ae ?_)))))))))
 refine Ba [4,9] _ [] (by simp only [List.append_nil]; exact Ent.refl _) AK ?_
 refine AD 0 rfl (AG rfl) (AD 1 rfl (AG rfl) (AD 2 rfl (Ah rfl) (AD 3 rfl (Ab rfl) (Bc 4 rfl (Ag rfl rfl) rfl (AD 5 rfl (AG rfl) (AD 6 rfl (AG rfl) (AD 7 rfl (Ah rfl) (AD 8 rfl (Ab rfl) (Bc 9 rfl (Ag rfl rfl) rfl (AD 10 rfl (Bo (qs:=[(0,_),(1,_)]) rfl) (CC 11 rfl AK (Bg (qs:=[(0,_)]) rfl rfl rfl) (fun b19=>?_))))))))))))
 refine ⟨_,Split.ent AC,?_⟩
 refine BT 12 rfl AK AK (B9 (l:=es.length) (m:=1) rfl rfl AC (by simp only [maxLen]; omega) Ax) ?_
 rintro v' hv'
 obtain ⟨g,cap,rfl⟩:=hv' (by decide)
 rw [wents_snoc]
 refine AD 13 rfl (Ah rfl) (AD 14 rfl (Ab rfl) (Cj 15 rfl AK AK (AW rfl rfl rfl) (C0 [0] rfl (Bs AK (Af (A0 (Ad rfl (Ac (Ah rfl) (Ac (Ab rfl) (AJ (Ag rfl rfl) (Ac (Mh ((C4+1:Nat):Int) rfl rfl Ax Ax Ax) (Ac (Ah rfl) (Ac (Ab rfl) (B5 (AW rfl rfl rfl) (AE [0] rfl (A0 (Ad rfl (Ac (Ah rfl) (Ac (Ab rfl) (AJ (Ag rfl rfl) (Ac (BI rfl) (Ac (BY (es.length:Int) rfl rfl Ax Ax Ax) (AX rfl (Be [0,4] rfl ?_))))))))))))))))))))))))
 refine Pm K3 (fun h _ _=>by cases h) (fun hb cap' ex hv h1 h2 h3 h4=>?_)
 cases hv
 have hlen:(es++[(x,C4)]).length=es.length+1:=by simp
 refine Dp (Au ?_)
 refine B0 (ι:=Nat×List (WI×Nat)) (fun k env L=>env=[(0,.pointer (some ⟨q,0,none⟩)),(4,.int .i64 (k.1:Nat))] ∧
  L=[B1 g 498 (wents k.2++ex),B1 q 461 [.slice (some ⟨g,0,none⟩) (es.length+1) cap,.int .u64 ((C4+1:Nat):Int)]] ∧
  k.2.length=es.length+1∧k.1≤es.length∧Hp.up aW k.1 k.2 k.1=Hp.up aW es.length (es++[(x,C4)]) es.length) (fun k=>k.1) (es.length,es++[(x,C4)]) ⟨rfl,rfl,hlen,Nat.le_refl _,rfl⟩ ?_
 rintro ⟨i,fs⟩ env L ⟨rfl,rfl,hl,hi,hup⟩
 simp only [] at hl hi hup
 dsimp only
 refine Ae (A0 (Ad rfl (Ac (BA rfl rfl) (AE [0,4,37] rfl ?_))))
 refine Ak rfl (fun h37=>?_) (fun h37=>?_)
 ·have h37':0<i:=by simpa using h37
  obtain ⟨ei,hei⟩:∃ e,fs[i]? = some e:=⟨_,List.getElem?_eq_getElem Ax⟩
  obtain ⟨ep,hep⟩:∃ e,fs[(i-1) / 2]? = some e:=⟨_,List.getElem?_eq_getElem Ax⟩
  refine Am (Af (Au (A0 (Ad rfl (Ac (H4 rfl rfl Ax Ax) (Ac (EB (((i-1) / 2:Nat):Int) rfl rfl Ax Ax Ax Ax) (As [0,4,5] rfl rfl (Ae (Ae ?_)))))))))
  refine Ba [3,6,10,13] _ [] (by simp only [List.append_nil]; exact Ent.refl _) AK ?_
  refine AD 0 rfl (AG rfl) (AD 1 rfl (Ah rfl) (AD 2 rfl (Ab rfl) (Bc 3 rfl (Ag rfl rfl) rfl (AD 4 rfl (AG rfl) ?_))))
  refine AD 5 rfl (AB (i*2) rfl rfl Ax Ax (by simp)) ?_
  refine Bc 6 rfl (Cw (vs:=wcs ei) rfl (by rfl) (C1 wcs_len fs ex i ei hei)) rfl ?_
  refine AD 7 rfl (AG rfl) (AD 8 rfl (Ah rfl) (AD 9 rfl (Ab rfl) (Bc 10 rfl (Ag rfl rfl) rfl (AD 11 rfl (AG rfl) (AD 12 rfl (AB ((i-1) / 2*2) rfl rfl Ax Ax Ax) ?_)))))
  refine Bc 13 rfl (Cw (vs:=wcs ep) rfl (by rfl) (C1 wcs_len fs ex ((i-1) / 2) ep hep)) rfl ?_
  refine BT 14 rfl AK AK (AA (ahead_w _ _ _ _) rfl rfl AC) ?_
  rintro v L1 ⟨rfl,rfl⟩
  refine Cc (AD 15 rfl (BO rfl) (C0 [0,4,5,56] rfl (Bs AK (Af ?_))))
  refine Ak rfl (fun h56=>?_) (fun h56=>?_)
  ·have hT:Hp.up aW es.length (es++[(x,C4)]) es.length=fs:=by
    rw [← hup]; exact Hp.up_stop hei hep (A0B h56)
   refine Ar (AN (B6 (AN (B6 ?_))))
   rw [hT]
   have hl':fs.length=es.length+1:=hl
   rw [← hl'] at h1 h4 ⊢
   exact B8 [wraw q fs (C4+1)] .nil ⟨rfl,rfl⟩ ((Split.ent' (K:=[B1 g 498 (wents fs++ex),B1 q 461 [.slice (some ⟨g,0,none⟩) fs.length cap,.int .u64 ((C4+1:Nat):Int)]]) AC).trans (wraw_close h1 h2 h4))
  ·have hel:(wents fs).length=(es.length+1)*2:=by rw [wents_len,hl]
   refine Am (Af (Ae ?_))
   refine Ba [3,8,13,16,20,23] _ [] (by simp only [List.append_nil]; exact Ent.refl _) AK ?_
   refine AD 0 rfl (AG rfl) (AD 1 rfl (Ah rfl) (AD 2 rfl (Ab rfl) (Bc 3 rfl (Ag rfl rfl) rfl (AD 4 rfl (AG rfl) (AD 5 rfl (AG rfl) (AD 6 rfl (Ah rfl) (AD 7 rfl (Ab rfl) (Bc 8 rfl (Ag rfl rfl) rfl (AD 9 rfl (AG rfl) (AD 10 rfl (AG rfl) (AD 11 rfl (Ah rfl) (AD 12 rfl (Ab rfl) (Bc 13 rfl (Ag rfl rfl) rfl (AD 14 rfl (AG rfl) (AD 15 rfl (AB ((i-1) / 2*2) rfl rfl Ax Ax Ax) ?_)))))))))))))))
   refine Bc 16 rfl (Cw (vs:=wcs ep) rfl (by rfl) (C1 wcs_len fs ex ((i-1) / 2) ep hep)) rfl ?_
   refine AD 17 rfl (AG rfl) (AD 18 rfl (Ah rfl) (AD 19 rfl (Ab rfl) (Bc 20 rfl (Ag rfl rfl) rfl (AD 21 rfl (AG rfl) (AD 22 rfl (AB (i*2) rfl rfl Ax Ax Ax) ?_)))))
   refine Bc 23 rfl (Cw (vs:=wcs ei) rfl (by rfl) (C1 wcs_len fs ex i ei hei)) rfl ?_
   refine AD 24 rfl (AB (i*2) rfl rfl Ax Ax Ax) ?_
   refine Cs 25 rfl AK AK (CH (vs:=wcs ep) rfl rfl (Dv wcs_len fs ex i ep Ax) (by rw [List.length_append,← wents,hel,wcs_len]; omega) rfl rfl) ?_
   refine AD 26 rfl (AB ((i-1) / 2*2) rfl rfl Ax Ax Ax) ?_
   refine Cj 27 rfl AK AK (CH (vs:=wcs ei) rfl rfl (Dv wcs_len (fs.set i ep) ex ((i-1) / 2) ei (by simp; omega)) (by rw [List.length_append,Ca wcs_len,wcs_len,List.length_set]; omega) rfl rfl) ?_
   refine C0 [0,5] rfl (Bs AK (Af (Al (Ad rfl (AX rfl (Be [0,4] rfl (AH (AR ?_))))))))
   refine Af ⟨((i-1) / 2,(fs.set i ep).set ((i-1) / 2) ei),⟨rfl,rfl,by simp [hl],by show (i-1) / 2≤es.length; omega,?_⟩,by show (i-1) / 2<i; omega⟩
   rw [← hup,Hp.up_step h37' hei hep (Xi h56)]
 ·obtain rfl:i=0:=by simp at h37; omega
  have hT:Hp.up aW es.length (es++[(x,C4)]) es.length=fs:=by rw [← hup]; rfl
  refine AY (AS (AS (AV rfl ?_)))
  rw [hT]
  have hl':fs.length=es.length+1:=hl
  rw [← hl'] at h1 h4 ⊢
  exact B8 [wraw q fs (C4+1)] .nil ⟨rfl,rfl⟩ ((Split.ent' (K:=[B1 g 498 (wents fs++ex),B1 q 461 [.slice (some ⟨g,0,none⟩) fs.length cap,.int .u64 ((C4+1:Nat):Int)]]) AC).trans (wraw_close h1 h2 h4))
end SX.Bq
namespace SX.Bq
open Go Go.Proofs SX

def bestTo (es:List (WI×Nat))(i:Nat):Nat→Nat
 | 0=>i
 | 1=>Hp.better aW es (2*i+1) i
 | _=>Hp.best aW es i
theorem bestTo_lt{es:List (WI×Nat)}{i:Nat}(hi:i<es.length):∀ j,bestTo es i j<es.length:=by
 have hb:∀ k m,m<es.length→Hp.better aW es k m<es.length:=fun k m hm=>by
  rcases Hp.better_cases (ah:=aW) es k m with ⟨e,_⟩ | ⟨e,a,b,ha,_⟩
  ·rw [e]; exact hm
  ·rw [e]; exact (List.getElem?_eq_some_iff.1 ha).1
 intro j
 match j with
 | 0=>exact hi
 | 1=>exact hb _ _ hi
 | j+2=>exact hb _ _ (hb _ _ hi)
theorem bestTo_succ{es:List (WI×Nat)}{i j:Nat}(hj:j<2):bestTo es i (j+1)=Hp.better aW es (2*i+1+j) (bestTo es i j):=by
 match j,hj with
 | 0,_=>rfl
 | 1,_=>rfl
theorem bestTo_end{es:List (WI×Nat)}{i j:Nat}(h:2≤j∨es.length≤2*i+1+j):bestTo es i j=Hp.best aW es i:=by
 have hn:∀ k m,es.length≤k→Hp.better aW es k m=m:=fun k m hk=>by
  have:es[k]? = none:=List.getElem?_eq_none_iff.2 hk
  simp [Hp.better,this]
 match j with
 | 0 =>
  have h':es.length≤2*i+1:=by omega
  show i=Hp.better aW es (2*i+2) (Hp.better aW es (2*i+1) i)
  rw [hn _ _ h',hn _ _ Ax]
 | 1 =>
  have h':es.length≤2*i+2:=by omega
  show Hp.better aW es (2*i+1) i=Hp.better aW es (2*i+2) (Hp.better aW es (2*i+1) i)
  rw [hn _ _ h']
 | j+2=>rfl
theorem better_of{es:List (WI×Nat)}{k m:Nat}{a b:WI×Nat}(ha:es[k]? = some a)(hb:es[m]? = some b):Hp.better aW es k m=if aW a b then k else m:=by simp [Hp.better,ha,hb]

set_option maxHeartbeats 2000000 in
theorem sink_w(q g cap:Nat)(nx:Value)(es:List (WI×Nat))(ex:List Value)(hb1:es.length≤1099511627776) :
  Spec Tryz.prog 379 [.pointer (some ⟨q,0,none⟩)] [B1 q 461 [.slice (some ⟨g,0,none⟩) es.length cap,nx],B1 g 498 (wents es++ex)]
   (fun v L=>v=.tuple #[]∧L=[B1 q 461 [.slice (some ⟨g,0,none⟩) es.length cap,nx],B1 g 498 (wents (Hp.down aW es.length es 0)++ex)]):=by
 refine Spec.of 71 Tryz.func379 rfl rfl rfl ?_
 refine A0 (As [0,2] rfl rfl (Au ?_))
 refine B0 (ι:=Nat×List (WI×Nat)) (fun k env L=>env=[(0,.pointer (some ⟨q,0,none⟩)),(2,.int .i64 (k.1:Nat))] ∧
   L=[B1 q 461 [.slice (some ⟨g,0,none⟩) es.length cap,nx],B1 g 498 (wents k.2++ex)] ∧
   k.2.length=es.length∧(k.1<es.length∨k.1=0)∧Hp.down aW es.length k.2 k.1=Hp.down aW es.length es 0) (fun k=>es.length-k.1) (0,es) ⟨rfl,rfl,rfl,.inr rfl,rfl⟩ ?_
 rintro ⟨i,fs⟩ env L ⟨rfl,rfl,hl,hi,hdn⟩
 simp only [] at hl hi hdn
 dsimp only
 refine Au (A0 (Ad rfl (As [0,2,3] rfl rfl ?_)))
 refine Cb (fun env L=>env=[(0,.pointer (some ⟨q,0,none⟩)),(2,.int .i64 (i:Nat)),(3,.int .i64 (Hp.best aW fs i:Nat))]∧L=[B1 q 461 [.slice (some ⟨g,0,none⟩) es.length cap,nx],B1 g 498 (wents fs++ex)]) ?_ ?_
 ·refine A0 (Ad rfl (Ac (H5 rfl rfl Ax Ax) (Ac (AO ((2*i+1+0:Nat):Int) rfl rfl Ax Ax Ax) (As [0,2,3,4] rfl rfl (Au ?_)))))
  refine B0 (ι:=Nat) (fun j env L=>env=[(0,.pointer (some ⟨q,0,none⟩)),(2,.int .i64 (i:Nat)),(3,.int .i64 (bestTo fs i j:Nat)),(4,.int .i64 ((2*i+1+j:Nat):Int))]∧j≤2 ∧
    L=[B1 q 461 [.slice (some ⟨g,0,none⟩) es.length cap,nx],B1 g 498 (wents fs++ex)]) (fun j=>2-j) 0 ⟨rfl,by omega,rfl⟩ ?_
  rintro j env L ⟨rfl,hj,rfl⟩
  refine Ae (A0 (Ad rfl (Ad rfl (Ac (H5 rfl rfl Ax Ax) (Ac (H3 rfl rfl Ax Ax) (Ac (Ff rfl rfl) (Ad rfl ?_)))))))
  refine B7 14 rfl (fun h14=>?_) (fun h14=>?_)
  ·have h14':j<2:=by simp at h14; omega
   refine AQ rfl rfl (Ad rfl (AQ rfl rfl (Ad rfl (AQ rfl rfl (Ac (Ah rfl) (AQ rfl rfl (Ac (Ab rfl) (AQ rfl rfl (AJ (Ag rfl rfl) (AQ rfl rfl (Ac (BI rfl) (AQ rfl rfl (Ac (Bb rfl rfl) (Ac (B4 rfl rfl) (AE [0,2,3,4,22] rfl ?_)))))))))))))))
   refine Ak rfl (fun h22=>?_) (fun h22=>?_)
   ·have h22':2*i+1+j<es.length:=by simp at h22; omega
    have hil:i<fs.length:=by omega
    obtain ⟨ek,hek⟩:∃ e,fs[2*i+1+j]? = some e:=⟨_,List.getElem?_eq_getElem Ax⟩
    have hfl:=bestTo_lt hil j
    obtain ⟨ef,hef⟩:∃ e,fs[bestTo fs i j]? = some e:=⟨_,List.getElem?_eq_getElem hfl⟩
    have hsucc:=bestTo_succ (es:=fs) (i:=i) h14'
    rw [better_of hek hef] at hsucc
    refine Am (Af (Ae (Au (Ae ?_))))
    refine Ba [3,6,10,13] _ [] (by simp only [List.append_nil]; exact Ent.refl _) AK ?_
    refine AD 0 rfl (AG rfl) (AD 1 rfl (Ah rfl) (AD 2 rfl (Ab rfl) (Bc 3 rfl (Ag rfl rfl) rfl (AD 4 rfl (AG rfl) (AD 5 rfl (AB ((2*i+1+j)*2) rfl rfl Ax Ax Ax) ?_)))))
    refine Bc 6 rfl (Cw (vs:=wcs ek) rfl (by rfl) (C1 wcs_len fs ex _ ek hek)) rfl ?_
    refine AD 7 rfl (AG rfl) (AD 8 rfl (Ah rfl) (AD 9 rfl (Ab rfl) (Bc 10 rfl (Ag rfl rfl) rfl (AD 11 rfl (AG rfl) (AD 12 rfl (AB (bestTo fs i j*2) rfl rfl Ax Ax Ax) ?_)))))
    refine Bc 13 rfl (Cw (vs:=wcs ef) rfl (by rfl) (C1 wcs_len fs ex _ ef hef)) rfl ?_
    refine BT 14 rfl AK AK (AA (ahead_w _ _ _ _) rfl rfl AC) ?_
    rintro v L1 ⟨rfl,rfl⟩
    refine Cc (C0 [0,2,3,4,39] rfl (Bs AK (Af ?_)))
    refine Ak rfl (fun h39=>?_) (fun h39=>?_)
    ·rw [if_pos h39] at hsucc
     refine Al (Ad rfl (AX rfl (Be [0,2,3,4] rfl (AH (AR (Af (Al (Ad rfl (Ac (AO ((2*i+1+(j+1):Nat):Int) rfl rfl Ax Ax Ax) (AX rfl (Be [0,2,3,4] rfl (AH ?_))))))))))))
     refine Af ⟨j+1,⟨?_,by omega,rfl⟩,by omega⟩
     rw [hsucc]
    ·rw [if_neg (by simp [h39])] at hsucc
     refine Am (AR (Af (Al (Ad rfl (Ac (AO ((2*i+1+(j+1):Nat):Int) rfl rfl Ax Ax Ax) (AX rfl (Be [0,2,3,4] rfl (AH ?_))))))))
     refine Af ⟨j+1,⟨?_,by omega,rfl⟩,by omega⟩
     rw [hsucc]
   ·have hbe:=bestTo_end (es:=fs) (i:=i) (j:=j) (.inr (by simp at h22; omega))
    refine B3 _ (I8 0 rfl (I8 2 rfl (I8 3 rfl .nil))) (AY (AS (AS (AV rfl ?_))))
    refine Af ⟨?_,rfl⟩
    rw [hbe]
  ·refine AI rfl rfl rfl (AI rfl rfl rfl (AI rfl rfl rfl (AI rfl rfl rfl (AI rfl rfl rfl (AI rfl rfl rfl (AI rfl rfl rfl (Ac (AT rfl rfl) (AE [0,2,3,4,22] rfl ?_))))))))
   refine Ak rfl (fun h22=>by cases h22) (fun h22=>?_)
   have hbe:=bestTo_end (es:=fs) (i:=i) (j:=j) (.inl (by simp at h14; omega))
   refine B3 _ (I8 0 rfl (I8 2 rfl (I8 3 rfl .nil))) (AY (AS (AS (AV rfl ?_))))
   refine Af ⟨?_,rfl⟩
   rw [hbe]
 rintro env L ⟨rfl,rfl⟩
 refine Ae (A0 (Ad rfl (Ad rfl (Ac (Bp rfl rfl) (AE [0,2,3,43] rfl ?_)))))
 refine Ak rfl (fun h43=>?_) (fun h43=>?_)
 ·have hbi:Hp.best aW fs i=i:=by simp at h43; omega
  refine Ar (AN (B6 (AN (B6 ?_))))
  rw [← hdn,Hp.down_stop hbi]
  exact Aq _ .nil ⟨rfl,rfl⟩ AC
 ·have hbi:Hp.best aW fs i≠i:=by simp at h43; omega
  have hgt:=Hp.best_gt hbi
  obtain ⟨ei,hei⟩:∃ e,fs[i]? = some e:=⟨_,List.getElem?_eq_getElem Ax⟩
  obtain ⟨ep,hep⟩:∃ e,fs[Hp.best aW fs i]? = some e:=⟨_,List.getElem?_eq_getElem hgt.2⟩
  rw [Hp.down_step Ax hbi hei hep] at hdn
  generalize Hp.best aW fs i=p at *
  have hel:(wents fs).length=es.length*2:=by rw [wents_len,hl]
  refine Am (Af (Ae ?_))
  refine Ba [3,8,13,16,20,23] _ [] (by simp only [List.append_nil]; exact Ent.refl _) AK ?_
  refine AD 0 rfl (AG rfl) (AD 1 rfl (Ah rfl) (AD 2 rfl (Ab rfl) (Bc 3 rfl (Ag rfl rfl) rfl (AD 4 rfl (AG rfl) (AD 5 rfl (AG rfl) (AD 6 rfl (Ah rfl) (AD 7 rfl (Ab rfl) (Bc 8 rfl (Ag rfl rfl) rfl (AD 9 rfl (AG rfl) (AD 10 rfl (AG rfl) (AD 11 rfl (Ah rfl) (AD 12 rfl (Ab rfl) (Bc 13 rfl (Ag rfl rfl) rfl (AD 14 rfl (AG rfl) (AD 15 rfl (AB (p*2) rfl rfl Ax Ax Ax) ?_)))))))))))))))
  refine Bc 16 rfl (Cw (vs:=wcs ep) rfl (by rfl) (C1 wcs_len fs ex p ep hep)) rfl ?_
  refine AD 17 rfl (AG rfl) (AD 18 rfl (Ah rfl) (AD 19 rfl (Ab rfl) (Bc 20 rfl (Ag rfl rfl) rfl (AD 21 rfl (AG rfl) (AD 22 rfl (AB (i*2) rfl rfl Ax Ax Ax) ?_)))))
  refine Bc 23 rfl (Cw (vs:=wcs ei) rfl (by rfl) (C1 wcs_len fs ex i ei hei)) rfl ?_
  refine AD 24 rfl (AB (i*2) rfl rfl Ax Ax Ax) ?_
  refine Cs 25 rfl AK AK (CH (vs:=wcs ep) rfl rfl (Dv wcs_len fs ex i ep Ax) (by rw [List.length_append,← wents,hel,wcs_len]; omega) rfl rfl) ?_
  refine AD 26 rfl (AB (p*2) rfl rfl Ax Ax Ax) ?_
  refine Cj 27 rfl AK AK (CH (vs:=wcs ei) rfl rfl (Dv wcs_len (fs.set i ep) ex p ei (by simp; omega)) (by rw [List.length_append,Ca wcs_len,wcs_len,List.length_set]; omega) rfl rfl) ?_
  refine C0 [0,3] rfl (Bs AK (Af (Al (Ad rfl (AX rfl (Be [0,2] rfl (AH (AR ?_))))))))
  exact Af ⟨(p,(fs.set i ep).set p ei),⟨rfl,rfl,by simp [hl],.inl (by show p<es.length; omega),hdn⟩,by show es.length-p<es.length-i; omega⟩
end SX.Bq
namespace SX.Bq
open Go Go.Proofs SX

theorem wraw_fold{q C4:Nat}{v:Value}{es:List (WI×Nat)}{L:List AF}:Ent (B1 q 461 [v,.int .u64 (C4:Nat)]::own 498 2 v es.length (wents es)::L) (wraw q es C4::L) :=
 Fg (F:=fun v=>[B1 q 461 [v,.int .u64 (C4:Nat)],own 498 2 v es.length (wents es)]) v AC
theorem len_w(q:Nat)(es:List (WI×Nat))(C4:Nat):Spec Tryz.prog 391 [.pointer (some ⟨q,0,none⟩)] [wraw q es C4] (fun v L=>v=.int .i64 es.length∧L=[wraw q es C4]):=by
 refine Spec.of 10 Tryz.func391 rfl rfl rfl ?_
 refine EQ fun v=>?_
 refine FB ?_
 refine Db (A:=own 498 2 v es.length (wents es)) K3 ?_
 refine CG (fun m h=>Bz h) fun ⟨A,cap,hv⟩=>?_
 subst hv
 refine A0 (As [0] rfl rfl (Ae (A0 (Ad rfl (Ac (Bd rfl rfl) (AE [0,4] rfl (Dz rfl (Am (Af (A0 (Ad rfl (Ac (Ah rfl) (Ac (Ab rfl) (AJ (Ag rfl rfl) (Ac (BI rfl) (As [2] rfl rfl (Ar ?_)))))))))))))))))
 exact B8 [wraw q es C4] (.tmp rfl .nil) ⟨rfl,rfl⟩ ((Split.ent' (K:=[B1 q 461 [.slice A es.length cap,.int .u64 (C4:Nat)],own 498 2 (.slice A es.length cap) es.length (wents es)]) AC).trans wraw_fold)
theorem peek_w0(q C4:Nat):Spec Tryz.prog 378 [.pointer (some ⟨q,0,none⟩)] [wraw q [] C4] (fun v L=>v=.tuple #[wiV wiZ,.bool false]∧L=[wraw q [] C4]):=by
 refine Spec.of 16 Tryz.func378 rfl rfl rfl ?_
 refine A0 (AX rfl (As [0] rfl rfl (Ae (A0 (Ad rfl ?_)))))
 refine Aw (AA (len_w q [] C4) rfl rfl AC) ?_
 rintro v L1 ⟨rfl,rfl⟩
 refine Aj (Ac (Bp rfl rfl) (AE [0,7] rfl ?_))
 refine Ak rfl (fun h7=>?_) (fun h7=>by simp at h7)
 refine A0 (As [4] rfl rfl (A0 (Ad rfl (AX rfl (As [2,3] rfl rfl (Ar (AN ?_)))))))
 exact Aq [wraw q [] C4] (.tmp rfl (.tmp rfl .nil)) ⟨rfl,rfl⟩ AC
theorem peek_w(q C4:Nat)(e:WI×Nat)(es:List (WI×Nat)):Spec Tryz.prog 378 [.pointer (some ⟨q,0,none⟩)] [wraw q (e::es) C4] (fun v L=>v=.tuple #[wiV e.1,.bool true]∧L=[wraw q (e::es) C4]):=by
 refine Spec.of 16 Tryz.func378 rfl rfl rfl ?_
 refine A0 (AX rfl (As [0] rfl rfl (Ae (A0 (Ad rfl ?_)))))
 refine Aw (AA (len_w q (e::es) C4) rfl rfl AC) ?_
 rintro v L1 ⟨rfl,rfl⟩
 refine Aj (Ac (Bp rfl rfl) (AE [0,7] rfl ?_))
 refine Ak rfl (fun h7=>by simp at h7; omega) (fun h7=>?_)
 refine Am (Af (Ae ?_))
 refine EQ fun v=>?_
 refine FB ?_
 refine Db (A:=own 498 2 v (e::es).length (wents (e::es))) K3 ?_
 refine GA (fun h h0 h1=>by simp at h0) (fun g cap ex hv o1 o2 o3 o4=>?_)
 subst v
 refine Al (Ad rfl (Ac (Ah rfl) (Ac (Ab rfl) (AJ (Ag rfl rfl) ?_))))
 refine Ac (AB 0 rfl rfl Ax (by simp) rfl) ?_
 refine Ac (Ab rfl) (AJ (Ag (v:=wiV e.1) rfl rfl) (AX rfl (As [2,3] rfl rfl (Ar ?_))))
 exact B8 [wraw q (e::es) C4] (.tmp rfl (.tmp rfl .nil)) ⟨rfl,rfl⟩ ((Split.ent' (K:=[B1 g 498 (wents (e::es)++ex),B1 q 461 [.slice (some ⟨g,0,none⟩) (e::es).length cap,.int .u64 (C4:Nat)]]) AC).trans (wraw_close o1 o2 o4))

theorem pop_w0(q C4:Nat):Spec Tryz.prog 347 [.pointer (some ⟨q,0,none⟩)] [wraw q [] C4] (fun v L=>v=.tuple #[wiV wiZ,.bool false]∧L=[wraw q [] C4]):=by
 refine Spec.of 52 Tryz.func347 rfl rfl rfl ?_
 refine A0 (AX rfl (As [0] rfl rfl (A0 (Ad rfl ?_))))
 refine Aw (AA (peek_w0 q C4) rfl rfl AC) ?_
 rintro v L1 ⟨rfl,rfl⟩
 refine Aj (Ad rfl (Ac (Ai rfl) (Ac (Ai rfl) (AX rfl (As [0,4,5] rfl rfl (Ae (A0 (Ad rfl (Ac (BO rfl) (AE [0,4,13] rfl (Qs rfl (A0 (Ad rfl (AX rfl (As [2,3] rfl rfl (Ar (AN ?_)))))))))))))))))
 exact Aq [wraw q [] C4] (.tmp rfl (.tmp rfl .nil)) ⟨rfl,rfl⟩ AC

def wzcs:List Value:=[wiV wiZ,.int .u64 0]
theorem wents_app(a b:List (WI×Nat)):wents (a++b)=wents a++wents b:=by unfold wents; exact List.flatMap_append
theorem wents_over(es:List (WI×Nat))(ex:List Value)(i:Nat)(e:WI×Nat)(h:i<es.length):FD (wents es++ex) (wcs e) (i*2)=wents (es.set i e)++ex:=Dv wcs_len es ex i e h
theorem wover_cut(es:List (WI×Nat))(ex zs:List Value)(hz:zs.length=2)(hne:es≠[]):FD (wents es++ex) zs ((es.length-1)*2)=wents es.dropLast++(zs++ex):=by
 have e:=List.dropLast_concat_getLast hne
 have hl:(es.length-1)*2=(wents es.dropLast).length:=by rw [wents_len,List.length_dropLast]
 have h1:wents es=wents es.dropLast++wents [es.getLast hne]:=by rw [← wents_app,e]
 have h2:(wents [es.getLast hne]).length=2:=by rw [wents_len]; rfl
 generalize wents [es.getLast hne]=u at h1 h2
 rw [hl,h1]
 unfold FD
 rw [hz,List.append_assoc (wents es.dropLast) u ex,List.take_left,List.drop_append]
 rw [show (wents es.dropLast).length+2-(wents es.dropLast).length=2 by omega,List.drop_append,h2]
 rw [List.drop_eq_nil_of_le (by omega:(wents es.dropLast).length≤_),List.drop_eq_nil_of_le (by omega:u.length≤_)]
 simp

set_option maxHeartbeats 1000000 in
theorem pop_w(q C4:Nat)(e:WI×Nat)(es:List (WI×Nat))(hb1:(e::es).length≤1099511627776):Spec Tryz.prog 347 [.pointer (some ⟨q,0,none⟩)] [wraw q (e::es) C4]
  (fun v L=>v=.tuple #[wiV e.1,.bool true]∧L=[wraw q (Hp.pop aW (e::es)) C4]):=by
 refine Spec.of 52 Tryz.func347 rfl rfl rfl ?_
 refine A0 (AX rfl (As [0] rfl rfl (A0 (Ad rfl ?_))))
 refine Aw (AA (peek_w q C4 e es) rfl rfl AC) ?_
 rintro v L1 ⟨rfl,rfl⟩
 refine Aj (Ad rfl (Ac (Ai rfl) (Ac (Ai rfl) (AX rfl (As [0,4,5] rfl rfl (Ae (A0 (Ad rfl (Ac (BO rfl) (AE [0,4,13] rfl (Dz rfl (Am (Af (Ae ?_))))))))))))))
 obtain ⟨fs,hfs⟩:∃ fs,fs=e::es:=⟨_,rfl⟩
 have hne:fs≠[]:=by rw [hfs]; simp
 rw [← hfs] at hb1 ⊢
 have hpos:0<fs.length:=List.length_pos_iff.2 hne
 refine Db (A:=wraw q fs C4) K3 ?_
 refine EQ fun v=>?_
 refine FB ?_
 refine Db (A:=own 498 2 v fs.length (wents fs)) K3 ?_
 refine GA (fun h h0 h1=>by omega) (fun g cap ex hv o1 o2 o3 o4=>?_)
 subst v
 refine Al (Ad rfl (Ac (Ah rfl) (Ac (Ab rfl) (AJ (Ag rfl rfl) (Ac (BI rfl) (Ac (BY ((fs.length-1:Nat):Int) rfl rfl Ax Ax Ax) (As [0,4,6] rfl rfl (Ae ?_))))))))
 have hel:(wents fs).length=fs.length*2:=wents_len fs
 obtain ⟨l,hlast⟩:∃ l,fs[fs.length-1]? = some l:=⟨_,List.getElem?_eq_getElem Ax⟩
 refine Ba [3,7,10] _ [] (by simp only [List.append_nil]; exact Ent.refl _) AK ?_
 refine AD 0 rfl (AG rfl) (AD 1 rfl (Ah rfl) (AD 2 rfl (Ab rfl) (Bc 3 rfl (Ag rfl rfl) rfl (AD 4 rfl (AG rfl) (AD 5 rfl (Ah rfl) (AD 6 rfl (Ab rfl) (Bc 7 rfl (Ag rfl rfl) rfl (AD 8 rfl (AG rfl) (AD 9 rfl (AB ((fs.length-1)*2) rfl rfl Ax Ax Ax) ?_)))))))))
 refine Bc 10 rfl (Cw (vs:=wcs l) rfl (by rfl) (C1 wcs_len fs ex _ l hlast)) rfl ?_
 refine AD 11 rfl (AB (0*2) rfl rfl Ax Ax Ax) ?_
 refine Cs 12 rfl AK AK (CH (vs:=wcs l) rfl rfl (wents_over fs ex 0 l hpos) (by rw [List.length_append,wents_len,wcs_len]; omega) rfl rfl) ?_
 refine C0 [0,4,6] rfl (Bs AK (Af (Ae ?_)))
 have hl2:(fs.set 0 l).length=fs.length:=List.length_set
 have hne2:fs.set 0 l≠[]:=by intro h; rw [h] at hl2; simp at hl2; omega
 refine Al (Ad rfl (Ac (Ah rfl) (Ac (Ab rfl) (AJ (Ag rfl rfl) (Ad rfl (Ac (Bo (qs:=[]) rfl) ?_))))))
 refine Ac (AB (((fs.set 0 l).length-1)*2) rfl rfl Ax Ax (by rw [hl2]; omega)) ?_
 refine B5 (CH (vs:=wzcs) rfl rfl (wover_cut (fs.set 0 l) ex wzcs rfl hne2) (by rw [List.length_append,wents_len,hl2]; show _+2≤_; omega) rfl rfl) ?_
 refine AE [0,4,6] rfl (A0 (Ad rfl (Ad rfl (Ac (Ah rfl) (Ac (Ab rfl) (AJ (Ag rfl rfl) (Ad rfl (Ac (DB (fs.length-1) rfl rfl rfl Ax) (Ac (Ah rfl) (Ac (Ab rfl) (B5 (AW rfl rfl rfl) (AE [0,4] rfl (A0 (Ad rfl ?_))))))))))))))
 have hl3:(fs.set 0 l).dropLast.length=fs.length-1:=by rw [List.length_dropLast,hl2]
 rw [← hl3]
 refine Aw (AA (sink_w q g cap _ (fs.set 0 l).dropLast (wzcs++ex) Ax) rfl rfl AC) ?_
 rintro v L1 ⟨rfl,rfl⟩
 refine Aj (AE [4] rfl (A0 (Ad rfl (AX rfl (As [2,3] rfl rfl (Ar ?_))))))
 have hp:Hp.pop aW fs=Hp.down aW (fs.set 0 l).dropLast.length (fs.set 0 l).dropLast 0:=by
  have hgl:fs.getLast? = some l:=by rw [List.getLast?_eq_getElem?]; exact hlast
  unfold Hp.pop
  rw [hgl]
  exact Hp.down_enough _ _ _ _ Ax Ax
 have hpl:(Hp.pop aW fs).length=(fs.set 0 l).dropLast.length:=by rw [hp,Hp.down_length]
 rw [← hp,← hpl]
 exact B8 [wraw q (Hp.pop aW fs) C4] (.tmp rfl (.tmp rfl .nil)) ⟨rfl,rfl⟩
  ((
  Split.ent' (K:=[B1 g 498 (wents (Hp.pop aW fs)++(wzcs++ex)),B1 q 461 [.slice (some ⟨g,0,none⟩) (Hp.pop aW fs).length cap,.int .u64 (C4:Nat)]]) AC).trans
  (wraw_close Ax o2 (by rw [List.length_append,o4,hpl,hl3]; show 2+_=_; omega)))
end SX.Bq
namespace SX.Bq
open Go Go.Proofs SX

theorem aW_trans(a b c:WI×Nat)(h1:aW a b=true)(h2:aW b c=true):aW a c=true:=Hp.ahd_trans ltW_ord a b c h1 h2

def wa (q:Nat)(S:List (WI×Nat))(C4:Nat):AF:=exA (fun es : {es:List (WI×Nat) // Hp.Rep aW es S∧∀ y∈S,y.2<C4}=>[wraw q es.1 C4])
theorem wa_close{q C4:Nat}{es S:List (WI×Nat)}{L:List AF}(h:Hp.Rep aW es S)(h2:∀ y∈S,y.2<C4):Ent (wraw q es C4::L) (wa q S C4::L) :=
 Fg (F:=fun es : {es:List (WI×Nat) // Hp.Rep aW es S∧∀ y∈S,y.2<C4}=>[wraw q es.1 C4]) ⟨es,h,h2⟩ AC
theorem push_a(q:Nat)(S:List (WI×Nat))(C4:Nat)(x:WI)(hb1:S.length≤1099511627776)(hb2:C4≤18446744073709551614) :
  Spec Tryz.prog 346 [.pointer (some ⟨q,0,none⟩),wiV x] [wa q S C4] (fun v L=>v=.tuple #[]∧L=[wa q (Hp.ins aW (x,C4) S) (C4+1)]):=by
 refine Spec.exA' fun ⟨es,hr,hn⟩=>?_
 refine Spec.ent2 (push_w q es C4 x (by rw [hr.length]; exact hb1) hb2) (wa_close ?_ ?_)
 ·refine hr.push (Hp.ahd_ord ltW_ord) aW_trans fun y hy h=>Hp.ahd_total (by have:=hn y hy; simp only; omega) h
 ·intro y hy
  rcases Hp.mem_ins.1 hy with rfl | hy
  ·simp
  ·have:=hn y hy; omega
theorem pop_a0(q C4:Nat):Spec Tryz.prog 347 [.pointer (some ⟨q,0,none⟩)] [wa q [] C4] (fun v L=>v=.tuple #[wiV wiZ,.bool false]∧L=[wa q [] C4]):=by
 refine Spec.exA' fun ⟨es,hr,hn⟩=>?_
 have he:es=[]:=List.eq_nil_of_length_eq_zero (by rw [hr.length]; rfl)
 subst he
 exact Spec.ent2 (pop_w0 q C4) (wa_close hr hn)
theorem pop_a(q C4:Nat)(s:WI×Nat)(S:List (WI×Nat))(hb:(s::S).length≤1099511627776):Spec Tryz.prog 347 [.pointer (some ⟨q,0,none⟩)] [wa q (s::S) C4] (fun v L=>v=.tuple #[wiV s.1,.bool true]∧L=[wa q S C4]):=by
 refine Spec.exA' fun ⟨es,hr,hn⟩=>?_
 cases es with
 | nil=>have:=hr.length; simp at this
 | cons e es =>
  have hz:e=s:=hr.head (Hp.ahd_ord ltW_ord) rfl
  subst hz
  exact Spec.ent2 (pop_w q C4 e es (by rw [hr.length]; exact hb)) (wa_close (hr.pop (Hp.ahd_ord ltW_ord)) fun y hy=>hn y (List.mem_cons_of_mem _ hy))
theorem new_w:Spec Tryz.prog 285 [.slice none 0 0] [] (fun v L=>∃ q,v=.pointer (some ⟨q,0,none⟩)∧L=[wa q [] 0]):=by
 refine Spec.of 19 Tryz.func285 rfl rfl rfl ?_
 refine A0 (As [0] rfl rfl (A0 (Ac (Bo (qs:=[]) rfl) (Aw (Bi rfl rfl) (fun b7=>?_)))))
 refine As [0,3] rfl rfl (Ae (Ae (AP (wraw_nil (C4:=0)) ?_)))
 refine AP (wa_close Hp.Rep.nil (by simp)) ?_
 refine Al (Ad rfl (Ac (BI rfl) (Ad rfl (AE [3,8,9,10] rfl (Au ?_)))))
 refine B0 (ι:=Unit) (fun _ env L=>env=[(3,_),(8,_),(9,.int .i64 0),(10,.int .i64 0)]∧L=[wa _ [] 0]) (fun _=>0) () ⟨rfl,rfl⟩ ?_
 rintro _ env L ⟨rfl,rfl⟩
 refine A0 (Ac (Bb rfl rfl) (AE [3,8,9,10,11] rfl (Ae (Dz rfl (AY (AS (AS (AV rfl (Af (A0 (Ad rfl (As [2] rfl rfl (Ar ?_)))))))))))))
 exact Aq _ (.tmp rfl .nil) ⟨_,rfl,rfl⟩ AC
end SX.Bq
namespace SX.Bq
open Go Go.Proofs SX

theorem ins_fst{x nx:Nat}:∀ {S:List (WI×Nat)} {Q:List Nat},S.map (·.1)=Q.map (fun k:Nat=>(k:Int))→x∉Q→(Hp.ins aW ((x:Int),nx) S).map (·.1)=(F8 x Q).map (fun k:Nat=>(k:Int))
 | [],[],_,_=>rfl
 | [],_::_,h,_=>by simp at h
 | _::_,[],h,_=>by simp at h
 | s::S,q::Q,h,hx=>by
  rw [List.map_cons,List.map_cons,List.cons.injEq] at h
  obtain ⟨h1,h2⟩:=h
  have hne:x≠q:=fun e=>hx (by rw [e]; exact List.mem_cons_self ..)
  have hA:aW ((x:Int),nx) s=decide (q<x):=by
   unfold aW Hp.ahd ltW
   rw [h1,Bool.eq_iff_iff]
   simp only [Bool.or_eq_true,Bool.and_eq_true,Bool.not_eq_true',decide_eq_true_eq,decide_eq_false_iff_not]
   show (@LT.lt Int _ q x∨_)↔_
   have e1:(@LT.lt Int _ q x)↔q<x:=by omega
   have e2:(@LT.lt Int _ x q)↔x<q:=by omega
   constructor
   ·rintro (h | ⟨h,_⟩)
    ·exact e1.1 h
    ·have h':¬ @LT.lt Int _ (x:Int) (q:Int):=h
     omega
   ·exact fun h=>.inl (e1.2 h)
  unfold Hp.ins F8
  rw [hA]
  by_cases hq:q<x
  ·rw [if_pos (decide_eq_true hq),if_pos hq,List.map_cons,List.map_cons,h1,h2]; rfl
  ·rw [if_neg (by rw [decide_eq_false hq]; simp),if_neg hq,List.map_cons,List.map_cons,h1,ins_fst h2 (fun hm=>hx (List.mem_cons_of_mem _ hm))]
def cq (q:Nat)(Q:List Nat)(nx:Nat):AF:=exA (fun S : {S:List (WI×Nat) // S.map (·.1)=Q.map (fun k:Nat=>(k:Int))}=>[wa q S.1 nx])
theorem cq_close{q nx:Nat}{S:List (WI×Nat)}{Q:List Nat}{L:List AF}(h:S.map (·.1)=Q.map (fun k:Nat=>(k:Int))):Ent (wa q S nx::L) (cq q Q nx::L) :=
 Fg (F:=fun S : {S:List (WI×Nat) // S.map (·.1)=Q.map (fun k:Nat=>(k:Int))}=>[wa q S.1 nx]) ⟨S,h⟩ AC
theorem len_fst{S:List (WI×Nat)}{Q:List Nat}(h:S.map (·.1)=Q.map (fun k:Nat=>(k:Int))):S.length=Q.length:=by have:=congrArg List.length h; rwa [List.length_map,List.length_map] at this
theorem push_q(q:Nat)(Q:List Nat)(nx x:Nat)(hx:x∉Q)(hb1:Q.length≤1099511627776)(hb2:nx≤18446744073709551614) :
  Spec Tryz.prog 346 [.pointer (some ⟨q,0,none⟩),.int .i64 (x:Nat)] [cq q Q nx] (fun v L=>v=.tuple #[]∧L=[cq q (F8 x Q) (nx+1)]):=by
 refine Spec.exA' fun ⟨S,hS⟩=>?_
 exact Spec.ent2 (push_a q S nx (x:Int) (by rw [len_fst hS]; exact hb1) hb2) (cq_close (ins_fst hS hx))
theorem pop_q0(q nx:Nat):Spec Tryz.prog 347 [.pointer (some ⟨q,0,none⟩)] [cq q [] nx] (fun v L=>v=.tuple #[.int .i64 0,.bool false]∧L=[cq q [] nx]):=by
 refine Spec.exA' fun ⟨S,hS⟩=>?_
 have he:S=[]:=List.eq_nil_of_length_eq_zero (by rw [len_fst hS]; rfl)
 subst he
 exact Spec.ent2 (pop_a0 q nx) (cq_close rfl)
theorem pop_q(q nx c:Nat)(Q:List Nat)(hb:(c::Q).length≤1099511627776):Spec Tryz.prog 347 [.pointer (some ⟨q,0,none⟩)] [cq q (c::Q) nx] (fun v L=>v=.tuple #[.int .i64 (c:Nat),.bool true]∧L=[cq q Q nx]):=by
 refine Spec.exA' fun ⟨S,hS⟩=>?_
 cases S with
 | nil=>simp at hS
 | cons s S =>
  rw [List.map_cons,List.map_cons,List.cons.injEq] at hS
  have h:=pop_a q nx s S (by have:=len_fst hS.2; simp only [List.length_cons] at hb ⊢; omega)
  rw [hS.1] at h
  exact Spec.ent2 h (cq_close hS.2)
theorem new_q:Spec Tryz.prog 285 [.slice none 0 0] [] (fun v L=>∃ q,v=.pointer (some ⟨q,0,none⟩)∧L=[cq q [] 0]) :=
 Spec.ent3 new_w fun v L ⟨q,hv,hL⟩=>⟨_,by rw [hL]; exact cq_close rfl,q,hv,rfl⟩
end SX.Bq
namespace SX
open Go Go.Proofs Go.Proofs.Tryz

theorem WM {P:Program}{env:CQ}{t u:TypeId}{x y:Operand}(a b:Nat)(hx:AM env x=some (.int .i64 (a:Nat)))(hy:AM env y=some (.int .i64 (b:Nat)))(ha:a<4611686018427387904)(hb:b<4611686018427387904):Pu P env (.binOp .or t x y u) (.int .i64 ((a ||| b:Nat):Int)):=fun ρ hρ _ _ _ _ _ w=>by
 have hg:∀ X Y,eqGuard .or t X Y (.int .i64 (a:Nat)) (.int .i64 (b:Nat))=pure ():=fun _ _=>by simp [eqGuard]
 have hle:a ||| b<4611686018427387904:=Nat.or_lt_two_pow (n:=62) ha hb
 have hb':(binOp .or t (.int .i64 (a:Nat)) (.int .i64 (b:Nat)):Sem Value)=pure (.int .i64 ((a ||| b:Nat):Int)):=by
  have e:(binOp .or t (.int .i64 (a:Nat)) (.int .i64 (b:Nat)):Sem Value)=Op.intBits .or .i64 a b:=by simp [binOp]
  rw [e]
  show (let a':BitVec 64:=BitVec.ofInt 64 a; let b':BitVec 64:=BitVec.ofInt 64 b; pure (.int .i64 (IntKind.i64.wrap (a' ||| b').toNat)):Sem Value)=_
  have e1:(BitVec.ofInt 64 (a:Int)).toNat=a:=by rw [BitVec.ofInt_natCast,BitVec.toNat_ofNat]; exact Nat.mod_eq_of_lt Ax
  have e2:(BitVec.ofInt 64 (b:Int)).toNat=b:=by rw [BitVec.ofInt_natCast,BitVec.toNat_ofNat]; exact Nat.mod_eq_of_lt Ax
  simp only [BitVec.toNat_or,e1,e2]
  rw [EP Ax Ax]
 simp only [execOp,hρ x _ hx,hρ y _ hy,Sem.run_bind,hg,hb',Sem.run_pure,Result.andThen_ok]
theorem M5 {P:Program}{env:CQ}{t u:TypeId}{x y:Operand}{a b:Nat}(ha:isV a)(hb:b<8)(hx:AM env x=some (.int .i64 (a:Nat)))(hy:AM env y=some (.int .i64 (b:Nat))):Pu P env (.binOp .or t x y u) (.int .i64 ((a ||| b:Nat):Int)) :=
 WM a b hx hy (by have:=ha.lt; omega) Ax
theorem IJ {P:Program}{env:CQ}{t u:TypeId}{x y:Operand}{a:Nat}(b:Nat)(ha:isV a)(hb:b<8)(hx:AM env x=some (.int .i64 (a:Nat)))(hy:AM env y=some (.int .i64 (b:Nat))):Pu P env (.binOp .and t x y u) (.int .i64 ((a &&& b:Nat):Int)) :=
 S3 a b hx hy (by have:=ha.lt; omega) Ax
theorem A1s{a:Nat}(ha:isV a):decide (((a &&& 4:Nat):Int)=0)=decide (a<4):=by rcases ha with rfl | rfl | rfl | rfl | rfl <;> decide
theorem A0t{a:Nat}(ha:isV a)(h:a<4):decide (((a &&& 3:Nat):Int)=3)=decide (a=3):=by rcases ha with rfl | rfl | rfl | rfl | rfl <;> first | decide | omega
theorem M6 {P:Program}{env:CQ}{t u:TypeId}{x y:Operand}{a:Nat}(ha:isV a)(hx:AM env x=some (.int .i64 ((a &&& 4:Nat):Int)))(hy:AM env y=some (.int .i64 0)):Pu P env (.binOp .eql t x y u) (.bool (decide (a<4))):=by
 rw [← A1s ha]; exact Bp hx hy
theorem Z9 {P:Program}{env:CQ}{t u:TypeId}{x y:Operand}{a:Nat}(ha:isV a)(h:a<4)(hx:AM env x=some (.int .i64 ((a &&& 3:Nat):Int)))(hy:AM env y=some (.int .i64 3)):Pu P env (.binOp .eql t x y u) (.bool (decide (a=3))):=by
 rw [← A0t ha h]; exact Bp hx hy

def I1 (P:Nat→Nat)(l:BQ Int):Prop:=∀ c:Nat,Cd l (c:Int)=if P c=0 then none else some (.int .i64 (P c:Nat))
def Tu (b:Nat)(P:Nat→Nat):AF:=exA fun k : {k:BQ Int×Nat // I1 P k.1}=>[BF b Mu k.1.1 k.1.2]
theorem L4 {b:Nat}{P:Nat→Nat}{l:BQ Int}{c:Nat}{L:List AF}(h:I1 P l):Ent (BF b Mu l c::L) (Tu b P::L) :=
 Fg (F:=fun k : {k:BQ Int×Nat // I1 P k.1}=>[BF b Mu k.1.1 k.1.2]) ⟨(l,c),h⟩ AC
theorem NL {P:Nat→Nat}{l:BQ Int}(h:I1 P l)(c:Nat):(Cd l (c:Int)).getD (Value.int .i64 0)=Value.int .i64 (P c:Nat)∧(Cd l (c:Int)).isSome=decide (P c≠0):=by
 rw [h]
 by_cases e:P c=0
 ·rw [if_pos e,e]; exact ⟨rfl,rfl⟩
 ·rw [if_neg e]; exact ⟨rfl,(decide_eq_true e).symm⟩
theorem Za {s:PS}{l:BQ Int}(h:I1 s.1 l)(c k:Nat){v:Nat}(hne:s.1 c ||| v≠0):I1 (D6 s c v).1 (upd l k (c:Int) (.int .i64 ((s.1 c ||| v:Nat):Int))):=fun j=>by
 rw [IV,h]
 show _=if (if j=c then s.1 j ||| v else s.1 j)=0 then none else some (Value.int .i64 ((if j=c then s.1 j ||| v else s.1 j:Nat):Int))
 by_cases e:j=c
 ·subst e
  rw [if_pos rfl,if_pos rfl,if_neg hne]
 ·rw [if_neg (fun h=>e Ax),if_neg e]
theorem Zb:I1 (fun _=>0) []:=fun _=>rfl
theorem Zc {env:CQ}{L:List AF}{b k:Nat}{P:Nat→Nat}{l:BQ Int}{m x:Operand}[InM b L Mu l k](h:I1 P l)(c:Nat)(hx:AM env m=some (.map (some b)))(hy:AM env x=some (.int .i64 (c:Nat))):Rd prog env L (.lookup 269 m x true) (.tuple #[.int .i64 (P c:Nat),.bool (decide (P c≠0))]):=by
 have:=Oe (P:=prog) (t:=269) (kv:=Mu) (L:=L) (l:=l) (c:=k) (b:=b) (c:Int) hx hy
 rwa [(NL h c).1,(NL h c).2] at this
theorem A0u{env:CQ}{L:List AF}{b k:Nat}{P:Nat→Nat}{l:BQ Int}{m x:Operand}[InM b L Mu l k](h:I1 P l)(c:Nat)(hx:AM env m=some (.map (some b)))(hy:AM env x=some (.int .i64 (c:Nat))):Rd prog env L (.lookup 269 m x false) (.int .i64 (P c:Nat)):=by
 have:=Qy (P:=prog) (t:=269) (kv:=Mu) (L:=L) (l:=l) (c:=k) (b:=b) (c:Int) hx hy
 rwa [(NL h c).1] at this
abbrev P5 (p:Nat)(sv:Value)(n mb q F:Nat):AF:=B1 p 404 [sv,.int .i64 (n:Nat),.map (some mb),.pointer (some ⟨q,0,none⟩),.int .i64 (F:Nat)]
def Dh (n:Nat)(P:Nat→Nat):Nat:=CE n fun k=>decide (P k≠0)
theorem WN {n:Nat}{s:PS}{c v:Nat}(hc:c<n)(hne:s.1 c ||| v≠0):Dh n (D6 s c v).1=if s.1 c=0 then Dh n s.1+1 else Dh n s.1:=by
 have e:(fun k=>decide ((D6 s c v).1 k≠0))=fun j=>decide (s.1 j≠0)||decide (j=c):=funext fun j=>by
  show decide ((if j=c then s.1 j ||| v else s.1 j)≠0)=_
  by_cases e:j=c
  ·subst e; rw [if_pos rfl,decide_eq_true hne]; simp
  ·rw [if_neg e,decide_eq_false e,Bool.or_false]
 unfold Dh
 rw [e]
 by_cases h0:s.1 c=0
 ·rw [if_pos h0,KG (by simpa using h0) hc]
 ·rw [if_neg h0]
  congr 1
  funext j
  by_cases e:j=c
  ·subst e; rw [decide_eq_true h0]; simp
  ·rw [decide_eq_false e,Bool.or_false]
theorem Zd {s:PS}{c v:Nat}(h:s.1 c=0):(D6 s c v).2=F8 c s.2:=if_pos h
theorem Ze {s:PS}{c v:Nat}(h:s.1 c≠0):(D6 s c v).2=s.2:=if_neg h
theorem A22{a v:Nat}(h:v≠0):a ||| v≠0:=by
 have:v≤a ||| v:=Nat.right_le_or
 omega
set_option maxHeartbeats 2000000 in
theorem L5 (p n m mb q:Nat)(sv:Value)(s:PS)(c v:Nat)(hn:n≤65536)(hI:PI n m s)(hm:m≤n)(hc:c<m)(hv:isV v)(h0:v≠0) :
  Spec prog 286 [.pointer (some ⟨p,0,none⟩),.int .i64 (c:Nat),.int .i64 (v:Nat)] [P5 p sv n mb q (Gx s),Tu mb s.1,Bq.cq q s.2 (Dh n s.1)]
   (fun r L=>r=.tuple #[]∧L=[P5 p sv n mb q (Gx (D6 s c v)),Tu mb (D6 s c v).1,Bq.cq q (D6 s c v).2 (Dh n (D6 s c v).1)]):=by
 have hne:=A22 (a:=s.1 c) h0
 have hql:=Ed hI.falls hI.lt
 have hsl:=QU n fun k=>decide (s.1 k≠0)
 have hse:=WN (v:=v) (show c<n by omega) hne
 obtain ⟨f1,f2,f3⟩:=ZW hI hc hv
 have hfl:=Yd hI
 have hva:=hI.val c
 have hvo:=hva.or hv
 have hww:N1 s c=(decide (s.1 c≠0)&&decide (s.1 c<4)):=rfl
 have hii:pIs s c v=decide (s.1 c ||| v<4):=rfl
 refine Spec.pre ?_ Ent.swap
 refine Spec.exA' fun ⟨⟨l,k⟩,hl⟩=>?_
 simp only [List.cons_append,List.nil_append]
 dsimp only at hl ⊢
 refine Spec.ent3 (post:=fun r L=>∃ k',r=.tuple #[]∧L=[BF mb Mu (upd l k (c:Int) (.int .i64 ((s.1 c ||| v:Nat):Int))) k',P5 p sv n mb q (Gx (D6 s c v)),Bq.cq q (D6 s c v).2 (Dh n (D6 s c v).1)]) ?_
  (fun r L ⟨k',h1,h2⟩=>⟨_,by rw [h2]; exact (L4 (Za hl c k hne)).trans Ent.swap,h1,rfl⟩)
 refine Spec.of 80 func286 rfl rfl rfl ?_
 refine Ae (A0 (Ad rfl (Ac (Bb rfl rfl) (Ad rfl ?_))))
 refine B7 12 rfl (fun h12=>by exfalso; have:=of_decide_eq_true h12; omega) (fun h12=>?_)
 refine AQ rfl rfl (Ad rfl (AQ rfl rfl (Ad rfl (AQ rfl rfl (Ac (Ah rfl) (AQ rfl rfl (Ac (Ab rfl) (AQ rfl rfl (AJ (Ag rfl rfl) (AQ rfl rfl (Ac (CA rfl rfl) (Ac (AT rfl rfl) (AE [0,1,2,19] rfl ?_)))))))))))))
 refine Ak rfl (fun h19=>by exfalso; have:=of_decide_eq_true h19; omega) (fun h19=>?_)
 refine Am (Af (A0 (Ad rfl (Ac (Ah rfl) (Ac (Ab rfl) (AJ (Ag rfl rfl) (Ad rfl (AJ (Zc hl c rfl rfl) (Ad rfl (Ac (Ai rfl) (Ac (Ai rfl) (AX rfl (As [0,1,2,6,7] rfl rfl (A0 (Ad rfl (Ac (Ah rfl) (Ac (Ab rfl) (AJ (Ag rfl rfl) (Ad rfl (Ad rfl (Ad rfl (Ac (M5 hva hv.lt rfl rfl) ?_))))))))))))))))))))))
 refine B5 (Mt (kv:=Mu) _ rfl rfl rfl AC) ?_
 refine AE [0,1,2,6,7] rfl (Ae (A0 (Ad rfl (Ac (BO rfl) (AE [0,1,2,6,7,38] rfl ?_)))))
 refine Ak rfl (fun h38=>?_) (fun h38=>?_)
 ·have hz:s.1 c=0:=by simpa using h38
  have hqn:c∉s.2:=fun hq=>(hI.seen c hc).2 hq hz
  have hw:N1 s c=false:=by rw [hww,hz]; rfl
  rw [if_pos hz] at hse
  refine Al (Ad rfl (Ac (Ah rfl) (Ac (Ab rfl) (AJ (Ag rfl rfl) (Ad rfl ?_)))))
  refine Aw (AA (Bq.push_q q s.2 (Dh n s.1) c hqn Ax (by unfold Dh; omega)) rfl rfl AC) ?_
  rintro v44 L1 ⟨rfl,rfl⟩
  refine Aj ?_
  rw [← Zd (v:=v) hz,← hse]
  refine AE [0,2,6,7] rfl (A0 (Ad rfl (Ad rfl ?_)))
  refine B7 46 rfl (fun h46=>by exfalso; have:=of_decide_eq_true h46; exact this hz) (fun h46=>?_)
  refine AI rfl rfl rfl (AI rfl rfl rfl (AI rfl rfl rfl (Ac (AT rfl rfl) (Ad rfl (Ad rfl (Ac (M5 hva hv.lt rfl rfl) ?_))))))
  refine Ac (IJ 4 hvo (by decide) rfl rfl) ?_
  refine Ac (M6 hvo rfl rfl) (AX rfl (As [0,8,9] rfl rfl (A0 (Ad rfl (Ad rfl ?_)))))
  refine B7 57 rfl (fun h57=>?_) (fun h57=>?_)
  ·refine AQ rfl rfl (Ad rfl (AQ rfl rfl (Ac (BO rfl) (Ac (B4 rfl rfl) (AE [0,8,9,60] rfl ?_)))))
   refine Ak rfl (fun h60=>?_) (fun h60=>by cases h60)
   have e7:=f1 h57 hw
   refine Al (Ad rfl (Ac (Ah rfl) (Ac (Ab rfl) (AJ (Ag rfl rfl) (Ac (AO ((Gx (D6 s c v):Nat):Int) rfl rfl Ax Ax Ax) (Ac (Ah rfl) (Ac (Ab rfl) (B5 (AW rfl rfl rfl) (C7 _ .nil (AH ?_))))))))))
   exact Co [BF mb Mu (upd l k (c:Int) (.int .i64 ((s.1 c ||| v:Nat):Int))) _,P5 p sv n mb q (Gx (D6 s c v)),Bq.cq q (D6 s c v).2 (Dh n (D6 s c v).1)] .nil ⟨_,rfl,rfl⟩ AC
  ·refine AI rfl rfl rfl (AI rfl rfl rfl (Ac (AT rfl rfl) (AE [0,8,9,60] rfl ?_)))
   refine Ak rfl (fun h60=>by cases h60) (fun h60=>?_)
   refine A0 (Ad rfl (Ad rfl ?_))
   refine B7 69 rfl (fun h69=>by cases h69) (fun h69=>?_)
   refine AI rfl rfl rfl (AI rfl rfl rfl (Ac (AT rfl rfl) (AE [0,72] rfl ?_)))
   refine Ak rfl (fun h72=>by cases h72) (fun h72=>?_)
   refine Am ?_
   rw [← f3 (h57.trans hw.symm)]
   exact Co [BF mb Mu (upd l k (c:Int) (.int .i64 ((s.1 c ||| v:Nat):Int))) _,P5 p sv n mb q (Gx (D6 s c v)),Bq.cq q (D6 s c v).2 (Dh n (D6 s c v).1)] .nil ⟨_,rfl,rfl⟩ AC
 ·have hz:s.1 c≠0:=by simpa using h38
  have hw:N1 s c=decide (s.1 c<4):=by rw [hww,decide_eq_true hz,Bool.true_and]
  rw [if_neg hz] at hse
  rw [← Ze (v:=v) hz,← hse]
  refine Am (Af (A0 (Ad rfl (Ad rfl ?_))))
  refine B7 46 rfl (fun h46=>?_) (fun h46=>by exfalso; have:=of_decide_eq_false h46; exact this hz)
  refine AQ rfl rfl (Ad rfl (AQ rfl rfl ?_))
  refine Ac (IJ 4 hva (by decide) rfl rfl) ?_
  refine AQ rfl rfl (Ac (M6 hva rfl rfl) (Ac (B4 rfl rfl) (Ad rfl (Ad rfl (Ac (M5 hva hv.lt rfl rfl) ?_)))))
  refine Ac (IJ 4 hvo (by decide) rfl rfl) ?_
  refine Ac (M6 hvo rfl rfl) (AX rfl (As [0,8,9] rfl rfl (A0 (Ad rfl (Ad rfl ?_)))))
  refine B7 57 rfl (fun h57=>?_) (fun h57=>?_)
  ·refine AQ rfl rfl (Ad rfl (AQ rfl rfl (Ac (BO rfl) (Ac (B4 rfl rfl) (AE [0,8,9,60] rfl ?_)))))
   refine Ak rfl (fun h60=>?_) (fun h60=>?_)
   ·have e7:=f1 h57 (by rw [hw]; simpa using h60)
    refine Al (Ad rfl (Ac (Ah rfl) (Ac (Ab rfl) (AJ (Ag rfl rfl) (Ac (AO ((Gx (D6 s c v):Nat):Int) rfl rfl Ax Ax Ax) (Ac (Ah rfl) (Ac (Ab rfl) (B5 (AW rfl rfl rfl) (C7 _ .nil (AH ?_))))))))))
    exact Co [BF mb Mu (upd l k (c:Int) (.int .i64 ((s.1 c ||| v:Nat):Int))) _,P5 p sv n mb q (Gx (D6 s c v)),Bq.cq q (D6 s c v).2 (Dh n (D6 s c v).1)] .nil ⟨_,rfl,rfl⟩ AC
   ·refine A0 (Ad rfl (Ad rfl ?_))
    refine B7 69 rfl (fun h69=>?_) (fun h69=>by rw [h69] at h60; cases h60)
    refine AQ rfl rfl (Ad rfl (AQ rfl rfl (Ac (BO rfl) (Ac (B4 rfl rfl) (AE [0,72] rfl ?_)))))
    refine Ak rfl (fun h72=>by rw [h57] at h72; cases h72) (fun h72=>?_)
    refine Am ?_
    rw [← f3 (h57.trans (hw.trans h69).symm)]
    exact Co [BF mb Mu (upd l k (c:Int) (.int .i64 ((s.1 c ||| v:Nat):Int))) _,P5 p sv n mb q (Gx (D6 s c v)),Bq.cq q (D6 s c v).2 (Dh n (D6 s c v).1)] .nil ⟨_,rfl,rfl⟩ AC
  ·refine AI rfl rfl rfl (AI rfl rfl rfl (Ac (AT rfl rfl) (AE [0,8,9,60] rfl ?_)))
   refine Ak rfl (fun h60=>by cases h60) (fun h60=>?_)
   refine A0 (Ad rfl (Ad rfl ?_))
   refine B7 69 rfl (fun h69=>?_) (fun h69=>?_)
   ·refine AQ rfl rfl (Ad rfl (AQ rfl rfl (Ac (BO rfl) (Ac (B4 rfl rfl) (AE [0,72] rfl ?_)))))
    refine Ak rfl (fun h72=>?_) (fun h72=>by rw [h57] at h72; cases h72)
    have e9:=f2 h57 (hw.trans h69)
    refine Al (Ad rfl (Ac (Ah rfl) (Ac (Ab rfl) (AJ (Ag rfl rfl) (Ac (BY ((Gx (D6 s c v):Nat):Int) rfl rfl Ax Ax Ax) (Ac (Ah rfl) (Ac (Ab rfl) (B5 (AW rfl rfl rfl) (C7 _ .nil (AH ?_))))))))))
    exact Co [BF mb Mu (upd l k (c:Int) (.int .i64 ((s.1 c ||| v:Nat):Int))) _,P5 p sv n mb q (Gx (D6 s c v)),Bq.cq q (D6 s c v).2 (Dh n (D6 s c v).1)] .nil ⟨_,rfl,rfl⟩ AC
   ·refine AI rfl rfl rfl (AI rfl rfl rfl (Ac (AT rfl rfl) (AE [0,72] rfl ?_)))
    refine Ak rfl (fun h72=>by cases h72) (fun h72=>?_)
    refine Am ?_
    rw [← f3 (h57.trans (hw.trans h69).symm)]
    exact Co [BF mb Mu (upd l k (c:Int) (.int .i64 ((s.1 c ||| v:Nat):Int))) _,P5 p sv n mb q (Gx (D6 s c v)),Bq.cq q (D6 s c v).2 (Dh n (D6 s c v).1)] .nil ⟨_,rfl,rfl⟩ AC

def IK (g:List (List Int))(l r:List Int):List Int:=Bu g.length (Jp g (Jt g l r) g.length)
abbrev stS (l r:List Int):PS:=addRow 2 (addRow 1 (fun _=>0,[]) l) r
theorem Zf {n c:Nat}(hc:c<n)(D:Nat→Bool):KH n D (c:Int)=fun j=>D j||decide (j=c):=by
 funext j
 unfold KH
 rw [Int.toNat_natCast,decide_eq_true (show (0:Int)≤(c:Int)∧(c:Int)<n by omega),Bool.true_and]
set_option maxHeartbeats 4000000 in
theorem Tv (X:Src)(s0:X.σ)(μ:PH)(p mb q:Nat)(l r:List Int)(hT:RowAt μ 2 0 tabV)(h0:Le X.μ0 μ)(hf:X.fine s0)(hl:∀ p∈l,0≤p∧p<X.g.length)(hr:∀ p∈r,0≤p∧p<X.g.length) :
  Spec prog 287 [.pointer (some ⟨p,0,none⟩)] [P5 p X.sv X.n mb q (Gx (stS l r)),Tu mb (stS l r).1,Bq.cq q (stS l r).2 (Dh X.n (stS l r).1),X.A s0 μ,ro μ]
   (fun v L=>∃ zs μ',Km X.n zs∧Le μ μ'∧L=[own 3 1 v (IK X.g l r).length ((IK X.g l r).flatMap (Bj .i64)),X.A (zs.foldl X.step s0) μ',ro μ']):=by
 have hn:=X.hn
 have hXn:X.n=X.g.length:=rfl
 have hw0:PW X.g l r X.g.length (stS l r) (fun _=>false):=PW.start hl hr
 generalize stS l r=st0 at *
 refine Spec.of 85 func287 rfl rfl rfl ?_
 refine A0 (As [0] rfl rfl (A0 (Ad rfl (Ac (Ah rfl) (Ac (Ab rfl) (AJ (Ag rfl rfl) ?_))))))
 refine Aw (AA (Ur (X.n:Nat)) rfl rfl AC) ?_
 rintro v15 L1 ⟨p3,rfl,rfl⟩
 refine Aj (As [0,3] rfl rfl (A0 (Ad rfl (Ac (Ah rfl) (Ac (Ab rfl) (AJ (Ag rfl rfl) ?_))))))
 refine Aw (AA (Ur (X.n:Nat)) rfl rfl AC) ?_
 rintro v20 L1 ⟨p4,rfl,rfl⟩
 refine Aj (AX rfl (Be [0,3,4] rfl ?_))
 rw [KZ hn]
 refine Dp (Ae (Au (B3 _ (I8 0 rfl (I8 3 rfl (I8 4 rfl .nil))) ?_)))
 refine AP (Split.ent' (K:=[P5 p X.sv X.n mb q (Gx st0),Tu mb st0.1,Bq.cq q st0.2 (Dh X.n st0.1),CN p3 X.n (fun _=>false),CN p4 X.n (fun _=>false),X.A s0 μ,ro μ]) AC) ?_
 refine B0 (ι:=Nat×PS×(Nat→Bool)×(Nat→Bool)×List Nat×PH) (fun k env L=>Sub env [(0,.pointer (some ⟨p,0,none⟩)),(3,.pointer (some ⟨p3,0,none⟩)),(4,.pointer (some ⟨p4,0,none⟩))]
  ∧ L=[P5 p X.sv X.n mb q (Gx k.2.1),Tu mb k.2.1.1,Bq.cq q k.2.1.2 (Dh X.n k.2.1.1),CN p3 X.n k.2.2.1,CN p4 X.n k.2.2.2.1,X.A (k.2.2.2.2.1.foldl X.step s0) k.2.2.2.2.2,ro k.2.2.2.2.2]
  ∧ PW X.g l r k.1 k.2.1 k.2.2.1∧(∀ j,j<k.1→k.2.2.2.1 j=false)∧Km X.n k.2.2.2.2.1∧(∀ y∈k.2.2.2.2.1,k.1≤y)∧Le μ k.2.2.2.2.2) (fun k=>k.1) (X.g.length,st0,fun _=>false,fun _=>false,[],μ) ⟨⟨rfl,rfl,rfl,trivial⟩,rfl,hw0,fun _ _=>rfl,⟨List.nodup_nil,fun y hy=>by cases hy⟩,fun y hy=>(by cases hy),Le.refl _⟩ ?_
 rintro ⟨m,⟨P,Q0⟩,F,D,ys,μ1⟩ env L ⟨hsub0,rfl,hW,hD,hask,hys,hle⟩
 dsimp only at hW hD hask hys hle ⊢
 refine B3 _ hsub0 (Ae (A0 (Ad rfl (Ac (Ah rfl) (Ac (Ab rfl) (AJ (Ag rfl rfl) (Ac (BA rfl rfl) (AE [0,3,4,25] rfl ?_))))))))
 refine Ak rfl (fun h25=>?_) (fun h25=>?_)
 ·have hpos:0<Gx (P,Q0):=by have:=of_decide_eq_true h25; omega
  obtain ⟨c,Q,hQ⟩:=ZX hpos
  dsimp only at hQ
  subst hQ
  obtain ⟨hI1,hPc,hcm,hW1⟩:=hW.step X.hg
  have hml:=hW.le
  have hcn:c<X.g.length:=by omega
  have hV:isV (P c):=hW.pi.val c
  have hql:(c::Q).length≤m:=Ed hW.pi.falls hW.pi.lt
  have hpop:=ZY (P:=P) (c:=c) (Q:=Q)
  have hfb:=Yd hI1
  have hnw:PP X.n D (c:Int)=true:=by
   unfold PP
   rw [Int.toNat_natCast,hD c hcm,decide_eq_true (show (0:Int)≤c by omega),decide_eq_true (show (c:Int)<X.n by omega)]; rfl
  refine Am (Af (Au (A0 (Ad rfl (Ac (Ah rfl) (Ac (Ab rfl) (AJ (Ag rfl rfl) ?_)))))))
  refine Aw (AA (Bq.pop_q q (Dh X.n P) c Q Ax) rfl rfl AC) ?_
  rintro v31 L1 ⟨rfl,rfl⟩
  refine Aj (Ad rfl (Ac (Ai rfl) (Ac (Ai rfl) (AX rfl (As [0,3,4,5] rfl rfl (A0 (Ad rfl (As [0,3,4,7] rfl rfl (Ae ?_)))))))))
  refine AP (Split.ent' (K:=[Tu mb P,P5 p X.sv X.n mb q (Gx (P,c::Q)),Bq.cq q Q (Dh X.n P),CN p3 X.n F,CN p4 X.n D,X.A (ys.foldl X.step s0) μ1,ro μ1]) AC) ?_
  refine EQ fun ⟨⟨ents,clk⟩,hents⟩=>?_
  simp only [List.cons_append,List.nil_append]
  dsimp only at hents ⊢
  refine Al (Ad rfl (Ac (Ah rfl) (Ac (Ab rfl) (AJ (Ag rfl rfl) (Ad rfl (AJ (A0u hents c rfl rfl) (AX rfl (Be [0,3,4,7,8] rfl (BK (L4 hents) (Dp (Ae (A0 (Ad rfl (Ad rfl ?_))))))))))))))
  refine Aw (AA (Us p4 X.n D (c:Nat)) rfl rfl AC) ?_
  rintro v43 L1 ⟨rfl,rfl⟩
  refine Aj ?_
  rw [hnw,Zf (show c<X.n from hcn)]
  refine Ac (BO rfl) (AE [0,3,4,7,8,44] rfl (Dz rfl (Am (Af ?_))))
  refine Cb (fun env L=>Sub env [(0,.pointer (some ⟨p,0,none⟩)),(3,.pointer (some ⟨p3,0,none⟩)),(4,.pointer (some ⟨p4,0,none⟩)),(7,.int .i64 (c:Nat)),(8,.int .i64 (Jh (P c):Nat))]∧Ent L [P5 p X.sv X.n mb q (Gx (P,Q)),Tu mb P,Bq.cq q Q (Dh X.n P),CN p3 X.n (fun k=>F k||(decide (P c=3)&&decide (k=c))),CN p4 X.n (fun j=>D j||decide (j=c)),X.A (ys.foldl X.step s0) μ1,ro μ1]) ?_ ?_
  ·refine A0 (Ad rfl ?_)
   refine Ac (IJ 4 hV (by decide) rfl rfl) ?_
   refine Ac (M6 hV rfl rfl) (AE [0,3,4,7,8,47] rfl ?_)
   refine Ak rfl (fun h47=>?_) (fun h47=>?_)
   ·have h47':P c<4:=of_decide_eq_true h47
    rw [if_pos h47'] at hpop
    refine A0 (Ad rfl (Ac (Ah rfl) (Ac (Ab rfl) (AJ (Ag rfl rfl) (Ac (BY ((Gx (P,Q):Nat):Int) rfl rfl Ax Ax Ax) (Ac (Ah rfl) (Ac (Ab rfl) (B5 (AW rfl rfl rfl) (AE [0,3,4,7,8] rfl (A0 (Ad rfl ?_)))))))))))
    refine Ac (IJ 3 hV (by decide) rfl rfl) ?_
    refine Ac (Z9 hV h47' rfl rfl) (AE [0,3,4,7,8,57] rfl ?_)
    refine Ak rfl (fun h57=>?_) (fun h57=>?_)
    ·have h57':P c=3:=of_decide_eq_true h57
     refine A0 (Ad rfl (Ad rfl ?_))
     refine Aw (AA (Us p3 X.n F (c:Nat)) rfl rfl AC) ?_
     rintro v60 L1 ⟨rfl,rfl⟩
     refine Aj (AE [0,3,4,7,8] rfl (Al (Ad rfl ?_)))
     refine Ac (M5 hV (by decide) rfl rfl) ?_
     refine AX rfl (Be [0,3,4,7,8] rfl (AH ?_))
     refine Af ⟨⟨rfl,rfl,rfl,rfl,by rw [h57']; rfl,trivial⟩,?_⟩
     rw [Zf (show c<X.n from hcn),show (fun k=>F k||(decide (P c=3)&&decide (k=c)))=fun k=>F k||decide (k=c) by rw [h57']; rfl]
     exact Split.ent' AC
    ·have h57':¬ P c=3:=of_decide_eq_false h57
     refine Am ?_
     refine Af ⟨⟨rfl,rfl,rfl,rfl,by unfold Jh; rw [if_neg h57']; rfl,trivial⟩,?_⟩
     rw [show (fun k=>F k||(decide (P c=3)&&decide (k=c)))=F by funext k; rw [decide_eq_false h57']; simp]
     exact Split.ent' AC
   ·have h47':¬ P c<4:=of_decide_eq_false h47
    rw [if_neg h47',Nat.add_zero] at hpop
    have h57':¬ P c=3:=by omega
    refine Am ?_
    refine Af ⟨⟨rfl,rfl,rfl,rfl,by unfold Jh; rw [if_neg h57']; rfl,trivial⟩,?_⟩
    rw [hpop,show (fun k=>F k||(decide (P c=3)&&decide (k=c)))=F by funext k; rw [decide_eq_false h57']; simp]
    exact Split.ent' AC
  rintro env L ⟨hsub,hL8⟩
  refine B3 _ hsub (AP hL8 ?_)
  have hcy:c∉ys:=fun h=>by have:=hys c h; omega
  have hvo:isV (Jh (P c)):=hV.out
  have hvn:=U4 hPc
  generalize hv:Jh (P c)=v at *
  generalize hF':(fun k=>F k||(decide (P c=3)&&decide (k=c)))=F' at *
  have hD':∀ j,j<c→(fun j=>D j||decide (j=c)) j=false:=fun j hj=>by
   show (D j||decide (j=c))=false
   rw [hD j Ax,decide_eq_false Ax]; rfl
  generalize (fun j=>D j||decide (j=c))=D' at *
  refine A0 (Ad rfl (Ac (Ah rfl) (Ac (Ab rfl) (AJ (Ag rfl rfl) (Ad rfl ?_)))))
  refine Aw (DU rfl X.hd (X.parents (ys.foldl X.step s0) μ1 c (h0.trans hle) hcn (hf ys c hask.1 hcy (fun y hy=>hask.2 y hy) hcn)) rfl AC) ?_
  rintro v68 L1 ⟨μ3,hμ3,hrw,rfl⟩
  refine Aj (Ac (B2 hrw rfl) (Ad rfl (AE [0,3,4,8,68,69,70] rfl (Au (B3 _ (I8 0 rfl (I8 3 rfl (I8 4 rfl (I8 8 rfl (I8 68 rfl (I8 69 rfl (I8 70 rfl .nil))))))) ?_)))))
  refine AP (Split.ent' (K:=[P5 p X.sv X.n mb q (Gx (P,Q)),Tu mb P,Bq.cq q Q (Dh X.n P),CN p3 X.n F',CN p4 X.n D',X.A (X.step (ys.foldl X.step s0) c) μ3,ro μ3]) AC) ?_
  refine B0 (ι:=Nat) (fun i env L=>env=[(0,.pointer (some ⟨p,0,none⟩)),(3,.pointer (some ⟨p3,0,none⟩)),(4,.pointer (some ⟨p4,0,none⟩)),(8,.int .i64 (v:Nat)),(68,v68),(69,.int .i64 ((BU X.g c).length:Nat)),(70,.int .i64 (i:Nat))]
   ∧ L=[P5 p X.sv X.n mb q (Gx (addRow v (P,Q) ((BU X.g c).take i))),Tu mb (addRow v (P,Q) ((BU X.g c).take i)).1,Bq.cq q (addRow v (P,Q) ((BU X.g c).take i)).2 (Dh X.n (addRow v (P,Q) ((BU X.g c).take i)).1),CN p3 X.n F',CN p4 X.n D',X.A (X.step (ys.foldl X.step s0) c) μ3,ro μ3]∧i≤(BU X.g c).length) (fun i=>(BU X.g c).length-i) 0 ⟨rfl,rfl,Nat.zero_le _⟩ ?_
  rintro i env L ⟨rfl,rfl,hi⟩
  refine Ae ?_
  have hrs:=hrw.small
  have hrg:∀ u∈BU X.g c,0≤u∧u<c:=fun u hu=>⟨(CD X.hg hu).1,(CD X.hg hu).2.1⟩
  refine Al (Ac (Bb rfl rfl) (AE [0,3,4,8,68,69,70,71] rfl (Ae ?_)))
  refine Ak rfl (fun h71=>?_) (fun h71=>?_)
  ·have h71':i<(BU X.g c).length:=by have:=of_decide_eq_true h71; omega
   obtain ⟨u,hu⟩:∃ u,(BU X.g c)[i]? = some u:=⟨_,List.getElem?_eq_getElem h71'⟩
   obtain ⟨pb,po,pc,hpv,hpc⟩:=hrw.at_ hu
   have hur:=hrg u (List.mem_of_getElem? hu)
   obtain ⟨u,rfl⟩:∃ k:Nat,u=k:=⟨u.toNat,by omega⟩
   have hsu:=Iw (v:=v) (s:=(P,Q)) hu
   rw [Int.toNat_natCast] at hsu
   obtain ⟨hIi,_⟩:=PI.addRow (v:=v) (show c≤X.g.length by omega) hvo hvn hI1 (l:=(BU X.g c).take i) (fun w hw=>hrg w (List.mem_of_mem_take hw))
   have hDu:=hD' u Ax
   generalize addRow v (P,Q) ((BU X.g c).take i)=si at *
   refine Am (Af (Ae (Au (A0 ?_))))
   refine Ac (AB (po+i*1) (congrArg some hpv) rfl Ax Ax (by rw [Int.toNat_natCast])) ?_
   refine AJ (C3 rfl hpc) (As [0,3,4,8,10,68,69,70] rfl rfl (A0 (Ad rfl (Ad rfl ?_))))
   refine Aw (AA (A21 p4 X.n D' u) rfl rfl AC) ?_
   rintro v76 L1 ⟨rfl,rfl⟩
   refine Aj ?_
   rw [hDu]
   refine Ac (BO rfl) (AE [0,3,4,8,10,68,69,70,77] rfl (Qs rfl (Al (Ad rfl (Ad rfl (Ad rfl ?_))))))
   refine Aw (AA (L5 p X.n c mb q X.sv si u v hn hIi Ax Ax hvo hvn) rfl rfl AC) ?_
   rintro v81 L1 ⟨rfl,rfl⟩
   refine Aj (Be [0,3,4,8,68,69,70] rfl (AH (AR (Af (Al (Ac (AO ((i+1:Nat):Int) rfl rfl Ax Ax Ax) (Ad rfl (Be [0,3,4,8,68,69,70] rfl ?_))))))))
   refine BK (Split.ent' (K:=[P5 p X.sv X.n mb q (Gx (D6 si u v)),Tu mb (D6 si u v).1,Bq.cq q (D6 si u v).2 (Dh X.n (D6 si u v).1),CN p3 X.n F',CN p4 X.n D',X.A (X.step (ys.foldl X.step s0) c) μ3,ro μ3]) AC) ?_
   refine AH ?_
   exact Af ⟨i+1,⟨rfl,by rw [hsu],h71'⟩,by omega⟩
  ·have h71':=of_decide_eq_false h71
   obtain rfl:i=(BU X.g c).length:=by omega
   rw [List.take_length]
   refine AY (AS (AS (AV rfl (AR ?_))))
   refine Af ⟨(c,addRow v (P,Q) (BU X.g c),F',D',ys++[c],μ3),⟨⟨rfl,rfl,rfl,trivial⟩,?_,hW1,hD',⟨?_,?_⟩,?_,hle.trans hμ3⟩,hcm⟩
   ·rw [List.foldl_append]; rfl
   ·rw [List.nodup_append]
    exact ⟨hask.1,by simp,fun a ha b hb e=>by obtain rfl:=List.mem_singleton.1 hb; subst e; exact hcy ha⟩
   ·intro y hy
    rcases List.mem_append.1 hy with hy | hy
    ·exact hask.2 y hy
    ·obtain rfl:=List.mem_singleton.1 hy; exact hcn
   ·intro y hy
    rcases List.mem_append.1 hy with hy | hy
    ·have:=hys y hy; show c≤y; omega
    ·obtain rfl:=List.mem_singleton.1 hy; exact Nat.le_refl _
 ·have hz:Gx (P,Q0)=0:=by have:=of_decide_eq_false h25; omega
  have hFe:F=Jp X.g (Jt X.g l r) X.g.length:=funext (hW.done X.hg hz)
  subst hFe
  refine AY (AS (AS (AV rfl (Af (A0 (Ad rfl ?_))))))
  refine Aw (AA (Z8 μ1 p3 X.n (Jp X.g (Jt X.g l r) X.g.length) (hT.le hle)) rfl rfl AC) ?_
  rintro v84 L1 rfl
  refine Aj ?_
  rw [show Bu X.n (Jp X.g (Jt X.g l r) X.g.length)=IK X.g l r from rfl]
  refine As [2] rfl rfl (Ar ?_)
  exact Aq [own 3 1 v84 (IK X.g l r).length ((IK X.g l r).flatMap (Bj .i64)),X.A (ys.foldl X.step s0) μ1,ro μ1] (.tmp rfl .nil) ⟨ys,μ1,hask,hle,rfl⟩ AC

theorem Jy (X:Src)(s:X.σ)(μ:PH):Spec prog 214 [X.sv] [X.A s μ] (fun r L=>r=.int .i64 (X.n:Nat)∧L=[X.A s μ]):=by
 have hn:=X.hn
 refine Spec.of 7 func214 rfl rfl rfl ?_
 refine A0 (As [0] rfl rfl (A0 (Ad rfl ?_)))
 refine Aw (DU rfl X.hd (X.commits s μ) rfl AC) ?_
 rintro v4 L1 ⟨rfl,rfl⟩
 refine Aj (Ac (FC rfl rfl) (Ac (Ep rfl rfl) (As [2] rfl rfl (Ar ?_))))
 exact Aq [X.A s μ] (.tmp rfl .nil) ⟨by show Value.int .i64 _=_; rw [show min (max (X.g.length:Int) 0) 65536=(X.g.length:Int) by omega],rfl⟩ AC
set_option maxHeartbeats 1000000 in
theorem Rv (X:Src)(s:X.σ)(μ:PH)(lv:Value)(G:List (Value×List Int))(hG:Graph μ lv G):Spec prog 208 [X.sv,lv] [X.A s μ,ro μ] (fun r L=>r=.int .i64 (Cu X.n (EI G))∧L=[X.A s μ,ro μ]):=by
 have hsm:=hG.1.small
 refine Spec.of 33 func208 rfl rfl rfl ?_
 refine A0 (As [0,1] rfl rfl (Ae (A0 (Ad rfl (Ac (FZ rfl rfl) (AE [0,1,10] rfl (Dz rfl (Am (Af (Ae (A0 (Ad rfl (Ac (B2 hG.1 rfl) (Ad rfl (AE [0,11,12,13] rfl (Au ?_))))))))))))))))
 refine B0 (ι:=Nat) (fun i env L=>env=[(0,X.sv),(11,lv),(12,.int .i64 (G.length:Nat)),(13,.int .i64 (i:Nat))]∧L=[X.A s μ,ro μ]∧i≤G.length∧((EI G).take i).all (fun l=>l.all (O2 X.n))=true) (fun i=>G.length-i) 0 ⟨rfl,rfl,Nat.zero_le _,rfl⟩ ?_
 rintro i env L ⟨rfl,rfl,hi,hall⟩
 refine A0 (Ac (Bb rfl rfl) (AE [0,11,12,13,14] rfl (Ae ?_)))
 refine Ak rfl (fun h14=>?_) (fun h14=>?_)
 ·have h14':i<G.length:=by have:=of_decide_eq_true h14; omega
  obtain ⟨gb,off,cap,x,hv,hx,hxc,hxr,hnx⟩:=Z1 hG h14'
  have hsx:=hxr.small
  refine Am (Af (Ae (Au (A0 ?_))))
  refine Ac (AB (off+i*1) (congrArg some hv) rfl Ax Ax (by rw [Int.toNat_natCast])) ?_
  refine AJ (C3 rfl hxc) (As [0,6,11,12,13] rfl rfl (A0 (Ad rfl (Ac (B2 hxr rfl) (Ad rfl (AE [0,11,12,13,17,18,19] rfl (Au ?_)))))))
  refine B0 (ι:=Nat) (fun j env L=>env=[(0,X.sv),(11,lv),(12,.int .i64 (G.length:Nat)),(13,.int .i64 (i:Nat)),(17,x.1),(18,.int .i64 (x.2.length:Nat)),(19,.int .i64 (j:Nat))]∧L=[X.A s μ,ro μ]∧j≤x.2.length∧(x.2.take j).all (O2 X.n)=true) (fun j=>x.2.length-j) 0 ⟨rfl,rfl,Nat.zero_le _,rfl⟩ ?_
  rintro j env L ⟨rfl,rfl,hj,hin⟩
  refine A0 (Ac (Bb rfl rfl) (AE [0,11,12,13,17,18,19,20] rfl (Ae ?_)))
  refine Ak rfl (fun h20=>?_) (fun h20=>?_)
  ·have h20':j<x.2.length:=by have:=of_decide_eq_true h20; omega
   obtain ⟨c,hc⟩:∃ c,x.2[j]? = some c:=⟨_,List.getElem?_eq_getElem h20'⟩
   obtain ⟨pb,po,pc,hpv,hpc⟩:=hxr.at_ hc
   have hbad:O2 X.n c=false→(EI G).all (fun l=>l.all (O2 X.n))=false:=fun h=>by
    rw [List.all_eq_false]
    refine ⟨x.2,List.mem_of_getElem? hnx,?_⟩
    rw [List.all_eq_true]
    intro h2
    rw [h2 c (List.mem_of_getElem? hc)] at h; cases h
   refine Am (Af (Ae (Au (A0 ?_))))
   refine Ac (AB (po+j*1) (congrArg some hpv) rfl Ax Ax (by rw [Int.toNat_natCast])) ?_
   refine AJ (C3 rfl hpc) (As [0,8,11,12,13,17,18,19] rfl rfl (A0 (Ad rfl (Ac (Bb rfl rfl) (Ad rfl ?_)))))
   refine B7 25 rfl (fun h25=>?_) (fun h25=>?_)
   ·refine AI rfl rfl rfl (AI rfl rfl rfl (AI rfl rfl rfl (AI rfl rfl rfl (Ac (B4 rfl rfl) (AE [0,11,12,13,17,18,19,30] rfl ?_)))))
    refine Ak rfl (fun h30=>?_) (fun h30=>by cases h30)
    refine A0 (As [4] rfl rfl (Ar (B6 (AN (AN (B6 (B6 (AN (AN (B6 (AN ?_)))))))))))
    have h25':=of_decide_eq_true h25
    refine Aq [X.A s μ,ro μ] (.tmp rfl .nil) ⟨?_,rfl⟩ AC
    unfold Cu
    rw [if_neg (by rw [hbad (by unfold O2; rw [decide_eq_false Ax]; rfl)]; exact Bool.false_ne_true)]; rfl
   ·refine AQ rfl rfl (Ad rfl (AQ rfl rfl (Ad rfl (AQ rfl rfl ?_))))
    refine Aw (AA (Jy X s μ) rfl rfl AC) ?_
    rintro v28 L1 ⟨rfl,rfl⟩
    refine Aj (AQ rfl rfl (Ac (CA rfl rfl) (Ac (AT rfl rfl) (AE [0,11,12,13,17,18,19,30] rfl ?_))))
    refine Ak rfl (fun h30=>?_) (fun h30=>?_)
    ·refine A0 (As [4] rfl rfl (Ar (B6 (AN (AN (B6 (B6 (AN (AN (B6 (AN ?_)))))))))))
     have h30':=of_decide_eq_true h30
     refine Aq [X.A s μ,ro μ] (.tmp rfl .nil) ⟨?_,rfl⟩ AC
     unfold Cu
     rw [if_neg (by rw [hbad (by unfold O2; rw [decide_eq_false (p:=c<(X.n:Int)) Ax,Bool.and_false])]; exact Bool.false_ne_true)]; rfl
    ·refine Am (AR (Af (Al (Ac (AO ((j+1:Nat):Int) rfl rfl Ax Ax Ax) (Ad rfl (Be [0,11,12,13,17,18,19] rfl (AH ?_)))))))
     have h25':=of_decide_eq_false h25
     have h30':=of_decide_eq_false h30
     refine Af ⟨j+1,⟨rfl,rfl,h20',?_⟩,by omega⟩
     rw [List.take_add_one,hc,List.all_append,hin]
     show (true&&([c].all _))=true
     simp only [List.all_cons,List.all_nil,Bool.and_true,Bool.true_and]
     unfold O2
     rw [decide_eq_true (show 0≤c by omega),decide_eq_true (show c<(X.n:Int) by omega)]; rfl
  ·have h20':=of_decide_eq_false h20
   obtain rfl:j=x.2.length:=by omega
   rw [List.take_length] at hin
   refine AY (AS (AS (AV rfl (AR (Af (Al (Ac (AO ((i+1:Nat):Int) rfl rfl Ax Ax Ax) (Ad rfl (Be [0,11,12,13] rfl (AH ?_))))))))))
   refine Af ⟨i+1,⟨rfl,rfl,h14',?_⟩,by omega⟩
   rw [List.take_add_one,hnx,List.all_append,hall]
   show (true&&([x.2].all _))=true
   simp only [List.all_cons,List.all_nil,Bool.and_true,Bool.true_and]
   exact hin
 ·have h14':=of_decide_eq_false h14
  obtain rfl:i=G.length:=by omega
  refine AY (AS (AS (AV rfl (Af (A0 (As [4] rfl rfl (Ar ?_)))))))
  refine Aq [X.A s μ,ro μ] (.tmp rfl .nil) ⟨?_,rfl⟩ AC
  rw [List.take_of_length_le (by rw [List.length_map]; exact Nat.le_refl _)] at hall
  unfold Cu
  rw [if_pos hall]; rfl
def Dr (g:List (List Int))(xs ys:List Int):List Int:=if I7 g xs ys=0 then IK g xs ys else []
set_option maxHeartbeats 4000000 in
theorem Tw (X:Src)(s0:X.σ)(μ:PH)(v u:Value)(xs ys:List Int)(hT:RowAt μ 2 0 tabV)(hv:Row μ v 1 xs.length (xs.flatMap (Bj .i64)))(hu:Row μ u 1 ys.length (ys.flatMap (Bj .i64)))(h0:Le X.μ0 μ)(hf:X.fine s0) :
  Spec prog 207 [X.sv,v,u] [X.A s0 μ,ro μ] (fun r L=>∃ lv zs μ',Km X.n zs∧Le μ μ'∧r=.tuple #[lv,.int .i64 (I7 X.g xs ys)]∧L=[own 3 1 lv (Dr X.g xs ys).length ((Dr X.g xs ys).flatMap (Bj .i64)),X.A (zs.foldl X.step s0) μ',ro μ']):=by
 have hn:=X.hn
 have hXn:X.n=X.g.length:=rfl
 have hvs:=hv.small
 have hus:=hu.small
 obtain ⟨A1,c1,rfl⟩:=hv.sl
 obtain ⟨A2,c2,rfl⟩:=hu.sl
 refine Spec.of 51 func207 rfl rfl rfl ?_
 refine A0 (AX rfl (As [0,1,2] rfl rfl (Ae (A0 (Ad rfl (Ad rfl (Ad rfl (Aw (Bg (qs:=[(0,_),(1,_)]) rfl rfl rfl) (fun b17=>?_)))))))))
 refine Fh (b:=b17) (μ:=μ) AC fun μ1 h1 k1=>?_
 refine BK (X.up (s:=s0) h1 AC) ?_
 have hG:Graph μ1 (.slice (some ⟨b17,0,none⟩) 2 2) [(.slice A1 xs.length c1,xs),(.slice A2 ys.length c2,ys)]:=⟨Ew k1 (by rfl) (by decide),fun x hx=>by
  rcases List.mem_cons.1 hx with rfl | hx
  ·exact hv.le h1
  ·obtain rfl:=List.mem_singleton.1 hx; exact hu.le h1⟩
 refine Aw (AA (Rv X s0 μ1 _ _ hG) rfl rfl AC) ?_
 rintro v18 L1 ⟨rfl,rfl⟩
 refine Aj ?_
 rw [show Cu X.n (EI [(Value.slice A1 xs.length c1,xs),(Value.slice A2 ys.length c2,ys)])=I7 X.g xs ys from rfl]
 refine As [0,1,2,8] rfl rfl (A0 (Ad rfl (Ac (Bm rfl rfl) (AE [0,1,2,8,20] rfl ?_))))
 refine Ak rfl (fun h20=>?_) (fun h20=>?_)
 ·have he:I7 X.g xs ys≠0:=by simpa using h20
  refine A0 (Ad rfl (AX rfl (As [6,7] rfl rfl (Ar (AN ?_)))))
  refine B8 [own 3 1 (.slice none 0 0) (Dr X.g xs ys).length ((Dr X.g xs ys).flatMap (Bj .i64)),X.A s0 μ1,ro μ1] (.tmp rfl (.tmp rfl .nil)) ⟨_,[],μ1,⟨List.nodup_nil,fun y hy=>by cases hy⟩,h1,rfl,rfl⟩ ?_
  rw [Dr,if_neg he]
  exact (Split.ent' (K:=[X.A s0 μ1,ro μ1]) AC).trans own_nil_ent
 ·have he:I7 X.g xs ys=0:=by simpa using h20
  have hx:∀ p∈xs,0≤p∧p<X.g.length:=P4 he (by simp)
  have hy:∀ p∈ys,0≤p∧p<X.g.length:=P4 he (by simp)
  refine Am (Af (A0 (Ad rfl (Ad rfl ?_))))
  refine Aw (AA (Jy X s0 μ1) rfl rfl AC) ?_
  rintro v24 L1 ⟨rfl,rfl⟩
  refine Aj (Aw (Fj (kv:=Mu)) (fun b25=>?_))
  refine Aw (AA Bq.new_q rfl rfl AC) ?_
  rintro v26 L1 ⟨q,rfl,rfl⟩
  refine Aj (Ac (Bo (qs:=[(0,_),(1,_),(2,_),(3,_)]) rfl) (Aw (Bi rfl rfl) (fun b28=>?_)))
  refine AX rfl (Be [1,2,9] rfl ?_)
  refine BK (Split.ent' (K:=[BF b25 Mu [] 0,B1 b28 404 [X.sv,.int .i64 (X.n:Nat),.map (some b25),.pointer (some ⟨q,0,none⟩),.int .i64 0],Bq.cq q [] 0,X.A s0 μ1,ro μ1]) AC) ?_
  refine BK (L4 Zb) ?_
  have hs0:Dh X.n (fun _=>0)=0:=by unfold Dh; exact NI _
  refine Dp (Ae (A0 (Ad rfl (Ac (BI rfl) (Ad rfl (AE [2,9,29,30,31] rfl (Au ?_)))))))
  have key:∀ i,PI X.n X.n (addRow 1 (fun _=>0,[]) (xs.take i)):=fun i=>(PI.addRow (v:=1) (Nat.le_refl X.n) (by unfold isV; decide) (by decide) (PI.start X.n) (fun p hp=>hx p (List.mem_of_mem_take hp))).1
  refine AP (L':=[P5 b28 X.sv X.n b25 q (Gx (addRow 1 (fun _=>0,[]) (xs.take 0))),Tu b25 (addRow 1 (fun _=>0,[]) (xs.take 0)).1,Bq.cq q (addRow 1 (fun _=>0,[]) (xs.take 0)).2 (Dh X.n (addRow 1 (fun _=>0,[]) (xs.take 0)).1),X.A s0 μ1,ro μ1]) (by
   show Ent _ [B1 b28 404 [X.sv,.int .i64 (X.n:Nat),.map (some b25),.pointer (some ⟨q,0,none⟩),.int .i64 0],Tu b25 (fun _=>0),Bq.cq q [] (Dh X.n (fun _=>0)),X.A s0 μ1,ro μ1]
   rw [hs0]; exact Split.ent' AC) ?_
  refine B0 (ι:=Nat) (fun i env L=>env=[(2,.slice A2 ys.length c2),(9,.pointer (some ⟨b28,0,none⟩)),(29,.slice A1 xs.length c1),(30,.int .i64 (xs.length:Nat)),(31,.int .i64 (i:Nat))]
   ∧ L=[P5 b28 X.sv X.n b25 q (Gx (addRow 1 (fun _=>0,[]) (xs.take i))),Tu b25 (addRow 1 (fun _=>0,[]) (xs.take i)).1,Bq.cq q (addRow 1 (fun _=>0,[]) (xs.take i)).2 (Dh X.n (addRow 1 (fun _=>0,[]) (xs.take i)).1),X.A s0 μ1,ro μ1]∧i≤xs.length) (fun i=>xs.length-i) 0 ⟨rfl,rfl,Nat.zero_le _⟩ ?_
  rintro i env L ⟨rfl,rfl,hi⟩
  refine A0 (Ac (Bb rfl rfl) (AE [2,9,29,30,31,32] rfl (Ae ?_)))
  refine Ak rfl (fun h32=>?_) (fun h32=>?_)
  ·have h32':i<xs.length:=by have:=of_decide_eq_true h32; omega
   obtain ⟨c,hc⟩:∃ c,xs[i]? = some c:=⟨_,List.getElem?_eq_getElem h32'⟩
   obtain ⟨pb,po,pc,hpv,hpc⟩:=(hv.le h1).at_ hc
   have hcr:=hx c (List.mem_of_getElem? hc)
   obtain ⟨c,rfl⟩:∃ k:Nat,c=k:=⟨c.toNat,by omega⟩
   have hsu:=Iw (v:=1) (s:=(fun _=>0,[])) hc
   rw [Int.toNat_natCast] at hsu
   have hki:=key i
   generalize addRow 1 (fun _=>0,[]) (xs.take i)=si at *
   refine Am (Af (Ae (Au (A0 ?_))))
   refine Ac (AB (po+i*1) (congrArg some hpv) rfl Ax Ax (by rw [Int.toNat_natCast])) ?_
   refine AJ (C3 rfl hpc) (As [2,9,11,29,30,31] rfl rfl (Al (Ad rfl (Ad rfl ?_))))
   refine Aw (AA (L5 b28 X.n X.n b25 q X.sv si c 1 hn hki (Nat.le_refl _) Ax (by unfold isV; decide) (by decide)) rfl rfl AC) ?_
   rintro v37 L1 ⟨rfl,rfl⟩
   refine Aj (Be [2,9,29,30,31] rfl (AH (AR (Af (Al (Ac (AO ((i+1:Nat):Int) rfl rfl Ax Ax Ax) (Ad rfl (Be [2,9,29,30,31] rfl (AH ?_)))))))))
   exact Af ⟨i+1,⟨rfl,by rw [hsu],h32'⟩,by omega⟩
  ·have h32':=of_decide_eq_false h32
   obtain rfl:i=xs.length:=by omega
   have hk1:=key xs.length
   rw [List.take_length] at *
   refine AY (AS (AS (AV rfl (Af (Ae (A0 (Ad rfl (Ac (B2 hu rfl) (Ad rfl (AE [9,39,40,41] rfl (Au ?_)))))))))))
   have key2:∀ i,PI X.n X.n (addRow 2 (addRow 1 (fun _=>0,[]) xs) (ys.take i)):=fun i=>(PI.addRow (v:=2) (Nat.le_refl X.n) (by unfold isV; decide) (by decide) hk1 (fun p hp=>hy p (List.mem_of_mem_take hp))).1
   refine B3 _ (I8 9 rfl (I8 39 rfl (I8 40 rfl (I8 41 rfl .nil)))) ?_
   refine B0 (ι:=Nat) (fun i env L=>env=[(9,.pointer (some ⟨b28,0,none⟩)),(39,.slice A2 ys.length c2),(40,.int .i64 (ys.length:Nat)),(41,.int .i64 (i:Nat))]
    ∧ L=[P5 b28 X.sv X.n b25 q (Gx (addRow 2 (addRow 1 (fun _=>0,[]) xs) (ys.take i))),Tu b25 (addRow 2 (addRow 1 (fun _=>0,[]) xs) (ys.take i)).1,Bq.cq q (addRow 2 (addRow 1 (fun _=>0,[]) xs) (ys.take i)).2 (Dh X.n (addRow 2 (addRow 1 (fun _=>0,[]) xs) (ys.take i)).1),X.A s0 μ1,ro μ1]∧i≤ys.length) (fun i=>ys.length-i) 0 ⟨rfl,rfl,Nat.zero_le _⟩ ?_
   rintro i env L ⟨rfl,rfl,hi⟩
   refine A0 (Ac (Bb rfl rfl) (AE [9,39,40,41,42] rfl (Ae ?_)))
   refine Ak rfl (fun h42=>?_) (fun h42=>?_)
   ·have h42':i<ys.length:=by have:=of_decide_eq_true h42; omega
    obtain ⟨c,hc⟩:∃ c,ys[i]? = some c:=⟨_,List.getElem?_eq_getElem h42'⟩
    obtain ⟨pb,po,pc,hpv,hpc⟩:=(hu.le h1).at_ hc
    have hcr:=hy c (List.mem_of_getElem? hc)
    obtain ⟨c,rfl⟩:∃ k:Nat,c=k:=⟨c.toNat,by omega⟩
    have hsu:=Iw (v:=2) (s:=addRow 1 (fun _=>0,[]) xs) hc
    rw [Int.toNat_natCast] at hsu
    have hki:=key2 i
    generalize addRow 2 (addRow 1 (fun _=>0,[]) xs) (ys.take i)=si at *
    refine Am (Af (Ae (Au (A0 ?_))))
    refine Ac (AB (po+i*1) (congrArg some hpv) rfl Ax Ax (by rw [Int.toNat_natCast])) ?_
    refine AJ (C3 rfl hpc) (As [9,13,39,40,41] rfl rfl (Al (Ad rfl (Ad rfl ?_))))
    refine Aw (AA (L5 b28 X.n X.n b25 q X.sv si c 2 hn hki (Nat.le_refl _) Ax (by unfold isV; decide) (by decide)) rfl rfl AC) ?_
    rintro v47 L1 ⟨rfl,rfl⟩
    refine Aj (Be [9,39,40,41] rfl (AH (AR (Af (Al (Ac (AO ((i+1:Nat):Int) rfl rfl Ax Ax Ax) (Ad rfl (Be [9,39,40,41] rfl (AH ?_)))))))))
    exact Af ⟨i+1,⟨rfl,by rw [hsu],h42'⟩,by omega⟩
   ·have h42':=of_decide_eq_false h42
    obtain rfl:i=ys.length:=by omega
    rw [List.take_length]
    refine AY (AS (AS (AV rfl (Af (A0 (Ad rfl ?_))))))
    refine Aw (AA (Tv X s0 μ1 b28 b25 q xs ys (hT.le h1) (h0.trans h1) hf hx hy) rfl rfl AC) ?_
    rintro v50 L1 ⟨zs,μ2,hzs,h2,rfl⟩
    refine Aj ?_
    rw [show IK X.g xs ys=Dr X.g xs ys from (if_pos he).symm]
    refine AX rfl (As [6,7] rfl rfl (Ar ?_))
    exact Aq [own 3 1 v50 (Dr X.g xs ys).length ((Dr X.g xs ys).flatMap (Bj .i64)),X.A (zs.foldl X.step s0) μ2,ro μ2] (.tmp rfl (.tmp rfl .nil)) ⟨_,zs,μ2,hzs,h1.trans h2,by rw [he]; rfl,rfl⟩ AC
theorem Tx (X:Src)(s0:X.σ)(μ:PH)(a b:Int)(hT:RowAt μ 2 0 tabV)(h0:Le X.μ0 μ)(hf:X.fine s0) :
  Spec prog 122 [X.sv,.int .i64 a,.int .i64 b] [X.A s0 μ,ro μ] (fun r L=>∃ lv zs μ',Km X.n zs∧Le μ μ'∧r=.tuple #[lv,.int .i64 (I7 X.g [a] [b])]∧L=[own 3 1 lv (Dr X.g [a] [b]).length ((Dr X.g [a] [b]).flatMap (Bj .i64)),X.A (zs.foldl X.step s0) μ',ro μ']):=by
 refine Spec.of 16 func122 rfl rfl rfl ?_
 refine A0 (AX rfl (As [0,1,2] rfl rfl (A0 (Ad rfl (Ad rfl (Aw (Bg (qs:=[(0,_)]) rfl rfl rfl) (fun b10=>?_)))))))
 refine Ad rfl (Aw (Bg (qs:=[(0,_)]) rfl rfl rfl) (fun b12=>?_))
 refine Fh (b:=b10) (μ:=μ) AC fun μ1 h1 k1=>?_
 refine Fh (b:=b12) (μ:=μ1) AC fun μ2 h2 k2=>?_
 refine BK (X.up (s:=s0) (h1.trans h2) AC) ?_
 have r1:=(Ew (n:=1) (l:=1) (cs:=[a].flatMap (Bj .i64)) k1 (by rfl) (by decide)).le h2
 have r2:=Ew (n:=1) (l:=1) (cs:=[b].flatMap (Bj .i64)) k2 (by rfl) (by decide)
 refine Aw (AA (Tw X s0 μ2 _ _ [a] [b] ((hT.le h1).le h2) r1 r2 (h0.trans (h1.trans h2)) hf) rfl rfl AC) ?_
 rintro v13 L1 ⟨lv,zs,μ3,hzs,h3,rfl,rfl⟩
 refine Aj (Ac (Ai rfl) (Ac (Ai rfl) (AX rfl (As [6,7] rfl rfl (Ar ?_)))))
 exact Aq [own 3 1 lv (Dr X.g [a] [b]).length ((Dr X.g [a] [b]).flatMap (Bj .i64)),X.A (zs.foldl X.step s0) μ3,ro μ3] (.tmp rfl (.tmp rfl .nil)) ⟨_,zs,μ3,hzs,h1.trans (h2.trans h3),rfl,rfl⟩ AC
structure VWt where
 pw:Nat
 ps:Nat
 px:Nat
 q:Nat
 W:SW
 lv:Value
 gv:Value
 l:List Lk
 V:List GV
structure VWt.Ok (X:VWt) (μ:PH):Prop where
 w:X.W.Ok μ
 s:SOk X.W
 x:∃ m c d,XS μ m c X.W d X.lv X.gv X.l X.V
theorem VWt.Ok.le{X:VWt}{μ μ':PH}(h:X.Ok μ)(k:Le μ μ'):X.Ok μ':=⟨h.w.le k,h.s,by obtain ⟨m,c,d,hx⟩:=h.x; exact ⟨m,c,d,hx.le k⟩⟩
abbrev VWt.L(X:VWt):List AF:=[B1 X.pw 102 [pv X.ps,pv X.px],xB X.px X.q X.lv X.gv,Cy X.ps X.W,Df X.W,Dc X.W]
abbrev VWt.LR(X:VWt)(μ:PH):List AF:=[B1 X.pw 102 [pv X.ps,pv X.px],xB X.px X.q X.lv X.gv,Cy X.ps X.W,Df X.W,Dc X.W,ro μ]
def VWt.A (X:VWt):AF:=exA fun _:Unit=>X.L
theorem VWt.close{X:VWt}{L:List AF}:Ent (B1 X.pw 102 [pv X.ps,pv X.px]::xB X.px X.q X.lv X.gv::Cy X.ps X.W::Df X.W::Dc X.W::L) (X.A::L):=Du (F:=fun _:Unit=>X.L) ()
abbrev VWt.gs(X:VWt):List Int:=Ky (BB X.l) (Ce X.W.pl.2)
abbrev VWt.g(X:VWt):List (List Int):=X.W.pl.2.map (·.1)
theorem Jd (X:VWt)(μ:PH)(h:X.W.Ok μ):Spec prog 18 [pv X.pw] X.L (fun r L=>r=.int .i64 (X.W.pl.2.length:Nat)∧L=X.L):=by
 have hpl:=HX X.W
 refine Spec.of 10 func18 rfl rfl rfl ?_
 refine A0 (As [0] rfl rfl (Ae (A0 (Ad rfl (Ac (Bd rfl rfl) (AE [0,4] rfl (Dz rfl (Am (Af (A0 (Ad rfl (Ac (Ah rfl) (Ac (Ab rfl) (AJ (Ag rfl rfl) ?_))))))))))))))
 refine Aw (AA (Fy X.ps X.W μ h) rfl rfl AC) ?_
 rintro v9 L1 ⟨rfl,rfl⟩
 refine Aj (As [2] rfl rfl (Ar ?_))
 exact Aq X.L (.tmp rfl .nil) ⟨by rw [hpl]; rfl,rfl⟩ AC
theorem WO (X:VWt)(μ:PH)(h:X.Ok μ):Spec prog 10 [pv X.pw] (X.LR μ) (fun r L=>r=.int .i64 (BB X.l:Nat)∧L=X.LR μ):=by
 obtain ⟨m,c,d,hx⟩:=h.x
 obtain ⟨-,ht⟩:=hx.tot
 have hl:=h.s.gc.len
 refine Spec.of 13 func10 rfl rfl rfl ?_
 refine A0 (As [0] rfl rfl (Ae (A0 (Ad rfl (Ac (Bd rfl rfl) (AE [0,4] rfl (Dz rfl (Am (Af (A0 (Ad rfl (Ac (Ah rfl) (Ac (Ab rfl) (AJ (Ag rfl rfl) ?_))))))))))))))
 refine Aw (AA (Ga X.px X.q X.lv X.gv [ro μ] X.l (.row hx.ix.lr) Ax) rfl rfl AC) ?_
 rintro v9 L1 ⟨rfl,rfl⟩
 refine Aj (Ad rfl ?_)
 refine Aw (AA (Jd X μ h.w) rfl rfl AC) ?_
 rintro v11 L1 ⟨rfl,rfl⟩
 refine Aj (Ac (Ep rfl rfl) (As [2] rfl rfl (Ar ?_)))
 refine Aq (X.LR μ) (.tmp rfl .nil) ⟨?_,rfl⟩ AC
 show Value.int .i64 _=Value.int .i64 _
 congr 1
 omega
theorem A25{C:List Cm}{n k:Nat}{x:Int}(h:(Ce C)[n]? = some x):Gu (Ky k (Ce C)) (n:Nat)=if n<k then x else 1024:=by
 unfold Gu
 rw [if_pos Ax,Int.toNat_natCast,List.getD_eq_getElem?_getD,PB h]; rfl
theorem Uu (X:VWt)(μ:PH)(h:X.Ok μ)(n:Nat)(cm:Cm)(hn:X.W.pl.2[n]? = some cm):Spec prog 225 [pv X.pw,.int .i64 (n:Nat)] (X.LR μ) (fun r L=>∃ A c0 st bt,r=.tuple #[.agg #[.slice A cm.1.length c0,.int .i64 cm.2,.int .i64 (Gu X.gs (n:Nat)),.int .i64 st,.string bt],.bool true]∧L=own 3 1 (.slice A cm.1.length c0) cm.1.length (cm.1.flatMap (Bj .i64))::X.LR μ):=by
 obtain ⟨m,c,d,hx⟩:=h.x
 obtain ⟨-,ht⟩:=hx.tot
 have hl:=h.s.gc.len
 have hlt:=(List.getElem?_eq_some_iff.1 hn).1
 obtain ⟨gx,hgx⟩:∃ x,(Ce X.W.pl.2)[n]? = some x:=⟨_,List.getElem?_eq_getElem (by rw [h.s.gc.glen]; exact hlt)⟩
 have hgn:=A25 (k:=BB X.l) hgx
 have hrw:=hx.rw
 have hcom:=IG X.ps X.W μ h.w h.s.cl n
 rw [Kk hn] at hcom
 refine Spec.of 45 func225 rfl rfl rfl ?_
 refine A0 ?_
 refine Aw (AZ) fun b4=>?_
 refine As [0,1,4] rfl rfl (Ae (Au (A0 (Ad rfl (Ac (Bb rfl rfl) (Ad rfl ?_))))))
 refine B7 11 rfl (fun h11=>by have:=of_decide_eq_true h11; omega) (fun h11=>?_)
 refine AQ rfl rfl (Ad rfl (AQ rfl rfl (Ad rfl (AQ rfl rfl ?_))))
 refine Aw (AA (Jd X μ h.w) rfl rfl AC) ?_
 rintro v14 L1 ⟨rfl,rfl⟩
 refine Aj (AQ rfl rfl (Ac (CA rfl rfl) (Ac (AT rfl rfl) (As [0,1,4,8] rfl rfl ?_))))
 refine Ak rfl (fun h8=>by have:=of_decide_eq_true h8; omega) (fun h8=>?_)
 refine A0 (Ad rfl (Ad rfl ?_))
 refine Aw (AA (WO X μ h) rfl rfl AC) ?_
 rintro v21 L1 ⟨rfl,rfl⟩
 refine Aj (Ac (Bb rfl rfl) (As [0,1,4,18] rfl rfl ?_))
 refine Ak rfl (fun h18=>?_) (fun h18=>?_)
 ·have h18':n<BB X.l:=by have:=of_decide_eq_true h18; omega
  rw [if_pos h18'] at hgn
  refine A0 (Ad rfl (Ac (Ah rfl) (Ac (Ab rfl) (AJ (Ag rfl rfl) (Ad rfl ?_)))))
  refine Aw (AA (WG μ m c X.px X.q d X.l X.V X.lv X.gv hx.xd hx.ix Ax n h18' (fun R hR=>(h.s.gc.row n _ (hrw.row n R hR).1).2.1)) rfl rfl AC) ?_
  rintro v28 L1 ⟨A,c0,R,hR,rfl,rfl⟩
  refine Aj ?_
  obtain ⟨k1,k2⟩:=hrw.row n R hR
  rw [hn] at k1
  rw [hgx] at k2
  obtain rfl:=Option.some.inj k1
  obtain rfl:=Option.some.inj k2
  refine Ac (Ai rfl) (Ac (Ai rfl) ?_)
  refine B5 (AU rfl rfl rfl rfl) ?_
  refine As [4,5] rfl rfl (Ar (B6 (AN ?_)))
  exact Aq (own 3 1 (.slice A R.ps.length c0) R.ps.length (R.ps.flatMap (Bj .i64))::X.LR μ) (.cell rfl (Bn rfl) (.tmp rfl .nil)) ⟨A,c0,R.st,str R.bt,by rw [hgn]; rfl,rfl⟩ AC
 ·have h18':¬ n<BB X.l:=by have:=of_decide_eq_false h18; omega
  rw [if_neg h18'] at hgn
  refine Am (AR (Af (A0 (Ad rfl (Ac (Ah rfl) (Ac (Ab rfl) (AJ (Ag rfl rfl) (Ad rfl ?_))))))))
  refine Aw (AA hcom rfl rfl AC) ?_
  rintro v37 L1 ⟨A,c0,rfl,rfl⟩
  refine Aj (Ad rfl (Ac (Ai rfl) (Ac (Ai rfl) ?_)))
  refine Aw (AZ) fun b6=>?_
  refine B5 (AU rfl rfl rfl rfl) ?_
  refine As [4,6] rfl rfl (A0 (Ac (Ab rfl) (AJ (Ag rfl rfl) (Ac (Ab rfl) (AJ (Ag rfl rfl) ?_)))))
  refine Ac (Bo (qs:=[(0,_),(1,_),(2,_)]) rfl) ?_
  refine B5 (AU rfl rfl rfl rfl) ?_
  refine As [4,5] rfl rfl (Ar ?_)
  exact Aq (own 3 1 (.slice A cm.1.length c0) cm.1.length (cm.1.flatMap (Bj .i64))::X.LR μ) (.cell rfl (Bn rfl) (.tmp rfl .nil)) ⟨A,c0,0,⟨#[]⟩,by rw [hgn]; rfl,rfl⟩ AC
theorem Zg (X:VWt)(μ:PH)(h:X.Ok μ)(n:Int)(hn:n<0∨(X.W.pl.2.length:Int)≤n):Spec prog 225 [pv X.pw,.int .i64 n] (X.LR μ) (fun r L=>r=.tuple #[.agg #[.slice none 0 0,.int .i64 0,.int .i64 1024,.int .i64 0,.string ⟨#[]⟩],.bool false]∧L=X.LR μ):=by
 refine Spec.of 45 func225 rfl rfl rfl ?_
 refine A0 (Aw (AZ) (fun b4=>?_))
 refine As [0,1,4] rfl rfl (Ae (Au (A0 (Ad rfl (Ac (Bb rfl rfl) (Ad rfl ?_))))))
 refine B7 11 rfl (fun h11=>?_) (fun h11=>?_)
 ·refine AI rfl rfl rfl (AI rfl rfl rfl (AI rfl rfl rfl (AI rfl rfl rfl (Ac (B4 rfl rfl) (As [0,1,4,8] rfl rfl ?_)))))
  refine Ak rfl (fun h8=>?_) (fun h8=>by cases h8)
  refine A0 (Ac (Bo (qs:=[(2,_)]) rfl) (B5 (AU rfl rfl rfl rfl) (As [4,5] rfl rfl (Ar (B6 (AN ?_))))))
  exact Aq (X.LR μ) (.cell rfl (Bn rfl) (.tmp rfl .nil)) ⟨rfl,rfl⟩ AC
 ·refine AQ rfl rfl (Ad rfl (AQ rfl rfl (Ad rfl (AQ rfl rfl ?_))))
  refine Aw (AA (Jd X μ h.w) rfl rfl AC) ?_
  rintro v14 L1 ⟨rfl,rfl⟩
  refine Aj (AQ rfl rfl (Ac (CA rfl rfl) (Ac (AT rfl rfl) (As [0,1,4,8] rfl rfl ?_))))
  refine Ak rfl (fun h8=>?_) (fun h8=>by have:=of_decide_eq_false h8; have:=of_decide_eq_false h11; omega)
  refine A0 (Ac (Bo (qs:=[(2,_)]) rfl) (B5 (AU rfl rfl rfl rfl) (As [4,5] rfl rfl (Ar (B6 (AN ?_))))))
  exact Aq (X.LR μ) (.cell rfl (Bn rfl) (.tmp rfl .nil)) ⟨rfl,rfl⟩ AC
theorem WP (X:VWt)(μ:PH)(h:X.Ok μ)(n:Nat)(cm:Cm)(hn:X.W.pl.2[n]? = some cm):Spec prog 130 [pv X.pw,.int .i64 (n:Nat)] (X.LR μ) (fun r L=>∃ μ',Le μ μ'∧Row μ' r 1 cm.1.length (cm.1.flatMap (Bj .i64))∧L=X.LR μ'):=by
 refine Spec.of 15 func130 rfl rfl rfl ?_
 refine A0 (As [0,1] rfl rfl (A0 (Ad rfl (Ad rfl ?_))))
 refine Aw (AA (Uu X μ h n cm hn) rfl rfl AC) ?_
 rintro v10 L1 ⟨A,c0,st,bt,rfl,rfl⟩
 refine Aj ?_
 refine C5 (v:=.slice A cm.1.length c0) (μ:=μ) AC fun μ1 k1 hr=>?_
 refine Ad rfl (Ac (Ai rfl) (Ac (Ai rfl) (Aw (AZ) (fun b5=>?_))))
 refine B5 (AU rfl rfl rfl rfl) (As [5] rfl rfl (A0 (Ac (Ab rfl) (AJ (Ag rfl rfl) (As [4] rfl rfl (Ar ?_))))))
 exact Aq (X.LR μ1) (.tmp rfl .nil) ⟨μ1,k1,hr,rfl⟩ AC
theorem WQ (X:VWt)(μ:PH)(h:X.Ok μ)(n:Int):Spec prog 411 [pv X.pw,.int .i64 n] (X.LR μ) (fun r L=>r=.int .i64 (Gu X.gs n)∧L=X.LR μ):=by
 have key:Spec prog 225 [pv X.pw,.int .i64 n] (X.LR μ) (fun r L=>∃ A ln c0 tr st bt b,r=.tuple #[.agg #[.slice A ln c0,.int .i64 tr,.int .i64 (Gu X.gs n),.int .i64 st,.string bt],.bool b]∧L=X.LR μ):=by
  by_cases hn:0≤n∧n<(X.W.pl.2.length:Int)
  ·obtain ⟨k,rfl⟩:∃ k:Nat,n=(k:Int):=⟨n.toNat,by omega⟩
   obtain ⟨cm,hcm⟩:∃ cm,X.W.pl.2[k]? = some cm:=⟨_,List.getElem?_eq_getElem Ax⟩
   exact Spec.ent3 (Uu X μ h k cm hcm) fun r L ⟨A,c0,st,bt,e1,e2⟩=>⟨X.LR μ,by rw [e2]; exact Ent.drop,A,_,c0,_,st,bt,_,e1,rfl⟩
  ·refine (Zg X μ h n Ax).mono fun r L ⟨e1,e2⟩=>⟨none,0,0,0,0,⟨#[]⟩,false,?_,e2⟩
   have e:Gu X.gs n=1024:=by
    unfold Gu
    split
    ·rw [List.getD_eq_getElem?_getD,List.getElem?_eq_none (by rw [QL,h.s.gc.glen]; omega)]; rfl
    ·rfl
   rw [e]; exact e1
 refine Spec.of 15 func411 rfl rfl rfl ?_
 refine A0 (As [0,1] rfl rfl (A0 (Ad rfl (Ad rfl ?_))))
 refine Aw (AA key rfl rfl AC) ?_
 rintro v10 L1 ⟨A,ln,c0,tr,st,bt,b,rfl,rfl⟩
 refine Aj (Ad rfl (Ac (Ai rfl) (Ac (Ai rfl) (Aw (AZ) (fun b5=>?_)))))
 refine B5 (AU rfl rfl rfl rfl) (As [5] rfl rfl (A0 (Ac (Ab rfl) (AJ (Ag rfl rfl) (As [4] rfl rfl (Ar ?_))))))
 exact Aq (X.LR μ) (.tmp rfl .nil) ⟨rfl,rfl⟩ AC
def WR (X:VWt)(μ:PH)(h:X.Ok μ):Src where
 t:=38
 v:=pv X.pw
 d:=0
 hd:=Nat.zero_le _
 g:=X.g
 hg:=He h.s.gc.more
 hn:=by have:=h.s.gc.len; rw [List.length_map]; omega
 σ:=Unit
 A:=fun _ _=>X.A
 mono:=fun _=>Ent.refl _
 ok:=fun _ _=>True
 step:=fun _ _=>()
 μ0:=μ
 commits:=fun _ μ'=>InvS.of (by
  refine Spec.exA' fun _=>?_
  exact Spec.ent3 (show Spec prog 18 [pv X.pw] X.L _ from Jd X μ h.w) fun r L ⟨e1,e2⟩=>⟨[X.A],by rw [e2]; exact VWt.close,by rw [e1,List.length_map],rfl⟩)
 parents:=fun _ μ' c k hc _=>InvS.of (by
  have hc':c<X.W.pl.2.length:=by rwa [List.length_map] at hc
  obtain ⟨cm,hcm⟩:∃ cm,X.W.pl.2[c]? = some cm:=⟨_,List.getElem?_eq_getElem hc'⟩
  have e:BU X.g c=cm.1:=by
   unfold BU
   rw [List.getD_eq_getElem?_getD,List.getElem?_map,hcm]; rfl
  rw [e]
  refine Spec.exA' fun _=>?_
  exact Spec.ent3 (show Spec prog 130 [pv X.pw,.int .i64 (c:Nat)] (X.LR μ') _ from WP X μ' (h.le k) c cm hcm) fun r L ⟨μ2,k2,hr,e2⟩=>⟨[X.A,ro μ2],by rw [e2]; exact VWt.close,μ2,k2,hr,rfl⟩)
theorem Zh (X:VWt)(μ:PH)(h:X.Ok μ):GenOf (WR X μ h) (Gu X.gs) where
 ask := fun _ μ' c k => show InvS prog 0 38 (pv X.pw) "Gen" [.int .i64 c] [X.A, ro μ'] (fun r L => r = .int .i64 (Gu X.gs c) ∧ L = [X.A, ro μ']) from InvS.of (by
  refine Spec.exA' fun _=>?_
  exact Spec.ent3 (show Spec prog 411 [pv X.pw,.int .i64 c] (X.LR μ') _ from WQ X μ' (h.le k) c) fun r L ⟨e1,e2⟩=>⟨[X.A,ro μ'],by rw [e2]; exact VWt.close,e1,rfl⟩)
theorem P6 (X:VWt)(μ:PH)(h:X.Ok μ)(s:(WR X μ h).σ):(WR X μ h).fine s:=fun _ _ _ _ _ _=>trivial
abbrev grN:List Value:=[.int .i64 0,.int .i64 0,.int .i64 0,.int .i64 0,.int .u32 0,.slice none 0 0]
abbrev Cap (A:Option Addr)(l c:Nat):Prop:=l≤c∧c≤maxLen∧(A=none→c=0)∧∀ a,A=some a→∃ b,a=⟨b,0,none⟩
theorem Rw {e n:Nat}{A:Option Addr}{l c k:Nat}{xs:List Value}{m:PH}{L:List AF}(h:Sat (own e n (.slice A k c) l xs::L) m):Cap A l c:=by
 obtain ⟨A',c',e,h1⟩:=Iu h
 cases e; exact h1
theorem Lks.own{A:Option Addr}{c:Nat}{l:List Lk}{L L':List AF}(t:Take (own 161 3 (.slice A l.length c) l.length (l.flatMap Er)) L L')(hc:Cap A l.length c):Lks L (.slice A l.length c) l:=by
 obtain ⟨h1,h2,h3,h4⟩:=hc
 refine ⟨A,c,rfl,by simp only [maxLen] at h2; omega,fun h0=>?_⟩
 cases A with
 | none=>have:=h3 rfl; omega
 | some a =>
  obtain ⟨b,rfl⟩:=h4 a rfl
  exact ⟨b,0,rfl,fun j x hx=>U2 t rfl fun j' v' hv=>by rw [Nat.zero_add]; exact LU (f:=Er) (n:=3) (fun _=>rfl) hx j' v' hv⟩
set_option maxHeartbeats 4000000 in
theorem Rx (μ:PH)(p q:Nat)(d:Dk)(hd:d.Ok)(A:Option Addr)(c:Nat)(gv:Value)(li:List Lk)(hc:Cap A li.length c)(y:Lk)(base:Nat)(R:List GR)(com:Nat)
  (hr:D1 d (Cp y.1)=(EM base R,0)) (hy:y.1<20) (hs:y.2.2=E2 (EM base R)) (hn:y.2.1=R.length) (hb:base=BB li) (hR:GsOk base R) (hcm:base+R.length≤com) (hc2:com≤65536) :
  Spec prog 74 [pv p,.agg (Er y).toArray,.int .i64 (com:Nat)] [xB p q (.slice A li.length c) gv,own 161 3 (.slice A li.length c) li.length (li.flatMap Er),FSA q d,ro μ] (fun r L=>∃ μ' rv V,Le μ μ'∧GRows μ' rv V∧DZ V=R∧r=.tuple #[.agg (LF base rv).toArray,.bool true]∧L=[xB p q (.slice A li.length c) gv,own 161 3 (.slice A li.length c) li.length (li.flatMap Er),FSA q d,ro μ']):=by
 have hlen:=Nv hR
 have hrd:=KR q d hd (Cp y.1)
 rw [hr] at hrd
 obtain ⟨y1,y2,y3⟩:=y
 dsimp only at hr hy hs hn hrd
 subst hs hn hb
 refine Spec.of 65 func74 rfl rfl rfl ?_
 refine A0 (Aw (Bi rfl rfl) (fun b4=>?_))
 refine Aw (AZ) fun b6=>?_
 refine As [0,2,4,6] rfl rfl (Ae ?_)
 refine Ba [3,5] ([B1 b4 161 (Er (y1,R.length,E2 (EM (BB li) R))),xB p q (.slice A li.length c) gv]) ([B1 b6 141 grN,own 161 3 (.slice A li.length c) li.length (li.flatMap Er),FSA q d,ro μ]) (Split.ent AC) AK ?_
 refine AD 0 rfl (AG rfl) (AD 1 rfl (Ah rfl) (AD 2 rfl (Ab rfl) (Bc 3 rfl (Ag rfl rfl) rfl (AD 4 rfl (Ab rfl) (Bc 5 rfl (Ag rfl rfl) rfl ?_)))))
 refine CC 6 rfl AK (AA (JW y1 hy) rfl rfl AC) ?_
 rintro v18 L1 ⟨rfl,rfl⟩
 refine ⟨_,BL (Split.ent AC),?_⟩
 refine BT 7 rfl AK AK (AA hrd rfl rfl AC) ?_
 rintro v19 L1 ⟨rfl,rfl⟩
 refine Cc (AD 8 rfl (AG rfl) (AD 9 rfl (Ai rfl) (AD 10 rfl (Ai rfl) (AD 11 rfl (Bl rfl) (AD 12 rfl (Bl rfl) (C0 [0,2,4,6,8,9] rfl (Bs AK (Af (Ae (Ae ?_))))))))))
 refine Ba [7] _ [] (by simp only [List.append_nil]; exact Ent.refl _) AK ?_
 refine AD 0 rfl (AG rfl) (AD 1 rfl (Bm rfl rfl) (AD 2 rfl (AG rfl) ?_))
 refine DH 24 rfl (fun h24=>by cases h24) (fun h24=>?_)
 refine Bh 3 rfl rfl rfl (AG rfl) AK AK AK (Bh 6 rfl rfl rfl (Ab rfl) AK AK AK (CJ 7 rfl rfl rfl (Ag rfl rfl) rfl AK AK AK (FG [4] AK rfl (E3 4 rfl (GOn.some rfl rfl) (Bg (qs:=[(0,_)]) rfl rfl rfl) (fun b26=>?_)))))
 refine ⟨_,Split.ent AC,?_⟩
 refine FG [5] AK rfl ?_
 refine E3 5 rfl (GOn.some rfl rfl) (AA (EU b26 1 (str (EM (BB li) R)) (by rw [CO]; omega)) rfl rfl AC) ?_
 rintro v27 L1 ⟨rfl,rfl⟩
 refine ⟨_,BL (Split.ent AC),?_⟩
 refine Bh 8 rfl rfl rfl (Bm rfl rfl) AK AK AK (AD 9 rfl (AT rfl rfl) (C0 [0,2,4,6,8,31] rfl (DL AK (Af ?_))))
 refine Ak rfl (fun h31=>by simp only [Bool.not_eq_true',decide_eq_false_iff_not] at h31; exact absurd rfl h31) (fun h31=>?_)
 refine Am (Af (A0 (Ad rfl ?_)))
 refine Aw (AA (Wn μ (BB li) R hR) rfl rfl AC) ?_
 rintro v35 L1 ⟨μ1,rv,V,k1,hg,hV,rfl,rfl⟩
 refine Aj ?_
 obtain ⟨Av,cv,rfl⟩:=hg.row.sl
 have hVl:V.length=R.length:=by rw [← hV,List.length_map]
 refine Ad rfl (Ac (Ai rfl) (Ac (Ai rfl) (Aw (AZ) (fun b10=>?_))))
 refine B5 (AU rfl rfl rfl rfl) (As [0,2,4,6,9,10] rfl rfl (Ae ?_))
 refine Ba [0,5,12,15,20,22] ([B1 b10 141 (LF (BB li) (.slice Av V.length cv)),B1 b4 161 (Er (y1,R.length,E2 (EM (BB li) R)))]) ([ro μ1,FSA q d,xB p q (.slice A li.length c) gv,B1 b6 141 grN,own 161 3 (.slice A li.length c) li.length (li.flatMap Er)]) (Split.ent AC) AK ?_
 refine Bc 0 rfl (BG (vs:=LF (BB li) (.slice Av V.length cv)) rfl rfl rfl) rfl (AD 1 rfl (AG rfl) (AD 2 rfl (Bp rfl rfl) (AD 3 rfl (AG rfl) ?_)))
 refine DH 41 rfl (fun h41=>?_) (fun h41=>by cases h41)
 refine Bh 4 rfl rfl rfl (Ab rfl) AK AK AK (CJ 5 rfl rfl rfl (Ag rfl rfl) rfl AK AK AK (Bh 6 rfl rfl rfl (AG rfl) AK AK AK (FG [7] AK rfl ?_)))
 refine E3 7 rfl (GOn.some rfl rfl) (AA (Ga p q (.slice A li.length c) gv [own 161 3 (.slice A li.length c) li.length (li.flatMap Er)] li (Lks.own (.there .here) hc) Ax) rfl rfl AC) ?_
 rintro v45 L1 ⟨rfl,rfl⟩
 refine ⟨_,BL (Split.ent AC),?_⟩
 refine Bh 8 rfl rfl rfl (Bp rfl rfl) AK AK AK (AD 9 rfl (B4 rfl rfl) (AD 10 rfl (AG rfl) ?_))
 refine DH 48 rfl (fun h48=>?_) (fun h48=>by exact absurd rfl (of_decide_eq_false h48))
 refine Bh 11 rfl rfl rfl (Ab rfl) AK AK AK (CJ 12 rfl rfl rfl (Ag rfl rfl) rfl AK AK AK (Bh 13 rfl rfl rfl (BI rfl) AK AK AK (Bh 14 rfl rfl rfl (Ab rfl) AK AK AK (CJ 15 rfl rfl rfl (Ag rfl rfl) rfl AK AK AK (Bh 16 rfl rfl rfl (Bp rfl rfl) AK AK AK (AD 17 rfl (B4 rfl rfl) (AD 18 rfl (AG rfl) ?_)))))))
 refine DH 56 rfl (fun h56=>?_) (fun h56=>by have h:=of_decide_eq_false h56; dsimp only at h; omega)
 refine Bh 19 rfl rfl rfl (Ab rfl) AK AK AK (CJ 20 rfl rfl rfl (Ag rfl rfl) rfl AK AK AK (Bh 21 rfl rfl rfl (Ab rfl) AK AK AK (CJ 22 rfl rfl rfl (Ag rfl rfl) rfl AK AK AK ?_)))
 refine Bh 23 rfl rfl rfl (AO ((BB li+R.length:Nat):Int) rfl rfl (by dsimp only; omega) Ax Ax) AK AK AK ?_
 refine Bh 24 rfl rfl rfl (AG rfl) AK AK AK (Bh 25 rfl rfl rfl (Ff rfl rfl) AK AK AK (AD 26 rfl (B4 rfl rfl) (Mq 27 rfl AK (AU rfl rfl rfl rfl) ?_)))
 refine ⟨_,Split.ent AC,?_⟩
 refine AD 28 rfl (Bl rfl) (C0 [6,7] rfl (DL AK (Af (Ar ?_))))
 refine Aq [xB p q (.slice A li.length c) gv,own 161 3 (.slice A li.length c) li.length (li.flatMap Er),FSA q d,ro μ1] (.cell rfl (Bn rfl) (.tmp rfl .nil)) ⟨μ1,_,V,k1,hg,hV,?_,rfl⟩ AC
 show Value.tuple #[_,Value.bool _]=_
 rw [decide_eq_true Ax]
set_option maxHeartbeats 8000000 in
theorem NM (μ:PH)(q:Nat)(d:Dk)(m c:Nat)(l:List Lk)(G:List GP)(hX:XD m c d l G)(hc:c≤14)(com:Nat)(ht:BB l≤com)(hc2:com≤65536) :
  Spec prog 47 [pv q,.int .i64 (com:Nat)] [FSA q d,ro μ] (fun r L=>∃ p lv gv V μ',Le μ μ'∧IX μ' lv gv l V∧Gy V=G∧r=.tuple #[pv p,.int .i64 0]∧L=[xB p q lv gv,FSA q d,ro μ']):=by
 have hl8:=hX.lk.len
 have hGl:=hX.len
 obtain ⟨txt,e,hre,hcase⟩:∃ txt e,D1 d chainN=(txt,e)∧((l=[]∧e=6)∨(e=0∧txt=C8 l)):=by
  have h1:=hX.dv.read chainN
  rw [hX.ch] at h1
  by_cases h0:l=[]
  ·rw [if_pos h0] at h1; exact ⟨_,_,h1,.inl ⟨h0,rfl⟩⟩
  ·rw [if_neg h0] at h1; exact ⟨_,_,h1,.inr ⟨rfl,rfl⟩⟩
 have hrd:=KR q d hX.dv.ok chainN
 rw [hre] at hrd
 refine Spec.of 74 func47 rfl rfl rfl ?_
 refine A0 (AX rfl (As [0,1] rfl rfl (Ae (Au (A0 (Ad rfl (Ac (Bd rfl rfl) (As [0,1,15] rfl rfl (Dz rfl (A0 (Ad rfl ?_)))))))))))
 refine Aw (AA (YI q d) rfl rfl AC) ?_
 rintro v20 L1 ⟨rfl,rfl⟩
 refine Aj (As [0,1,18] rfl rfl ?_)
 refine Ak rfl (fun h18=>by rw [hX.dv.on] at h18; cases h18) (fun h18=>?_)
 refine Am (AR (Af (A0 (Ad rfl (Ac (Bo (qs:=[(0,_)]) rfl) (Aw (Bi rfl rfl) (fun b23=>?_)))))))
 refine As [0,1,6] rfl rfl (A0 (Ad rfl ?_))
 refine Aw (AA hrd rfl rfl AC) ?_
 rintro v26 L1 ⟨rfl,rfl⟩
 refine Aj (Ad rfl (Ac (Ai rfl) (Ac (Ai rfl) (AX rfl (As [1,6,7,8] rfl rfl (Ae (A0 (Ad rfl (Ac (Bm rfl rfl) (AE [1,6,7,30] rfl ?_))))))))))
 refine Ak rfl (fun h30=>?_) (fun h30=>?_)
 ·obtain ⟨rfl,-⟩:l=[]∧e=6:=by
   rcases hcase with h | ⟨h,-⟩
   ·exact h
   ·rw [h] at h30; cases h30
  obtain rfl:G=[]:=List.eq_nil_of_length_eq_zero hGl
  refine A0 (Ad rfl (AX rfl (As [4,5] rfl rfl (Ar (AN ?_)))))
  exact Aq [xB b23 q (.slice none 0 0) (.slice none 0 0),FSA q d,ro μ] (.tmp rfl (.tmp rfl .nil)) ⟨b23,_,_,[],μ,Le.refl _,IX.none μ,rfl,rfl,rfl⟩ AC
 ·obtain ⟨rfl,rfl⟩:e=0∧txt=C8 l:=by
   rcases hcase with ⟨-,h⟩ | h
   ·rw [h] at h30; cases h30
   ·exact h
  refine Am (Af (A0 (Ad rfl ?_)))
  refine Aw (AA (Tg μ l hX.lk) rfl rfl AC) ?_
  rintro v34 L1 ⟨μ1,lv0,k1,hrow,rfl,rfl⟩
  refine Aj (Ad rfl (Ac (Ai rfl) (Ac (Ai rfl) (AX rfl (As [1,6,9] rfl rfl (Ae (A0 (Ad rfl (Ac (B2 hrow rfl) (Ad rfl (AE [1,6,37,38,39] rfl (Au (AP (own_nil_ent (e:=141) (n:=6)) (AP (own_nil_ent (e:=161) (n:=3)) ?_))))))))))))))
  refine B0 (ι:=Nat×List GV×PH×(Option Addr×Nat)×(Option Addr×Nat)) (fun z env L=>Sub env [(1,.int .i64 (com:Nat)),(6,pv b23),(37,lv0),(38,.int .i64 (l.length:Nat)),(39,.int .i64 (z.1:Nat))]∧Ent L [own 161 3 (.slice z.2.2.2.1.1 (l.take z.1).length z.2.2.2.1.2) (l.take z.1).length ((l.take z.1).flatMap Er),own 141 6 (.slice z.2.2.2.2.1 z.2.1.length z.2.2.2.2.2) z.2.1.length (z.2.1.flatMap To),xB b23 q (.slice z.2.2.2.1.1 (l.take z.1).length z.2.2.2.1.2) (.slice z.2.2.2.2.1 z.2.1.length z.2.2.2.2.2),FSA q d,ro z.2.2.1]∧z.1≤l.length∧Le μ1 z.2.2.1∧(∀ x∈z.2.1,GRows z.2.2.1 x.2.1 x.2.2)∧Gy z.2.1=G.take z.1) (fun z=>l.length-z.1) (0,[],μ1,(none,0),(none,0)) ⟨⟨rfl,rfl,rfl,rfl,rfl,trivial⟩,by show Ent _ [own 161 3 (.slice none 0 0) 0 [],own 141 6 (.slice none 0 0) 0 [],xB b23 q (.slice none 0 0) (.slice none 0 0),FSA q d,ro μ1]; exact Split.ent' AC,Nat.zero_le _,Le.refl _,fun x hx=>(by cases hx),rfl⟩ ?_
  rintro ⟨i,Vi,μi,⟨A,ca⟩,⟨B,cb⟩⟩ env L ⟨hsub,hE,hi,ki,hVi,hpl⟩
  dsimp only at hsub hE hi ki hVi hpl
  refine B3 _ hsub (AP hE ?_)
  clear hsub hE env L
  refine CG (fun m h=>Rw h) fun hcap=>?_
  have hVl:Vi.length=i:=by
   have:=congrArg List.length hpl
   rw [List.length_map,List.length_take] at this
   omega
  refine A0 (Ac (Bb rfl rfl) (AE [1,6,37,38,39,40] rfl (Ae ?_)))
  refine Ak rfl (fun h40=>?_) (fun h40=>?_)
  ·have h40':i<l.length:=by have:=of_decide_eq_true h40; omega
   obtain ⟨y,hy⟩:∃ y,l[i]? = some y:=⟨_,List.getElem?_eq_getElem h40'⟩
   obtain ⟨g,hg⟩:∃ g,G[i]? = some g:=⟨_,List.getElem?_eq_getElem Ax⟩
   obtain ⟨f1,f2,f3,f4,f5⟩:=hX.gf i y g hy hg
   have hread:=hX.dv.read (Cp y.1)
   rw [f1] at hread
   have hyn:=Kh (List.mem_of_getElem? hy)
   have hnx:=hX.nx
   have hts:=GO hy
   have hle:=Ja (l:=l) (i+1)
   have hlt:(l.take (i+1)).length=(l.take i).length+1:=by rw [List.length_take,List.length_take]; omega
   have hl1:(l.take i).length≤8:=by rw [List.length_take]; omega
   obtain ⟨gb,off,cap,hv,hra⟩:=Nf (hrow.le ki) hy
   refine Am (Af (Ae (Au (A0 ?_))))
   refine Ac (AB (off+i*3) (congrArg some hv) rfl Ax Ax (by rw [Int.toNat_natCast])) ?_
   refine AJ (CZ (vs:=Er y) rfl rfl hra) (Aw (AZ) (fun b12=>?_))
   refine B5 (AU rfl rfl rfl rfl) (AE [1,6,12,37,38,39] rfl (A0 (Ad rfl (AJ (BP rfl rfl) (Ad rfl ?_)))))
   refine Aw (AA (Rx μi b23 q d hX.dv.ok A ca (.slice B Vi.length cb) (l.take i) hcap y g.1 g.2 com hread Ax f2 f3 f4 f5 Ax hc2) rfl rfl AC) ?_
   rintro v47 L1 ⟨μ2,rv,V1,k2,hgr,hpl1,rfl,rfl⟩
   refine Aj ?_
   obtain ⟨Av,cv,rfl⟩:=hgr.row.sl
   refine Ad rfl (Ac (Ai rfl) (Ac (Ai rfl) (Aw (AZ) (fun b13=>?_))))
   refine B5 (AU rfl rfl rfl rfl) (As [1,6,12,13,14,37,38,39] rfl rfl (Ae (A0 (Ad rfl (Ac (BO rfl) (AE [1,6,12,13,37,38,39,51] rfl (Dz rfl (Am (Af ?_)))))))))
   refine Ba [5,6,12,13] ([xB b23 q (.slice A (l.take i).length ca) (.slice B Vi.length cb),B1 b12 161 (Er y),B1 b13 141 (LF g.1 (.slice Av V1.length cv))]) ([own 161 3 (.slice A (l.take i).length ca) (l.take i).length ((l.take i).flatMap Er),FSA q d,ro μ2,own 141 6 (.slice B Vi.length cb) Vi.length (Vi.flatMap To)]) (Split.ent AC) AK ?_
   refine AD 0 rfl (AG rfl) (AD 1 rfl (AG rfl) (AD 2 rfl (AG rfl) (AD 3 rfl (Ah rfl) (AD 4 rfl (Ab rfl) (Bc 5 rfl (Ag rfl rfl) rfl (Bc 6 rfl (BG (vs:=Er y) rfl rfl rfl) rfl (AD 9 rfl (AG rfl) (AD 10 rfl (Ah rfl) (AD 11 rfl (Ab rfl) (Bc 12 rfl (Ag rfl rfl) rfl (Bc 13 rfl (BG (vs:=LF g.1 (.slice Av V1.length cv)) rfl rfl rfl) rfl ?_)))))))))))
   refine FG [7,14] AK rfl ⟨?_,?_⟩
   ·refine E3 7 rfl GOn.none (Bg (qs:=[(0,_)]) rfl rfl rfl) fun b59=>?_
    refine ⟨_,Split.ent AC,?_⟩
    refine FG [8,14] AK rfl ⟨?_,?_⟩
    ·refine E3 8 rfl GOn.none (B9 (l:=(l.take i).length) (m:=1) rfl rfl AC (by simp only [maxLen]; omega) Ax) ?_
     rintro v60 -
     refine ⟨_,Split.ent AC,?_⟩
     refine KE (p:=∃ A c,v60=.slice A ((l.take i).length+1) c) (fun m h=>Bz (Sat.perm List.perm_middle _ h)) fun ⟨A60,c60,hv60⟩=>?_
     subst hv60
     refine CC 14 rfl AK (Bg (qs:=[(0,_)]) rfl rfl rfl) fun b66=>?_
     refine ⟨_,Split.ent AC,?_⟩
     refine BT 15 rfl AK AK (B9 (l:=Vi.length) (m:=1) rfl rfl AC (by simp only [maxLen]; omega) Ax) ?_
     rintro v67 -
     refine ED (fun m h=>Bz h) fun ⟨A67,c67,hv67⟩=>?_
     subst hv67
     refine AD 16 rfl (Ah rfl) (AD 17 rfl (Ab rfl) (Cj 18 rfl AK AK (AW rfl rfl rfl) (AD 19 rfl (Ah rfl) (AD 20 rfl (Ab rfl) (Cj 21 rfl AK AK (AW rfl rfl rfl) (C0 [1,6,37,38,39] rfl (Bs AK (AR (Af (Al (Ac (AO ((i+1:Nat):Int) rfl rfl Ax Ax Ax) (Ad rfl (Be [1,6,37,38,39] rfl (AH ?_))))))))))))))
     refine Af ⟨(i+1,Vi++[(g.1,.slice Av V1.length cv,V1)],μ2,(A60,c60),(A67,c67)),⟨⟨rfl,rfl,rfl,rfl,rfl,trivial⟩,?_,h40',ki.trans k2,fun x hx=>?_,?_⟩,by show l.length-(i+1)<l.length-i; omega⟩
     ·dsimp only
      rw [hlt,BE hy,List.length_append,List.flatMap_append,List.flatMap_append]
      show Ent _ [own 161 3 (.slice A60 ((l.take i).length+1) c60) ((l.take i).length+1) ((l.take i).flatMap Er++Er y),own 141 6 (.slice A67 (Vi.length+1) c67) (Vi.length+1) (Vi.flatMap To++LF g.1 (.slice Av V1.length cv)),xB b23 q (.slice A60 ((l.take i).length+1) c60) (.slice A67 (Vi.length+1) c67),FSA q d,ro μ2]
      exact Split.ent' AC
     ·rcases List.mem_append.1 hx with hx | hx
      ·exact (hVi x hx).le k2
      ·rw [List.mem_singleton.1 hx]; exact hgr
     ·dsimp only
      rw [BE hg,← hpl]
      unfold Gy
      rw [List.map_append]
      show _++[(g.1,DZ V1)]=_
      rw [hpl1]
    ·refine E3 14 rfl GOn.none (Bg (qs:=[(0,_)]) rfl rfl rfl) fun b66=>?_
     refine ⟨_,Split.ent AC,?_⟩
     refine CC 8 rfl AK (B9 (l:=(l.take i).length) (m:=1) rfl rfl AC (by simp only [maxLen]; omega) Ax) ?_
     rintro v60 -
     refine ⟨_,Split.ent AC,?_⟩
     refine KE (p:=∃ A c,v60=.slice A ((l.take i).length+1) c) (fun m h=>Bz (Sat.perm List.perm_middle _ h)) fun ⟨A60,c60,hv60⟩=>?_
     subst hv60
     refine BT 15 rfl AK AK (B9 (l:=Vi.length) (m:=1) rfl rfl AC (by simp only [maxLen]; omega) Ax) ?_
     rintro v67 -
     refine ED (fun m h=>Bz h) fun ⟨A67,c67,hv67⟩=>?_
     subst hv67
     refine AD 16 rfl (Ah rfl) (AD 17 rfl (Ab rfl) (Cj 18 rfl AK AK (AW rfl rfl rfl) (AD 19 rfl (Ah rfl) (AD 20 rfl (Ab rfl) (Cj 21 rfl AK AK (AW rfl rfl rfl) (C0 [1,6,37,38,39] rfl (Bs AK (AR (Af (Al (Ac (AO ((i+1:Nat):Int) rfl rfl Ax Ax Ax) (Ad rfl (Be [1,6,37,38,39] rfl (AH ?_))))))))))))))
     refine Af ⟨(i+1,Vi++[(g.1,.slice Av V1.length cv,V1)],μ2,(A60,c60),(A67,c67)),⟨⟨rfl,rfl,rfl,rfl,rfl,trivial⟩,?_,h40',ki.trans k2,fun x hx=>?_,?_⟩,by show l.length-(i+1)<l.length-i; omega⟩
     ·dsimp only
      rw [hlt,BE hy,List.length_append,List.flatMap_append,List.flatMap_append]
      show Ent _ [own 161 3 (.slice A60 ((l.take i).length+1) c60) ((l.take i).length+1) ((l.take i).flatMap Er++Er y),own 141 6 (.slice A67 (Vi.length+1) c67) (Vi.length+1) (Vi.flatMap To++LF g.1 (.slice Av V1.length cv)),xB b23 q (.slice A60 ((l.take i).length+1) c60) (.slice A67 (Vi.length+1) c67),FSA q d,ro μ2]
      exact Split.ent' AC
     ·rcases List.mem_append.1 hx with hx | hx
      ·exact (hVi x hx).le k2
      ·rw [List.mem_singleton.1 hx]; exact hgr
     ·dsimp only
      rw [BE hg,← hpl]
      unfold Gy
      rw [List.map_append]
      show _++[(g.1,DZ V1)]=_
      rw [hpl1]
   ·refine E3 14 rfl GOn.none (Bg (qs:=[(0,_)]) rfl rfl rfl) fun b66=>?_
    refine ⟨_,Split.ent AC,?_⟩
    refine CC 7 rfl AK (Bg (qs:=[(0,_)]) rfl rfl rfl) fun b59=>?_
    refine ⟨_,Split.ent AC,?_⟩
    refine CC 8 rfl AK (B9 (l:=(l.take i).length) (m:=1) rfl rfl AC (by simp only [maxLen]; omega) Ax) ?_
    rintro v60 -
    refine ⟨_,Split.ent AC,?_⟩
    refine KE (p:=∃ A c,v60=.slice A ((l.take i).length+1) c) (fun m h=>Bz (Sat.perm List.perm_middle _ h)) fun ⟨A60,c60,hv60⟩=>?_
    subst hv60
    refine BT 15 rfl AK AK (B9 (l:=Vi.length) (m:=1) rfl rfl AC (by simp only [maxLen]; omega) Ax) ?_
    rintro v67 -
    refine ED (fun m h=>Bz h) fun ⟨A67,c67,hv67⟩=>?_
    subst hv67
    refine AD 16 rfl (Ah rfl) (AD 17 rfl (Ab rfl) (Cj 18 rfl AK AK (AW rfl rfl rfl) (AD 19 rfl (Ah rfl) (AD 20 rfl (Ab rfl) (Cj 21 rfl AK AK (AW rfl rfl rfl) (C0 [1,6,37,38,39] rfl (Bs AK (AR (Af (Al (Ac (AO ((i+1:Nat):Int) rfl rfl Ax Ax Ax) (Ad rfl (Be [1,6,37,38,39] rfl (AH ?_))))))))))))))
    refine Af ⟨(i+1,Vi++[(g.1,.slice Av V1.length cv,V1)],μ2,(A60,c60),(A67,c67)),⟨⟨rfl,rfl,rfl,rfl,rfl,trivial⟩,?_,h40',ki.trans k2,fun x hx=>?_,?_⟩,by show l.length-(i+1)<l.length-i; omega⟩
    ·dsimp only
     rw [hlt,BE hy,List.length_append,List.flatMap_append,List.flatMap_append]
     show Ent _ [own 161 3 (.slice A60 ((l.take i).length+1) c60) ((l.take i).length+1) ((l.take i).flatMap Er++Er y),own 141 6 (.slice A67 (Vi.length+1) c67) (Vi.length+1) (Vi.flatMap To++LF g.1 (.slice Av V1.length cv)),xB b23 q (.slice A60 ((l.take i).length+1) c60) (.slice A67 (Vi.length+1) c67),FSA q d,ro μ2]
     exact Split.ent' AC
    ·rcases List.mem_append.1 hx with hx | hx
     ·exact (hVi x hx).le k2
     ·rw [List.mem_singleton.1 hx]; exact hgr
    ·dsimp only
     rw [BE hg,← hpl]
     unfold Gy
     rw [List.map_append]
     show _++[(g.1,DZ V1)]=_
     rw [hpl1]
  ·have h40':=of_decide_eq_false h40
   obtain rfl:i=l.length:=by omega
   rw [List.take_length] at *
   refine BC (v:=.slice A l.length ca) (μ:=μi) AC fun μ2 k2 hr2=>?_
   refine BC (v:=.slice B Vi.length cb) (μ:=μ2) AC fun μ3 k3 hr3=>?_
   refine AY (AS (AS (AV rfl (Af (A0 (Ad rfl (AX rfl (As [4,5] rfl rfl (Ar ?_)))))))))
   exact Aq [xB b23 q (.slice A l.length ca) (.slice B Vi.length cb),FSA q d,ro μ3] (.tmp rfl (.tmp rfl .nil)) ⟨b23,_,_,Vi,μ3,(k1.trans ki).trans (k2.trans k3),⟨hr2.le k3,hr3,fun x hx=>(hVi x hx).le (k2.trans k3)⟩,by rw [hpl,← hGl,List.take_length],rfl,rfl⟩ AC
end SX
namespace SX
open Go Go.Proofs Go.Conc.Locks
abbrev muK:MuLink:={ lock:=64,unlock:=66,ilock:=113,iunlock:=118,lockSlow:=191,unlockSlow:=194,disable:=187,enable:=189,acquire:=190,relMerge:=192,cas32:=188,add32:=193,tMutex:=50,tIMutex:=48,tPMutex:=218,tPIMutex:=296,tPI32:=298,tUP:=300,tNoCopy:=46,tU32:=41}
theorem A0U:MuLib Tryz.prog muK where
 f_lock:=by kernel_rfl
 f_unlock:=by kernel_rfl
 f_ilock:=by kernel_rfl
 f_iunlock:=by kernel_rfl
 f_disable:=by kernel_rfl
 f_enable:=by kernel_rfl
 f_acquire:=by kernel_rfl
 f_relMerge:=by kernel_rfl
 f_cas32:=by kernel_rfl
 f_add32:=by kernel_rfl
 underlying_tIMutex:=by kernel_rfl
 runUnderlying_tIMutex:=Ix AK
 sizeOf_tIMutex:=GJ AK
 isAgg_tIMutex:=GK AK
 zeroValue_tIMutex:=GL AK
 underlying_tMutex:=by kernel_rfl
 runUnderlying_tMutex:=Ix AK
 sizeOf_tMutex:=GJ AK
 isAgg_tMutex:=GK AK
 zeroValue_tMutex:=GL AK
 underlying_tPMutex:=by kernel_rfl
 runUnderlying_tPMutex:=Ix AK
 sizeOf_tPMutex:=GJ AK
 isAgg_tPMutex:=GK AK
 zeroValue_tPMutex:=GL AK
 underlying_tPIMutex:=by kernel_rfl
 runUnderlying_tPIMutex:=Ix AK
 sizeOf_tPIMutex:=GJ AK
 isAgg_tPIMutex:=GK AK
 zeroValue_tPIMutex:=GL AK
 underlying_tPI32:=by kernel_rfl
 runUnderlying_tPI32:=Ix AK
 sizeOf_tPI32:=GJ AK
 isAgg_tPI32:=GK AK
 zeroValue_tPI32:=GL AK
 underlying_tUP:=by kernel_rfl
 runUnderlying_tUP:=Ix AK
 sizeOf_tUP:=GJ AK
 isAgg_tUP:=GK AK
 zeroValue_tUP:=GL AK
 underlying_tNoCopy:=by kernel_rfl
 runUnderlying_tNoCopy:=Ix AK
 sizeOf_tNoCopy:=GJ AK
 isAgg_tNoCopy:=GK AK
 zeroValue_tNoCopy:=GL AK
 underlying_t21:=by kernel_rfl
 runUnderlying_t21:=Ix AK
 sizeOf_t21:=GJ AK
 isAgg_t21:=GK AK
 zeroValue_t21:=GL AK
 room_tIMutex:=by kernel_rfl
abbrev RL (pw q ps px be bu:Nat)(lk:Int)(pa:Nat):List Value:=[pv pw,pv q,pv ps,pv px,.int .i64 3,.int .i64 10,.int .i64 2,.int .u32 7,.bool false,pv be,pv bu,.int .i32 lk,.int .u32 0,pv pa]
theorem NN (sv pw q ps px be bu pa:Nat):Spec Tryz.prog 64 [.pointer (some ⟨sv,11,none⟩)] [B1 sv 53 (RL pw q ps px be bu 0 pa)] (fun r L=>r=.tuple #[]∧L=[B1 sv 53 (RL pw q ps px be bu 1 pa)]):=ZZ A0U 11 rfl
theorem Kn (sv pw q ps px be bu pa:Nat):Spec Tryz.prog 66 [.pointer (some ⟨sv,11,none⟩)] [B1 sv 53 (RL pw q ps px be bu 1 pa)] (fun r L=>r=.tuple #[]∧L=[B1 sv 53 (RL pw q ps px be bu 0 pa)]):=Vb A0U 11 rfl
theorem L6 (sv pw q ps px be bu:Nat)(lk:Int)(pa:Nat):Spec Tryz.prog 35 [pv sv] [B1 sv 53 (RL pw q ps px be bu lk pa)] (fun r L=>r=.int .i64 0∧L=[B1 sv 53 (RL pw q ps px be bu lk pa)]):=by
 refine Spec.of 11 Tryz.func35 rfl rfl rfl ?_
 refine A0 (As [0] rfl rfl (Ae (Au (A0 (Ad rfl (Ac (Bd rfl rfl) (As [0,3] rfl rfl (Dz rfl (A0 (Ad rfl (Ac (Ah rfl) (Ac (Ab rfl) (AJ (Ag rfl rfl) (As [6] rfl rfl (Dz rfl (Am (AR (Af (A0 (As [2] rfl rfl (Ar ?_)))))))))))))))))))))
 exact Aq [B1 sv 53 (RL pw q ps px be bu lk pa)] (.tmp rfl .nil) ⟨rfl,rfl⟩ AC
end SX
namespace SX
open Go Go.Proofs Go.Proofs.Tryz
theorem I2 {e b n l:Nat}{xs:List Value}{L:List AF}(h:xs.length=l*n)(hl:l≤maxLen):Ent (B1 b e xs::L) (own e n (.slice (some ⟨b,0,none⟩) l l) l xs::L):=Ent.imp fun m hm=>⟨h,.inr ⟨b,l,xs.toArray,rfl,hm,Nat.le_refl _,hl,by simp [h],by simp [← h]⟩⟩
theorem P7 {P:Program}{env:CQ}{s t:TypeId}{ks k:IntKind}[hs:TInt P s ks][ht:TInt P t .u64]{x:Operand}{n:Int}(hx:AM env x=some (.int k n)):Pu P env (.convert s t x) (.int .u64 ((Iy n:Nat):Int)):=by
 have e:IntKind.u64.wrap n=((Iy n:Nat):Int):=by
  unfold Iy
  simp [IntKind.wrap,IntKind.bits,IntKind.signed]
  omega
 intro ρ hρ _ _ _ _ _ w
 simp [execOp,hρ x _ hx,convert,run_underlying hs.und,run_underlying ht.und,Conv.intToInt,e]
theorem P8 (p n:Nat)(bs:List UInt8)(hn:n<18446744073709551616)(hb:bs.length≤1073741824):Spec prog 110 [pv p,.int .u64 (n:Nat)] [EL p bs] (fun r L=>r=.tuple #[]∧L=[EL p (bs++Bf 8 n)]):=by
 refine Spec.of 7 func110 rfl rfl rfl ?_
 refine Al (Ad rfl (Ad rfl ?_))
 refine Aw (AA (GM p n 8 bs (by decide) hn hb) rfl rfl AC) ?_
 rintro v6 L1 ⟨rfl,rfl⟩
 refine Aj (C7 _ .nil (AH ?_))
 exact Aq [EL p (bs++Bf 8 n)] .nil ⟨rfl,rfl⟩ AC
abbrev Qf (q:Qn)(iv:Value):List Value:=[.int .i64 q.k,.int .i64 q.a,.int .i64 q.b,.int .i64 q.lim,iv,.string ⟨#[]⟩]
theorem L7:∀ l:List Int,(l.flatMap Fb).length=8*l.length
 | []=>rfl
 | x::l=>by rw [List.flatMap_cons,List.length_append,Hl,L7 l,List.length_cons]; omega
set_option maxHeartbeats 4000000 in
theorem Zi (μ:PH)(q:Qn)(hq:q.Ok)(A:Option Addr)(ci:Nat)(hi:Row μ (.slice A q.ids.length ci) 1 q.ids.length (q.ids.flatMap (Bj .i64))):Spec prog 63 [.agg (Qf q (.slice A q.ids.length ci)).toArray] [ro μ] (fun r L=>∃ μ',Le μ μ'∧r=.string (N3 q)∧L=[ro μ']):=by
 have hln:=hq.ln
 have hal:q.all.length=q.ids.length+4:=rfl
 have hcl:q.all.flatMap (Bj .i64)=[.int .i64 q.k,.int .i64 q.a,.int .i64 q.b,.int .i64 q.lim]++q.ids.flatMap (Bj .i64):=rfl
 refine Spec.of 41 func63 rfl rfl rfl ?_
 refine A0 (Aw (Bi rfl rfl) (fun b1=>?_))
 refine As [1] rfl rfl (A0 ?_)
 refine Aw (AA Dy rfl rfl AC) ?_
 rintro v6 L1 ⟨p6,rfl,rfl⟩
 refine Aj (As [1,3] rfl rfl (Ae (A0 (Ac (Ab rfl) (AJ (Ag rfl rfl) (Ac (Ab rfl) (AJ (Ag rfl rfl) (Ac (Ab rfl) (AJ (Ag rfl rfl) (Ac (Ab rfl) (AJ (Ag rfl rfl) (Aw (Bg (qs:=[(0,_),(1,_),(2,_),(3,_)]) rfl rfl rfl) (fun b15=>?_)))))))))))))
 refine Ac (Ab rfl) (AJ (Ag rfl rfl) ?_)
 refine BK (I2 (n:=1) (l:=4) rfl (by decide)) ?_
 refine Aw (D8 (v:=.slice (some ⟨b15,0,none⟩) 4 4) (e:=3) (n:=1) (l:=4) (xs:=[.int .i64 q.k,.int .i64 q.a,.int .i64 q.b,.int .i64 q.lim]) hi rfl rfl AC (MQ (fun _=>rfl) _) (by simp only [maxLen]; omega) Ax) ?_
 rintro v18 -
 rw [← hcl,show 4+q.ids.length=q.all.length by omega]
 refine C5 (v:=v18) (μ:=μ) AC fun μ1 k1 hr=>?_
 refine Ac (B2 hr rfl) (Ad rfl (AE [1,3,18,19,20] rfl (Au ?_)))
 refine B0 (ι:=Nat) (fun i env L=>Sub env [(1,pv b1),(3,pv p6),(18,v18),(19,.int .i64 (q.all.length:Nat)),(20,.int .i64 (i:Nat))]∧Ent L [EL p6 ((q.all.take i).flatMap Fb),B1 b1 65 (Qf q (.slice A q.ids.length ci)),ro μ1]∧i≤q.all.length) (fun i=>q.all.length-i) 0 ⟨⟨rfl,rfl,rfl,rfl,rfl,trivial⟩,by show Ent _ [EL p6 [],B1 b1 65 (Qf q (.slice A q.ids.length ci)),ro μ1]; exact Split.ent' AC,Nat.zero_le _⟩ ?_
 rintro i env L ⟨hsub,hE,hi⟩
 refine B3 _ hsub (AP hE ?_)
 clear hsub hE env L
 refine A0 (Ac (Bb rfl rfl) (AE [1,3,18,19,20,21] rfl (Ae ?_)))
 refine Ak rfl (fun h21=>?_) (fun h21=>?_)
 ·have h21':i<q.all.length:=by have:=of_decide_eq_true h21; omega
  obtain ⟨x,hx⟩:∃ x,q.all[i]? = some x:=⟨_,List.getElem?_eq_getElem h21'⟩
  obtain ⟨gb,off,cap,hv,_,_,hra⟩:=hr.pos Ax
  have hcell:=(hra.elem (f:=Bj .i64) (n:=1) (fun _=>rfl) hx).cell
  have hwl:=L7 (q.all.take i)
  have htl:(q.all.take i).length=i:=by rw [List.length_take]; omega
  refine Am (Af (Ae (Au (A0 ?_))))
  refine Ac (AB (off+i*1) (congrArg some hv) rfl Ax Ax (by rw [Int.toNat_natCast])) ?_
  refine AJ (C3 rfl hcell) (As [1,3,5,18,19,20] rfl rfl (Al (Ad rfl (Ad rfl (Ac (P7 rfl) ?_)))))
  refine Aw (AA (P8 p6 (Iy x) ((q.all.take i).flatMap Fb) (N2 x) Ax) rfl rfl AC) ?_
  rintro v27 L1 ⟨rfl,rfl⟩
  refine Aj (Be [1,3,18,19,20] rfl (AH (AR (Af (Al (Ac (AO ((i+1:Nat):Int) rfl rfl Ax Ax Ax) (Ad rfl (Be [1,3,18,19,20] rfl (AH ?_)))))))))
  refine Af ⟨i+1,⟨⟨rfl,rfl,rfl,rfl,rfl,trivial⟩,?_,h21'⟩,by omega⟩
  rw [BE hx,List.flatMap_append,show [x].flatMap Fb=Bf 8 (Iy x) from List.append_nil _]
  exact Split.ent' AC
 ·have h21':=of_decide_eq_false h21
  obtain rfl:i=q.all.length:=by omega
  have hwl:=L7 q.all
  rw [List.take_length]
  refine AY (AS (AS (AV rfl (Af (A0 (Ad rfl (Ac (Ab rfl) (AJ (Ag rfl rfl) ?_))))))))
  refine Aw (AA (Fu p6 (q.all.flatMap Fb) [] Ax (by decide)) rfl rfl AC) ?_
  rintro v32 L1 ⟨rfl,rfl⟩
  rw [List.append_nil]
  refine Aj (AE [1,3] rfl (A0 (Ad rfl (Ac (Ab rfl) (AJ (Ag rfl rfl) (Ac (Dw rfl) (Ac (P7 rfl) ?_)))))))
  refine Aw (AA (P8 p6 0 (q.all.flatMap Fb) (by decide) Ax) rfl rfl AC) ?_
  rintro v38 L1 ⟨rfl,rfl⟩
  refine Aj (AE [3] rfl (A0 (Ad rfl ?_)))
  refine Aw (AA (E7 p6 (q.all.flatMap Fb++Bf 8 0) (fun h=>by have:=congrArg List.length h; rw [List.length_append,hwl,List.length_nil] at this; omega)) rfl rfl AC) ?_
  rintro v40 L1 ⟨rfl,rfl⟩
  refine Aj (As [2] rfl rfl (Ar ?_))
  exact Aq [ro μ1] (.tmp rfl .nil) ⟨μ1,k1,rfl,rfl⟩ AC
structure AnW where
 e:Int
 y:Bool
 n:Int
 ids:List Int
 tr:List En
structure AnOk (μ:PH) (a:An) (x:AnW):Prop where
 he:a.e=x.e
 hy:a.y=x.y
 hn:a.n=x.n
 hi:Row μ (TZ a.i) 1 x.ids.length (x.ids.flatMap (Bj .i64))
 ht:Row μ (TZ a.t) 2 x.tr.length (DC x.tr)
 li:x.ids.length≤1048576
 lt:x.tr.length≤1048576
theorem AnOk.le{μ μ':PH}{a:An}{x:AnW}(h:AnOk μ a x)(k:Le μ μ'):AnOk μ' a x:=⟨h.he,h.hy,h.hn,h.hi.le k,h.ht.le k,h.li,h.lt⟩
abbrev anV (x:AnW)(i t:Option Addr×Nat):Value:=.agg #[.int .i64 x.e,.bool x.y,.int .i64 x.n,.slice i.1 x.ids.length i.2,.slice t.1 x.tr.length t.2]
abbrev anL (x:AnW)(i t:Option Addr×Nat)(L:List AF):List AF:=own 3 1 (.slice i.1 x.ids.length i.2) x.ids.length (x.ids.flatMap (Bj .i64))::own 111 2 (.slice t.1 x.tr.length t.2) x.tr.length (DC x.tr)::L
theorem Zj (μ:PH)(a:An)(x:AnW)(h:AnOk μ a x):Spec prog 69 [.agg (anc a).toArray] [ro μ] (fun r L=>∃ i t,r=anV x i t∧L=anL x i t [ro μ]):=by
 obtain ⟨he,hy,hn,hi,ht,li,lt⟩:=h
 obtain ⟨an,ay,ae,ai,atr⟩:=a
 obtain ⟨xe,xy,xn,ids,tr⟩:=x
 dsimp only at he hy hn hi ht li lt
 subst he hy hn
 refine Spec.of 12 func69 rfl rfl rfl ?_
 refine A0 ?_
 refine Aw (Bi rfl rfl) fun b1=>?_
 refine Aw (AZ) fun b2=>?_
 refine AE [1,2] rfl (Ae ?_)
 refine Ba [1,4] ([B1 b1 62 (anc ⟨an,ay,ae,ai,atr⟩)]) ([B1 b2 62 (anc an0),ro μ]) (Split.ent AC) AK ?_
 refine AD 0 rfl (Ab rfl) (Bc 1 rfl (Ag rfl rfl) rfl (AD 3 rfl (Ab rfl) (Bc 4 rfl (Ag rfl rfl) rfl ?_)))
 refine CC 2 rfl AK (AA (FQ μ _ ids hi li) rfl rfl AC) ?_
 rintro v5 L1 ⟨A5,c5,rfl,rfl⟩
 refine ⟨_,BL (Split.ent AC),?_⟩
 refine AD 6 rfl (Ab rfl) ?_
 refine BT 5 rfl AK AK (AA (IB μ _ tr ht lt) rfl rfl AC) ?_
 rintro v8 L1 ⟨A8,c8,rfl,rfl⟩
 refine Cc ?_
 refine Cj 7 rfl AK AK (AW rfl rfl rfl) ?_
 refine AD 8 rfl (Ab rfl) ?_
 refine Cj 9 rfl AK AK (AW rfl rfl rfl) ?_
 refine C0 [1,2] rfl ?_
 refine Bs AK ?_
 refine Af (A0 ?_)
 refine AJ (BP rfl rfl) ?_
 refine B5 (AU rfl rfl rfl rfl) ?_
 refine AE [2] rfl (Ar ?_)
 exact Aq (anL ⟨ae,ay,an,ids,tr⟩ (A5,c5) (A8,c8) [ro μ]) (.cell rfl (Bn rfl) .nil) ⟨(A5,c5),(A8,c8),rfl,rfl⟩ AC
def CaOk (f:Qn→AnW)(μ:PH)(l:List Nd):Prop:=∀ y∈l,∃ q,q.Ok∧y.k=N3 q∧AnOk μ y.a (f q)
theorem CaOk.le{f:Qn→AnW}{μ μ':PH}{l:List Nd}(h:CaOk f μ l)(k:Le μ μ'):CaOk f μ' l:=fun y hy=>by
 obtain ⟨q,h1,h2,h3⟩:=h y hy
 exact ⟨q,h1,h2,h3.le k⟩
theorem Zk (f:Qn→AnW)(μ:PH)(p:Nat)(l:List Nd)(h:CaOk f μ l)(q:Qn)(hq:q.Ok):Spec prog 65 [pv p,.string (N3 q)] [F6 p 64 l] (fun r L=>∃ a b l',((b=true∧AnOk μ a (f q))∨(b=false∧∀ y∈l',y.k≠N3 q))∧CaOk f μ l'∧r=.tuple #[.agg (anc a).toArray,.bool b]∧L=[F6 p 64 l']):=by
 by_cases hx:∃ x∈l,x.k=N3 q
 ·obtain ⟨x,hx,hk⟩:=hx
  rw [← hk]
  refine (A05 p 64 l x hx).mono fun r L ⟨l',h1,h2,h3⟩=>⟨x.a,true,l',.inl ⟨rfl,?_⟩,fun y hy=>h y (h1 y hy),h2,h3⟩
  obtain ⟨q',e1,e2,e3⟩:=h x hx
  rw [Yf hq e1 (hk.symm.trans e2)]
  exact e3
 ·have hn:∀ y∈l,y.k≠N3 q:=fun y hy e=>hx ⟨y,hy,e⟩
  exact (A1g p 64 l (N3 q) hn).mono fun r L ⟨h1,h2⟩=>⟨an0,false,l,.inr ⟨rfl,hn⟩,h,h1,h2⟩
set_option maxHeartbeats 4000000 in
theorem Ry (f:Qn→AnW)(μ:PH)(sv pw q0 ps px be bu pa:Nat)(l:List Nd)(VA:AF)(h:CaOk f μ l)(q:Qn)(hq:q.Ok)(A:Option Addr)(ci:Nat)(hi:Row μ (.slice A q.ids.length ci) 1 q.ids.length (q.ids.flatMap (Bj .i64)))
  (hlook:∀ μ',Le μ μ'→Spec prog 67 [pv pw,.agg (Qf q (.slice A q.ids.length ci)).toArray] [VA,ro μ'] (fun r L=>∃ μ'' a,Le μ' μ''∧AnOk μ'' a (f q)∧r=.agg (anc a).toArray∧L=[VA,ro μ''])) :
  Spec prog 36 [pv sv,.agg (Qf q (.slice A q.ids.length ci)).toArray] [B1 sv 53 (RL pw q0 ps px be bu 0 pa),F6 pa 64 l,VA,ro μ] (fun r L=>∃ μ' l' i t,Le μ μ'∧CaOk f μ' l'∧r=anV (f q) i t∧L=anL (f q) i t [B1 sv 53 (RL pw q0 ps px be bu 0 pa),F6 pa 64 l',VA,ro μ']):=by
 refine Spec.of 52 func36 rfl rfl rfl ?_
 refine A0 (Aw (Bi rfl rfl) (fun b3=>?_))
 refine Aw (AZ) fun b4=>?_
 refine AE [0,3,4] rfl (A0 (AJ (BG (vs:=Qf q (.slice A q.ids.length ci)) rfl rfl rfl) ?_))
 refine Aw (AA (Zi μ q hq A ci hi) rfl rfl AC) ?_
 rintro v9 L1 ⟨μ1,k1,rfl,rfl⟩
 refine Aj (As [0,3,4,5] rfl rfl (A0 (Ad rfl (Ac (Ah rfl) (Ac (Ab rfl) ?_)))))
 refine Aw (AA (NN sv pw q0 ps px be bu pa) rfl rfl AC) ?_
 rintro v13 L1 ⟨rfl,rfl⟩
 refine Aj (AE [0,3,4,5] rfl (A0 (Ad rfl (Ac (Ah rfl) (Ac (Ab rfl) (AJ (Ag rfl rfl) (Ad rfl ?_)))))))
 refine Aw (AA (Zk f μ1 pa l (h.le k1) q hq) rfl rfl AC) ?_
 rintro v20 L1 ⟨a,bb,l1,hab,hca,rfl,rfl⟩
 refine Aj (Ad rfl (Ac (Ai rfl) (Ac (Ai rfl) (Aw (AZ) (fun b6=>?_)))))
 refine B5 (AU rfl rfl rfl rfl) (As [0,3,4,5,6,7] rfl rfl (A0 (Ad rfl (Ac (Ah rfl) (Ac (Ab rfl) ?_)))))
 refine Aw (AA (Kn sv pw q0 ps px be bu pa) rfl rfl AC) ?_
 rintro v26 L1 ⟨rfl,rfl⟩
 refine Aj (AE [0,3,4,5,6,7] rfl ?_)
 refine Cb (fun env L=>∃ (b4 b6:Nat) (μ2:PH) (a:An) (l2:List Nd),Sub env [(4,pv b4),(6,pv b6)]∧Ent L [B1 b6 62 (anc a),B1 b4 62 (anc an0),B1 sv 53 (RL pw q0 ps px be bu 0 pa),F6 pa 64 l2,VA,ro μ2]∧Le μ μ2∧AnOk μ2 a (f q)∧CaOk f μ2 l2) ?_ ?_
 ·refine A0 (Ad rfl (Ac (BO rfl) (AE [0,3,4,5,6,28] rfl ?_)))
  refine Ak rfl (fun h28=>?_) (fun h28=>?_)
  ·obtain ⟨rfl,hno⟩:bb=false∧∀ y∈l1,y.k≠N3 q:=by
    rcases hab with ⟨rfl,_⟩ | h
    ·cases h28
    ·exact h
   refine Ae ?_
   refine Ba [3,4] ([B1 sv 53 (RL pw q0 ps px be bu 0 pa),B1 b3 65 (Qf q (.slice A q.ids.length ci))]) ([B1 b6 62 (anc a),F6 pa 64 l1,ro μ1,B1 b4 62 (anc an0),VA]) (Split.ent AC) AK ?_
   refine AD 0 rfl (AG rfl) (AD 1 rfl (Ah rfl) (AD 2 rfl (Ab rfl) (Bc 3 rfl (Ag rfl rfl) rfl (Bc 4 rfl (BG (vs:=Qf q (.slice A q.ids.length ci)) rfl rfl rfl) rfl ?_))))
   refine BT 5 rfl AK AK (AA (hlook μ1 k1) rfl rfl AC) ?_
   rintro v34 L1 ⟨μ2,a2,k2,hok,rfl,rfl⟩
   refine Cc (Cj 6 rfl AK AK (AU rfl rfl rfl rfl) (C0 [0,4,5,6] rfl (Bs AK (Af (A0 (Ad rfl (Ac (Ah rfl) (Ac (Ab rfl) ?_))))))))
   refine Aw (AA (NN sv pw q0 ps px be bu pa) rfl rfl AC) ?_
   rintro v38 L1 ⟨rfl,rfl⟩
   refine Aj (AE [0,4,5,6] rfl (Ae ?_))
   refine Ba [3,5] _ [] (by simp only [List.append_nil]; exact Ent.refl _) AK ?_
   refine AD 0 rfl (AG rfl) (AD 1 rfl (Ah rfl) (AD 2 rfl (Ab rfl) (Bc 3 rfl (Ag rfl rfl) rfl (AD 4 rfl (AG rfl) (Bc 5 rfl (BG (vs:=anc a2) rfl rfl rfl) rfl ?_)))))
   refine BT 6 rfl AK AK (AA (VI pa 64 l1 (N3 q) a2 hno) rfl rfl AC) ?_
   rintro v45 L1 ⟨l2,hl2,rfl⟩
   refine Cc (C0 [0,4,6] rfl (Bs AK (Af (Al (Ad rfl (Ac (Ah rfl) (Ac (Ab rfl) ?_)))))))
   refine Aw (AA (Kn sv pw q0 ps px be bu pa) rfl rfl AC) ?_
   rintro v49 L1 ⟨rfl,rfl⟩
   refine Aj (Be [4,6] rfl (AH ?_))
   refine Af ⟨b4,b6,μ2,a2,l2,⟨rfl,rfl,trivial⟩,Split.ent' AC,k1.trans k2,hok,fun y hy=>?_⟩
   rcases hl2 y hy with h1 | ⟨h1,h2⟩
   ·obtain ⟨q',e1,e2,e3⟩:=hca y h1
    exact ⟨q',e1,e2,e3.le k2⟩
   ·exact ⟨q,hq,h1,by rw [h2]; exact hok⟩
  ·obtain ⟨rfl,hyes⟩:bb=true∧AnOk μ1 a (f q):=by
    rcases hab with h | ⟨rfl,_⟩
    ·exact h
    ·cases h28
   refine Am ?_
   exact Af ⟨b4,b6,μ1,a,l1,⟨rfl,rfl,trivial⟩,Split.ent' AC,k1,hyes,hca⟩
 rintro env L ⟨b4,b6,μ2,a2,l2,hsub,hE,k2,hok,hca2⟩
 refine B3 _ hsub (AP hE ?_)
 clear hsub hE env L
 refine A0 (AJ (BG (vs:=anc a2) rfl rfl rfl) ?_)
 refine Aw (AA (Zj μ2 a2 (f q) hok) rfl rfl AC) ?_
 rintro v51 L1 ⟨i,t,rfl,rfl⟩
 refine Aj (B5 (AU rfl rfl rfl rfl) (AE [4] rfl (Ar ?_)))
 exact Aq (anL (f q) i t [B1 sv 53 (RL pw q0 ps px be bu 0 pa),F6 pa 64 l2,VA,ro μ2]) (.cell rfl (Bn rfl) .nil) ⟨μ2,l2,i,t,k2,hca2,rfl,rfl⟩ AC
theorem Zl (f:Qn→AnW)(μ:PH)(sv pw q0 ps px be bu pa:Nat)(l:List Nd)(VA:AF)(h:CaOk f μ l)(q:Qn)(hq:q.Ok)(A:Option Addr)(ci:Nat)(hi:Row μ (.slice A q.ids.length ci) 1 q.ids.length (q.ids.flatMap (Bj .i64)))
  (hlook:∀ μ',Le μ μ'→Spec prog 67 [pv pw,.agg (Qf q (.slice A q.ids.length ci)).toArray] [VA,ro μ'] (fun r L=>∃ μ'' a,Le μ' μ''∧AnOk μ'' a (f q)∧r=.agg (anc a).toArray∧L=[VA,ro μ''])) :
  Spec prog 13 [pv sv,.agg (Qf q (.slice A q.ids.length ci)).toArray] [B1 sv 53 (RL pw q0 ps px be bu 0 pa),F6 pa 64 l,VA,ro μ] (fun r L=>∃ μ' l' i t,Le μ μ'∧CaOk f μ' l'∧r=anV (f q) i t∧L=anL (f q) i t [B1 sv 53 (RL pw q0 ps px be bu 0 pa),F6 pa 64 l',VA,ro μ']):=by
 refine Spec.of 15 func13 rfl rfl rfl ?_
 refine A0 (Aw (Bi rfl rfl) (fun b3=>?_))
 refine Aw (AZ) fun b4=>?_
 refine AE [0,3,4] rfl (Ae (A0 (Ad rfl ?_)))
 refine Aw (AA (L6 sv pw q0 ps px be bu 0 pa) rfl rfl AC) ?_
 rintro v7 L1 ⟨rfl,rfl⟩
 refine Aj (As [0,3,4,5] rfl rfl (A0 (Ad rfl (Ac (Bm rfl rfl) (AE [0,3,4,5,9] rfl (Dz rfl (Am (Af (A0 (Ad rfl (AJ (BG (vs:=Qf q (.slice A q.ids.length ci)) rfl rfl rfl) ?_)))))))))))
 refine Aw (AA (Ry f μ sv pw q0 ps px be bu pa l VA h q hq A ci hi hlook) rfl rfl AC) ?_
 rintro v14 L1 ⟨μ1,l1,i,t,k1,hca,rfl,rfl⟩
 refine Aj (B5 (AU rfl rfl rfl rfl) (AE [4] rfl (Ar ?_)))
 exact Aq (anL (f q) i t [B1 sv 53 (RL pw q0 ps px be bu 0 pa),F6 pa 64 l1,VA,ro μ1]) (.cell rfl (Bn rfl) .nil) ⟨μ1,l1,i,t,k1,hca,rfl,rfl⟩ AC
def JY (g:List (List Int))(q:Qn):AnsP :=
 if q.k=1 then ⟨[],Jx g q.a q.b,Cu g.length [[q.a,q.b]]⟩
 else if q.k=4 then ⟨Dr g [q.a] [q.b],false,I7 g [q.a] [q.b]⟩
 else ⟨Ea g q.ids,false,F3 g q.ids⟩
theorem Ty {α:Type}{f g:α→Bool}:∀ {l:List α},(∀ x∈l,f x=g x)→l.any f=l.any g
 | [],_=>rfl
 | x::l,h=>by rw [List.any_cons,List.any_cons,h x (List.mem_cons_self ..),Ty fun y hy=>h y (List.mem_cons_of_mem _ hy)]
theorem Zm {g:List (List Int)}{k a:Nat}(h:a<k):BU (g.take k) a=BU g a:=by
 unfold BU
 rw [List.getD_eq_getElem?_getD,List.getD_eq_getElem?_getD,List.getElem?_take_of_lt h]
theorem L8 {g:List (List Int)}(hg:Fo g)(k:Nat):Fo (g.take k):=fun c l hl p hp=>by
 by_cases hc:c<k
 ·rw [List.getElem?_take_of_lt hc] at hl; exact hg c l hl p hp
 ·rw [List.getElem?_take_eq_none Ax] at hl; cases hl
theorem M7 {g:List (List Int)}(hg:Fo g){k:Nat}:∀ (n a:Nat),a<n→a<k→∀ b,up (g.take k) a b=up g a b
 | 0,_,h,_,_=>absurd h (Nat.not_lt_zero _)
 | n+1,a,h,hk,b=>by
  rw [up_step (L8 hg k),up_step hg,Zm hk]
  congr 1
  refine Ty fun p hp=>?_
  obtain ⟨h0,h1,_⟩:=CD hg hp
  exact M7 hg n p.toNat Ax Ax b
theorem NO {n:Nat}{ls:List (List Int)}(h:∀ l∈ls,∀ p∈l,0≤p∧p<n):Cu n ls=0:=by
 unfold Cu
 rw [if_pos]
 refine List.all_eq_true.2 fun l hl=>List.all_eq_true.2 fun p hp=>?_
 obtain ⟨a,b⟩:=h l hl p hp
 unfold O2
 rw [decide_eq_true a,decide_eq_true b]; rfl
theorem L9 {n:Nat}{ls:List (List Int)}{l:List Int}{p:Int}(hl:l∈ls)(hp:p∈l)(h:¬ (0≤p∧p<n)):Cu n ls=9:=by
 unfold Cu
 rw [if_neg]
 intro hh
 have:=List.all_eq_true.1 (List.all_eq_true.1 hh l hl) p hp
 unfold O2 at this
 rw [Bool.and_eq_true,decide_eq_true_eq,decide_eq_true_eq] at this
 exact h this
def DS (g:List (List Int))(n a b c:Nat):Bool:=(up g a c&&up g b c)&&!((List.range n).any fun d=>decide (d≠c)&&((up g a d&&up g b d)&&up g d c))
theorem Uv {g:List (List Int)}(hg:Fo g){a:Nat}(ha:a<g.length)(j:Nat):OG g g.length [(a:Int)] j=up g a j:=by
 rw [Bool.eq_iff_iff,V7 hg (fun p hp=>by rw [List.mem_singleton.1 hp]; omega),Gf hg]
 constructor
 ·rintro ⟨i,hi,h⟩
  have:i=a:=by have:=List.mem_singleton.1 hi; omega
  rwa [← this]
 ·exact fun h=>⟨a,List.mem_singleton.2 rfl,h⟩
section
variable {g:List (List Int)} (hg:Fo g) {n a b:Nat} (hn:n≤g.length) (ha:a<n) (hb:b<n)
include hg hn ha
theorem A0v(hb:b<n):JY (g.take n) ⟨1,b,a,[],0⟩=⟨[],up g a b,0⟩:=by
 have hl:(g.take n).length=n:=by rw [List.length_take]; omega
 have e:Cu (g.take n).length [[(b:Int),(a:Int)]]=0:=NO fun l h p hp=>by
  rw [List.mem_singleton.1 h] at hp
  rw [hl]
  rcases List.mem_cons.1 hp with rfl | hp
  ·omega
  ·rw [List.mem_singleton.1 hp]; omega
 unfold JY
 rw [if_pos rfl]
 dsimp only
 unfold Jx
 rw [e,decide_eq_true rfl,Bool.true_and,Int.toNat_natCast,Int.toNat_natCast,M7 hg _ a (Nat.lt_succ_self a) ha]
theorem WS:JY (g.take n) ⟨2,0,0,[(a:Int)],0⟩=⟨Bu n (up g a),false,0⟩:=by
 have hl:(g.take n).length=n:=by rw [List.length_take]; omega
 have e:F3 (g.take n) [(a:Int)]=0:=NO fun l h p hp=>by
  rw [List.mem_singleton.1 h] at hp
  rw [List.mem_singleton.1 hp,hl]; omega
 unfold JY
 rw [if_neg (show ¬ (2:Int)=1 by decide),if_neg (show ¬ (2:Int)=4 by decide)]
 dsimp only
 unfold Ea
 rw [if_pos e,e,hl]
 congr 1
 unfold Bu
 congr 1
 refine List.filter_congr fun j _=>?_
 have hg':=L8 hg n
 rw [Bool.eq_iff_iff,decide_eq_true_eq,(JM hg' [(a:Int)]).2.2,← M7 hg _ a (Nat.lt_succ_self a) ha,Gf hg']
 constructor
 ·rintro ⟨q,hq,h⟩
  have:q=a:=by have:=List.mem_singleton.1 (J2.1 hq).1; omega
  rwa [← this]
 ·exact fun h=>⟨a,J2.2 ⟨List.mem_singleton.2 rfl,by omega,by omega⟩,h⟩
include hb
theorem WT:JY (g.take n) ⟨4,a,b,[],0⟩=⟨Bu n (DS g n a b),false,0⟩:=by
 have hl:(g.take n).length=n:=by rw [List.length_take]; omega
 have hg':=L8 hg n
 have e:I7 (g.take n) [(a:Int)] [(b:Int)]=0:=NO fun l h p hp=>by
  rw [hl]
  rcases List.mem_cons.1 h with rfl | h
  ·rw [List.mem_singleton.1 hp]; omega
  ·rw [List.mem_singleton.1 h] at hp
   rw [List.mem_singleton.1 hp]; omega
 unfold JY
 rw [if_neg (show ¬ (4:Int)=1 by decide),if_pos rfl]
 dsimp only
 unfold Dr
 rw [if_pos e,e]
 unfold IK
 rw [hl]
 congr 1
 unfold Bu
 congr 1
 refine List.filter_congr fun j hj=>?_
 have hS:Jt (g.take n) [(a:Int)] [(b:Int)]=fun c=>up (g.take n) a c&&up (g.take n) b c:=funext fun c=>by
  unfold Jt
  rw [Uv hg' Ax,Uv hg' Ax]
 have hb':=hb
 have hup:=fun x (hx:x<n) c=>M7 hg (k:=n) _ x (Nat.lt_succ_self x) hx c
 have hb:=Vc hg' (S:=fun c=>up (g.take n) a c&&up (g.take n) b c) (fun x y h1 h2=>by
  rw [Bool.and_eq_true,Gf hg',Gf hg'] at h1 ⊢
  exact ⟨h1.1.trans h2,h1.2.trans h2⟩) j
 rw [hl] at hb
 rw [hS,hb]
 unfold DS
 rw [hup a ha,hup b hb']
 congr 2
 refine Ty fun d hd=>?_
 rw [hup a ha,hup b hb',hup d (List.mem_range.1 hd)]
end
theorem Tz (g:List (List Int))(n:Nat)(_:n≤g.length):JY (g.take n) ⟨1,0,-1,[],0⟩=⟨[],false,9⟩:=by
 have e:Cu (g.take n).length [[(0:Int),-1]]=9:=L9 (List.mem_singleton.2 rfl) (p:=-1) (by simp) Ax
 unfold JY
 rw [if_pos rfl]
 dsimp only
 unfold Jx
 rw [e]; rfl
theorem Qg (g:List (List Int))(n:Nat)(hn:n≤g.length):JY (g.take n) ⟨4,(n:Int),0,[],0⟩=⟨[],false,9⟩:=by
 have hl:(g.take n).length=n:=by rw [List.length_take]; omega
 have e:I7 (g.take n) [(n:Int)] [0]=9:=L9 (l:=[(n:Int)]) (p:=(n:Int)) (by simp) (by simp) Ax
 unfold JY
 rw [if_neg (show ¬ (4:Int)=1 by decide),if_pos rfl]
 dsimp only
 unfold Dr
 rw [if_neg (by rw [e]; decide),e]
theorem Qh (g:List (List Int))(n:Nat)(hn:n≤g.length):JY (g.take n) ⟨2,0,0,[0,(n:Int)],0⟩=⟨[],false,9⟩:=by
 have hl:(g.take n).length=n:=by rw [List.length_take]; omega
 have e:F3 (g.take n) [0,(n:Int)]=9:=L9 (l:=[0,(n:Int)]) (p:=(n:Int)) (by simp) (by simp) Ax
 unfold JY
 rw [if_neg (show ¬ (2:Int)=1 by decide),if_neg (show ¬ (2:Int)=4 by decide)]
 dsimp only
 unfold Ea
 rw [if_neg (by rw [e]; decide),e]
theorem WU {g:List (List Int)}{gs:List Int}(h:Dg [] g=some gs)(k:Nat){a b:Nat}(hr:Reach g a b)(hne:a≠b):MD (Gu (Ky k gs) (a:Nat)) (Gu (Ky k gs) (b:Nat))=true:=by
 have hg:=He h
 have hl:=Gg h
 have hlt:=hr.lt hg hne
 have e:∀ x:Nat,x<g.length→∃ z,(Ky k gs)[x]? = some z∧Gu (Ky k gs) (x:Nat)=z:=fun x hx=>by
  have hx':x<(Ky k gs).length:=by rw [QL,hl]; exact hx
  refine ⟨_,List.getElem?_eq_getElem hx',?_⟩
  unfold Gu
  rw [if_pos Ax,Int.toNat_natCast,List.getD_eq_getElem?_getD,List.getElem?_eq_getElem hx']; rfl
 obtain ⟨x,hx,ex⟩:=e a hlt.2
 obtain ⟨y,hy,ey⟩:=e b Ax
 rw [ex,ey]
 exact UT h hr hne hx hy
theorem IL (n:Nat)(S:Nat→Bool):(Bu n S).length≤n:=by
 unfold Bu P2
 rw [List.length_map]
 exact Nat.le_trans (List.length_filter_le _ _) (by rw [List.length_range]; exact Nat.le_refl _)
section
variable (X:VWt) (μ:PH) (h:X.Ok μ)
include h
theorem Zn (a b:Int)(A:Option Addr)(ci:Nat):Spec prog 67 [pv X.pw,.agg (Qf ⟨1,a,b,[],0⟩ (.slice A 0 ci)).toArray] [X.A,ro μ] (fun r L=>∃ μ' an,Le μ μ'∧AnOk μ' an ⟨Cu X.g.length [[a,b]],Jx X.g a b,0,[],[]⟩∧r=.agg (anc an).toArray∧L=[X.A,ro μ']):=by
 have hsp:Spec prog 119 [.iface 38 (pv X.pw),.int .i64 a,.int .i64 b] [X.A,ro μ] (fun r L=>∃ ys μ',M4 X.g.length (Gu X.gs) a ys∧Le μ μ'∧r=.tuple #[.bool (Jx X.g a b),.int .i64 (Cu X.g.length [[a,b]])]∧L=[X.A,ro μ']):=Tt (WR X μ h) (Gu X.gs) (Zh X μ h) () μ a b (Le.refl _) (P6 X μ h ()) (fun _ _ hr hne=>WU h.s.gc.more (BB X.l) hr hne)
 refine Spec.of 196 func67 rfl rfl rfl ?_
 refine A0 ?_
 refine Aw (Bi rfl rfl) fun b3=>?_
 refine Aw (AZ) fun b4=>?_
 refine AE [0,3,4] rfl (A0 ?_)
 refine Aw (AZ) fun b5=>?_
 refine AE [0,3,4,5] rfl (Ae (A0 (Ac (Ab rfl) (AJ (Ag rfl rfl) (AE [0,3,4,5,8] rfl (Au (A0 (Ac (Bp rfl rfl) (As [0,3,4,5,8,10] rfl rfl (Qs rfl (Al (Ad rfl (Ac (Eh rfl) (Ac (Ab rfl) (AJ (Ag rfl rfl) (Ac (Ab rfl) (AJ (Ag rfl rfl) ?_)))))))))))))))))
 refine Aw (AA hsp rfl rfl AC) ?_
 rintro v19 L1 ⟨ys,μ',-,k1,rfl,rfl⟩
 refine Aj (Ad rfl (Ac (Ai rfl) (Ac (Ai rfl) (Ac (Ab rfl) ?_))))
 refine B5 (AW rfl rfl rfl) ?_
 refine Ac (Ab rfl) ?_
 refine B5 (AW rfl rfl rfl) ?_
 refine Be [4,5] rfl (AH (AR (Af (A0 ?_))))
 refine AJ (BP rfl rfl) ?_
 refine B5 (AU rfl rfl rfl rfl) ?_
 refine AE [4] rfl (Ar ?_)
 exact Aq [X.A,ro μ'] (.cell rfl (Bn rfl) .nil) ⟨μ',⟨0,Jx X.g a b,Cu X.g.length [[a,b]],(none,0,0),(none,0,0)⟩,k1,⟨rfl,rfl,rfl,Row.nil _ _,Row.nil _ _,Nat.zero_le _,Nat.zero_le _⟩,rfl,rfl⟩ AC
theorem TA (hT:RowAt μ 2 0 tabV)(a b:Int)(A:Option Addr)(ci:Nat):Spec prog 67 [pv X.pw,.agg (Qf ⟨4,a,b,[],0⟩ (.slice A 0 ci)).toArray] [X.A,ro μ] (fun r L=>∃ μ' an,Le μ μ'∧AnOk μ' an ⟨I7 X.g [a] [b],false,0,Dr X.g [a] [b],[]⟩∧r=.agg (anc an).toArray∧L=[X.A,ro μ']):=by
 have hsl:(Dr X.g [a] [b]).length≤16:=by
  have hg:X.g.length≤16:=by rw [List.length_map]; exact h.s.gc.len
  unfold Dr
  split
  ·exact Nat.le_trans (IL _ _) hg
  ·exact Nat.zero_le _
 have hsp:Spec prog 122 [.iface 38 (pv X.pw),.int .i64 a,.int .i64 b] [X.A,ro μ] (fun r L=>∃ lv zs μ',Km X.g.length zs∧Le μ μ'∧r=.tuple #[lv,.int .i64 (I7 X.g [a] [b])]∧L=[own 3 1 lv (Dr X.g [a] [b]).length ((Dr X.g [a] [b]).flatMap (Bj .i64)),X.A,ro μ']):=Tx (WR X μ h) () μ a b hT (Le.refl _) (P6 X μ h ())
 refine Spec.of 196 func67 rfl rfl rfl ?_
 refine A0 (Aw (Bi rfl rfl) (fun b3=>?_))
 refine Aw (AZ) fun b4=>?_
 refine AE [0,3,4] rfl (A0 (Aw (AZ) (fun b5=>?_)))
 refine AE [0,3,4,5] rfl (Ae (A0 (Ac (Ab rfl) (AJ (Ag rfl rfl) (AE [0,3,4,5,8] rfl (Au (A0 (Ac (Bp rfl rfl) (As [0,3,4,5,8,10] rfl rfl (Dz rfl (A0 (Ac (Bp rfl rfl) (As [0,3,4,5,8,24] rfl rfl (Dz rfl (A0 (Ac (Bp rfl rfl) (As [0,3,4,5,8,36] rfl rfl (Dz rfl (A0 (Ac (Bp rfl rfl) (As [0,3,4,5,8,52] rfl rfl (Qs rfl (Al (Ad rfl (Ac (Eh rfl) (Ac (Ab rfl) (AJ (Ag rfl rfl) (Ac (Ab rfl) (AJ (Ag rfl rfl) ?_)))))))))))))))))))))))))))))
 refine Aw (AA hsp rfl rfl AC) ?_
 rintro v61 L1 ⟨lv,zs,μ',-,k1,rfl,rfl⟩
 refine Aj ?_
 refine C5 (v:=lv) (μ:=μ') AC fun μ2 k2 hr=>?_
 obtain ⟨A2,c2,rfl⟩:=hr.sl
 refine Ad rfl (Ac (Ai rfl) (Ac (Ai rfl) (Ac (Ab rfl) (B5 (AW rfl rfl rfl) (Ac (Ab rfl) (B5 (AW rfl rfl rfl) (Be [4,5] rfl (AH (AR (Af (A0 (AJ (BP rfl rfl) (B5 (AU rfl rfl rfl rfl) (AE [4] rfl (Ar ?_)))))))))))))))
 exact Aq [X.A,ro μ2] (.cell rfl (Bn rfl) .nil) ⟨μ2,⟨0,false,I7 X.g [a] [b],(A2,_,c2),(none,0,0)⟩,k1.trans k2,⟨rfl,rfl,rfl,hr,Row.nil _ _,by show (Dr X.g [a] [b]).length≤_; omega,Nat.zero_le _⟩,rfl,rfl⟩ AC
theorem TB (hT:RowAt μ 2 0 tabV)(ids:List Int)(hl:ids.length≤1000)(A:Option Addr)(ci:Nat)(hi:Row μ (.slice A ids.length ci) 1 ids.length (ids.flatMap (Bj .i64))):Spec prog 67 [pv X.pw,.agg (Qf ⟨2,0,0,ids,0⟩ (.slice A ids.length ci)).toArray] [X.A,ro μ] (fun r L=>∃ μ' an,Le μ μ'∧AnOk μ' an ⟨F3 X.g ids,false,0,Ea X.g ids,[]⟩∧r=.agg (anc an).toArray∧L=[X.A,ro μ']):=by
 have hsl:(Ea X.g ids).length≤16:=by
  have hg:X.g.length≤16:=by rw [List.length_map]; exact h.s.gc.len
  unfold Ea
  split
  ·exact Nat.le_trans (IL _ _) hg
  ·exact Nat.zero_le _
 have hsp:Spec prog 120 [.iface 38 (pv X.pw),.slice A ids.length ci] [X.A,ro μ] (fun r L=>∃ lv μ',Le μ μ'∧r=.tuple #[lv,.int .i64 (F3 X.g ids)]∧L=[own 3 1 lv (Ea X.g ids).length ((Ea X.g ids).flatMap (Bj .i64)),X.A,ro μ']):=NK (WR X μ h) () μ _ ids hT hi Ax (Le.refl _) (fun _ _ _ _=>trivial)
 refine Spec.of 196 func67 rfl rfl rfl ?_
 refine A0 (Aw (Bi rfl rfl) (fun b3=>?_))
 refine Aw (AZ) fun b4=>?_
 refine AE [0,3,4] rfl (A0 (Aw (AZ) (fun b5=>?_)))
 refine AE [0,3,4,5] rfl (Ae (A0 (Ac (Ab rfl) (AJ (Ag rfl rfl) (AE [0,3,4,5,8] rfl (Au (A0 (Ac (Bp rfl rfl) (As [0,3,4,5,8,10] rfl rfl (Dz rfl (A0 (Ac (Bp rfl rfl) (As [0,3,4,5,8,24] rfl rfl (Qs rfl (Al (Ad rfl (Ac (Eh rfl) (Ac (Ab rfl) (AJ (Ag rfl rfl) ?_)))))))))))))))))))
 refine Aw (AA hsp rfl rfl AC) ?_
 rintro v31 L1 ⟨lv,μ',k1,rfl,rfl⟩
 refine Aj ?_
 refine C5 (v:=lv) (μ:=μ') AC fun μ2 k2 hr=>?_
 obtain ⟨A2,c2,rfl⟩:=hr.sl
 refine Ad rfl (Ac (Ai rfl) (Ac (Ai rfl) (Ac (Ab rfl) (B5 (AW rfl rfl rfl) (Ac (Ab rfl) (B5 (AW rfl rfl rfl) (Be [4,5] rfl (AH (AR (Af (A0 (AJ (BP rfl rfl) (B5 (AU rfl rfl rfl rfl) (AE [4] rfl (Ar ?_)))))))))))))))
 exact Aq [X.A,ro μ2] (.cell rfl (Bn rfl) .nil) ⟨μ2,⟨0,false,F3 X.g ids,(A2,_,c2),(none,0,0)⟩,k1.trans k2,⟨rfl,rfl,rfl,hr,Row.nil _ _,by show (Ea X.g ids).length≤_; omega,Nat.zero_le _⟩,rfl,rfl⟩ AC
end
theorem WV (fn:FuncId)[Body prog fn](ca:List Value)(b:Nat)(pre:List AF)(n e:Int)(Q:List AF→Prop)(h:Spec prog fn ca pre (fun r L=>r=.tuple #[.int .i64 n,.int .i64 e]∧Q L)) :
  Spec prog 82 [pv b] (B1 b 127 [.func (.func fn) #[] ca.toArray]::pre) (fun r L=>r=.agg #[.int .i64 n,.int .i64 e]∧Q L):=by
 refine Spec.of 12 func82 rfl rfl rfl ?_
 refine A0 (Aw (AZ) (fun b1=>?_))
 refine AE [0,1] rfl (A0 (AJ (Ag rfl rfl) ?_))
 refine Aw (Gd (fi:=[]) (args:=[]) (ca:=ca) (by rw [List.nil_append,List.nil_append]; exact h) rfl rfl (Split.skip (Split.skip Split.all))) ?_
 rintro v6 L1 ⟨rfl,hQ⟩
 refine BK (Ent.perm List.perm_append_comm) (Aj (Ad rfl (Ac (Ai rfl) (Ac (Ai rfl) (AX rfl (As [1,2,3] rfl rfl (A0 (Ad rfl (Ad rfl (Ac (Bo (qs:=[(0,_),(1,_)]) rfl) (B5 (AU rfl rfl rfl rfl) (AE [1] rfl (Ar ?_)))))))))))))
 exact Aq L1 (.cell rfl (Bn rfl) .nil) ⟨rfl,hQ⟩ (.skip (.skip Split.all))
section
variable (sv pw q ps px be bu pa:Nat) (l:List Nd)
abbrev Hu:AF:=B1 sv 53 (RL pw q ps px be bu 0 pa)
theorem WW (fn:FuncId)[Body prog fn](ca:List Value)(K:List AF)(gv:Value)(n e:Int)(Q:List AF→Prop)(h:Spec prog fn ca (Hu sv pw q ps px be bu pa::K) (fun r L=>r=.agg #[.int .i64 n,.int .i64 e]∧Q L)) :
  Spec prog 81 [pv sv,.func (.func fn) #[] ca.toArray,gv] (Hu sv pw q ps px be bu pa::F6 pa 64 l::K) (fun r L=>r=.agg #[.int .i64 n,.int .i64 e]∧∃ L',Q L'∧L=F6 pa 64 []::L'):=by
 refine Spec.of 22 func81 rfl rfl rfl ?_
 refine A0 (Aw (AZ) (fun b6=>?_))
 refine AE [0,1,2,6] rfl (Ae (A0 (Ad rfl ?_)))
 refine Aw (AA (L6 sv pw q ps px be bu 0 pa) rfl rfl AC) ?_
 rintro v9 L1 ⟨rfl,rfl⟩
 refine Aj (As [0,1,2,6,7] rfl rfl (A0 (Ad rfl (Ac (Bm rfl rfl) (AE [0,1,2,6,7,11] rfl (Dz rfl (Am (Af (A0 (Ad rfl (Ac (Ah rfl) (Ac (Ab rfl) (AJ (Ag rfl rfl) ?_)))))))))))))
 refine Aw (AA (OQ pa 64 l) rfl rfl AC) ?_
 rintro v19 L1 ⟨rfl,rfl⟩
 refine Aj (AE [1,6] rfl (A0 (Ad rfl ?_)))
 refine Aw (Gd (fi:=[]) (args:=[]) (ca:=ca) (by rw [List.nil_append,List.nil_append]; exact h) rfl rfl (Split.skip (.cons .here (.skip Split.all)))) ?_
 rintro v21 L1 ⟨rfl,hQ⟩
 refine BK (Ent.perm List.perm_append_comm) (Aj (B5 (AU rfl rfl rfl rfl) (AE [6] rfl (Ar ?_))))
 exact Aq (F6 pa 64 []::L1) (.cell rfl (Bn rfl) .nil) ⟨rfl,L1,hQ,rfl⟩ (by first | exact .cons .here (.skip Split.all) | exact .cons (.there .here) (.skip Split.all))
theorem La (fn:FuncId)[Body prog fn](ca:List Value)(K:List AF)(gv:Value)(e:Int)(Q:List AF→Prop)(h:Spec prog fn ca (Hu sv pw q ps px be bu pa::K) (fun r L=>r=.int .i64 e∧Q L)) :
  Spec prog 29 [pv sv,.func (.func fn) #[] ca.toArray,gv] (Hu sv pw q ps px be bu pa::F6 pa 64 l::K) (fun r L=>r=.int .i64 e∧∃ L',Q L'∧L=F6 pa 64 []::L'):=by
 refine Spec.of 22 func29 rfl rfl rfl ?_
 refine A0 (As [0,1,2] rfl rfl (Ae (A0 (Ad rfl ?_))))
 refine Aw (AA (L6 sv pw q ps px be bu 0 pa) rfl rfl AC) ?_
 rintro v9 L1 ⟨rfl,rfl⟩
 refine Aj (As [0,1,2,7] rfl rfl (A0 (Ad rfl (Ac (Bm rfl rfl) (AE [0,1,2,7,11] rfl (Dz rfl (Am (Af (A0 (Ad rfl (Ac (Ah rfl) (Ac (Ab rfl) (AJ (Ag rfl rfl) ?_)))))))))))))
 refine Aw (AA (OQ pa 64 l) rfl rfl AC) ?_
 rintro v19 L1 ⟨rfl,rfl⟩
 refine Aj (AE [1] rfl (A0 (Ad rfl ?_)))
 refine Aw (Gd (fi:=[]) (args:=[]) (ca:=ca) (by rw [List.nil_append,List.nil_append]; exact h) rfl rfl (Split.skip Split.all)) ?_
 rintro v21 L1 ⟨rfl,hQ⟩
 refine BK (Ent.perm List.perm_append_comm) (Aj (As [6] rfl rfl (Ar ?_)))
 exact Aq (F6 pa 64 []::L1) (.tmp rfl .nil) ⟨rfl,L1,hQ,rfl⟩ Split.all
theorem P9 (fn:FuncId)[Body prog fn](ca:List Value)(K:List AF)(n e:Int)(Q:List AF→Prop)(h:Spec prog fn ca (Hu sv pw q ps px be bu pa::K) (fun r L=>r=.tuple #[.int .i64 n,.int .i64 e]∧Q L)) :
  Spec prog 51 [pv sv,.func (.func fn) #[] ca.toArray] (Hu sv pw q ps px be bu pa::F6 pa 64 l::K) (fun r L=>r=.tuple #[.int .i64 n,.int .i64 e]∧∃ L',Q L'∧L=F6 pa 64 []::L'):=by
 have h1:=fun b=>WV fn ca b (Hu sv pw q ps px be bu pa::K) n e Q h
 have h2:∀ b,Spec prog 82 [pv b] (Hu sv pw q ps px be bu pa::B1 b 127 [.func (.func fn) #[] ca.toArray]::K) (fun r L=>r=.agg #[.int .i64 n,.int .i64 e]∧Q L):=fun b=>Spec.pre (h1 b) Ent.swap
 refine Spec.of 14 func51 rfl rfl rfl ?_
 refine A0 (Aw (Bi rfl rfl) (fun b3=>?_))
 refine AX rfl (As [0,3] rfl rfl (A0 (Ad rfl (Ac (C9 (vs:=[]) (us:=[_]) rfl rfl) (Aw (AA (WW sv pw q ps px be bu pa l 82 [pv b3] (B1 b3 127 [.func (.func fn) #[] ca.toArray]::K) _ n e Q (h2 b3)) rfl rfl (Split.cons (.there .here) (.cons (.there .here) Split.all))) ?_)))))
 rintro v9 L1 ⟨rfl,L2,hQ,rfl⟩
 refine BK (Ent.perm List.perm_append_comm) (Aj (Aw (AZ) (fun b6=>?_)))
 refine B5 (AU rfl rfl rfl rfl) (AE [6] rfl (Ae ?_))
 refine Ba [1,3] _ [] (by simp only [List.append_nil]; exact Ent.refl _) AK ?_
 refine AD 0 rfl (Ab rfl) (Bc 1 rfl (Ag rfl rfl) rfl (AD 2 rfl (Ab rfl) (Bc 3 rfl (Ag rfl rfl) rfl (AD 4 rfl (Bl rfl) (AD 5 rfl (Bl rfl) (C0 [4,5] rfl (DL AK (Af (Ar ?_)))))))))
 exact Aq (F6 pa 64 []::L2) (.tmp rfl (.tmp rfl .nil)) ⟨rfl,L2,hQ,rfl⟩ (.skip Split.all)
end
structure SvW where
 sv:Nat
 pw:Nat
 ps:Nat
 px:Nat
 be:Nat
 bu:Nat
 pa:Nat
 W:SW
 d:Dk
 lv:Value
 gv:Value
 l:List Lk
 V:List GV
 cl:List Nd
abbrev SvW.L(S:SvW)(μ:PH):List AF:=[Hu S.sv S.pw S.W.q S.ps S.px S.be S.bu S.pa,F6 S.pa 64 S.cl,B1 S.pw 102 [pv S.ps,pv S.px],xB S.px S.W.q S.lv S.gv,FSA S.W.q S.d,Cy S.ps S.W,Df S.W,Dc S.W,ro μ]
structure SvW.Ok (S:SvW) (μ:PH) (m c B:Nat):Prop where
 x:XS μ m c S.W S.d S.lv S.gv S.l S.V
 w:S.W.Ok μ
 s:SOk S.W
 dead:S.W.dead=false
 log:∃ b,El S.d logN=some b∧b.length≤B
def SvQ (S:SvW)(μ:PH)(m c B:Nat)(pl:O8)(L:List AF):Prop:=∃ S' μ',Le μ μ'∧SvW.Ok S' μ' m c B∧S'.W.pl=pl∧S'.sv=S.sv∧S'.cl=[]∧L=S'.L μ'
theorem Rz (sv pw px be bu pa:Nat)(b2 b3:Nat)(μ:PH)(p:Nat)(W:SW)(hW:W.Ok μ)(d:Dk)(hd:d.Ok)(A:Option Addr)(cc:Nat)(t:List En)(hv:Row μ (.slice A t.length cc) 2 t.length (DC t))(hu:Jg t) :
  Spec prog 52 [pv b2,pv b3] [Hu sv pw W.q p px be bu pa,B1 b2 24 [pv sv],B1 b3 27 [.slice A t.length cc],FSA W.q d,Cy p W,Df W,Dc W,ro μ] (fun r L=>r=.tuple #[.int .i64 (addT ⟨d,W.pl,W.dead⟩ t).2.1,.int .i64 (addT ⟨d,W.pl,W.dead⟩ t).2.2]∧∃ W' μ',(Le μ μ'∧W'.Ok μ'∧W'.q=W.q∧W'.pl=(addT ⟨d,W.pl,W.dead⟩ t).1.s∧W'.dead=(addT ⟨d,W.pl,W.dead⟩ t).1.dead)∧L=[Hu sv pw W.q p px be bu pa,FSA W'.q (addT ⟨d,W.pl,W.dead⟩ t).1.d,Cy p W',Df W',Dc W',ro μ']):=by
 refine Spec.of 12 func52 rfl rfl rfl ?_
 refine A0 (AX rfl (As [0,1] rfl rfl (Ae ?_)))
 refine Ba [0,3,4] ([B1 b2 24 [pv sv],Hu sv pw W.q p px be bu pa,B1 b3 27 [.slice A t.length cc]]) ([FSA W.q d,Cy p W,Df W,Dc W,ro μ]) (Split.ent AC) AK ?_
 refine Bc 0 rfl (Ag rfl rfl) rfl (AD 1 rfl (Ah rfl) (AD 2 rfl (Ab rfl) (Bc 3 rfl (Ag rfl rfl) rfl (Bc 4 rfl (Ag rfl rfl) rfl ?_))))
 refine BT 5 rfl AK AK (AA (Qc μ p W hW d hd _ t hv hu) rfl rfl AC) ?_
 rintro v9 L1 ⟨W',μ',⟨h1,h2,h3,h4,h5,rfl⟩,rfl⟩
 refine Cc (AD 6 rfl (Ai rfl) (AD 7 rfl (Ai rfl) (AD 8 rfl (Bl rfl) (AD 9 rfl (Bl rfl) (C0 [2,3] rfl (Bs AK (Af (Ar ?_))))))))
 exact Aq [Hu sv pw W.q p px be bu pa,FSA W'.q (addT ⟨d,W.pl,W.dead⟩ t).1.d,Cy p W',Df W',Dc W',ro μ'] (.tmp rfl (.tmp rfl .nil)) ⟨rfl,W',μ',⟨h1,h2,h3,h4,h5⟩,rfl⟩ AC
theorem TC (sv pw px be bu pa:Nat)(b2 b3:Nat)(μ:PH)(p:Nat)(W:SW)(hW:W.Ok μ)(d:Dk)(hd:d.Ok)(A:Option Addr)(cc:Nat)(c:Cm)(hv:Row μ (.slice A c.1.length cc) 1 c.1.length (c.1.flatMap (Bj .i64))) :
  Spec prog 55 [pv b2,pv b3] [Hu sv pw W.q p px be bu pa,B1 b2 24 [pv sv],B1 b3 88 [.slice A c.1.length cc,.int .i64 c.2],FSA W.q d,Cy p W,Df W,Dc W,ro μ] (fun r L=>r=.tuple #[.int .i64 (addC ⟨d,W.pl,W.dead⟩ c).2.1,.int .i64 (addC ⟨d,W.pl,W.dead⟩ c).2.2]∧∃ W' μ',(Le μ μ'∧W'.Ok μ'∧W'.q=W.q∧W'.pl=(addC ⟨d,W.pl,W.dead⟩ c).1.s∧W'.dead=(addC ⟨d,W.pl,W.dead⟩ c).1.dead)∧L=[Hu sv pw W.q p px be bu pa,FSA W'.q (addC ⟨d,W.pl,W.dead⟩ c).1.d,Cy p W',Df W',Dc W',ro μ']):=by
 refine Spec.of 12 func55 rfl rfl rfl ?_
 refine A0 (AX rfl (As [0,1] rfl rfl (Ae ?_)))
 refine Ba [0,3,4] ([B1 b2 24 [pv sv],Hu sv pw W.q p px be bu pa,B1 b3 88 [.slice A c.1.length cc,.int .i64 c.2]]) ([FSA W.q d,Cy p W,Df W,Dc W,ro μ]) (Split.ent AC) AK ?_
 refine Bc 0 rfl (Ag rfl rfl) rfl (AD 1 rfl (Ah rfl) (AD 2 rfl (Ab rfl) (Bc 3 rfl (Ag rfl rfl) rfl (Bc 4 rfl (BG (vs:=[.slice A c.1.length cc,.int .i64 c.2]) rfl rfl rfl) rfl ?_))))
 refine BT 5 rfl AK AK (AA (ND μ p W hW d hd _ c hv) rfl rfl AC) ?_
 rintro v9 L1 ⟨W',μ',⟨h1,h2,h3,h4,h5,rfl⟩,rfl⟩
 refine Cc (AD 6 rfl (Ai rfl) (AD 7 rfl (Ai rfl) (AD 8 rfl (Bl rfl) (AD 9 rfl (Bl rfl) (C0 [2,3] rfl (Bs AK (Af (Ar ?_))))))))
 exact Aq [Hu sv pw W.q p px be bu pa,FSA W'.q (addC ⟨d,W.pl,W.dead⟩ c).1.d,Cy p W',Df W',Dc W',ro μ'] (.tmp rfl (.tmp rfl .nil)) ⟨rfl,W',μ',⟨h1,h2,h3,h4,h5⟩,rfl⟩ AC
theorem A1u{W W':SW}{t:List En}(h:SOk W)(e:W'.pl=(W.pl.1++[t],W.pl.2))(h1:t.length≤30)(h2:Ti t):SOk W':=by
 refine ⟨by rw [e]; exact h.gc,fun c hc=>?_,fun u hu=>?_⟩
 ·rw [e] at hc ⊢
  have:=h.tr c hc
  rw [List.length_append,List.length_singleton]
  omega
 ·rw [e] at hu
  rcases List.mem_append.1 hu with hu | hu
  ·exact h.tg u hu
  ·rw [List.mem_singleton.1 hu]; exact ⟨h1,h2⟩
theorem A1v{W W':SW}{c:Cm}(h:SOk W)(e:W'.pl=(W.pl.1,W.pl.2++[c]))(h1:GC (W.pl.2++[c]))(h2:0≤c.2∧c.2<(W.pl.1.length:Int)):SOk W':=by
 refine ⟨by rw [e]; exact h1,fun u hu=>?_,by rw [e]; exact h.tg⟩
 rw [e] at hu ⊢
 rcases List.mem_append.1 hu with hu | hu
 ·exact h.tr u hu
 ·rw [List.mem_singleton.1 hu]; exact h2
theorem Oa (S:SvW)(μ:PH)(m c B:Nat)(h:S.Ok μ m c B)(hc:c<14)(v:Value)(t:List En)(hv:Row μ v 2 t.length (DC t))(hu:Jg t)(ht:Ee t=0)(hl:t.length≤30)(hz:Ti t)(hn:S.W.pl.1.length<65536)(hB:B+((EJ t).length+9)≤F7) :
  Spec prog 25 [pv S.sv,v] (S.L μ) (fun r L=>r=.tuple #[.int .i64 (S.W.pl.1.length:Nat),.int .i64 0]∧SvQ S μ m c (B+((EJ t).length+9)) (S.W.pl.1++[t],S.W.pl.2) L):=by
 obtain ⟨hx,hw,hs,hdead,⟨b,hb,hbl⟩⟩:=h
 obtain ⟨A,cc,rfl⟩:=hv.sl
 obtain ⟨w1,w2,w3⟩:=DV.writeD hx.xd.dv G2 hb (f:=(1,EJ t)) (by show b.length+((EJ t).length+9)≤_; omega)
 have hy:addT ⟨S.d,S.W.pl,S.W.dead⟩ t=(⟨(writeD S.d (1,EJ t)).1,(S.W.pl.1++[t],S.W.pl.2),false⟩,((S.W.pl.1.length:Nat):Int),0):=M0 hdead ht hn w1
 have h1:=fun b2 b3=>Rz S.sv S.pw S.px S.be S.bu S.pa b2 b3 μ S.ps S.W hw S.d hx.xd.dv.ok A cc t hv hu
 rw [hy] at h1
 dsimp only at h1
 obtain ⟨sv,pw,ps,px,be,bu,pa,W,d,lv,gv,l,V,cl⟩:=S
 dsimp only at *
 refine Spec.of 11 func25 rfl rfl rfl ?_
 refine A0 (Aw (Bi rfl rfl) (fun b2=>?_))
 refine Aw (Bi rfl rfl) fun b3=>?_
 refine AX rfl (As [2,3] rfl rfl (A0 (AJ (Ag rfl rfl) (Ac (C9 (vs:=[]) (us:=[_,_]) rfl rfl) ?_))))
 refine Aw (AA (P9 sv pw W.q ps px be bu pa cl 52 [pv b2,pv b3] [B1 b2 24 [pv sv],B1 b3 27 [.slice A t.length cc],FSA W.q d,Cy ps W,Df W,Dc W,ro μ] _ 0 _ (h1 b2 b3)) rfl rfl AC) ?_
 rintro v8 L1 ⟨rfl,L2,⟨W',μ',⟨k1,k2,k3,k4,k5⟩,rfl⟩,rfl⟩
 obtain ⟨q',tv,cv,T,C,dead⟩:=W'
 dsimp only at k3
 subst k3
 refine Aj (Ac (Ai rfl) (Ac (Ai rfl) (AX rfl (As [4,5] rfl rfl (Ar ?_)))))
 refine Aq (SvW.L ⟨sv,pw,ps,px,be,bu,pa,⟨W.q,tv,cv,T,C,dead⟩,(writeD d (1,EJ t)).1,lv,gv,l,V,[]⟩ μ') (.tmp rfl (.tmp rfl .nil)) ⟨rfl,⟨sv,pw,ps,px,be,bu,pa,⟨W.q,tv,cv,T,C,dead⟩,(writeD d (1,EJ t)).1,lv,gv,l,V,[]⟩,μ',k1,⟨⟨?_,hx.ix.le k1,?_⟩,k2,?_,k5,⟨b++DW (1,EJ t),?_,?_⟩⟩,k4,rfl,rfl,rfl⟩ AC
 ·exact hx.xd.other w2 (fun u hu=>by rw [w3,if_neg hu]) Ax
 ·dsimp only at k4 ⊢
  rw [k4]; exact hx.rw
 ·exact A1u hs k4 hl hz
 ·exact (w3 logN).trans (if_pos rfl)
 ·rw [List.length_append,Hf]
  show b.length+((EJ t).length+9)≤_
  omega
theorem Qi (S:SvW)(μ:PH)(m c B:Nat)(h:S.Ok μ m c B)(hc:c<14)(v:Value)(x:Cm)(hv:Row μ v 1 x.1.length (x.1.flatMap (Bj .i64)))(hg:GC (S.W.pl.2++[x]))(he:CR x=0)(hk:Fv S.W.pl.1.length S.W.pl.2.length x=true)(hx2:0≤x.2∧x.2<(S.W.pl.1.length:Int))(hB:B+((De x).length+9)≤F7) :
  Spec prog 27 [pv S.sv,cmV v x.2] (S.L μ) (fun r L=>r=.tuple #[.int .i64 (S.W.pl.2.length:Nat),.int .i64 0]∧SvQ S μ m c (B+((De x).length+9)) (S.W.pl.1,S.W.pl.2++[x]) L):=by
 obtain ⟨hx,hw,hs,hdead,⟨b,hb,hbl⟩⟩:=h
 obtain ⟨A,cc,rfl⟩:=hv.sl
 have hn:S.W.pl.2.length<65536:=by have:=hs.gc.len; omega
 obtain ⟨w1,w2,w3⟩:=DV.writeD hx.xd.dv G2 hb (f:=(2,De x)) (by show b.length+((De x).length+9)≤_; omega)
 have hy:addC ⟨S.d,S.W.pl,S.W.dead⟩ x=(⟨(writeD S.d (2,De x)).1,(S.W.pl.1,S.W.pl.2++[x]),false⟩,((S.W.pl.2.length:Nat):Int),0):=by
  unfold addC
  rw [he,if_neg (not_not_intro rfl),hk,if_neg (by decide)]
  exact M0 hdead rfl hn w1
 have h1:=fun b2 b3=>TC S.sv S.pw S.px S.be S.bu S.pa b2 b3 μ S.ps S.W hw S.d hx.xd.dv.ok A cc x hv
 rw [hy] at h1
 dsimp only at h1
 obtain ⟨sv,pw,ps,px,be,bu,pa,W,d,lv,gv,l,V,cl⟩:=S
 dsimp only at *
 refine Spec.of 11 func27 rfl rfl rfl ?_
 refine A0 (Aw (Bi rfl rfl) (fun b2=>?_))
 refine Aw (Bi rfl rfl) fun b3=>?_
 refine AX rfl (As [2,3] rfl rfl (A0 (AJ (Ag rfl rfl) (Ac (C9 (vs:=[]) (us:=[_,_]) rfl rfl) ?_))))
 refine Aw (AA (P9 sv pw W.q ps px be bu pa cl 55 [pv b2,pv b3] [B1 b2 24 [pv sv],B1 b3 88 [.slice A x.1.length cc,.int .i64 x.2],FSA W.q d,Cy ps W,Df W,Dc W,ro μ] _ 0 _ (h1 b2 b3)) rfl rfl AC) ?_
 rintro v8 L1 ⟨rfl,L2,⟨W',μ',⟨k1,k2,k3,k4,k5⟩,rfl⟩,rfl⟩
 obtain ⟨q',tv,cv,T,C,dead⟩:=W'
 dsimp only at k3
 subst k3
 refine Aj (Ac (Ai rfl) (Ac (Ai rfl) (AX rfl (As [4,5] rfl rfl (Ar ?_)))))
 refine Aq (SvW.L ⟨sv,pw,ps,px,be,bu,pa,⟨W.q,tv,cv,T,C,dead⟩,(writeD d (2,De x)).1,lv,gv,l,V,[]⟩ μ') (.tmp rfl (.tmp rfl .nil)) ⟨rfl,⟨sv,pw,ps,px,be,bu,pa,⟨W.q,tv,cv,T,C,dead⟩,(writeD d (2,De x)).1,lv,gv,l,V,[]⟩,μ',k1,⟨⟨?_,hx.ix.le k1,?_⟩,k2,?_,k5,⟨b++DW (2,De x),?_,?_⟩⟩,k4,rfl,rfl,rfl⟩ AC
 ·exact hx.xd.other w2 (fun u hu=>by rw [w3,if_neg hu]) Ax
 ·dsimp only at k4 ⊢
  rw [k4]; exact hx.rw.snoc hg
 ·exact A1v hs k4 hg hx2
 ·exact (w3 logN).trans (if_pos rfl)
 ·rw [List.length_append,Hf]
  show b.length+((De x).length+9)≤_
  omega
section
variable (S:SvW) (μ:PH) (m c B:Nat) (h:S.Ok μ m c B)
include h
theorem TD (hs:SynOk μ)(h0:1≤S.W.pl.2.length)(hc:c<13)(hm:m≤40000)(b1:Nat) :
  Spec prog 30 [pv b1] (Hu S.sv S.pw S.W.q S.ps S.px S.be S.bu S.pa::[B1 b1 24 [pv S.sv],xB S.px S.W.q S.lv S.gv,FSA S.W.q S.d,Cy S.ps S.W,Df S.W,Dc S.W,ro μ]) (fun r L=>r=.int .i64 0∧∃ μ' lv gv d' l V,(Le μ μ'∧XS μ' (m+22) (c+1) S.W d' lv gv l V∧El d' logN=El S.d logN)∧L=Hu S.sv S.pw S.W.q S.ps S.px S.be S.bu S.pa::Z5 S.px S.ps S.W.q S.W d' lv gv μ'):=by
 refine Spec.of 16 func30 rfl rfl rfl ?_
 refine A0 (As [0] rfl rfl (Ae ?_))
 refine Ba [0,3,4,7,9,12] ([B1 b1 24 [pv S.sv],Hu S.sv S.pw S.W.q S.ps S.px S.be S.bu S.pa]) ([xB S.px S.W.q S.lv S.gv,FSA S.W.q S.d,Cy S.ps S.W,Df S.W,Dc S.W,ro μ]) (Split.ent AC) AK ?_
 refine Bc 0 rfl (Ag rfl rfl) rfl (AD 1 rfl (Ah rfl) (AD 2 rfl (Ab rfl) (Bc 3 rfl (Ag rfl rfl) rfl (Bc 4 rfl (Ag rfl rfl) rfl (AD 5 rfl (Ah rfl) (AD 6 rfl (Ab rfl) (Bc 7 rfl (Ag rfl rfl) rfl (AD 8 rfl (Eh rfl) (Bc 9 rfl (Ag rfl rfl) rfl (AD 10 rfl (Ah rfl) (AD 11 rfl (Ab rfl) (Bc 12 rfl (BG (vs:=setC) rfl rfl rfl) rfl ?_))))))))))))
 refine BT 13 rfl AK AK (AA (WF μ hs m c S.px S.W.q S.ps S.d S.l S.V S.lv S.gv S.W h.x h.w h.s h0 hc hm) rfl rfl AC) ?_
 rintro v15 L1 ⟨μ',lv',gv',d',l',V',k1,hX',hlog,rfl,rfl⟩
 refine Cc (AD 14 rfl (Bl rfl) (C0 [1] rfl (Bs AK (Af (Ar ?_)))))
 exact Aq (Hu S.sv S.pw S.W.q S.ps S.px S.be S.bu S.pa::Z5 S.px S.ps S.W.q S.W d' lv' gv' μ') (.tmp rfl .nil) ⟨rfl,μ',lv',gv',d',l',V',⟨k1,hX',hlog⟩,rfl⟩ AC
theorem WX (hs:SynOk μ)(h0:1≤S.W.pl.2.length)(hc:c<13)(hm:m≤40000):Spec prog 7 [pv S.sv] (S.L μ) (fun r L=>r=.int .i64 0∧SvQ S μ (m+22) (c+1) B S.W.pl L):=by
 have h1:=fun b1=>TD S μ m c B h hs h0 hc hm b1
 obtain ⟨hx,hw,hs1,hdead,⟨b,hb,hbl⟩⟩:=h
 obtain ⟨sv,pw,ps,px,be,bu,pa,W,d,lv,gv,l,V,cl⟩:=S
 dsimp only at *
 refine Spec.of 6 func7 rfl rfl rfl ?_
 refine A0 (Aw (Bi rfl rfl) (fun b1=>?_))
 refine As [1] rfl rfl (A0 (AJ (Ag rfl rfl) (Ac (C9 (vs:=[]) (us:=[_]) rfl rfl) ?_)))
 refine Aw (AA (La sv pw W.q ps px be bu pa cl 30 [pv b1] [B1 b1 24 [pv sv],xB px W.q lv gv,FSA W.q d,Cy ps W,Df W,Dc W,ro μ] _ 0 _ (h1 b1)) rfl rfl AC) ?_
 rintro v5 L1 ⟨rfl,L2,⟨μ',lv',gv',d',l',V',⟨k1,hX',hlog⟩,rfl⟩,rfl⟩
 refine Aj (As [2] rfl rfl (Ar ?_))
 exact Aq (SvW.L ⟨sv,pw,ps,px,be,bu,pa,W,d',lv',gv',l',V',[]⟩ μ') (.tmp rfl .nil) ⟨rfl,⟨sv,pw,ps,px,be,bu,pa,W,d',lv',gv',l',V',[]⟩,μ',k1,⟨hX',hw.le k1,hs1,hdead,⟨b,hlog.trans hb,hbl⟩⟩,rfl,rfl,rfl,rfl⟩ AC
theorem TE (hs:SynOk μ)(h0:1≤S.W.pl.2.length)(hc:c<13)(hm:m≤40000)(b1:Nat) :
  Spec prog 44 [pv b1] (Hu S.sv S.pw S.W.q S.ps S.px S.be S.bu S.pa::[B1 b1 24 [pv S.sv],xB S.px S.W.q S.lv S.gv,FSA S.W.q S.d,Cy S.ps S.W,Df S.W,Dc S.W,ro μ]) (fun r L=>r=.int .i64 0∧∃ μ' lv gv d' l V,(Le μ μ'∧XS μ' (m+22) (c+1) S.W d' lv gv l V∧El d' logN=El S.d logN)∧L=Hu S.sv S.pw S.W.q S.ps S.px S.be S.bu S.pa::Z5 S.px S.ps S.W.q S.W d' lv gv μ'):=by
 refine Spec.of 16 func44 rfl rfl rfl ?_
 refine A0 (As [0] rfl rfl (Ae ?_))
 refine Ba [0,3,4,7,9,12] ([B1 b1 24 [pv S.sv],Hu S.sv S.pw S.W.q S.ps S.px S.be S.bu S.pa]) ([xB S.px S.W.q S.lv S.gv,FSA S.W.q S.d,Cy S.ps S.W,Df S.W,Dc S.W,ro μ]) (Split.ent AC) AK ?_
 refine Bc 0 rfl (Ag rfl rfl) rfl (AD 1 rfl (Ah rfl) (AD 2 rfl (Ab rfl) (Bc 3 rfl (Ag rfl rfl) rfl (Bc 4 rfl (Ag rfl rfl) rfl (AD 5 rfl (Ah rfl) (AD 6 rfl (Ab rfl) (Bc 7 rfl (Ag rfl rfl) rfl (AD 8 rfl (Eh rfl) (Bc 9 rfl (Ag rfl rfl) rfl (AD 10 rfl (Ah rfl) (AD 11 rfl (Ab rfl) (Bc 12 rfl (BG (vs:=setC) rfl rfl rfl) rfl ?_))))))))))))
 refine BT 13 rfl AK AK (AA (P1 μ hs m c S.px S.W.q S.ps S.d S.l S.V S.lv S.gv S.W h.x h.w h.s h0 hc hm) rfl rfl AC) ?_
 rintro v15 L1 ⟨μ',lv',gv',d',l',V',k1,hX',hlog,rfl,rfl⟩
 refine Cc (AD 14 rfl (Bl rfl) (C0 [1] rfl (Bs AK (Af (Ar ?_)))))
 exact Aq (Hu S.sv S.pw S.W.q S.ps S.px S.be S.bu S.pa::Z5 S.px S.ps S.W.q S.W d' lv' gv' μ') (.tmp rfl .nil) ⟨rfl,μ',lv',gv',d',l',V',⟨k1,hX',hlog⟩,rfl⟩ AC
theorem WY (hs:SynOk μ)(h0:1≤S.W.pl.2.length)(hc:c<13)(hm:m≤40000):Spec prog 19 [pv S.sv] (S.L μ) (fun r L=>r=.int .i64 0∧SvQ S μ (m+22) (c+1) B S.W.pl L):=by
 have h1:=fun b1=>TE S μ m c B h hs h0 hc hm b1
 obtain ⟨hx,hw,hs1,hdead,⟨b,hb,hbl⟩⟩:=h
 obtain ⟨sv,pw,ps,px,be,bu,pa,W,d,lv,gv,l,V,cl⟩:=S
 dsimp only at *
 refine Spec.of 6 func19 rfl rfl rfl ?_
 refine A0 (Aw (Bi rfl rfl) (fun b1=>?_))
 refine As [1] rfl rfl (A0 (AJ (Ag rfl rfl) (Ac (C9 (vs:=[]) (us:=[_]) rfl rfl) ?_)))
 refine Aw (AA (La sv pw W.q ps px be bu pa cl 44 [pv b1] [B1 b1 24 [pv sv],xB px W.q lv gv,FSA W.q d,Cy ps W,Df W,Dc W,ro μ] _ 0 _ (h1 b1)) rfl rfl AC) ?_
 rintro v5 L1 ⟨rfl,L2,⟨μ',lv',gv',d',l',V',⟨k1,hX',hlog⟩,rfl⟩,rfl⟩
 refine Aj (As [2] rfl rfl (Ar ?_))
 exact Aq (SvW.L ⟨sv,pw,ps,px,be,bu,pa,W,d',lv',gv',l',V',[]⟩ μ') (.tmp rfl .nil) ⟨rfl,⟨sv,pw,ps,px,be,bu,pa,W,d',lv',gv',l',V',[]⟩,μ',k1,⟨hX',hw.le k1,hs1,hdead,⟨b,hlog.trans hb,hbl⟩⟩,rfl,rfl,rfl,rfl⟩ AC
end
theorem Lb (ps px:Nat):Spec prog 48 [pv ps,pv px] [] (fun r L=>∃ b,r=pv b∧L=[B1 b 102 [pv ps,pv px]]):=by
 refine Spec.of 9 func48 rfl rfl rfl ?_
 refine A0 (As [0,1] rfl rfl (A0 (Ad rfl (Ad rfl (Ac (Bo (qs:=[(0,_),(1,_)]) rfl) (Aw (Bi rfl rfl) (fun b8=>?_)))))))
 refine As [4] rfl rfl (Ar ?_)
 exact Aq [B1 b8 102 [pv ps,pv px]] (.tmp rfl .nil) ⟨b8,rfl,rfl⟩ AC
section
variable (S:SvW) (μ:PH) (m c B:Nat) (h:S.Ok μ m c B)
include h
theorem TF (hc:c≤14)(b1:Nat) :
  Spec prog 46 [pv b1] (Hu S.sv S.pw S.W.q S.ps S.px S.be S.bu S.pa::[B1 b1 24 [pv S.sv],FSA S.W.q S.d,Cy S.ps S.W,ro μ]) (fun r L=>r=.int .i64 0∧∃ μ' pw px lv gv V,(Le μ μ'∧XS μ' m c S.W S.d lv gv S.l V)∧L=[Hu S.sv pw S.W.q S.ps px S.be S.bu S.pa,B1 pw 102 [pv S.ps,pv px],xB px S.W.q lv gv,FSA S.W.q S.d,Cy S.ps S.W,ro μ']):=by
 have hpl:=HX S.W
 obtain ⟨ht,ht2⟩:=h.x.tot
 have hl:=h.s.gc.len
 refine Spec.of 33 func46 rfl rfl rfl ?_
 refine A0 (As [0] rfl rfl (Ae ?_))
 refine Ba [0,3,4,7] ([B1 b1 24 [pv S.sv],Hu S.sv S.pw S.W.q S.ps S.px S.be S.bu S.pa]) ([FSA S.W.q S.d,Cy S.ps S.W,ro μ]) (Split.ent AC) AK ?_
 refine Bc 0 rfl (Ag rfl rfl) rfl (AD 1 rfl (Ah rfl) (AD 2 rfl (Ab rfl) (Bc 3 rfl (Ag rfl rfl) rfl (Bc 4 rfl (Ag rfl rfl) rfl (AD 5 rfl (Ah rfl) (AD 6 rfl (Ab rfl) (Bc 7 rfl (Ag rfl rfl) rfl ?_)))))))
 refine CC 8 rfl AK (AA (Fy S.ps S.W μ h.w) rfl rfl AC) ?_
 rintro v13 L1 ⟨rfl,rfl⟩
 refine ⟨_,BL (Split.ent AC),?_⟩
 refine BT 9 rfl AK AK (AA (NM μ S.W.q S.d m c S.l (Gy S.V) h.x.xd hc S.W.C.length Ax Ax) rfl rfl AC) ?_
 rintro v14 L1 ⟨p,lv',gv',V',μ',k1,hI,hV,rfl,rfl⟩
 refine Cc (AD 10 rfl (AG rfl) (AD 11 rfl (Ai rfl) (AD 12 rfl (Ai rfl) (AD 13 rfl (Bl rfl) (AD 14 rfl (Bl rfl) (C0 [0,2,3] rfl (Bs AK (Af (Ae (A0 (Ad rfl (Ac (Bp rfl rfl) (AE [0,2,3,18] rfl (Qs rfl ?_))))))))))))))
 refine Ba [0,1,3] ([B1 b1 24 [pv S.sv]]) ([xB p S.W.q lv' gv',FSA S.W.q S.d,ro μ',Hu S.sv S.pw S.W.q S.ps S.px S.be S.bu S.pa,Cy S.ps S.W]) (Split.ent AC) AK ?_
 refine Bc 0 rfl (Ag rfl rfl) rfl (Bc 1 rfl (Ag rfl rfl) rfl (AD 2 rfl (AG rfl) (Bc 3 rfl (Ag rfl rfl) rfl (AD 4 rfl (Ah rfl) (AD 5 rfl (Ab rfl) (AD 7 rfl (AG rfl) (CC 6 rfl AK ((Ag rfl rfl).ef) ?_)))))))
 refine ⟨_,Split.ent AC,?_⟩
 refine CC 8 rfl AK (AA (Lb S.ps p) rfl rfl AC) ?_
 rintro v27 L1 ⟨b,rfl,rfl⟩
 refine ⟨_,BL (Split.ent AC),?_⟩
 refine AD 9 rfl (Ah rfl) (AD 10 rfl (Ab rfl) (Mq 11 rfl AK (AW rfl rfl rfl) ?_))
 refine ⟨_,Split.ent AC,?_⟩
 refine AD 12 rfl (Ah rfl) (AD 13 rfl (Ab rfl) (Cs 14 rfl AK AK (AW rfl rfl rfl) (C0 [3] rfl (Bs AK (Af (A0 (Ad rfl (As [1] rfl rfl (Ar ?_)))))))))
 exact Aq [Hu S.sv b S.W.q S.ps p S.be S.bu S.pa,B1 b 102 [pv S.ps,pv p],xB p S.W.q lv' gv',FSA S.W.q S.d,Cy S.ps S.W,ro μ'] (.tmp rfl .nil) ⟨rfl,μ',b,p,lv',gv',V',⟨k1,⟨by rw [hV]; exact h.x.xd,hI,by rw [hV]; exact h.x.rw⟩⟩,rfl⟩ AC
theorem WZ (hc:c≤14):Spec prog 20 [pv S.sv] (S.L μ) (fun r L=>r=.int .i64 0∧SvQ S μ m c B S.W.pl L):=by
 have h1:=fun b1=>TF S μ m c B h hc b1
 obtain ⟨hx,hw,hs1,hdead,⟨b,hb,hbl⟩⟩:=h
 obtain ⟨sv,pw,ps,px,be,bu,pa,W,d,lv,gv,l,V,cl⟩:=S
 dsimp only at *
 refine Spec.of 6 func20 rfl rfl rfl ?_
 refine A0 (Aw (Bi rfl rfl) (fun b1=>?_))
 refine As [1] rfl rfl (A0 (AJ (Ag rfl rfl) (Ac (C9 (vs:=[]) (us:=[_]) rfl rfl) ?_)))
 refine Aw (AA (La sv pw W.q ps px be bu pa cl 46 [pv b1] [B1 b1 24 [pv sv],FSA W.q d,Cy ps W,ro μ] _ 0 _ (h1 b1)) rfl rfl AC) ?_
 rintro v5 L1 ⟨rfl,L2,⟨μ',pw',px',lv',gv',V',⟨k1,hX'⟩,rfl⟩,rfl⟩
 refine Aj (As [2] rfl rfl (Ar ?_))
 exact Aq (SvW.L ⟨sv,pw',ps,px',be,bu,pa,W,d,lv',gv',l,V',[]⟩ μ') (.tmp rfl .nil) ⟨rfl,⟨sv,pw',ps,px',be,bu,pa,W,d,lv',gv',l,V',[]⟩,μ',k1,⟨hX',hw.le k1,hs1,hdead,⟨b,hb,hbl⟩⟩,rfl,rfl,rfl,rfl⟩ AC
end
def fA (g:List (List Int))(q:Qn):AnW:=⟨(JY g q).err,(JY g q).yes,0,(JY g q).ids,[]⟩
inductive KQ:Qn→Prop
 | anc (a b:Int):KQ ⟨1,a,b,[],0⟩
 | bases (a b:Int):KQ ⟨4,a,b,[],0⟩
 | reach (ids:List Int):KQ ⟨2,0,0,ids,0⟩
abbrev SvW.vw(S:SvW):VWt:=⟨S.pw,S.ps,S.px,S.W.q,S.W,S.lv,S.gv,S.l,S.V⟩
theorem SvW.Ok.vok{S:SvW}{μ:PH}{m c B:Nat}(h:S.Ok μ m c B):S.vw.Ok μ:=⟨h.w,h.s,m,c,S.d,h.x⟩
theorem X0 (S:SvW)(μ:PH)(hX:S.vw.Ok μ)(hT:RowAt μ 2 0 tabV)(cl:List Nd)(h:CaOk (fA S.vw.g) μ cl)(q:Qn)(hk:KQ q)(hq:q.Ok)(A:Option Addr)(ci:Nat)(hi:Row μ (.slice A q.ids.length ci) 1 q.ids.length (q.ids.flatMap (Bj .i64))) :
  Spec prog 13 [pv S.sv,.agg (Qf q (.slice A q.ids.length ci)).toArray] [Hu S.sv S.pw S.W.q S.ps S.px S.be S.bu S.pa,F6 S.pa 64 cl,S.vw.A,ro μ] (fun r L=>∃ μ' cl' i t,Le μ μ'∧CaOk (fA S.vw.g) μ' cl'∧r=anV (fA S.vw.g q) i t∧L=anL (fA S.vw.g q) i t [Hu S.sv S.pw S.W.q S.ps S.px S.be S.bu S.pa,F6 S.pa 64 cl',S.vw.A,ro μ']):=by
 refine Zl (fA S.vw.g) μ S.sv S.pw S.W.q S.ps S.px S.be S.bu S.pa cl S.vw.A h q hq A ci hi fun μ' k=>?_
 have hT':RowAt μ' 2 0 tabV:=hT.le k
 cases hk with
 | anc a b=>exact Zn S.vw μ' (hX.le k) a b A ci
 | bases a b=>exact TA S.vw μ' (hX.le k) hT' a b A ci
 | reach ids=>exact TB S.vw μ' (hX.le k) hT' ids hq.ln A ci (hi.le k)
theorem qok{q:Qn}(h:∀ x∈q.all,-100≤x∧x≤100)(hl:q.ids.length≤1000):q.Ok:=⟨fun x hx=>by have:=h x hx; omega,hl⟩
section
variable {g:List (List Int)} (hg:Fo g) {n a b:Nat} (hn:n≤g.length) (ha:a<n)
include hg hn ha
theorem A1w(hb:b<n):fA (g.take n) ⟨1,b,a,[],0⟩=⟨0,up g a b,0,[],[]⟩:=by unfold fA; rw [A0v hg hn ha hb]
theorem Zo:fA (g.take n) ⟨2,0,0,[(a:Int)],0⟩=⟨0,false,0,Bu n (up g a),[]⟩:=by unfold fA; rw [WS hg hn ha]
theorem Zp (hb:b<n):fA (g.take n) ⟨4,a,b,[],0⟩=⟨0,false,0,Bu n (DS g n a b),[]⟩:=by unfold fA; rw [WT hg hn ha hb]
end
theorem A26(g:List (List Int))(n:Nat)(hn:n≤g.length):fA (g.take n) ⟨4,(n:Int),0,[],0⟩=⟨9,false,0,[],[]⟩∧fA (g.take n) ⟨1,0,-1,[],0⟩=⟨9,false,0,[],[]⟩∧fA (g.take n) ⟨2,0,0,[0,(n:Int)],0⟩=⟨9,false,0,[],[]⟩:=by
 unfold fA
 rw [Qg g n hn,Tz g n hn,Qh g n hn]
 exact ⟨rfl,rfl,rfl⟩
theorem LC (fn:FuncId)(ca:Array Value):Spec prog 78 [.int .i64 3,.func (.func fn) #[] ca] [] (fun r L=>∃ b,r=pv b∧L=[]):=by
 refine Spec.of 13 func78 rfl rfl rfl ?_
 refine A0 (As [0,1] rfl rfl (Ae (A0 (Ad rfl (Ac (Pd rfl rfl) (AE [0,1,6] rfl (Dz rfl (Am (Af (A0 (Ad rfl (Ac (FC rfl rfl) (Ac (Ep rfl rfl) (Ad rfl (Ac (Bo (qs:=[(0,_),(1,_)]) rfl) (Aw (Bi rfl rfl) (fun b12=>?_)))))))))))))))))
 refine As [4] rfl rfl (Ar ?_)
 exact Aq [] (.tmp rfl .nil) ⟨b12,rfl,rfl⟩ AC
theorem TG:Spec prog 50 [] [] (fun r L=>r=.agg setC.toArray∧L=[]):=by
 refine Spec.of 2 func50 rfl rfl rfl ?_
 refine A0 (Aw (AZ) (fun b0=>?_))
 refine AE [0] rfl (A0 (Ac (Bo (qs:=[(0,_),(1,_),(2,_),(3,_)]) rfl) (B5 (AU rfl rfl rfl rfl) (AE [0] rfl (Ar ?_)))))
 exact Aq [] (.cell rfl (Bn rfl) .nil) ⟨rfl,rfl⟩ AC
theorem RA (μ:PH)(q:Nat):Spec prog 49 [pv q,.agg setC.toArray,.int .i64 3] [FSA q (GW 16777216),ro μ] (fun r L=>∃ S μ',Le μ μ'∧SvW.Ok S μ' 1 0 0∧S.W.pl=([],[])∧S.cl=[]∧S.W.q=q∧r=.tuple #[pv S.sv,.int .i64 0]∧L=S.L μ'):=by
 obtain ⟨e1,e2,e3,e4⟩:=A0i
 have hopen:Spec prog 76 [pv q] [FSA q (GW 16777216),ro μ] (fun r L=>∃ p W μ',(Le μ μ'∧W.Ok μ'∧W.q=q∧W.dead=false∧W.pl=([],[]))∧r=.tuple #[pv p,.int .i64 0]∧L=[FSA q (F2 (GW 16777216)).1,Cy p W,Df W,Dc W,ro μ']) :=
  (W3 μ q (GW 16777216) dv_new.ok (dv_new.few Ax)).mono fun r L ⟨p,W,μ',e,⟨h1,h2,h3,h4,h5,h6⟩,hr,hL⟩=>by
   rw [e1] at h5
   subst h5
   rw [if_pos rfl] at hr
   exact ⟨p,W,μ',⟨h1,h2,h3,h4,(h6 rfl).trans e2⟩,hr,hL⟩
 have hxd:=A1l e3 (fun u hu=>by rw [e4,if_neg hu])
 have hlog:El (F2 (GW 16777216)).1 logN=some []:=by rw [e4,if_pos rfl]
 generalize (F2 (GW 16777216)).1=d at *
 refine Spec.of 60 func49 rfl rfl rfl ?_
 refine A0 (Aw (Bi rfl rfl) (fun b4=>?_))
 refine AX rfl (As [0,2,4] rfl rfl (Ae (A0 (Ad rfl (Ac (Bd rfl rfl) (Ad rfl ?_))))))
 refine B7 14 rfl (fun h14=>by cases h14) (fun h14=>?_)
 refine AQ rfl rfl (AJ (BG (vs:=setC) rfl rfl rfl) (AQ rfl rfl ?_))
 refine Aw (AA Gs rfl rfl AC) ?_
 rintro v16 L1 ⟨rfl,rfl⟩
 refine Aj (AQ rfl rfl (Ac (Bm rfl rfl) (Ac (AT rfl rfl) (AE [0,2,4,18] rfl (Dz rfl (Am (Af (A0 (Ad rfl ?_)))))))))
 refine Aw (AA hopen rfl rfl AC) ?_
 rintro v21 L1 ⟨p,W,μ1,⟨k1,hW,hq,hdead,hpl⟩,rfl,rfl⟩
 refine Aj (Ad rfl (Ac (Ai rfl) (Ac (Ai rfl) (AX rfl (As [0,2,4,8,9] rfl rfl (Ae (A0 (Ad rfl (Ac (Bm rfl rfl) (AE [0,2,4,8,9,25] rfl (Dz rfl (Am (Af (Ae ?_))))))))))))))
 have hC0:W.C.length=0:=by rw [← HX,hpl]; rfl
 refine Al (Ad rfl (Ad rfl ?_))
 refine Aw (AA (Fy p W μ1 hW) rfl rfl AC) ?_
 rintro v30 L1 ⟨rfl,rfl⟩
 refine Aj ?_
 refine Aw (AA (NM μ1 q d 1 0 [] [] hxd Ax W.C.length (Nat.zero_le _) Ax) rfl rfl AC) ?_
 rintro v31 L1 ⟨px,lv,gv,V,μ2,k2,hI,hV,rfl,rfl⟩
 refine Aj (Ad rfl (Ac (Ai rfl) (Ac (Ai rfl) (AX rfl (As [0,2,4,8,9,10] rfl rfl (Ae (A0 (Ad rfl (Ac (Bm rfl rfl) (AE [0,2,4,8,9,10,35] rfl (Dz rfl (Am (Af ?_)))))))))))))
 refine Cb (fun env L=>∃ (b11 sv pw pa:Nat),Sub env [(2,.int .i64 3),(11,pv b11)]∧Ent L [B1 b11 24 [pv sv],B1 sv 53 [pv pw,pv q,pv p,pv px,.int .i64 3,.int .i64 10,.int .i64 2,.int .u32 7,.bool false,.pointer none,.pointer none,.int .i32 0,.int .u32 0,pv pa],F6 pa 64 [],B1 pw 102 [pv p,pv px],xB px q lv gv,FSA q d,Cy p W,Df W,Dc W,ro μ2]) ?_ ?_
 ·refine Ba [6] ([B1 b4 43 setC]) ([xB px q lv gv,FSA q d,ro μ2,Cy p W,Df W,Dc W]) (Split.ent AC) AK ?_
  refine AD 0 rfl (AG rfl) (AD 1 rfl (AG rfl) (AD 3 rfl (AG rfl) (AD 4 rfl (AG rfl) (AD 5 rfl (AG rfl) (Bc 6 rfl (BG (vs:=setC) rfl rfl rfl) rfl ?_)))))
  refine FG [2,10] AK rfl ⟨?_,?_⟩
  ·refine E3 2 rfl GOn.none (AA (Lb p px) rfl rfl AC) ?_
   rintro v39 L1 ⟨pw,rfl,rfl⟩
   refine ⟨_,BL (Split.ent AC),?_⟩
   refine FG [7,10] AK rfl ⟨?_,?_⟩
   ·refine E3 7 rfl GOn.none (AA KO rfl rfl AC) ?_
    rintro v44 L1 ⟨pa,rfl,rfl⟩
    refine ⟨_,BL (Split.ent AC),?_⟩
    refine AD 8 rfl (Bo (qs:=[(0,_),(1,_),(2,_),(3,_),(4,_),(9,_)]) rfl) ?_
    refine FG [9,10] AK rfl ⟨?_,?_⟩
    ·refine E3 9 rfl GOn.none (Bi rfl rfl) fun b46=>?_
     refine ⟨_,Split.ent AC,?_⟩
     refine CC 10 rfl AK (AZ) fun b11=>?_
     refine ⟨_,Split.ent AC,?_⟩
     refine Cs 11 rfl AK AK (AW rfl rfl rfl) (C0 [2,11] rfl (Bs AK ?_))
     exact Af ⟨b11,b46,pw,pa,⟨rfl,rfl,trivial⟩,Split.ent' AC⟩
    ·refine E3 10 rfl GOn.none (AZ) fun b11=>?_
     refine ⟨_,Split.ent AC,?_⟩
     refine BT 9 rfl AK AK (Bi rfl rfl) fun b46=>?_
     refine Cj 11 rfl AK AK (AW rfl rfl rfl) (C0 [2,11] rfl (Bs AK ?_))
     exact Af ⟨b11,b46,pw,pa,⟨rfl,rfl,trivial⟩,Split.ent' AC⟩
   ·refine E3 10 rfl GOn.none (AZ) fun b11=>?_
    refine ⟨_,Split.ent AC,?_⟩
    refine CC 7 rfl AK (AA KO rfl rfl AC) ?_
    rintro v44 L1 ⟨pa,rfl,rfl⟩
    refine ⟨_,BL (Split.ent AC),?_⟩
    refine AD 8 rfl (Bo (qs:=[(0,_),(1,_),(2,_),(3,_),(4,_),(9,_)]) rfl) (BT 9 rfl AK AK (Bi rfl rfl) (fun b46=>?_))
    refine Cj 11 rfl AK AK (AW rfl rfl rfl) (C0 [2,11] rfl (Bs AK ?_))
    exact Af ⟨b11,b46,pw,pa,⟨rfl,rfl,trivial⟩,Split.ent' AC⟩
  ·refine E3 10 rfl GOn.none (AZ) fun b11=>?_
   refine ⟨_,Split.ent AC,?_⟩
   refine CC 2 rfl AK (AA (Lb p px) rfl rfl AC) ?_
   rintro v39 L1 ⟨pw,rfl,rfl⟩
   refine ⟨_,BL (Split.ent AC),?_⟩
   refine CC 7 rfl AK (AA KO rfl rfl AC) ?_
   rintro v44 L1 ⟨pa,rfl,rfl⟩
   refine ⟨_,BL (Split.ent AC),?_⟩
   refine AD 8 rfl (Bo (qs:=[(0,_),(1,_),(2,_),(3,_),(4,_),(9,_)]) rfl) (BT 9 rfl AK AK (Bi rfl rfl) (fun b46=>?_))
   refine Cj 11 rfl AK AK (AW rfl rfl rfl) (C0 [2,11] rfl (Bs AK ?_))
   exact Af ⟨b11,b46,pw,pa,⟨rfl,rfl,trivial⟩,Split.ent' AC⟩
 rintro env L ⟨b11,sv,pw,pa,hsub,hE⟩
 refine B3 _ hsub (AP hE ?_)
 clear hsub hE env L
 refine Ae ?_
 refine Ba [0] ([B1 b11 24 [pv sv]]) ([B1 sv 53 [pv pw,pv q,pv p,pv px,.int .i64 3,.int .i64 10,.int .i64 2,.int .u32 7,.bool false,.pointer none,.pointer none,.int .i32 0,.int .u32 0,pv pa],F6 pa 64 [],B1 pw 102 [pv p,pv px],xB px q lv gv,FSA q d,Cy p W,Df W,Dc W,ro μ2]) (Split.ent AC) AK ?_
 refine Bc 0 rfl (Ag rfl rfl) rfl (AD 1 rfl (AG rfl) (AD 2 rfl (C9 (vs:=[]) (us:=[_]) rfl rfl) ?_))
 refine CC 3 rfl AK (AA (LC _ _) rfl rfl AC) ?_
 rintro v50 L1 ⟨be,rfl,rfl⟩
 refine ⟨_,BL (Split.ent AC),?_⟩
 refine AD 4 rfl (Ah rfl) (AD 5 rfl (Ab rfl) (Cs 6 rfl AK AK (AW rfl rfl rfl) (C0 [2,11] rfl (Bs AK (Af (Ae ?_))))))
 refine Ba [0] ([B1 b11 24 [pv sv]]) ([B1 sv 53 [pv pw,pv q,pv p,pv px,.int .i64 3,.int .i64 10,.int .i64 2,.int .u32 7,.bool false,pv be,.pointer none,.int .i32 0,.int .u32 0,pv pa],F6 pa 64 [],B1 pw 102 [pv p,pv px],xB px q lv gv,FSA q d,Cy p W,Df W,Dc W,ro μ2]) (Split.ent AC) AK ?_
 refine Bc 0 rfl (Ag rfl rfl) rfl (AD 1 rfl (AG rfl) (AD 2 rfl (C9 (vs:=[]) (us:=[_]) rfl rfl) ?_))
 refine CC 3 rfl AK (AA (LC _ _) rfl rfl AC) ?_
 rintro v56 L1 ⟨bu,rfl,rfl⟩
 refine ⟨_,BL (Split.ent AC),?_⟩
 refine AD 4 rfl (Ah rfl) (AD 5 rfl (Ab rfl) (Cs 6 rfl AK AK (AW rfl rfl rfl) (C0 [11] rfl (Bs AK (Af (A0 (AJ (Ag rfl rfl) (AX rfl (As [6,7] rfl rfl (Ar ?_))))))))))
 subst hq
 have hV0:D4 (Gy V)=[]:=by rw [hV]; rfl
 exact Aq (SvW.L ⟨sv,pw,p,px,be,bu,pa,W,d,lv,gv,[],V,[]⟩ μ2) (.tmp rfl (.tmp rfl .nil)) ⟨⟨sv,pw,p,px,be,bu,pa,W,d,lv,gv,[],V,[]⟩,μ2,k1.trans k2,⟨⟨by rw [hV]; exact hxd,hI,⟨by rw [hV0]; exact Nat.zero_le _,fun i r hr=>by rw [hV0] at hr; cases hr⟩⟩,hW.le k2,⟨by rw [hpl]; exact ⟨Nat.zero_le _,fun i c hc=>(by cases hc)⟩,fun c hc=>by (rw [hpl] at hc; cases hc),fun t ht=>by (rw [hpl] at ht; cases ht)⟩,hdead,⟨[],hlog,Nat.le_refl _⟩⟩,hpl,rfl,rfl,rfl,rfl⟩ AC
theorem RB (μ:PH)(q:Nat):Spec prog 24 [pv q] [FSA q (GW 16777216),ro μ] (fun r L=>∃ S μ',Le μ μ'∧SvW.Ok S μ' 1 0 0∧S.W.pl=([],[])∧S.cl=[]∧S.W.q=q∧r=pv S.sv∧L=S.L μ'):=by
 refine Spec.of 12 func24 rfl rfl rfl ?_
 refine A0 (As [0] rfl rfl (A0 (Ad rfl ?_)))
 refine Aw (AA TG rfl rfl AC) ?_
 rintro v7 L1 ⟨rfl,rfl⟩
 refine Aj ?_
 refine Aw (AA (RA μ q) rfl rfl AC) ?_
 rintro v8 L1 ⟨S,μ1,k1,hS,hpl,hcl,hq,rfl,rfl⟩
 refine Aj (Ad rfl (Ac (Ai rfl) (Ac (Ai rfl) (AX rfl (As [3] rfl rfl (A0 (Ad rfl (As [2] rfl rfl (Ar ?_)))))))))
 exact Aq (S.L μ1) (.tmp rfl .nil) ⟨S,μ1,k1,hS,hpl,hcl,hq,rfl,rfl⟩ AC
theorem Qj (μ:PH):Spec prog 5 [] [ro μ] (fun r L=>∃ S μ',Le μ μ'∧SvW.Ok S μ' 1 0 0∧S.W.pl=([],[])∧S.cl=[]∧r=.tuple #[pv S.W.q,pv S.sv]∧L=S.L μ'):=by
 have hnew:Spec prog 23 [.int .i64 16777216] [] (fun r L=>∃ p,r=.tuple #[pv p,.int .i64 0]∧L=[FSA p (GW 16777216)]):=(YK 16777216).mono fun r L h=>h.elim (fun h=>absurd ⟨by decide,by decide⟩ h.1) (fun h=>h.2)
 refine Spec.of 11 func5 rfl rfl rfl ?_
 refine A0 (AX rfl (AX rfl (C7 _ .nil (Dp (A0 ?_)))))
 refine Aw (AA hnew rfl rfl AC) ?_
 rintro v5 L1 ⟨q,rfl,rfl⟩
 refine Aj (Ad rfl (Ac (Ai rfl) (Ac (Ai rfl) (AX rfl (As [2] rfl rfl (A0 (Ad rfl (Ad rfl ?_))))))))
 refine Aw (AA (RB μ q) rfl rfl AC) ?_
 rintro v10 L1 ⟨S,μ1,k1,hS,hpl,hcl,hq,rfl,rfl⟩
 refine Aj (AX rfl (As [0,1] rfl rfl (Ar ?_)))
 exact Aq (S.L μ1) (.tmp rfl (.tmp rfl .nil)) ⟨S,μ1,k1,hS,hpl,hcl,by rw [hq]; rfl,rfl⟩ AC
theorem X1 (t:List En)(i:Nat):DC (t.take i)=(DC t).take (i*2):=by
 induction t generalizing i with
 | nil=>simp [DC]
 | cons e t ih =>
  cases i with
  | zero=>simp [DC]
  | succ i =>
   rw [List.take_succ_cons,Nat.succ_mul]
   show Po e++DC (t.take i)=_
   rw [ih]; rfl
def Pa (l:List En):List En:=l.foldl (fun t e=>HF t e.1 e.2) []
theorem TH {l:List En}{i:Nat}{e:En}(h:l[i]? = some e):Pa (l.take (i+1))=HF (Pa (l.take i)) e.1 e.2:=by
 unfold Pa
 rw [List.take_add_one,h,List.foldl_append]; rfl
set_option maxHeartbeats 1000000 in
theorem X2 (μ:PH)(v:Value)(l:List En)(h:Row μ v 2 l.length (DC l))(hsz:l.length≤1048576)(hps:∀ e∈l,e.1.size≤255) :
  Spec prog 54 [v] [ro μ] (fun r L=>∃ μ' tv,r=.tuple #[tv,.int .i64 0]∧Le μ μ'∧Row μ' tv 2 (Ot l).length (DC (Ot l))∧L=[ro μ']):=by
 refine Spec.of 32 func54 rfl rfl rfl ?_
 refine A0 (AX rfl (As [0] rfl rfl (A0 (As [0,4] rfl rfl (Ae (A0 (As [0,4,5] rfl rfl (Au ?_))))))))
 refine B0 (ι:=Nat×PH×Value) (fun k env L=>Sub env [(0,v),(4,k.2.2),(5,.int .i64 (k.1:Nat))]∧L=[ro k.2.1]∧k.1≤l.length∧Le μ k.2.1∧Row k.2.1 k.2.2 2 (Pa (l.take k.1)).length (DC (Pa (l.take k.1)))) (fun k=>l.length-k.1) (0,μ,.slice none 0 0) ⟨⟨rfl,rfl,rfl,trivial⟩,rfl,Nat.zero_le _,Le.refl _,Row.nil _ _⟩ ?_
 rintro ⟨i,μ1,tv⟩ env L ⟨hsub,rfl,hi,hle,hrow⟩
 simp only [] at hi hle hrow hsub
 refine B3 _ hsub ?_
 clear hsub env
 dsimp only
 have h1:=h.le hle
 refine Ae (A0 (Ad rfl (Ad rfl (Ac (B2 h1 rfl) (Ac (Bb rfl rfl) (AE [0,4,5,9] rfl ?_))))))
 refine Ak rfl (fun h9=>?_) (fun h9=>?_)
 ·have h9':i<l.length:=by have:=of_decide_eq_true h9; omega
  obtain ⟨e,he⟩:∃ e,l[i]? = some e:=⟨_,List.getElem?_eq_getElem h9'⟩
  obtain ⟨gb,off,cap,hv,hra,hc0,hc1⟩:=EW h1 he
  have hes:=hps e (List.mem_of_getElem? he)
  have htl:(Pa (l.take i)).length≤i:=by have:=Ou (l.take i); rw [List.length_take] at this; exact Nat.le_trans this (Nat.min_le_left _ _)
  refine Am (Af (Ae (Au (Ae (A0 (Ad rfl (Ad rfl ?_)))))))
  refine Ac (AB (off+i*2) (congrArg some hv) rfl Ax Ax (by rw [Int.toNat_natCast])) ?_
  refine Ac (Bt rfl) (AJ (C3 rfl hc0) (Ac (Dw rfl) (Ac (BA rfl rfl) (AE [0,4,5,18] rfl ?_))))
  refine Ak rfl (fun h18=>by have:=of_decide_eq_true h18; omega) (fun h18=>?_)
  refine Am (Af ?_)
  refine Ba [5,10] _ [] (by simp only [List.append_nil]; exact Ent.refl _) AK ?_
  refine AD 0 rfl (AG rfl) (AD 1 rfl (AG rfl) (AD 2 rfl (AG rfl) ?_))
  refine AD 3 rfl (AB (off+i*2) (congrArg some hv) rfl Ax Ax (by rw [Int.toNat_natCast])) ?_
  refine AD 4 rfl (Bt rfl) (Bc 5 rfl (C3 rfl hc0) rfl (AD 6 rfl (AG rfl) (AD 7 rfl (AG rfl) ?_)))
  refine AD 8 rfl (AB (off+i*2) (congrArg some hv) rfl Ax Ax (by rw [Int.toNat_natCast])) ?_
  refine AD 9 rfl (Bt rfl) (Bc 10 rfl (C3 rfl hc1) rfl ?_)
  refine BT 11 rfl AK AK (AA (Yq μ1 tv _ e.1 e.2 hrow Ax Ax) rfl rfl AC) ?_
  rintro v30 L1 rfl
  refine Cc (AD 12 rfl (Bl rfl) (C0 [0,4,5] rfl (Bs AK (AR (Af ?_)))))
  refine BC (v:=v30) (μ:=μ1) AC fun μ2 h2 hrow2=>?_
  rw [← TH he] at hrow2
  refine Al (Ad rfl (Ac (AO ((i+1:Nat):Int) rfl rfl Ax Ax Ax) (AX rfl (Be [0,4,5] rfl (AH ?_)))))
  exact Af ⟨(i+1,μ2,v30),⟨⟨rfl,rfl,rfl,trivial⟩,rfl,h9',hle.trans h2,hrow2⟩,by show l.length-(i+1)<l.length-i; omega⟩
 ·have h9':=of_decide_eq_false h9
  obtain rfl:i=l.length:=by omega
  rw [List.take_length] at hrow
  refine AY (AS (AS (AV rfl (Af (A0 (Ad rfl (AX rfl (As [2,3] rfl rfl (Ar ?_)))))))))
  exact Aq [ro μ1] (.tmp rfl (.tmp rfl .nil)) ⟨μ1,tv,rfl,hle,hrow,rfl⟩ AC
structure StP where
 t:List En
 ps:List Nat
 ix:Nat
def CY (n:Nat)(l:List Int)(p:Nat):List Int:=if n=0∨((n-1-p % n:Nat):Int)∈l then l else l++[((n-1-p % n:Nat):Int)]
def G3 (n:Nat)(ps:List Nat):List Int:=(ps.take 16).foldl (CY n) []
theorem Gb (n:Nat)(ps:List Nat):Lj n (G3 n ps)=true∧(G3 n ps).length≤16:=by
 have key:∀ (q:List Nat) (l:List Int),(∀ x∈l,0≤x∧x<n)→l.Nodup→(∀ x∈q.foldl (CY n) l,0≤x∧x<n)∧(q.foldl (CY n) l).Nodup∧(q.foldl (CY n) l).length≤l.length+q.length:=by
  intro q
  induction q with
  | nil=>exact fun l h1 h2=>⟨h1,h2,Nat.le_refl _⟩
  | cons p q ih =>
   intro l h1 h2
   rw [List.foldl_cons]
   by_cases hk:n=0∨((n-1-p % n:Nat):Int)∈l
   ·rw [show CY n l p=l from if_pos hk]
    obtain ⟨a,b,c⟩:=ih l h1 h2
    exact ⟨a,b,by rw [List.length_cons]; omega⟩
   ·rw [show CY n l p=l++[((n-1-p % n:Nat):Int)] from if_neg hk]
    obtain ⟨a,b,c⟩:=ih (l++[((n-1-p % n:Nat):Int)]) (fun x hx=>by
     rcases List.mem_append.1 hx with hx | hx
     ·exact h1 x hx
     ·rw [List.mem_singleton.1 hx]; omega) (by
     rw [List.nodup_append]
     exact ⟨h2,by simp,fun a ha b hb e=>hk (.inr (by rw [← List.mem_singleton.1 hb,← e]; exact ha))⟩)
    refine ⟨a,b,?_⟩
    rw [List.length_append,List.length_singleton] at c
    rw [List.length_cons]; omega
 obtain ⟨a,b,c⟩:=key (ps.take 16) [] (fun _ h=>(by cases h)) .nil
 refine ⟨EC.2 ⟨a,b⟩,?_⟩
 rw [List.length_take,List.length_nil] at c
 unfold G3
 omega
def Fe (t:List En):List En:=Ot ((t.take 30).map Py)
theorem Lc (t:List En):(Fe t).length≤30:=by
 have:=Ou ((t.take 30).map Py)
 rw [List.length_map,List.length_take] at this
 unfold Fe; omega
theorem JZ (t:List En):GoodT (Fe t):=UQ _
theorem Zq {t:List En}(h:GoodT t)(hl:t.length≤1024):Ee t=0:=by
 unfold Ee
 rw [if_neg Ax]
 refine OL fun j hj=>?_
 obtain ⟨e,he⟩:∃ e,t[j]? = some e:=⟨_,List.getElem?_eq_getElem hj⟩
 have hm:=List.mem_of_getElem? he
 unfold Dq
 rw [he]
 dsimp only
 rw [if_neg (by have:=h.short e hm; omega),if_neg (h.full e hm)]
 by_cases h0:j=0
 ·rw [if_pos h0]
 ·rw [if_neg h0]
  obtain ⟨d,hd⟩:∃ d,t[j-1]? = some d:=⟨_,List.getElem?_eq_getElem Ax⟩
  rw [hd]
  have hr:=UM h.rises Ax hd he
  have h1:Bx e.1 d.1=false:=Dm.2 fun k=>by rw [k,HB] at hr; cases hr
  have h2:CK e.1 d.1=false:=by
   cases h3:CK e.1 d.1 with
   | false=>rfl
   | true=>exact absurd (GF hr h3) (by rw [HB]; decide)
  dsimp only
  rw [if_neg (by rw [h1]; decide),if_neg (by rw [h2]; decide)]
theorem Zr {t:List En}(h:GoodT t)(hl:t.length≤30):(EJ t).length≤7832:=by
 have:=IZ [] t fun e he=>h.short e he
 unfold EJ
 rw [List.length_append,Br]
 omega
theorem X3 {n k:Nat}(ps:List Nat)(hn:n≤16)(hk:k<65536):CR (G3 n ps,(k:Int))=0:=by
 obtain ⟨a,b⟩:=Gb n ps
 obtain ⟨a1,a2⟩:=EC.1 a
 unfold CR
 rw [if_neg (by show ¬ 16<(G3 n ps).length; omega),if_neg (by rw [LP.2 (by show 0≤(k:Int)∧(k:Int)<65536; omega)]; decide)]
 refine MH fun j hj=>?_
 obtain ⟨p,hp⟩:∃ p,(G3 n ps)[j]? = some p:=⟨_,List.getElem?_eq_getElem hj⟩
 have hpr:=a1 p (List.mem_of_getElem? hp)
 rw [Kz hp,if_neg (by rw [LP.2 Ax]; decide),if_neg]
 intro hc
 rw [List.contains_iff_mem] at hc
 obtain ⟨i,hi⟩:=List.getElem?_of_mem hc
 have hil:=(List.getElem?_eq_some_iff.1 hi).1
 rw [List.length_take] at hil
 rw [List.getElem?_take_of_lt Ax] at hi
 have:=(List.getElem?_inj Ax a2).1 (hi.trans hp.symm)
 omega
theorem X4 {n:Nat}(ps:List Nat):Fv (n+1) n (G3 n ps,(n:Int))=true:=by
 obtain ⟨a,b⟩:=Gb n ps
 obtain ⟨a1,a2⟩:=EC.1 a
 unfold Fv
 rw [decide_eq_true (by show (n:Int)<((n+1:Nat):Int); omega),Bool.true_and,Bool.not_eq_true']
 rw [List.any_eq_false]
 intro p hp h
 have:=a1 p hp
 have:=of_decide_eq_true h
 omega
def IM (S:List StP):List Cm:=(List.range S.length).map fun i=>(G3 i (S.getD i ⟨[],[],0⟩).ps,(i:Int))
def F4 (S:List StP):List (List En):=S.map fun s=>Fe s.t
theorem EG (S:List StP):(IM S).length=S.length:=by unfold IM; rw [List.length_map,List.length_range]
theorem IN {S:List StP}{i:Nat}{s:StP}(h:S[i]? = some s):(IM S)[i]? = some (G3 i s.ps,(i:Int)):=by
 have hl:=(List.getElem?_eq_some_iff.1 h).1
 unfold IM
 rw [List.getElem?_map,List.getElem?_range hl,Option.map_some,List.getD_eq_getElem?_getD,h]; rfl
theorem RC {S:List StP}(h:S.length≤16):GC (IM S):=⟨by rw [EG]; exact h,fun i c hc=>by
 have hl:=(List.getElem?_eq_some_iff.1 hc).1
 rw [EG] at hl
 obtain ⟨s,hs⟩:∃ s,S[i]? = some s:=⟨_,List.getElem?_eq_getElem hl⟩
 rw [IN hs] at hc
 obtain rfl:=Option.some.inj hc
 obtain ⟨a,b⟩:=Gb i s.ps
 exact ⟨a,b,by show 0≤(i:Int); omega,by show (i:Int)<65536; omega⟩⟩
theorem K0 (S:List StP)(k:Nat):IM (S.take k)=(IM S).take k:=by
 apply List.ext_getElem?
 intro i
 by_cases hi:i<k
 ·rw [List.getElem?_take_of_lt hi]
  cases hs:S[i]? with
  | none =>
   have:=List.getElem?_eq_none_iff.1 hs
   rw [List.getElem?_eq_none (by rw [EG,List.length_take]; omega),List.getElem?_eq_none (by rw [EG]; omega)]
  | some s=>rw [IN hs,IN (by rw [List.getElem?_take_of_lt hi]; exact hs)]
 ·rw [List.getElem?_take_eq_none Ax,List.getElem?_eq_none (by rw [EG,List.length_take]; omega)]
def BV (S:List StP):List (List Int):=(IM S).map (·.1)
theorem NP (S:List StP):(BV S).length=S.length:=by unfold BV; rw [List.length_map,EG]
theorem RD {S:List StP}(h:S.length≤16):Fo (BV S):=He (RC h).more
theorem IP (S:List StP)(k:Nat):BV (S.take k)=(BV S).take k:=by unfold BV; rw [K0,List.map_take]
theorem NQ {xs:List Int}{ex:List Value}{i:Nat}{x:Int}(h:xs[i]? = some x):(xs.flatMap (Bj .i64)++ex)[i]? = some (.int .i64 x):=by
 have:=C1 (ET .i64) xs ex i x h 0 (.int .i64 x) rfl
 rwa [Nat.mul_one,Nat.add_zero] at this
theorem TI (xs:List Int):(xs.flatMap (Bj .i64)).length=xs.length*1:=Ca (ET .i64) xs
theorem NR {b cap:Nat}{xs:List Int}{ex:List Value}{L:List AF}(h1:xs.length≤cap)(h2:cap≤maxLen)(h4:ex.length=(cap-xs.length)*1) :
  Ent (B1 b 3 (xs.flatMap (Bj .i64)++ex)::L) (own 3 1 (.slice (some ⟨b,0,none⟩) xs.length cap) xs.length (xs.flatMap (Bj .i64))::L):=Ec (TI xs) h4 h1 h2

theorem RE (u v:Value)(xs ys:List Int)(hn:xs.length≤1048576)(hm:ys.length≤1048576) :
  Spec prog 21 [u,v] [own 3 1 u xs.length (xs.flatMap (Bj .i64)),own 3 1 v ys.length (ys.flatMap (Bj .i64))] (fun r L=>r=.bool (decide (xs=ys))∧L=[]):=by
 refine Spec.of 26 func21 rfl rfl rfl ?_
 refine CG (fun m h=>Bz h) fun hu=>?_
 refine Db (A:=own 3 1 v ys.length (ys.flatMap (Bj .i64))) K3 ?_
 refine CG (fun m h=>Bz h) fun hv=>?_
 refine A0 (As [0,1] rfl rfl (Ae (A0 (Ad rfl (Ac (Es hu rfl) (Ad rfl (Ac (Es hv rfl) (Ac (Bm rfl rfl) (AE [0,1,10] rfl ?_)))))))))
 refine Ak rfl (fun h10=>?_) (fun h10=>?_)
 ·refine A0 (As [4] rfl rfl (Ar (AN ?_)))
  simp only [Bool.not_eq_true',decide_eq_false_iff_not] at h10
  exact Aq [] (.tmp rfl .nil) ⟨by rw [decide_eq_false (fun e=>h10 (by rw [e]))]; rfl,rfl⟩ AC
 ·refine Am (Af (Ae (A0 (As [0,1,5] rfl rfl (Au ?_)))))
  have hlen:xs.length=ys.length:=by
   simp only [Bool.not_eq_false',decide_eq_true_eq] at h10; omega
  refine B3 _ (I8 0 rfl (I8 1 rfl (I8 5 rfl .nil))) ?_
  refine B0 (ι:=Nat) (fun i env L=>env=[(0,u),(1,v),(5,.int .i64 (i:Nat))]∧L=[own 3 1 v ys.length (ys.flatMap (Bj .i64)),own 3 1 u xs.length (xs.flatMap (Bj .i64))]∧i≤xs.length∧∀ j,j<i→xs[j]? = ys[j]?) (fun i=>xs.length-i) 0 ⟨rfl,rfl,Nat.zero_le _,fun j h=>by omega⟩ ?_
  rintro i env L ⟨rfl,rfl,hi,hlo⟩
  refine Ae (A0 (Ad rfl (Ad rfl (Ac (Es hu rfl) (Ac (Bb rfl rfl) (AE [0,1,5,14] rfl ?_))))))
  refine Ak rfl (fun h14=>?_) (fun h14=>?_)
  ·have h14':i<xs.length:=by have:=of_decide_eq_true h14; omega
   obtain ⟨x,hx⟩:∃ x,xs[i]? = some x:=⟨_,List.getElem?_eq_getElem h14'⟩
   obtain ⟨y,hy⟩:∃ y,ys[i]? = some y:=⟨_,List.getElem?_eq_getElem Ax⟩
   refine Db (A:=own 3 1 v ys.length (ys.flatMap (Bj .i64))) K3 ?_
   refine GA (fun h0 l0 _=>by omega) (fun b2 c2 ex2 hv2 k1 k2 k3 k4=>?_)
   refine Db (A:=own 3 1 u xs.length (xs.flatMap (Bj .i64))) K3 ?_
   refine GA (fun h0 l0 _=>by omega) (fun b1 c1 ex1 hv1 h1 h2 h3 h4=>?_)
   subst hv1 hv2
   refine Am (Af (Ae (Au (Ae ?_))))
   refine Ba [3,7] _ [] (by simp only [List.append_nil]; exact Ent.refl _) AK ?_
   refine AD 0 rfl (AG rfl) (AD 1 rfl (AG rfl) (AD 2 rfl (AB i rfl rfl Ax Ax Ax) (Bc 3 rfl (Ag rfl (NQ hx)) rfl (AD 4 rfl (AG rfl) (AD 5 rfl (AG rfl) (AD 6 rfl (AB i rfl rfl Ax Ax Ax) (Bc 7 rfl (Ag rfl (NQ hy)) rfl (AD 8 rfl (Bm rfl rfl) (C0 [0,1,5,25] rfl (DL AK (Af ?_)))))))))))
   refine Ak rfl (fun h25=>?_) (fun h25=>?_)
   ·refine A0 (As [4] rfl rfl (Ar (B6 (AN (AN (B6 (AN ?_)))))))
    simp only [Bool.not_eq_true',decide_eq_false_iff_not] at h25
    exact Aq [] (.tmp rfl .nil) ⟨by rw [decide_eq_false (fun e=>h25 (by subst e; rw [hx] at hy; exact Option.some.inj hy))]; rfl,rfl⟩ AC
   ·refine Am (AR (Af (Al (Ad rfl (Ac (AO ((i+1:Nat):Int) rfl rfl Ax Ax Ax) (AX rfl (Be [0,1,5] rfl ?_)))))))
    refine BK ((Split.ent' (K:=[B1 b1 3 (xs.flatMap (Bj .i64)++ex1),B1 b2 3 (ys.flatMap (Bj .i64)++ex2)]) AC).trans ((NR h1 h2 h4).trans (Ent.swap.trans (NR k1 k2 k4)))) ?_
    refine AH ?_
    simp only [Bool.not_eq_false',decide_eq_true_eq] at h25
    exact Af ⟨i+1,⟨rfl,rfl,by omega,fun j hj=>by
     rcases Nat.lt_or_ge j i with h | h
     ·exact hlo j h
     ·obtain rfl:j=i:=by omega
      rw [hx,hy,h25]⟩,by omega⟩
  ·refine AY (AS (AS (AV rfl (Af (A0 (As [4] rfl rfl (Ar ?_)))))))
   have h14':=of_decide_eq_false h14
   obtain rfl:i=xs.length:=by omega
   exact Aq [] (.tmp rfl .nil) ⟨by
    rw [decide_eq_true (List.ext_getElem? fun j=>?_)]
    ·rfl
    ·rcases Nat.lt_or_ge j xs.length with h | h
     ·exact hlo j h
     ·rw [List.getElem?_eq_none h,List.getElem?_eq_none Ax],rfl⟩ AC
set_option maxHeartbeats 1000000 in
theorem NT (μ:PH)(v:Value)(x:List En)(h:Row μ v 2 x.length (DC x)) :
  Spec prog 26 [v] [ro μ] (fun r L=>∃ μ',Le μ μ'∧Row μ' r 2 (Fe x).length (DC (Fe x))∧L=[ro μ']):=by
 obtain ⟨v12,hr12,hs12⟩:=Row.hi (P:=prog) (t:=27) h (min x.length 30) (Nat.min_le_left _ _)
 rw [← X1] at hr12
 obtain ⟨y,hy⟩:∃ y,y=x.take (min x.length 30):=⟨_,rfl⟩
 have hyl:y.length=min x.length 30:=by rw [hy,List.length_take]; omega
 have hyt:y=x.take 30:=by
  rw [hy]
  by_cases hx:x.length≤30
  ·rw [Nat.min_eq_left hx,List.take_length,List.take_of_length_le hx]
  ·rw [Nat.min_eq_right Ax]
 rw [← hy,← hyl] at hr12
 have hy30:y.length≤30:=by omega
 refine Spec.of 38 func26 rfl rfl rfl ?_
 refine A0 (As [0] rfl rfl (A0 (As [0,3] rfl rfl (Ae (A0 (Ad rfl (Ad rfl (Ac (B2 h rfl) (Ac (Ep rfl rfl) (Ac (hs12 _ _ _ .i64 _ rfl rfl Ax) (Ac (B2 hr12 rfl) (Ad rfl (Be [3,12,13,14] rfl (BK (own_nil_ent (e:=111) (n:=2)) (Dp (Au ?_))))))))))))))))
 refine B0 (ι:=Nat×Value) (fun k env L=>Sub env [(3,k.2),(12,v12),(13,.int .i64 (y.length:Nat)),(14,.int .i64 (k.1:Nat))]∧Ent L [own 111 2 k.2 k.1 (DC ((y.take k.1).map Py)),ro μ]∧k.1≤y.length) (fun k=>y.length-k.1) (0,.slice none 0 0) ⟨⟨rfl,rfl,rfl,rfl,trivial⟩,Ent.refl _,Nat.zero_le _⟩ ?_
 rintro ⟨i,cv⟩ env L ⟨hsub,hE,hi⟩
 simp only [] at hi hE hsub
 refine B3 _ hsub (AP hE ?_)
 clear hsub hE env L
 dsimp only
 refine A0 (Ac (Bb rfl rfl) (AE [3,12,13,14,15] rfl (Ae ?_)))
 refine Ak rfl (fun h15=>?_) (fun h15=>?_)
 ·have h15':i<y.length:=by have:=of_decide_eq_true h15; omega
  obtain ⟨e,he⟩:∃ e,y[i]? = some e:=⟨_,List.getElem?_eq_getElem h15'⟩
  obtain ⟨gb,off,cap,hv,hra,hc0,hc1⟩:=EW hr12 he
  refine Am (Af (Ae (Au (A0 ?_))))
  refine Ac (AB (off+i*2) (congrArg some hv) rfl Ax Ax (by rw [Int.toNat_natCast])) ?_
  refine AJ (CZ rfl rfl hra) (Aw (AZ) (fun b5=>?_))
  refine B5 (AU rfl rfl rfl rfl) (AE [3,5,12,13,14] rfl ?_)
  refine Ba [2,4,9] _ [] (by simp only [List.append_nil]; exact Ent.refl _) AK ?_
  refine AD 0 rfl (AG rfl) (AD 1 rfl (Ab rfl) (Bc 2 rfl (Ag rfl rfl) rfl (AD 3 rfl (Ab rfl) (Bc 4 rfl (Ag rfl rfl) rfl (AD 5 rfl (Dw rfl) (AD 6 rfl (Ep rfl rfl) (AD 7 rfl (Of (min e.1.size 255) rfl rfl Ax (Nat.min_le_left _ _)) (AD 8 rfl (Ab rfl) (Bc 9 rfl (Ag rfl rfl) rfl (AD 10 rfl (Bo (qs:=[(0,_),(1,_)]) rfl) (BT 11 rfl AK AK (Bg (qs:=[(0,_)]) rfl rfl rfl) (fun b29=>?_))))))))))))
  refine Mo 12 rfl AK AK (B9 (l:=i) (m:=1) rfl rfl AC (by simp only [maxLen]; omega) Ax) ?_
  rintro v30 -
  skip
  refine AD 13 rfl (Bl rfl) (C0 [3,12,13,14] rfl (Bs AK (AR (Af (Al (Ac (AO ((i+1:Nat):Int) rfl rfl Ax Ax Ax) (Ad rfl (Be [3,12,13,14] rfl (AH ?_)))))))))
  refine Af ⟨(i+1,v30),⟨⟨rfl,rfl,rfl,rfl,trivial⟩,?_,h15'⟩,by show y.length-(i+1)<y.length-i; omega⟩
  have e1:DC ((y.take (i+1)).map Py)=DC ((y.take i).map Py)++[.string (e.1.extract 0 (min e.1.size 255)),.int .u32 e.2]:=by
   rw [List.take_add_one,he,List.map_append,PT]; rfl
  show Ent _ [own 111 2 v30 (i+1) (DC ((y.take (i+1)).map Py)),ro μ]
  rw [e1]
  exact Split.ent' AC
 ·have h15':=of_decide_eq_false h15
  obtain rfl:i=y.length:=by omega
  rw [List.take_length]
  refine AY (AS (AS (AV rfl (Af (Ae ?_)))))
  refine BC (v:=cv) (μ:=μ) AC fun μ2 h2 hrow2=>?_
  have hl2:y.length=(y.map Py).length:=by rw [List.length_map]
  rw [hl2] at hrow2
  have hsh:∀ e∈y.map Py,e.1.size≤255:=by
   intro e he
   obtain ⟨d,_,rfl⟩:=List.mem_map.1 he
   show (d.1.extract 0 (min d.1.size 255)).size≤255
   rw [ByteArray.size_extract]; omega
  refine Al (Ad rfl ?_)
  refine Aw (AA (X2 μ2 cv (y.map Py) hrow2 (by rw [← hl2]; omega) hsh) rfl rfl AC) ?_
  rintro v34 L1 ⟨μ3,tv,rfl,h3,hrow3,rfl⟩
  refine Aj (Ad rfl (Ac (Ai rfl) (Ac (Ai rfl) (AX rfl (As [6] rfl rfl (A0 (Ad rfl (As [2] rfl rfl (Ar ?_)))))))))
  refine Aq [ro μ3] (.tmp rfl .nil) ⟨μ3,h2.trans h3,?_,rfl⟩ AC
  unfold Fe
  rw [← hyt]; exact hrow3
def Ko (n:Nat)(f:Nat→Bool):List Value:=(List.range n).map fun j=>.bool (f j)
theorem F5 (n:Nat)(f:Nat→Bool):(Ko n f).length=n:=by unfold Ko; rw [List.length_map,List.length_range]
theorem GS {n j:Nat}(f:Nat→Bool)(h:j<n):(Ko n f)[j]? = some (.bool (f j)):=by unfold Ko; rw [List.getElem?_map,List.getElem?_range h]; rfl
def on1 (f:Nat→Bool)(c:Nat):Nat→Bool:=fun j=>f j||decide (j=c)
theorem A0w{n c:Nat}(f:Nat→Bool):(Ko n f).set c (.bool true)=Ko n (on1 f c):=by
 apply List.ext_getElem?
 intro j
 by_cases hj:j<n
 ·rw [GS _ hj]
  by_cases e:c=j
  ·subst e; rw [List.getElem?_set_self (by rw [F5]; exact hj)]; simp [on1]
  ·rw [List.getElem?_set_ne e,GS _ hj]; simp only [on1,decide_eq_false (fun h:j=c=>e h.symm),Bool.or_false]
 ·rw [List.getElem?_eq_none (by rw [List.length_set,F5]; omega),List.getElem?_eq_none (by rw [F5]; omega)]
theorem Uw (n:Nat):List.replicate n (Value.bool false)=Ko n fun _=>false:=by
 apply List.ext_getElem?
 intro j
 by_cases hj:j<n
 ·rw [GS _ hj,List.getElem?_replicate,if_pos hj]
 ·rw [List.getElem?_eq_none (by rw [List.length_replicate]; omega),List.getElem?_eq_none (by rw [F5]; omega)]
theorem M8 {n:Nat}{f g:Nat→Bool}(h:∀ j,j<n→f j=g j):Ko n f=Ko n g:=by
 unfold Ko
 refine List.map_congr_left fun j hj=>?_
 rw [h j (List.mem_range.1 hj)]
def StA.pl (o:StA):StP:=⟨o.t,o.ps.map Int.toNat,o.ix.toNat⟩
set_option maxHeartbeats 4000000 in
theorem Pb (μ:PH)(o:StA)(ho:o.Ok μ)(n:Nat)(hn:n≤16):Spec prog 28 [.agg (Ji o).toArray,.int .i64 (n:Nat)] [ro μ] (fun r L=>L=[own 3 1 r (G3 n o.pl.ps).length ((G3 n o.pl.ps).flatMap (Bj .i64)),ro μ]):=by
 obtain ⟨htr,-,hpr,hpb,-⟩:=ho
 obtain ⟨tv,t,pvv,ps,ix,nm,at_⟩:=o
 dsimp only at htr hpr hpb
 obtain ⟨At,ct,rfl⟩:=htr.sl
 obtain ⟨v12,hr12,hs12⟩:=Row.hi (P:=prog) (t:=28) hpr (min ps.length 16) (Nat.min_le_left _ _)
 obtain ⟨Ap,cp,rfl⟩:=hpr.sl
 rw [Nat.mul_one,JI (ET .u8)] at hr12
 obtain ⟨y,hy⟩:∃ y,y=ps.take (min ps.length 16):=⟨_,rfl⟩
 have hyl:y.length=min ps.length 16:=by rw [hy,List.length_take]; omega
 have hyt:y=ps.take 16:=by
  rw [hy]
  by_cases hx:ps.length≤16
  ·rw [Nat.min_eq_left hx,List.take_length,List.take_of_length_le hx]
  ·rw [Nat.min_eq_right Ax]
 have hyb:∀ x∈y,0≤x∧x≤255:=fun x hx=>by rw [hyt] at hx; exact hpb x (List.mem_of_mem_take hx)
 rw [← hy,← hyl] at hr12
 have hpar:G3 n (StA.pl ⟨.slice At t.length ct,t,.slice Ap ps.length cp,ps,ix,nm,at_⟩).ps=(y.map Int.toNat).foldl (CY n) []:=by
  unfold G3 StA.pl
  rw [hyt,List.map_take]
 rw [hpar]
 have hle:∀ i,((y.map Int.toNat).take i).foldl (CY n) []=G3 n ((y.map Int.toNat).take i):=fun i=>by
  unfold G3
  rw [List.take_of_length_le (l:=(y.map Int.toNat).take i) (by rw [List.length_take,List.length_map,hyl]; omega)]
 refine Spec.of 47 func28 rfl rfl rfl ?_
 refine A0 (Aw (Bi rfl rfl) (fun b2=>?_))
 refine As [1,2] rfl rfl (A0 (As [1,2,5] rfl rfl (A0 (Ad rfl ?_))))
 refine Aw (K5 n rfl rfl rfl Ax (by simp only [maxLen]; omega)) ?_
 rintro b11
 skip
 refine As [1,2,5,6] rfl rfl (Ae (A0 (Ac (Ab rfl) (AJ (Ag rfl rfl) (Ac (Ab rfl) (AJ (Ag rfl rfl) (Ac (B2 hpr rfl) (Ac (Ep rfl rfl) (Ac (hs12 _ _ _ .i64 _ rfl rfl Ax) (Ac (B2 hr12 rfl) (Ad rfl (AE [1,5,6,18,19,20] rfl (Au (AP (own_nil_ent (e:=3) (n:=1)) ?_))))))))))))))
 refine B0 (ι:=Nat×Value) (fun z env L=>Sub env [(1,.int .i64 (n:Nat)),(5,z.2),(6,.slice (some ⟨b11,0,none⟩) n n),(18,v12),(19,.int .i64 (y.length:Nat)),(20,.int .i64 (z.1:Nat))]∧Ent L [own 3 1 z.2 (((y.map Int.toNat).take z.1).foldl (CY n) []).length ((((y.map Int.toNat).take z.1).foldl (CY n) []).flatMap (Bj .i64)),B1 b11 4 (Ko n fun j=>decide ((j:Int)∈((y.map Int.toNat).take z.1).foldl (CY n) [])),ro μ]∧z.1≤y.length) (fun z=>y.length-z.1) (0,.slice none 0 0) ⟨⟨rfl,rfl,rfl,rfl,rfl,rfl,trivial⟩,by rw [Uw]; show Ent _ [own 3 1 (.slice none 0 0) 0 [],B1 b11 4 (Ko n fun j=>false),ro μ]; exact Split.ent' AC,Nat.zero_le _⟩ ?_
 rintro ⟨i,cv⟩ env L ⟨hsub,hE,hi⟩
 dsimp only at hsub hE hi
 refine B3 _ hsub (AP hE ?_)
 clear hsub hE env L
 refine A0 (Ac (Bb rfl rfl) (AE [1,5,6,18,19,20,21] rfl (Ae ?_)))
 refine Ak rfl (fun h21=>?_) (fun h21=>?_)
 ·have h21':i<y.length:=by have:=of_decide_eq_true h21; omega
  obtain ⟨x,hx⟩:∃ x,y[i]? = some x:=⟨_,List.getElem?_eq_getElem h21'⟩
  obtain ⟨x0,x1⟩:=hyb x (List.mem_of_getElem? hx)
  obtain ⟨p,rfl⟩:∃ p:Nat,x=(p:Int):=⟨x.toNat,by omega⟩
  have hst:((y.map Int.toNat).take (i+1)).foldl (CY n) []=CY n (((y.map Int.toNat).take i).foldl (CY n) []) p:=by
   rw [BE (R:=y.map Int.toNat) (r:=p) (by rw [List.getElem?_map,hx]; rfl),List.foldl_append]; rfl
  have hlen:(((y.map Int.toNat).take i).foldl (CY n) []).length≤16:=by rw [hle]; exact (Gb n _).2
  obtain ⟨gb,off,cap,hv,_,_,hra⟩:=hr12.pos Ax
  have hcell:=(hra.elem (f:=Bj .u8) (n:=1) (fun _=>rfl) hx).cell
  generalize ((y.map Int.toNat).take i).foldl (CY n) []=li at *
  refine Am (Af (Ae (Au (A0 ?_))))
  refine Ac (AB (off+i*1) (congrArg some hv) rfl Ax Ax (by rw [Int.toNat_natCast])) ?_
  refine AJ (C3 rfl hcell) (As [1,5,6,8,18,19,20] rfl rfl (A0 (Ad rfl (Ac (BA rfl rfl) (AE [1,5,6,8,18,19,20,25] rfl ?_)))))
  refine Ak rfl (fun h25=>?_) (fun h25=>?_)
  ·have h25':0<n:=by have:=of_decide_eq_true h25; omega
   have hpm:=Nat.mod_lt p h25'
   refine A0 (Ad rfl (Ac (BY ((n-1:Nat):Int) rfl rfl Ax Ax Ax) (Ad rfl (Ac (Bw rfl Ax Ax) (Ad rfl (Ac (JK rfl rfl h25') (Ac (BY ((n-1-p % n:Nat):Int) rfl rfl Ax Ax Ax) (As [1,5,6,9,18,19,20] rfl rfl (A0 (Ad rfl (Ad rfl ?_)))))))))))
   refine Ac (AB (n-1-p % n) rfl rfl Ax Ax (by rw [Int.toNat_natCast]; omega)) ?_
   refine AJ (Ag rfl (GS _ (show n-1-p % n<n by omega))) ?_
   refine Ac (BO rfl) (AE [1,5,6,9,18,19,20,37] rfl ?_)
   refine Ak rfl (fun h37=>?_) (fun h37=>?_)
   ·have hnin:¬ ((n-1-p % n:Nat):Int)∈li:=by simpa using h37
    refine A0 (Ad rfl (Ad rfl ?_))
    refine Ac (AB (n-1-p % n) rfl rfl Ax Ax (by rw [Int.toNat_natCast]; omega)) ?_
    refine B5 (Eb rfl rfl rfl (by rw [F5]; omega)) ?_
    refine AE [1,5,6,9,18,19,20] rfl (Al (Ad rfl (Ad rfl (Aw (Bg (qs:=[(0,_)]) rfl rfl rfl) (fun b43=>?_)))))
    refine Aw (B9 (l:=li.length) (m:=1) rfl rfl AC (by simp only [maxLen]; omega) Ax) ?_
    rintro v44 -
    skip
    refine AX rfl (Be [1,5,6,18,19,20] rfl (AH (AR (Af (Al (Ac (AO ((i+1:Nat):Int) rfl rfl Ax Ax Ax) (Ad rfl (Be [1,5,6,18,19,20] rfl (AH ?_)))))))))
    refine Af ⟨(i+1,v44),⟨⟨rfl,rfl,rfl,rfl,rfl,rfl,trivial⟩,?_,h21'⟩,by show y.length-(i+1)<y.length-i; omega⟩
    have e1:CY n li p=li++[((n-1-p % n:Nat):Int)]:=if_neg (fun k=>k.elim Ax hnin)
    have e2:(Ko n fun j=>decide ((j:Int)∈li)).set (n-1-p % n) (.bool true)=Ko n fun j=>decide ((j:Int)∈li++[((n-1-p % n:Nat):Int)]):=by
     rw [A0w]
     refine M8 fun j hj=>?_
     unfold on1
     rw [Bool.eq_iff_iff]
     simp only [Bool.or_eq_true,decide_eq_true_eq,List.mem_append,List.mem_singleton,Int.natCast_inj]
    dsimp only
    rw [hst,e1,List.length_append,List.flatMap_append,← e2]
    show Ent _ [own 3 1 v44 (li.length+1) (li.flatMap (Bj .i64)++[.int .i64 ((n-1-p % n:Nat):Int)]),B1 b11 4 ((Ko n fun j=>decide ((j:Int)∈li)).set (n-1-p % n) (.bool true)),ro μ]
    exact Split.ent' AC
   ·have hin:((n-1-p % n:Nat):Int)∈li:=by simpa using h37
    refine Am (AR (Af (Al (Ac (AO ((i+1:Nat):Int) rfl rfl Ax Ax Ax) (Ad rfl (Be [1,5,6,18,19,20] rfl (AH ?_)))))))
    refine Af ⟨(i+1,cv),⟨⟨rfl,rfl,rfl,rfl,rfl,rfl,trivial⟩,?_,h21'⟩,by show y.length-(i+1)<y.length-i; omega⟩
    dsimp only
    rw [hst,show CY n li p=li from if_pos (.inr hin)]
    exact Split.ent' AC
  ·have h25':=of_decide_eq_false h25
   refine Am (AR (Af (Al (Ac (AO ((i+1:Nat):Int) rfl rfl Ax Ax Ax) (Ad rfl (Be [1,5,6,18,19,20] rfl (AH ?_)))))))
   refine Af ⟨(i+1,cv),⟨⟨rfl,rfl,rfl,rfl,rfl,rfl,trivial⟩,?_,h21'⟩,by show y.length-(i+1)<y.length-i; omega⟩
   dsimp only
   rw [hst,show CY n li p=li from if_pos (.inl Ax)]
   exact Split.ent' AC
 ·have h21':=of_decide_eq_false h21
  obtain rfl:i=y.length:=by omega
  rw [show (y.map Int.toNat).take y.length=y.map Int.toNat by rw [← List.length_map (f:=Int.toNat),List.take_length]]
  refine AY (AS (AS (AV rfl (Af (A0 (Ad rfl (As [4] rfl rfl (Ar ?_))))))))
  exact Aq [own 3 1 cv ((y.map Int.toNat).foldl (CY n) []).length (((y.map Int.toNat).foldl (CY n) []).flatMap (Bj .i64)),ro μ] (.tmp rfl .nil) rfl AC
end SX
