/- A part of the proof: walks of the program's functions, and the rules by which they go. -/
import Derived.Test.YtbomiailappgpaaGreatDoorBef3a7c8f
import Derived.Test.YtbomiailappgpaaGreatDoorB0a89f28a
import Derived.Tactics
import Derived.Tactics2
import Derived.Lib.AtoiErrMem
namespace SX
open Go Go.Proofs Go.Proofs.Tryz
theorem O2 {t:List En}{i:Nat}{e:En}(he:t[i]? = some e):(255<e.1.size→Dg t i=5)∧(¬ 255<e.1.size→e.2=0→Dg t i=1)∧(¬ 255<e.1.size→¬ e.2=0→i=0→Dg t i=0) ∧
  ∀ d,¬ 255<e.1.size→¬ e.2=0→0<i→t[i-1]? = some d→Dg t i=if Bt e.1 d.1=true then 11 else if BE e.1 d.1=true then 10 else 0:=by
 refine ⟨fun h1=>?_,fun h1 h2=>?_,fun h1 h2 h3=>?_,fun d h1 h2 h3 h4=>?_⟩
 ·unfold Dg; rw [he]; simp only [if_pos h1]
 ·unfold Dg; rw [he]; simp only [if_neg h1,if_pos h2]
 ·unfold Dg; rw [he]; simp only [if_neg h1,if_neg h2,if_pos h3]
 ·unfold Dg; rw [he]; simp only [if_neg h1,if_neg h2,if_neg (Nat.ne_of_gt h3),h4]
set_option maxHeartbeats 2000000 in
theorem Qz (μ:PH)(v:Value)(t:List En)(h:Row μ v 2 t.length (Ci t))(hsz:t.length≤1048576):Spec prog 148 [v] [ro μ] (fun r L=>r=.int .i64 (EE t)∧L=[ro μ]):=by
 refine Spec.of 50 func148 rfl rfl rfl ?_
 refine Ad (Au [0] rfl rfl (Aj (Ad (Ah rfl (Af (AW h rfl) (Ah rfl (AI [0,5,6,7] rfl (AB ?_))))))))
 refine B4 (ι:=Nat) (fun i env L=>Sub env [(0,v),(5,v),(6,.int .i64 (t.length:Nat)),(7,.int .i64 (i:Nat))]∧Ent L [ro μ]∧i≤t.length∧∀ j<i,Dg t j=0) (fun i=>t.length-i) 0 ⟨⟨rfl,rfl,rfl,rfl,trivial⟩,Ent.refl _,Nat.zero_le _,fun j hj=>by omega⟩ ?_
 rintro i env L ⟨hsub,hE,hi,hw⟩
 refine B7 _ hsub (AX hE ?_)
 clear hsub hE env L
 refine Ad (Af (Be rfl rfl) (AI [0,5,6,7,8] rfl (Aj ?_)))
 refine Aq rfl (fun h8=>?_) (fun h8=>?_)
 ·have h8':i<t.length:=by have:=of_decide_eq_true h8; omega
  obtain ⟨e,he⟩:∃ e,t[i]? = some e:=⟨_,List.getElem?_eq_getElem h8'⟩
  obtain ⟨gb,off,cap,hv,hra,hc0,hc1⟩:=Dc h he
  obtain ⟨w1,w2,w3,w4⟩:=O2 he
  refine Ar (Ai (Aj (AB (Ad (Ah rfl ?_)))))
  refine Af (AA (off+i*2) (congrArg some hv) rfl AC AC (by rw [Int.toNat_natCast])) ?_
  refine AM (Cu rfl rfl hra) (AE (Bd) (fun b4=>?_))
  refine B2 rfl (Bh (B8 rfl rfl rfl rfl) (AI [0,3,4,5,6,7] rfl (AB (Ad (Af (Ae rfl) (AM (Ak rfl rfl) (Af (D8 rfl) (Af (BO rfl rfl) (Au [0,3,4,5,6,7,12] rfl rfl ?_)))))))))
  refine Aq rfl (fun h12=>?_) (fun h12=>?_)
  ·have h12':255<e.1.size:=by have:=of_decide_eq_true h12; omega
   have hwe:=w1 h12'
   refine Ad (Au [2] rfl rfl (Av (Bg (Bg (AZ (AZ (Bg (AZ ?_))))))))
   rw [IC h8' hw (by rw [hwe]; decide),hwe]
   exact Aw [ro μ] (.tmp rfl .nil) ⟨rfl,rfl⟩ AG
  ·have h12':¬ 255<e.1.size:=by have:=of_decide_eq_false h12; omega
   refine Ad (Af (Ae rfl) (AM (Ak rfl rfl) (Af (Bo rfl rfl) (Au [0,3,4,5,6,7,17] rfl rfl ?_))))
   refine Aq rfl (fun h17=>?_) (fun h17=>?_)
   ·have h17':e.2=0:=of_decide_eq_true h17
    have hwe:=w2 h12' h17'
    refine Ad (Au [2] rfl rfl (Av (Bg (Bg (AZ (AZ (Bg (AZ ?_))))))))
    rw [IC h8' hw (by rw [hwe]; decide),hwe]
    exact Aw [ro μ] (.tmp rfl .nil) ⟨rfl,rfl⟩ AG
   ·have h17':¬ e.2=0:=of_decide_eq_false h17
    refine Aj ?_
    refine Bb [4,10] _ [] (by simp only [List.append_nil]; exact Ent.refl _) AP ?_
    refine AD 0 rfl (AH rfl) (AD 1 rfl (BO rfl rfl) (AD 2 rfl (AH rfl) ?_))
    refine E9 24 rfl (fun h24=>?_) (fun h24=>?_)
    ·have hi0:0<i:=by have:=of_decide_eq_true h24; omega
     obtain ⟨d,hd⟩:∃ d,t[i-1]? = some d:=⟨_,List.getElem?_eq_getElem AC⟩
     obtain ⟨gb',off',cap',hv',hra',hd0,hd1⟩:=Dc h hd
     have hwe:=w4 d h12' h17' hi0 hd
     refine Bn 3 rfl rfl rfl (Ae rfl) AP AP AP (Dt 4 rfl rfl rfl (Ak rfl rfl) rfl AP AP AP (Bn 5 rfl rfl rfl (AH rfl) AP AP AP (Bn 6 rfl rfl rfl (AH rfl) AP AP AP (Bn 7 rfl rfl rfl (BH ((i-1:Nat):Int) rfl rfl AC AC AC) AP AP AP ?_))))
     refine Bn 8 rfl rfl rfl (AA (off'+(i-1)*2) (congrArg some hv') rfl AC AC (by rw [Int.toNat_natCast])) AP AP AP ?_
     refine Bn 9 rfl rfl rfl (Bk rfl) AP AP AP (Dt 10 rfl rfl rfl (BJ rfl hd0) rfl AP AP AP (Bn 11 rfl rfl rfl (FM rfl rfl) AP AP AP (AD 12 rfl (Bc rfl rfl) (AD 13 rfl (Bf rfl) (BZ [0,3,4,5,6,7,21] rfl (De AP (Ai ?_)))))))
     refine Aq rfl (fun h21=>?_) (fun h21=>?_)
     ·refine Ad (Au [2] rfl rfl (Av (Bg (Bg (AZ (AZ (Bg (AZ ?_))))))))
      rw [if_pos h21] at hwe
      rw [IC h8' hw (by rw [hwe]; decide),hwe]
      exact Aw [ro μ] (.tmp rfl .nil) ⟨rfl,rfl⟩ AG
     ·refine Aj ?_
      refine Bb [4,10] _ [] (by simp only [List.append_nil]; exact Ent.refl _) AP ?_
      refine AD 0 rfl (AH rfl) (AD 1 rfl (BO rfl rfl) (AD 2 rfl (AH rfl) ?_))
      refine E9 38 rfl (fun h38=>?_) (fun h38=>by exfalso; have:=of_decide_eq_false h38; omega)
      refine Bn 3 rfl rfl rfl (Ae rfl) AP AP AP (Dt 4 rfl rfl rfl (Ak rfl rfl) rfl AP AP AP (Bn 5 rfl rfl rfl (AH rfl) AP AP AP (Bn 6 rfl rfl rfl (AH rfl) AP AP AP (Bn 7 rfl rfl rfl (BH ((i-1:Nat):Int) rfl rfl AC AC AC) AP AP AP ?_))))
      refine Bn 8 rfl rfl rfl (AA (off'+(i-1)*2) (congrArg some hv') rfl AC AC (by rw [Int.toNat_natCast])) AP AP AP ?_
      refine Bn 9 rfl rfl rfl (Bk rfl) AP AP AP (Dt 10 rfl rfl rfl (BJ rfl hd0) rfl AP AP AP (Bn 11 rfl rfl rfl (J8 rfl rfl) AP AP AP (AD 12 rfl (Bc rfl rfl) (AD 13 rfl (Bf rfl) (BZ [0,5,6,7,35] rfl (De AP (Ai ?_)))))))
      refine Aq rfl (fun h35=>?_) (fun h35=>?_)
      ·refine Ad (Au [2] rfl rfl (Av (Bg (Bg (AZ (AZ (Bg (AZ ?_))))))))
       rw [if_neg (by rw [h21]; exact Bool.false_ne_true),if_pos h35] at hwe
       rw [IC h8' hw (by rw [hwe]; decide),hwe]
       exact Aw [ro μ] (.tmp rfl .nil) ⟨rfl,rfl⟩ AG
      ·refine Ar (AV (AV (Ai (Am (Af (AQ ((i+1:Nat):Int) rfl rfl AC AC AC) (Ah rfl (Bi [0,5,6,7] rfl (AJ ?_))))))))
       rw [if_neg (by rw [h21]; exact Bool.false_ne_true),if_neg (by rw [h35]; exact Bool.false_ne_true)] at hwe
       refine Ai ⟨i+1,⟨⟨rfl,rfl,rfl,rfl,trivial⟩,Split.ent' AG,h8',fun j hj=>?_⟩,by omega⟩
       by_cases e1:j=i
       ·subst e1; exact hwe
       ·exact hw j AC
    ·have hi0:i=0:=by have:=of_decide_eq_false h24; omega
     have hwe:=w3 h12' h17' hi0
     refine C1 3 rfl rfl rfl rfl AP AP AP (C1 4 rfl rfl rfl rfl AP AP AP (C1 5 rfl rfl rfl rfl AP AP AP (C1 6 rfl rfl rfl rfl AP AP AP (C1 7 rfl rfl rfl rfl AP AP AP (C1 8 rfl rfl rfl rfl AP AP AP (C1 9 rfl rfl rfl rfl AP AP AP (C1 10 rfl rfl rfl rfl AP AP AP (C1 11 rfl rfl rfl rfl AP AP AP (AD 12 rfl (B0 rfl rfl) (AD 13 rfl (Bf rfl) (BZ [0,3,4,5,6,7,21] rfl (De AP (Ai ?_)))))))))))))
     refine Aq rfl (fun h21=>by cases h21) (fun h21=>?_)
     refine Aj ?_
     refine Bb [4,10] _ [] (by simp only [List.append_nil]; exact Ent.refl _) AP ?_
     refine AD 0 rfl (AH rfl) (AD 1 rfl (BO rfl rfl) (AD 2 rfl (AH rfl) ?_))
     refine E9 38 rfl (fun h38=>by exfalso; have:=of_decide_eq_true h38; omega) (fun h38=>?_)
     refine C1 3 rfl rfl rfl rfl AP AP AP (C1 4 rfl rfl rfl rfl AP AP AP (C1 5 rfl rfl rfl rfl AP AP AP (C1 6 rfl rfl rfl rfl AP AP AP (C1 7 rfl rfl rfl rfl AP AP AP (C1 8 rfl rfl rfl rfl AP AP AP (C1 9 rfl rfl rfl rfl AP AP AP (C1 10 rfl rfl rfl rfl AP AP AP (C1 11 rfl rfl rfl rfl AP AP AP (AD 12 rfl (B0 rfl rfl) (AD 13 rfl (Bf rfl) (BZ [0,5,6,7,35] rfl (De AP (Ai ?_)))))))))))))
     refine Aq rfl (fun h35=>by cases h35) (fun h35=>?_)
     refine Ar (AV (AV (Ai (Am (Af (AQ ((i+1:Nat):Int) rfl rfl AC AC AC) (Ah rfl (Bi [0,5,6,7] rfl (AJ ?_))))))))
     refine Ai ⟨i+1,⟨⟨rfl,rfl,rfl,rfl,trivial⟩,Split.ent' AG,h8',fun j hj=>?_⟩,by omega⟩
     by_cases e1:j=i
     ·subst e1; exact hwe
     ·exact hw j AC
 ·have h8':=of_decide_eq_false h8
  refine B3 (AU (AU (AY rfl (Ai (Ad (Au [2] rfl rfl (Av ?_)))))))
  rw [O1 fun j hj=>hw j AC]
  exact Aw [ro μ] (.tmp rfl .nil) ⟨rfl,rfl⟩ AG
def E1 (t:List En):Int:=if 1024<t.length then 5 else EE t
def Nk (t:List En):List UInt8:=if E1 t=0 then Eo t else []
theorem SD {t:List En}(h:EE t=0):∀ i,i<t.length→Dg t i=0:=fun i hi=>by
 unfold EE at h
 cases hf:((List.range t.length).map (Dg t)).find? (·≠0) with
 | none =>
  have:=(List.find?_eq_none.1 hf) (Dg t i) (List.mem_map.2 ⟨i,List.mem_range.2 hi,rfl⟩)
  simpa using this
 | some x =>
  rw [hf] at h
  have:=List.find?_some hf
  simp at this
  exact absurd h this
theorem KG {t:List En}(h:EE t=0):∀ e∈t,(GZ e).length≤255∧e.2≠0:=fun e he=>by
 obtain ⟨i,hi⟩:=List.getElem?_of_mem he
 have hl:=(List.getElem?_eq_some_iff.1 hi).1
 have hz:=SD h i hl
 obtain ⟨w1,w2,_,_⟩:=O2 hi
 refine ⟨?_,fun h0=>?_⟩
 ·refine Nat.le_of_not_lt fun k=>?_
  rw [w1 k] at hz; cases hz
 ·by_cases k:255<e.1.size
  ·rw [w1 k] at hz; cases hz
  ·rw [w2 k h0] at hz; cases hz
set_option maxHeartbeats 4000000 in
theorem Vi (μ:PH)(v:Value)(t:List En)(h:Row μ v 2 t.length (Ci t))(hu:U32s t):Spec prog 85 [v] [ro μ] (fun r L=>r=.tuple #[.string (str (Nk t)),.int .i64 (E1 t)]∧L=[ro μ]):=by
 refine Spec.of 61 func85 rfl rfl rfl ?_
 refine Ad (B2 rfl (Au [0] rfl rfl (Aj (Ad (Ah rfl (Af (AW h rfl) (Af (BO rfl rfl) (AI [0,12] rfl ?_))))))))
 refine Aq rfl (fun h12=>?_) (fun h12=>?_)
 ·refine Ad (B2 rfl (Au [2,3] rfl rfl (Av (AZ ?_))))
  have h12':1024<t.length:=by have:=of_decide_eq_true h12; omega
  have e1:E1 t=5:=by unfold E1; rw [if_pos h12']
  have e2:Nk t=[]:=by unfold Nk; rw [e1]; rfl
  rw [e1,e2]
  exact Aw [ro μ] (.tmp rfl (.tmp rfl .nil)) ⟨rfl,rfl⟩ AG
 ·have h12':t.length≤1024:=by have:=of_decide_eq_false h12; omega
  have hsz:t.length≤1048576:=by omega
  have e1:E1 t=EE t:=by unfold E1; rw [if_neg AC]
  refine Ar (Ai (Aj (Ad (Ah rfl ?_))))
  refine AE (AF (Qz μ v t h hsz) rfl rfl AG) ?_
  rintro v14 L1 ⟨rfl,rfl⟩
  refine As (Au [0,4] rfl rfl (Ad (Ah rfl (Af (Bx rfl rfl) (AI [0,4,16] rfl ?_)))))
  refine Aq rfl (fun h16=>?_) (fun h16=>?_)
  ·refine Ad (Ah rfl (B2 rfl (Au [2,3] rfl rfl (Av (AZ ?_)))))
   have h16':EE t≠0:=fun e=>by rw [e] at h16; exact absurd h16 (by decide)
   have e2:Nk t=[]:=by unfold Nk; rw [e1,if_neg h16']
   rw [e1,e2]
   exact Aw [ro μ] (.tmp rfl (.tmp rfl .nil)) ⟨rfl,rfl⟩ AG
  ·have h16':EE t=0:=by
    by_cases e:EE t=0
    ·exact e
    ·rw [decide_eq_false e] at h16; cases h16
   have hp:=KG h16'
   have e2:Nk t=Eo t:=by unfold Nk; rw [e1,if_pos h16']
   rw [e1,e2,h16']
   refine Ar (Ai (Ad ?_))
   refine AE (AF Dn rfl rfl AG) ?_
   rintro v18 L1 ⟨p,rfl,rfl⟩
   refine As (Au [0,5] rfl rfl (Ad (Ah rfl (Ah rfl (Af (AW h rfl) (Af (BP rfl (Ke AC)) ?_))))))
   refine AE (AF (Kf p t.length [] AC (by decide)) rfl rfl AG) ?_
   rintro v23 L1 ⟨rfl,rfl⟩
   rw [List.nil_append]
   refine As (AI [0,5] rfl (Ad (Au [0,5,6] rfl rfl (Aj (Ad (Ah rfl (Af (AW h rfl) (Ah rfl (AI [5,6,24,25,26] rfl (AB ?_))))))))))
   refine B4 (ι:=Nat) (fun i env L=>Sub env [(5,.pointer (some ⟨p,0,none⟩)),(6,.string (str (Gx t i))),(24,v),(25,.int .i64 (t.length:Nat)),(26,.int .i64 (i:Nat))]∧Ent L [Ep p (Br 2 t.length++Fi [] (t.take i)),ro μ]∧i≤t.length) (fun i=>t.length-i) 0 ⟨⟨rfl,rfl,rfl,rfl,rfl,trivial⟩,by show Ent _ [Ep p (Br 2 t.length++[]),ro μ]; rw [List.append_nil]; exact Split.ent' AG,Nat.zero_le _⟩ ?_
   rintro i env L ⟨hsub,hE,hi⟩
   refine B7 _ hsub (AX hE ?_)
   clear hsub hE env L
   refine Ad (Af (Be rfl rfl) (AI [5,6,24,25,26,27] rfl (Aj ?_)))
   refine Aq rfl (fun h27=>?_) (fun h27=>?_)
   ·have h27':i<t.length:=by have:=of_decide_eq_true h27; omega
    obtain ⟨e,he⟩:∃ e,t[i]? = some e:=⟨_,List.getElem?_eq_getElem h27'⟩
    obtain ⟨gb,off,cap,hv,hra,hc0,hc1⟩:=Dc h he
    have hem:=List.mem_of_getElem? he
    have hpl:=(hp e hem).1
    obtain ⟨q,hq⟩:∃ q:Nat,e.2=(q:Int):=⟨e.2.toNat,by have:=(hu e hem).1; omega⟩
    have hq2:q<4294967296:=by have:=(hu e hem).2; omega
    have hbl:(Fi [] (t.take i)).length≤261*1024:=Nat.le_trans (Iw _ _ fun x hx=>(hp x (List.mem_of_mem_take hx)).1) (by rw [List.length_take]; omega)
    have hsucc:=S4 he
    have hlsucc:=S5 he
    have hll:(Gx t i).length≤255:=UM fun x hx=>(hp x hx).1
    have henc:LV (Gx t i) e=Br 1 (PE (Gx t i) (GZ e))++Br 1 ((GZ e).length-PE (Gx t i) (GZ e))++(GZ e).drop (PE (Gx t i) (GZ e))++Br 4 q:=by unfold LV; rw [hq]; rfl
    have hlr:=K5 (Gx t i) (GZ e)
    generalize hbsd:Br 2 t.length++Fi [] (t.take i)=bs
    have hbs:bs.length≤300000:=by rw [← hbsd,List.length_append,Bu]; omega
    generalize hnd:PE (Gx t i) (GZ e)=n at *
    refine Ar (Ai (Aj (AB (Ad ?_))))
    refine Af (AA (off+i*2) (congrArg some hv) rfl AC AC (by rw [Int.toNat_natCast])) ?_
    refine AM (Cu rfl rfl hra) (AE (Bd) (fun b8=>?_))
    refine Bh (B8 rfl rfl rfl rfl) (AI [5,6,8,24,25,26] rfl (Ad (Ah rfl (Af (Ae rfl) (AM (Ak rfl rfl) ?_)))))
    refine AE (AF (SC (Gx t i) (GZ e) AC AC) rfl rfl AG) ?_
    rintro v33 L1 ⟨rfl,rfl⟩
    rw [hnd]
    refine As (Au [5,8,9,24,25,26] rfl rfl (Ad (Ah rfl (Ah rfl (Af (BP rfl (EC AC)) ?_)))))
    refine AE (AF (ED p n bs AC AC) rfl rfl AG) ?_
    rintro v37 L1 ⟨rfl,rfl⟩
    refine As (AI [5,8,9,24,25,26] rfl (Ad (Ah rfl (Af (Ae rfl) (AM (Ak rfl rfl) (Af (HO (l:=GZ e) rfl) (Ah rfl (Af (BH (((GZ e).length-n:Nat):Int) rfl rfl AC AC AC) (Af (BP rfl (EC AC)) ?_)))))))))
    refine AE (AF (ED p ((GZ e).length-n) (bs++Br 1 n) AC (by rw [List.length_append,Bu]; omega)) rfl rfl AG) ?_
    rintro v45 L1 ⟨rfl,rfl⟩
    refine As (AI [5,8,9,24,25,26] rfl (Ad (Ah rfl (Af (Ae rfl) (AM (Ak rfl rfl) (Ah rfl (Af (X8 (l:=GZ e) n rfl rfl rfl hlr) ?_)))))))
    refine AE (AF (EV p (bs++Br 1 n++Br 1 ((GZ e).length-n)) ((GZ e).drop n) (by simp only [List.length_append,Bu]; omega) (by rw [List.length_drop]; omega)) rfl rfl AG) ?_
    rintro v51 L1 ⟨rfl,rfl⟩
    refine As (AI [5,8,24,25,26] rfl (Ad (Ah rfl (Af (Ae rfl) ?_))))
    refine AM (Ak rfl (show _=some (Value.int .u32 (q:Nat)) by rw [← hq]; rfl)) ?_
    refine AE (AF (Cb p q (bs++Br 1 n++Br 1 ((GZ e).length-n)++(GZ e).drop n) hq2 (by simp only [List.length_append,Bu,List.length_drop]; omega)) rfl rfl AG) ?_
    rintro v55 L1 ⟨rfl,rfl⟩
    refine As (AI [5,8,24,25,26] rfl (Am (Af (Ae rfl) (AM (Ak rfl rfl) (B2 rfl (Bi [5,6,24,25,26] rfl (AJ (AV (Ai (Am (Af (AQ ((i+1:Nat):Int) rfl rfl AC AC AC) (Ah rfl (Bi [5,6,24,25,26] rfl (AJ ?_))))))))))))))
    refine Ai ⟨i+1,⟨⟨rfl,by rw [hlsucc]; rfl,rfl,rfl,rfl,trivial⟩,?_,h27'⟩,by omega⟩
    rw [hsucc,henc,← List.append_assoc,hbsd]
    simp only [← List.append_assoc]
    exact Split.ent' AG
   ·have h27':=of_decide_eq_false h27
    obtain rfl:i=t.length:=by omega
    rw [List.take_length]
    refine B3 (AU (AU (AY rfl (Ai (Ad (Ah rfl ?_))))))
    refine AE (AF (DX p (Br 2 t.length++Fi [] t) (fun e=>by have:=congrArg List.length e; rw [List.length_append,Bu] at this; simp at this)) rfl rfl AG) ?_
    rintro v60 L1 ⟨rfl,rfl⟩
    refine As (B2 rfl (Au [2,3] rfl rfl (Av ?_)))
    exact Aw [ro μ] (.tmp rfl (.tmp rfl .nil)) ⟨rfl,rfl⟩ AG
theorem TT {s:List UInt8}{n pos:Nat}(h:pos+n≤s.length):RP s n (pos,0)=(pos+n,0)∧RQ s n (pos,0)=(s.drop pos).take n:=by
 constructor
 ·unfold RP; rw [if_neg (fun k=>k rfl),if_neg (by show ¬ s.length<pos+n; omega)]
 ·unfold RQ; rw [if_neg (by rintro (k | k); exact k rfl; exact absurd k (by show ¬ s.length<pos+n; omega))]
theorem ZM {s:List UInt8}{n pos:Nat}(h:s.length<pos+n):RP s n (pos,0)=(pos,2)∧RQ s n (pos,0)=[]:=by
 constructor
 ·unfold RP; rw [if_neg (fun k=>k rfl),if_pos h]
 ·unfold RQ; rw [if_pos (.inr h)]
theorem Y0 {s:List UInt8}{n:Nat}{r:RS}(h:r.2≠0):RP s n r=r∧RQ s n r=[]:=by
 constructor
 ·unfold RP; rw [if_pos h]
 ·unfold RQ; rw [if_pos (.inl h)]


theorem TU (n:Int):Spec prog 248 [.int .i64 n] [] (fun r L=>r=.bool (S9 n)∧L=[]):=by
 refine Spec.of 9 func248 rfl rfl rfl ?_
 refine Ad (Au [0] rfl rfl (Ad (Ah rfl (Af (H3 rfl rfl) (Ah rfl ?_)))))
 refine B9 5 rfl (fun h5=>?_) (fun h5=>?_)
 ·refine AS rfl rfl (Ah rfl (AS rfl rfl (Af (Be rfl rfl) (Af (Bc rfl rfl) (Au [2] rfl rfl (Av ?_))))))
  refine Aw [] (.tmp rfl .nil) ⟨?_,rfl⟩ AG
  unfold S9; rw [h5]; rfl
 ·refine B1 rfl rfl rfl (B1 rfl rfl rfl (Af (B0 rfl rfl) (Au [2] rfl rfl (Av ?_))))
  refine Aw [] (.tmp rfl .nil) ⟨?_,rfl⟩ AG
  unfold S9; rw [h5]; rfl
theorem Hj {μ:PH}{v:Value}{xs:List Int}(h:Row μ v 1 xs.length (xs.flatMap (Bw .i64))){i:Nat}{p:Int}(hi:xs[i]? = some p):∃ b off cap,v=.slice (some ⟨b,off,none⟩) xs.length cap∧CellAt μ b (off+i*1) (.int .i64 p):=by
 have hl:=(List.getElem?_eq_some_iff.1 hi).1
 obtain ⟨b,off,cap,hv,_,_,hr⟩:=h.pos AC
 exact ⟨b,off,cap,hv,(hr.elem (FP .i64) hi).cell⟩
theorem Vj (μ:PH)(v:Value)(xs:List Int)(x:Int)(h:Row μ v 1 xs.length (xs.flatMap (Bw .i64))):Spec prog 317 [v,.int .i64 x] [ro μ] (fun r L=>(∃ k:Int,r=.int .i64 k∧decide (0≤k)=xs.contains x)∧L=[ro μ]):=by
 have hsm:=h.small
 refine Spec.of 19 func317 rfl rfl rfl ?_
 refine Ad (Au [0,1] rfl rfl (Aj (Ad (Ah rfl (Af (AW h rfl) (Ah rfl (AI [0,1,7,8] rfl (AB ?_))))))))
 refine B4 (ι:=Nat) (fun i env L=>Sub env [(0,v),(1,.int .i64 x),(7,.int .i64 (xs.length:Nat)),(8,.int .i64 (i:Nat))]∧L=[ro μ]∧i≤xs.length∧x∉xs.take i) (fun i=>xs.length-i) 0 ⟨⟨rfl,rfl,rfl,rfl,trivial⟩,rfl,Nat.zero_le _,by simp⟩ ?_
 rintro i env L ⟨hsub,rfl,hi,hno⟩
 refine B7 _ hsub ?_
 clear hsub env
 refine Ad (Af (Be rfl rfl) (AI [0,1,7,8,9] rfl (Aj ?_)))
 refine Aq rfl (fun h9=>?_) (fun h9=>?_)
 ·have h9':i<xs.length:=by have:=of_decide_eq_true h9; omega
  obtain ⟨p,hp⟩:∃ p,xs[i]? = some p:=⟨_,List.getElem?_eq_getElem h9'⟩
  obtain ⟨b,off,cap,hv,hc⟩:=Hj h hp
  refine Ar (Ai (Aj (AB (Ad (Ah rfl (Au [0,1,5,7,8] rfl rfl (Ad (Ah rfl (Ah rfl (Ah rfl ?_))))))))))
  refine Af (AA (off+i*1) (congrArg some hv) rfl AC AC (by rw [Int.toNat_natCast])) ?_
  refine AM (BJ rfl hc) (Af (Bo rfl rfl) (AI [0,1,5,7,8,16] rfl ?_))
  refine Aq rfl (fun h16=>?_) (fun h16=>?_)
  ·refine Ad (Ah rfl (Au [4] rfl rfl (Av (Bg (AZ (AZ (Bg (AZ ?_))))))))
   have hx:x=p:=of_decide_eq_true h16
   refine Aw [ro μ] (.tmp rfl .nil) ⟨⟨_,rfl,?_⟩,rfl⟩ AG
   rw [decide_eq_true AC]
   symm
   rw [List.contains_iff_mem,hx]
   exact List.mem_of_getElem? hp
  ·refine Ar (AV (Ai (Am (Af (AQ ((i+1:Nat):Int) rfl rfl AC AC AC) (Ah rfl (Bi [0,1,7,8] rfl (AJ ?_)))))))
   refine Ai ⟨i+1,⟨⟨rfl,rfl,rfl,rfl,trivial⟩,rfl,h9',?_⟩,by omega⟩
   rw [List.take_add_one,hp]
   intro hm
   rcases List.mem_append.1 hm with hm | hm
   ·exact hno hm
   ·have:x=p:=by simpa using hm
    exact of_decide_eq_false h16 this
 ·have h9':=of_decide_eq_false h9
  obtain rfl:i=xs.length:=by omega
  rw [List.take_length] at hno
  refine B3 (AU (AU (AY rfl (Ai (Ad (Au [4] rfl rfl (Av ?_)))))))
  refine Aw [ro μ] (.tmp rfl .nil) ⟨⟨-1,rfl,?_⟩,rfl⟩ AG
  rw [decide_eq_false AC]
  symm
  rw [← Bool.not_eq_true,List.contains_iff_mem]
  exact hno
theorem QA (μ:PH)(v:Value)(xs:List Int)(x:Int)(h:Row μ v 1 xs.length (xs.flatMap (Bw .i64))):Spec prog 249 [v,.int .i64 x] [ro μ] (fun r L=>r=.bool (xs.contains x)∧L=[ro μ]):=by
 refine Spec.of 9 func249 rfl rfl rfl ?_
 refine Ad (Au [0,1] rfl rfl (Ad (Ah rfl (Ah rfl ?_))))
 refine AE (AF (Vj μ v xs x h) rfl rfl AG) ?_
 rintro v7 L1 ⟨⟨k,rfl,hk⟩,rfl⟩
 refine As (Af (Cs rfl rfl) (Au [4] rfl rfl (Av ?_)))
 exact Aw [ro μ] (.tmp rfl .nil) ⟨by rw [← hk]; rfl,rfl⟩ AG
abbrev cmV (pv:Value)(t:Int):Value:=.agg #[pv,.int .i64 t]
theorem QB {c:Cm}(h:16<c.1.length):D1 c=5:=by unfold D1; rw [if_pos h]
theorem SE {c:Cm}(h:¬ 16<c.1.length)(h2:S9 c.2=false):D1 c=1:=by unfold D1; rw [if_neg h,if_pos h2]
theorem Vk {c:Cm}(h:¬ 16<c.1.length)(h2:S9 c.2=true):D1 c=Hc (M2 c.1) c.1.length:=by unfold D1; rw [if_neg h,if_neg (by rw [h2]; decide)]
set_option maxHeartbeats 2000000 in
theorem Vl (μ:PH)(pv:Value)(c:Cm)(h:Row μ pv 1 c.1.length (c.1.flatMap (Bw .i64))):Spec prog 158 [cmV pv c.2] [ro μ] (fun r L=>r=.int .i64 (D1 c)∧L=[ro μ]):=by
 have hsm:=h.small
 refine Spec.of 35 func158 rfl rfl rfl ?_
 refine Ad (AE (Bp rfl rfl) (fun b1=>?_))
 refine Au [1] rfl rfl (Aj (AB (Ad (Af (Ae rfl) (AM (Ak rfl rfl) (Af (AW h rfl) (Af (BO rfl rfl) (Au [1,5] rfl rfl ?_))))))))
 refine Aq rfl (fun h5=>?_) (fun h5=>?_)
 ·refine Ad (Au [2] rfl rfl (Av (Bg (AZ ?_))))
  have h5':16<c.1.length:=by have:=of_decide_eq_true h5; omega
  rw [QB h5']
  exact Aw [ro μ] (.tmp rfl .nil) ⟨rfl,rfl⟩ AG
 ·have h5':¬ 16<c.1.length:=by have:=of_decide_eq_false h5; omega
  refine Ad (Af (Ae rfl) (AM (Ak rfl rfl) ?_))
  refine AE (AF (TU c.2) rfl rfl AG) ?_
  rintro v13 L1 ⟨rfl,rfl⟩
  refine As (Af (Cd rfl) (Au [1,10] rfl rfl ?_))
  refine Aq rfl (fun h10=>?_) (fun h10=>?_)
  ·refine Ad (Au [2] rfl rfl (Av (Bg (AZ ?_))))
   have h10':S9 c.2=false:=by simpa using h10
   rw [SE h5' h10']
   exact Aw [ro μ] (.tmp rfl .nil) ⟨rfl,rfl⟩ AG
  ·have h10':S9 c.2=true:=by simpa using h10
   rw [Vk h5' h10']
   refine Ar (AV (Ai (Aj (Ad (Af (Ae rfl) (AM (Ak rfl rfl) (Af (AW h rfl) (Ah rfl (AI [1,16,17,18] rfl (AB ?_))))))))))
   refine B4 (ι:=Nat) (fun i env L=>Sub env [(1,.pointer (some ⟨b1,0,none⟩)),(16,pv),(17,.int .i64 (c.1.length:Nat)),(18,.int .i64 (i:Nat))]∧Ent L [B5 b1 88 [pv,.int .i64 c.2],ro μ]∧i≤c.1.length∧∀ j<i,M2 c.1 j=0) (fun i=>c.1.length-i) 0 ⟨⟨rfl,rfl,rfl,rfl,trivial⟩,Split.ent' AG,Nat.zero_le _,fun j hj=>by omega⟩ ?_
   rintro i env L ⟨hsub,hE,hi,hw⟩
   refine B7 _ hsub (AX hE ?_)
   clear hsub hE env L
   refine Ad (Af (Be rfl rfl) (AI [1,16,17,18,19] rfl (Aj ?_)))
   refine Aq rfl (fun h19=>?_) (fun h19=>?_)
   ·have h19':i<c.1.length:=by have:=of_decide_eq_true h19; omega
    obtain ⟨p,hp⟩:∃ p,c.1[i]? = some p:=⟨_,List.getElem?_eq_getElem h19'⟩
    obtain ⟨gb,off,cap,hv,hc⟩:=Hj h hp
    have hwe:=K7 hp
    obtain ⟨vhi,hhi1,hhi2⟩:=Row.hi (P:=prog) (t:=60) h i hi
    have hhi3:Row μ vhi 1 (c.1.take i).length ((c.1.take i).flatMap (Bw .i64)):=by
     rw [List.length_take,Nat.min_eq_left hi]
     have e:(c.1.flatMap (Bw .i64)).take (i*1)=(c.1.take i).flatMap (Bw .i64):=by
      rw [Qg,Qg,Nat.mul_one,List.map_take]
     rw [← e]; exact hhi1
    refine Ar (Ai (Aj (AB (Ad (Ah rfl ?_)))))
    refine Af (AA (off+i*1) (congrArg some hv) rfl AC AC (by rw [Int.toNat_natCast])) ?_
    refine AM (BJ rfl hc) (B2 rfl (Au [1,3,4,16,17,18] rfl rfl (AB (Ad (Ah rfl ?_)))))
    refine AE (AF (TU p) rfl rfl AG) ?_
    rintro v25 L1 ⟨rfl,rfl⟩
    refine As (Af (Cd rfl) (Au [1,3,4,16,17,18,23] rfl rfl ?_))
    refine Aq rfl (fun h23=>?_) (fun h23=>?_)
    ·refine Ad (Au [2] rfl rfl (Av (Bg (Bg (AZ (AZ (Bg (AZ ?_))))))))
     have h23':S9 p=false:=by simpa using h23
     rw [if_pos h23'] at hwe
     rw [Jh h19' hw (by rw [hwe]; decide),hwe]
     exact Aw [ro μ] (.tmp rfl .nil) ⟨rfl,rfl⟩ AG
    ·have h23':¬ S9 p=false:=by rw [Bool.not_eq_false']at h23; rw [h23]; decide
     rw [if_neg h23'] at hwe
     refine Ad (Af (Ae rfl) (AM (Ak rfl rfl) (Ah rfl (Af (hhi2 _ _ _ _ _ rfl rfl rfl) (Ah rfl ?_)))))
     refine AE (AF (QA μ vhi (c.1.take i) p hhi3) rfl rfl AG) ?_
     rintro v33 L1 ⟨rfl,rfl⟩
     refine As (Au [1,16,17,18,27] rfl rfl ?_)
     refine Aq rfl (fun h27=>?_) (fun h27=>?_)
     ·refine Ad (Au [2] rfl rfl (Av (Bg (Bg (AZ (AZ (Bg (AZ ?_))))))))
      rw [if_pos h27] at hwe
      rw [Jh h19' hw (by rw [hwe]; decide),hwe]
      exact Aw [ro μ] (.tmp rfl .nil) ⟨rfl,rfl⟩ AG
     ·refine Ar (AV (AV (Ai (Am (Af (AQ ((i+1:Nat):Int) rfl rfl AC AC AC) (Ah rfl (Bi [1,16,17,18] rfl (AJ ?_))))))))
      rw [if_neg (by rw [h27]; decide)] at hwe
      refine Ai ⟨i+1,⟨⟨rfl,rfl,rfl,rfl,trivial⟩,Split.ent' AG,h19',fun j hj=>?_⟩,by omega⟩
      by_cases e1:j=i
      ·subst e1; exact hwe
      ·exact hw j AC
   ·have h19':=of_decide_eq_false h19
    refine B3 (AU (AU (AY rfl (Ai (Ad (Au [2] rfl rfl (Av ?_)))))))
    rw [M1 fun j hj=>hw j AC]
    exact Aw [ro μ] (.tmp rfl .nil) ⟨rfl,rfl⟩ AG
set_option maxHeartbeats 4000000 in
theorem Vm (μ:PH)(pv:Value)(c:Cm)(h:Row μ pv 1 c.1.length (c.1.flatMap (Bw .i64))):Spec prog 89 [cmV pv c.2] [ro μ] (fun r L=>r=.tuple #[.string (str (Qo c)),.int .i64 (D1 c)]∧L=[ro μ]):=by
 have hsm:=h.small
 refine Spec.of 39 func89 rfl rfl rfl ?_
 refine Ad (AE (Bp rfl rfl) (fun b1=>?_))
 refine B2 rfl (Au [1] rfl rfl (Aj (Ad (AM (Cn rfl rfl) ?_))))
 refine AE (AF (Vl μ pv c h) rfl rfl AG) ?_
 rintro v9 L1 ⟨rfl,rfl⟩
 refine As (Au [1,4] rfl rfl (Ad (Ah rfl (Af (Bx rfl rfl) (AI [1,4,11] rfl ?_)))))
 refine Aq rfl (fun h11=>?_) (fun h11=>?_)
 ·refine Ad (Ah rfl (B2 rfl (Au [2,3] rfl rfl (Av (AZ ?_)))))
  have h11':D1 c≠0:=by simpa using h11
  have e2:Qo c=[]:=by unfold Qo; rw [if_neg h11']
  rw [e2]
  exact Aw [ro μ] (.tmp rfl (.tmp rfl .nil)) ⟨rfl,rfl⟩ AG
 ·have h11':D1 c=0:=by simpa using h11
  have e2:Qo c=D2 c:=by unfold Qo; rw [if_pos h11']
  rw [e2,h11']
  obtain ⟨k1,k2,k3⟩:=K8 h11'
  obtain ⟨tq,htq⟩:∃ q:Nat,c.2=(q:Int):=⟨c.2.toNat,by omega⟩
  refine Ar (Ai (Ad ?_))
  refine AE (AF Dn rfl rfl AG) ?_
  rintro v13 L1 ⟨p,rfl,rfl⟩
  refine As (Au [1,5] rfl rfl (Ad (Ah rfl (Af (Ae rfl) ?_))))
  refine AM (Ak rfl (show _=some (Value.int .i64 (tq:Nat)) by rw [← htq]; rfl)) ?_
  refine Af (BP rfl (FF AC)) ?_
  refine AE (AF (Cb p tq [] AC (by decide)) rfl rfl AG) ?_
  rintro v18 L1 ⟨rfl,rfl⟩
  rw [List.nil_append]
  refine As (AI [1,5] rfl (Ad (Ah rfl (Af (Ae rfl) (AM (Ak rfl rfl) (Af (AW h rfl) (Af (BP rfl (EC AC)) ?_)))))))
  refine AE (AF (ED p c.1.length (Br 4 tq) AC (by rw [Bu]; decide)) rfl rfl AG) ?_
  rintro v24 L1 ⟨rfl,rfl⟩
  refine As (AI [1,5] rfl (Aj (Ad (Af (Ae rfl) (AM (Ak rfl rfl) (Af (AW h rfl) (Ah rfl (AI [5,26,27,28] rfl (AB ?_)))))))))
  refine B4 (ι:=Nat) (fun i env L=>Sub env [(5,.pointer (some ⟨p,0,none⟩)),(26,pv),(27,.int .i64 (c.1.length:Nat)),(28,.int .i64 (i:Nat))]∧Ent L [Ep p (Br 4 tq++Br 1 c.1.length++IZ (c.1.take i)),ro μ]∧i≤c.1.length) (fun i=>c.1.length-i) 0 ⟨⟨rfl,rfl,rfl,rfl,trivial⟩,by show Ent _ [Ep p (Br 4 tq++Br 1 c.1.length++[]),ro μ]; rw [List.append_nil]; exact Split.ent' AG,Nat.zero_le _⟩ ?_
  rintro i env L ⟨hsub,hE,hi⟩
  refine B7 _ hsub (AX hE ?_)
  clear hsub hE env L
  refine Ad (Af (Be rfl rfl) (AI [5,26,27,28,29] rfl (Aj ?_)))
  refine Aq rfl (fun h29=>?_) (fun h29=>?_)
  ·have h29':i<c.1.length:=by have:=of_decide_eq_true h29; omega
   obtain ⟨x,hx⟩:∃ x,c.1[i]? = some x:=⟨_,List.getElem?_eq_getElem h29'⟩
   obtain ⟨gb,off,cap,hv,hc⟩:=Hj h hx
   have hxb:=k3 x (List.mem_of_getElem? hx)
   obtain ⟨q,hq⟩:∃ q:Nat,x=(q:Int):=⟨x.toNat,by omega⟩
   have hsucc:=Sa hx
   rw [hq] at hc hsucc
   have hq2:q<4294967296:=by omega
   have hpl:=K9 (c.1.take i)
   rw [List.length_take,Nat.min_eq_left hi] at hpl
   generalize hbsd:Br 4 tq++Br 1 c.1.length++IZ (c.1.take i)=bs
   have hbs:bs.length≤300000:=by rw [← hbsd]; simp only [List.length_append,Bu,hpl]; omega
   refine Ar (Ai (Aj (AB (Ad ?_))))
   refine Af (AA (off+i*1) (congrArg some hv) rfl AC AC (by rw [Int.toNat_natCast])) ?_
   refine AM (BJ rfl hc) (Au [5,7,26,27,28] rfl rfl (Am (Ah rfl (Ah rfl (Af (BP rfl (FF hq2)) ?_)))))
   refine AE (AF (Cb p q bs hq2 AC) rfl rfl AG) ?_
   rintro v35 L1 ⟨rfl,rfl⟩
   refine As (Bi [5,26,27,28] rfl (AJ (AV (Ai (Am (Af (AQ ((i+1:Nat):Int) rfl rfl AC AC AC) (Ah rfl (Bi [5,26,27,28] rfl (AJ ?_)))))))))
   refine Ai ⟨i+1,⟨⟨rfl,rfl,rfl,rfl,trivial⟩,?_,h29'⟩,by omega⟩
   rw [hsucc,← List.append_assoc,hbsd,show (q:Int).toNat=q from rfl]
   exact Split.ent' AG
  ·have h29':=of_decide_eq_false h29
   obtain rfl:i=c.1.length:=by omega
   rw [List.take_length]
   have e3:D2 c=Br 4 tq++Br 1 c.1.length++IZ c.1:=by unfold D2; rw [htq]; rfl
   rw [e3]
   refine B3 (AU (AU (AY rfl (Ai (Ad (Ah rfl ?_))))))
   refine AE (AF (DX p (Br 4 tq++Br 1 c.1.length++IZ c.1) (fun e=>by have:=congrArg List.length e; simp only [List.length_append,Bu,List.length_nil] at this; omega)) rfl rfl AG) ?_
   rintro v38 L1 ⟨rfl,rfl⟩
   refine As (B2 rfl (Au [2,3] rfl rfl (Av ?_)))
   exact Aw [ro μ] (.tmp rfl (.tmp rfl .nil)) ⟨rfl,rfl⟩ AG
def CIn (s:List UInt8)(n i:Nat)(r:RS)(acc:List Int):Prop :=
 (r=(5+4*i,0)∧5+4*i≤s.length∧acc=Ka s i 5)∨(r.2≠0∧r.1≤s.length∧s.length≠5+4*n)
theorem CIn.step{s:List UInt8}{n i:Nat}{r:RS}{acc:List Int}(h:CIn s n i r acc)(hi:i<n):CIn s n (i+1) (RP s 4 r) (acc++[((OO (RQ s 4 r):Nat):Int)]):=by
 rcases h with ⟨h1,h2,h3⟩ | ⟨h1,h2,h3⟩
 ·subst h1
  by_cases hk:5+4*i+4≤s.length
  ·rw [(TT hk).1,(TT hk).2]
   exact .inl ⟨by rw [show 5+4*i+4=5+4*(i+1) by omega],by omega,by rw [KD,h3]⟩
  ·rw [(ZM AC).1]
   exact .inr ⟨by show ¬ (2:Int)=0; decide,h2,by omega⟩
 ·rw [(Y0 h1).1]
  exact .inr ⟨h1,h2,h3⟩
theorem CIn.le{s:List UInt8}{n i:Nat}{r:RS}{acc:List Int}(h:CIn s n i r acc):r.1≤s.length:=by
 rcases h with ⟨h1,h2,_⟩ | ⟨_,h2,_⟩
 ·subst h1; exact h2
 ·exact h2

abbrev fmV (f:Fm):Value:=.agg #[.int .i64 (f.1:Nat),.string (str f.2)]
set_option maxHeartbeats 2000000 in
theorem Vn (f:Fm)(h1:0<f.1)(h2:f.1<256)(hb:f.2.length≤1048576):Spec prog 153 [fmV f] [] (fun r L=>r=.tuple #[.string (str (DF f)),.int .i64 0]∧L=[]):=by
 have hh:=NG f
 refine Spec.of 43 func153 rfl rfl rfl ?_
 refine Ad (AE (Bp rfl rfl) (fun b1=>?_))
 refine B2 rfl (Au [1] rfl rfl (Aj (AB (Ad (Af (Ae rfl) (AM (Ak rfl rfl) (Af (Be rfl rfl) (Ah rfl ?_))))))))
 refine B9 9 rfl (fun h9=>by exfalso; have:=of_decide_eq_true h9; omega) (fun h9=>?_)
 refine AS rfl rfl (Af (Ae rfl) (AS rfl rfl (AM (Ak rfl rfl) (AS rfl rfl (Af (BO rfl rfl) (Af (B0 rfl rfl) (Au [1,5] rfl rfl ?_)))))))
 refine Aq rfl (fun h5=>by exfalso; have:=of_decide_eq_true h5; omega) (fun h5=>?_)
 refine Ad (Af (Ae rfl) (AM (Ak rfl rfl) (Af (HO rfl) (Af (BO rfl rfl) (Au [1,14] rfl rfl ?_)))))
 refine Aq rfl (fun h14=>by exfalso; have:=of_decide_eq_true h14; omega) (fun h14=>?_)
 refine Ar (AV (Ai (Ad ?_)))
 refine AE (AF Dn rfl rfl AG) ?_
 rintro v19 L1 ⟨p,rfl,rfl⟩
 refine As (Au [1,4] rfl rfl (Ad (Ah rfl (Af (Ae rfl) (AM (Ak rfl rfl) (Af (BP rfl (EC h2)) ?_))))))
 refine AE (AF (ED p f.1 [] h2 (by decide)) rfl rfl AG) ?_
 rintro v24 L1 ⟨rfl,rfl⟩
 rw [List.nil_append]
 refine As (AI [1,4] rfl (Ad (Ah rfl (Af (Ae rfl) (AM (Ak rfl rfl) (Af (HO rfl) (Af (BP rfl (FF AC)) ?_)))))))
 refine AE (AF (Cb p f.2.length (Br 1 f.1) AC (by rw [Bu]; decide)) rfl rfl AG) ?_
 rintro v30 L1 ⟨rfl,rfl⟩
 refine As (AI [1,4] rfl (Ad (Ah rfl (Af (Ae rfl) (AM (Ak rfl rfl) ?_)))))
 refine AE (AF (EV p (Br 1 f.1++Br 4 f.2.length) f.2 (by rw [List.length_append,Bu,Bu]; decide) AC) rfl rfl AG) ?_
 rintro v34 L1 ⟨rfl,rfl⟩
 refine As (AI [4] rfl (Aj ?_))
 rw [show Br 1 f.1++Br 4 f.2.length++f.2=HR f from rfl]
 refine Am (Ah rfl (Ah rfl ?_))
 refine AE (AF (DX p (HR f) (fun e=>by rw [e] at hh; simp at hh)) rfl rfl AG) ?_
 rintro v37 L1 ⟨rfl,rfl⟩
 refine As (AE (Bs (qs:=[(0,_)]) rfl rfl rfl) (fun b38=>?_))
 refine AE (AF (GK b38 1 (str (HR f)) (by rw [Di]; omega)) rfl rfl AG) ?_
 rintro v39 L1 ⟨rfl,rfl⟩
 refine As ?_
 refine AE (AF (Cb p (Ji (HR f)) (HR f) (JA _) AC) rfl rfl AG) ?_
 rintro v40 L1 ⟨rfl,rfl⟩
 refine As (AI [4] rfl (Aj ?_))
 rw [show HR f++Br 4 (Ji (HR f))=DF f from rfl]
 refine Am (Ah rfl ?_)
 refine AE (AF (DX p (DF f) (fun e=>by have:=GA f; rw [e] at this; simp at this)) rfl rfl AG) ?_
 rintro v42 L1 ⟨rfl,rfl⟩
 refine As (B2 rfl (Au [2,3] rfl rfl (Av ?_)))
 exact Aw [] (.tmp rfl (.tmp rfl .nil)) ⟨rfl,rfl⟩ AG

def Vo (k:Nat)(r:Rc):List AK:=[B5 r.a 96 [.int .i64 (k:Nat),r.v,.int .i64 (r.f.safe:Nat)],own 5 1 r.v r.f.bytes.length (Dx r.f.bytes)]
def QC (k:Nat)(r:Rc):List AK:=if r.f.safe≤r.f.bytes.length then Vo k r else []
theorem Pj {k:Nat}{r:Rc}(h:r.f.safe≤r.f.bytes.length):QC k r=Vo k r:=if_pos h
theorem Fu {d:Dk}(hd:d.Ok){k:Nat}{r:Rc}(hf:r.f=d.fl k):r.f.safe≤r.f.bytes.length:=by rw [hf]; exact (Dk.fl_ok hd k).2
def Fa:Nat→List Rc→List AK
 | _,[]=>[]
 | k,r::rs=>QC k r++Fa (k+1) rs
theorem Kh:∀ (k:Nat) (a b:List Rc),Fa k (a++b)=Fa k a++Fa (k+a.length) b
 | k,[],b=>by simp [Fa]
 | k,r::a,b=>by
  rw [List.cons_append,Fa,Fa,Kh,List.append_assoc,List.length_cons]
  congr 3; omega
def BV (rs:List Rc):AK:=PO (Fa 0 rs)
def GM (rs:List Rc)(i:Nat):AK:=PO (Fa 0 (rs.take i)++Fa (i+1) (rs.drop (i+1)))
theorem TV {rs:List Rc}{i:Nat}{r:Rc}(h:rs[i]? = some r):Fa 0 rs=Fa 0 (rs.take i)++(QC i r++Fa (i+1) (rs.drop (i+1))):=by
 have hlt:=(List.getElem?_eq_some_iff.1 h).1
 have e:rs=rs.take i++r::rs.drop (i+1):=by
  rw [← (List.getElem?_eq_some_iff.1 h).2,← List.drop_eq_getElem_cons hlt,List.take_append_drop]
 conv=>lhs; rw [e]
 rw [Kh,List.length_take,Nat.min_eq_left AC,Nat.zero_add]; rfl
theorem Vp {rs:List Rc}{i:Nat}{r:Rc}(h:rs[i]? = some r)(hg:r.f.safe≤r.f.bytes.length){L:List AK}:Ent (BV rs::L) (Vo i r++GM rs i::L):=by
 rw [← Pj hg]
 refine star_ent.trans ?_
 rw [TV h]
 refine Ent.trans (Ent.perm ?_) (Ent.under (X:=QC i r) CZ)
 rw [List.append_assoc,List.append_assoc]
 refine (List.perm_append_comm_assoc _ _ _).trans ?_
 rw [List.append_assoc]
theorem My {rs:List Rc}{i:Nat}{r:Rc}(h:i<rs.length)(hg:r.f.safe≤r.f.bytes.length){L:List AK}:Ent (Vo i r++GM rs i::L) (BV (rs.set i r)::L):=by
 rw [← Pj hg]
 have h1:(rs.set i r)[i]? = some r:=List.getElem?_set_self h
 have e:Fa 0 (rs.set i r)=Fa 0 (rs.take i)++(QC i r++Fa (i+1) (rs.drop (i+1))):=by
  rw [TV h1,List.take_set_of_le (Nat.le_refl _),List.drop_set_of_lt AC]
 refine Ent.trans ?_ CZ
 rw [e]
 refine Ent.trans (Ent.under (X:=QC i r) star_ent) (Ent.perm ?_)
 simp only [List.append_assoc]
 exact List.perm_append_comm_assoc _ _ _
theorem Y1 {rs:List Rc}{r:Rc}(hg:r.f.safe≤r.f.bytes.length){L:List AK}:Ent (Vo rs.length r++BV rs::L) (BV (rs++[r])::L):=by
 rw [← Pj hg]
 refine Ent.trans (Ent.under (X:=QC rs.length r) star_ent) ?_
 refine Ent.trans ?_ CZ
 rw [Kh,Nat.zero_add]
 show Ent _ ((Fa 0 rs++(QC rs.length r++[]))++L)
 rw [List.append_nil,List.append_assoc]
 exact Ent.perm (List.perm_append_comm_assoc _ _ _)
structure FX where
 sb:Nat
 fb:Nat
 es:BM ByteArray
 cs:Nat
 ef:BM ByteArray
 cf:Nat
 rs:List Rc
 ps:List Pc
 pv:Value
abbrev ID (q:Int)(n:Nat)(sb fb:Nat)(pv:Value)(fa:Int)(off:Bool):List Value:=[.int .i64 q,.int .i64 (n:Nat),.map (some sb),.map (some fb),pv,.int .i64 fa,.bool off]
def Dq (d:Dk)(k:Nat):Prop:=(∃ x∈d.seen,x.2=k)∨(∃ x∈d.safe,x.2=k)∨∃ c∈d.pend,Bt c.come Dd=false∧c.file=k
structure Rep (d:Dk) (x:FX):Prop where
 seen:NmRel x.es d.seen x.rs
 safe:NmRel x.ef d.safe x.rs
 bs:Born x.es x.cs
 bf:Born x.ef x.cf
 len:x.rs.length=d.files.length
 fl:∀ k,Dq d k→∃ r,x.rs[k]? = some r∧r.f=d.fl k
 ps:x.ps.length=d.pend.length∧∀ (i:Nat) (p:Pc) (c:Cg),x.ps[i]? = some p→d.pend[i]? = some c→Xp x.rs p c
abbrev EH (p:Nat)(d:Dk)(x:FX):AK:=B5 p 100 (ID d.quota x.rs.length x.sb x.fb x.pv d.falls d.off)
def FSA (p:Nat)(d:Dk):AK:=exA fun x : {x:FX // Rep d x}=>[EH p d x.1,BI x.1.sb BN x.1.es x.1.cs,BI x.1.fb BN x.1.ef x.1.cf,own 279 3 x.1.pv x.1.ps.length (x.1.ps.flatMap Cj),BV x.1.rs]
theorem BY {p:Nat}{d:Dk}{x:FX}(h:Rep d x){L:List AK}:Ent (EH p d x::BI x.sb BN x.es x.cs::BI x.fb BN x.ef x.cf::own 279 3 x.pv x.ps.length (x.ps.flatMap Cj)::BV x.rs::L) (FSA p d::L) :=
 Fd (F:=fun x : {x:FX // Rep d x}=>[EH p d x.1,BI x.1.sb BN x.1.es x.1.cs,BI x.1.fb BN x.1.ef x.1.cf,own 279 3 x.1.pv x.1.ps.length (x.1.ps.flatMap Cj),BV x.1.rs]) ⟨x,h⟩ AG
theorem FSA.open'{p:Nat}{d:Dk}{f:FuncId}{args:List Value}{L:List AK}{post:Value→List AK→Prop}
  (h:∀ x,Rep d x→Spec prog f args (EH p d x::BI x.sb BN x.es x.cs::BI x.fb BN x.ef x.cf::own 279 3 x.pv x.ps.length (x.ps.flatMap Cj)::BV x.rs::L) post):Spec prog f args (FSA p d::L) post:=Spec.exA' fun x=>h x.1 x.2
abbrev pv (p:Nat):Value:=.pointer (some ⟨p,0,none⟩)
def Gg (rs:List Rc)(d:Dk)(s:ByteArray):Value×Int:=if d.off=true then (.pointer none,8) else match BC d.seen s with | none=>(.pointer none,6) | some k=>(adr rs k,0)
theorem Vq (p:Nat)(d:Dk)(x:FX)(hx:Rep d x)(s:ByteArray):Spec prog 33 [pv p,.string s] [EH p d x,BI x.sb BN x.es x.cs] (fun r L=>r=.tuple #[(Gg x.rs d s).1,.int .i64 (Gg x.rs d s).2]∧L=[EH p d x,BI x.sb BN x.es x.cs]):=by
 have hl:=hx.seen.look s
 refine Spec.of 28 func33 rfl rfl rfl ?_
 refine Ad (B2 rfl (Au [0,1] rfl rfl (Aj (AB (Ad (Ah rfl (Af (Bm rfl rfl) (Au [0,1,8] rfl rfl (Dw rfl (Ad (Ah rfl (Af (Al rfl) (Af (Ae rfl) (AM (Ak rfl rfl) (Au [0,1,11] rfl rfl ?_)))))))))))))))
 refine Aq rfl (fun h11=>?_) (fun h11=>?_)
 ·refine Ad (B2 rfl (Au [4,5] rfl rfl (Av (Bg (AZ ?_)))))
  refine Aw [EH p d x,BI x.sb BN x.es x.cs] (.tmp rfl (.tmp rfl .nil)) ⟨?_,rfl⟩ AG
  unfold Gg; rw [if_pos h11]; rfl
 ·refine Ar (AV (Ai (Ad (Ah rfl (Af (Al rfl) (Af (Ae rfl) (AM (Ak rfl rfl) (Ah rfl (AM (Sb (kv:=BN) s hl rfl rfl) (Ah rfl (Af (Ax rfl) (Af (Ax rfl) (B2 rfl (Au [6,7] rfl rfl (Aj (Ad (Ah rfl (Af (Cd rfl) (AI [6,26] rfl ?_)))))))))))))))))))
  refine Aq rfl (fun h26=>?_) (fun h26=>?_)
  ·refine Ad (B2 rfl (Au [4,5] rfl rfl (Av (AZ ?_))))
   refine Aw [EH p d x,BI x.sb BN x.es x.cs] (.tmp rfl (.tmp rfl .nil)) ⟨?_,rfl⟩ AG
   unfold Gg
   cases hf:BC d.seen s with
   | none=>rw [if_neg (by rw [h11]; decide)]; rfl
   | some k=>rw [hf] at h26; cases h26
  ·refine Ar (Ai (Ad (Ah rfl (B2 rfl (Au [4,5] rfl rfl (Av ?_))))))
   refine Aw [EH p d x,BI x.sb BN x.es x.cs] (.tmp rfl (.tmp rfl .nil)) ⟨?_,rfl⟩ AG
   unfold Gg
   cases hf:BC d.seen s with
   | none=>rw [hf] at h26; cases h26
   | some k=>rw [if_neg (by rw [h11]; decide)]; rfl
theorem QD (v:Value)(xs:List Int)(L0:List AK)(fn:FuncId)[Body prog fn](fi ca:List Value)(p:Int→Bool)(hv:Ints prog 3 L0 v xs)
  (hf:∀ x∈xs,Spec prog fn (fi++[.int .i64 x]++ca) L0 (fun r L=>r=.bool (p x)∧L=L0)):Spec prog 250 [v,.func (.func fn) fi.toArray ca.toArray] L0
  (fun r L=>(∃ k:Int,r=.int .i64 k∧(decide (0≤k)=xs.any p)∧-1≤k)∧L=L0):=by
 obtain ⟨A,cap,hv1,hv2,hv3⟩:=hv
 subst hv1
 refine Spec.of 19 func250 rfl rfl rfl ?_
 refine Ad (Au [0,1] rfl rfl (Aj (Ad (Ah rfl (Af (BD rfl) (Ah rfl (AI [0,1,7,8] rfl (AB ?_))))))))
 refine B4 (ι:=Nat) (fun k env L=>env=[(0,.slice A xs.length cap),(1,.func (.func fn) fi.toArray ca.toArray),(7,.int .i64 (xs.length:Nat)),(8,.int .i64 (k:Nat))]∧L=L0∧k≤xs.length∧∀ y∈xs.take k,p y=false) (fun k=>xs.length-k) 0 ⟨rfl,rfl,Nat.zero_le _,fun y hy=>by simp at hy⟩ ?_
 rintro k env L ⟨rfl,rfl,hk,hno⟩
 refine Ad (Af (Be rfl rfl) (AI [0,1,7,8,9] rfl (Aj ?_)))
 refine Aq rfl (fun h9=>?_) (fun h9=>?_)
 ·have h9':k<xs.length:=by have:=of_decide_eq_true h9; omega
  obtain ⟨b,off,rfl,hld⟩:=hv3 AC
  obtain ⟨x,hx⟩:∃ x,xs[k]? = some x:=⟨_,List.getElem?_eq_getElem h9'⟩
  refine Ar (Ai (Aj (AB (Ad (Ah rfl (Au [0,1,5,7,8] rfl rfl (Ad (Ah rfl (Ah rfl (Ah rfl ?_))))))))))
  refine Af (AA (off+k*1) rfl rfl AC AC (by rw [Int.toNat_natCast])) ?_
  refine AM (CX rfl (by rw [Nat.mul_one]; exact hld k x hx)) ?_
  refine AE (FJ (R:=[]) (hf x (List.mem_of_getElem? hx)) rfl rfl (Split.all)) ?_
  rintro v1 L1 ⟨rfl,rfl⟩
  rw [List.append_nil]
  refine AI [0,1,5,7,8,16] rfl ?_
  refine Aq rfl (fun h16=>?_) (fun h16=>?_)
  ·refine Ad (Ah rfl (Au [4] rfl rfl (Av (Bg (AZ (AZ (Bg (AZ ?_))))))))
   exact Aw _ (.tmp rfl .nil) ⟨⟨k,rfl,by rw [decide_eq_true AC]; exact (List.any_eq_true.2 ⟨x,List.mem_of_getElem? hx,h16⟩).symm,by omega⟩,rfl⟩ Split.all
  ·refine Ar (AV (Ai (Am (Af (AQ ((k+1:Nat):Int) rfl rfl AC AC AC) (Ah rfl (Bi [0,1,7,8] rfl (AJ ?_)))))))
   exact Ai ⟨k+1,⟨rfl,rfl,h9',fun y hy=>by
    rw [List.take_add_one,hx] at hy
    rcases List.mem_append.1 hy with hy | hy
    ·exact hno y hy
    ·obtain rfl:y=x:=by simpa using hy
     exact h16⟩,by omega⟩
 ·have h9':=of_decide_eq_false h9
  obtain rfl:k=xs.length:=by omega
  refine B3 (AU (AU (AY rfl (Ai (Ad (Au [4] rfl rfl (Av ?_)))))))
  refine Aw _ (.tmp rfl .nil) ⟨⟨-1,rfl,?_,by omega⟩,rfl⟩ Split.all
  rw [List.take_length] at hno
  rw [decide_eq_false AC]
  symm
  rw [List.any_eq_false]
  exact fun x hx=>by rw [hno x hx]; simp
theorem Mz (v:Value)(xs:List Int)(L0:List AK)(fn:FuncId)[Body prog fn](fi ca:List Value)(p:Int→Bool)(hv:Ints prog 3 L0 v xs)
  (hf:∀ x∈xs,Spec prog fn (fi++[.int .i64 x]++ca) L0 (fun r L=>r=.bool (p x)∧L=L0)):Spec prog 159 [v,.func (.func fn) fi.toArray ca.toArray] L0
  (fun r L=>r=.bool (xs.any p)∧L=L0):=by
 refine Spec.of 9 func159 rfl rfl rfl ?_
 refine Ad (Au [0,1] rfl rfl (Ad (Ah rfl (Ah rfl (AE (AF (R:=[]) (QD v xs L0 fn fi ca p hv hf) rfl rfl (Split.all)) ?_)))))
 rintro v1 L1 ⟨⟨k,rfl,hk,hk1⟩,rfl⟩
 rw [List.append_nil]
 refine Af (Cs rfl rfl) (Au [4] rfl rfl (Av ?_))
 exact Aw _ (.tmp rfl .nil) ⟨congrArg Value.bool hk,rfl⟩ Split.all
def StepF (v:Value)(pre:List AK)(post:Int→List AK→Prop):Prop :=
 ∃ fn,Body prog fn∧∃ fi ca:List Value,v=.func (.func fn) fi.toArray ca.toArray∧Spec prog fn (fi++[]++ca) pre (fun r L=>∃ e,r=.int .i64 e∧post e L)
def Ki:List Value→List AK→(Int→List AK→Prop)→Prop
 | [],pre,Q=>Q 0 pre
 | v::vs,pre,Q=>StepF v pre fun e L=>(e=0∧Ki vs L Q)∨(e≠0∧Q e L)
theorem StepF.one{v:Value}{pre:List AK}{post:Int→List AK→Prop}(h:StepF v pre post):v.oneCell'=true:=by
 obtain ⟨fn,_,fi,ca,rfl,_⟩:=h; rfl
theorem MA (g cap:Nat)(vs:List Value)(pre:List AK)(Q:Int→List AK→Prop)(hl:vs.length≤1000)(h:Ki vs pre Q):Spec prog 143 [.slice (some ⟨g,0,none⟩) vs.length cap] (B5 g 34 vs::pre) (fun r L=>∃ e L',r=.int .i64 e∧Q e L'∧L=L'):=by
 refine Spec.of 18 func143 rfl rfl rfl ?_
 refine Ad (Au [0] rfl rfl (Aj (Ad (Ah rfl (Af (BD rfl) (Ah rfl (AI [6,7,8] rfl (AB ?_))))))))
 refine B4 (ι:=Nat×List AK) (fun x env L=>Sub env [(6,.slice (some ⟨g,0,none⟩) vs.length cap),(7,.int .i64 (vs.length:Nat)),(8,.int .i64 (x.1:Nat))]∧L=B5 g 34 vs::x.2∧x.1≤vs.length∧Ki (vs.drop x.1) x.2 Q) (fun x=>vs.length-x.1) (0,pre) ⟨⟨rfl,rfl,rfl,trivial⟩,rfl,Nat.zero_le _,h⟩ ?_
 rintro ⟨i,L0⟩ env L ⟨hsub,rfl,hi,hq⟩
 dsimp only at hsub hi hq ⊢
 refine B7 _ hsub ?_
 clear hsub env
 refine Ad (Af (Be rfl rfl) (AI [6,7,8,9] rfl (Aj ?_)))
 refine Aq rfl (fun h9=>?_) (fun h9=>?_)
 ·have h9':i<vs.length:=by have:=of_decide_eq_true h9; omega
  obtain ⟨v,hv⟩:∃ v,vs[i]? = some v:=⟨_,List.getElem?_eq_getElem h9'⟩
  have hdr:vs.drop i=v::vs.drop (i+1):=by
   rw [List.drop_eq_getElem_cons h9']
   congr 1
   exact (List.getElem?_eq_some_iff.1 hv).2
  rw [hdr] at hq
  obtain ⟨fn,hb,fi,ca,rfl,hs⟩:=hq
  refine Ar (Ai (Aj (AB (Ad ?_))))
  refine Af (AA (0+i*1) rfl rfl AC AC (by rw [Int.toNat_natCast])) ?_
  refine AM (CX rfl (by rw [Nat.zero_add,Nat.mul_one]; exact OE hv)) ?_
  refine Au [4,6,7,8] rfl rfl (Ad (Ah rfl (AE (FJ (fi:=fi) (args:=[]) (ca:=ca) (R:=[B5 g 34 vs]) hs rfl rfl (Split.skip Split.all)) ?_)))
  rintro v13 L1 ⟨e,rfl,hp⟩
  refine C9 (L':=B5 g 34 vs::L1) (Ent.perm (List.perm_append_comm (l₁:=L1))) (Au [5,6,7,8] rfl rfl (Ad (Ah rfl (Af (Bx rfl rfl) (AI [5,6,7,8,15] rfl ?_)))))
  refine Aq rfl (fun h15=>?_) (fun h15=>?_)
  ·refine Ad (Ah rfl (Au [2] rfl rfl (Av (Bg (AZ (AZ (Bg (AZ ?_))))))))
   have h15':e≠0:=by simpa using h15
   have hp':Q e L1:=by
    rcases hp with ⟨h,_⟩ | ⟨_,h⟩
    ·exact absurd h h15'
    ·exact h
   exact Aw L1 (.tmp rfl .nil) ⟨e,L1,rfl,hp',rfl⟩ (Split.skip Split.all)
  ·refine Ar (AV (Ai (Am (Af (AQ ((i+1:Nat):Int) rfl rfl AC AC AC) (Ah rfl (Bi [6,7,8] rfl (AJ ?_)))))))
   have h15':e=0:=by simpa using h15
   have hp':Ki (vs.drop (i+1)) L1 Q:=by
    rcases hp with ⟨_,h⟩ | ⟨h,_⟩
    ·exact h
    ·exact absurd h15' h
   exact Ai ⟨(i+1,L1),⟨⟨rfl,rfl,rfl,trivial⟩,rfl,h9',hp'⟩,by show vs.length-(i+1)<vs.length-i; omega⟩
 ·have h9':=of_decide_eq_false h9
  rw [List.drop_eq_nil_of_le AC] at hq
  refine B3 (AU (AU (AY rfl (Ai (Ad (Au [2] rfl rfl (Av ?_)))))))
  exact Aw L0 (.tmp rfl .nil) ⟨0,L0,rfl,hq,rfl⟩ (Split.skip Split.all)
structure SW where
 q:Nat
 tv:Value
 cv:Value
 T:List (Value×List En)
 C:List (Value×Cm)
 dead:Bool
abbrev Y2 (x:Value×List En):List Value:=[x.1]
abbrev Z8 (x:Value×Cm):List Value:=[x.1,.int .i64 x.2.2]
abbrev A2c (W:SW):List Value:=[pv W.q,W.tv,W.cv,.bool W.dead]
abbrev CT (p:Nat)(W:SW):AK:=B5 p 156 (A2c W)
abbrev DY (W:SW):AK:=own 27 1 W.tv W.T.length (W.T.flatMap Y2)
abbrev DJ (W:SW):AK:=own 88 2 W.cv W.C.length (W.C.flatMap Z8)
structure SW.Ok (μ:PH) (W:SW):Prop where
 tf:∃ A c,W.tv=.slice A W.T.length c
 cf:∃ A c,W.cv=.slice A W.C.length c
 tr:∀ x∈W.T,Row μ x.1 2 x.2.length (Ci x.2)
 cr:∀ x∈W.C,Row μ x.1 1 x.2.1.length (x.2.1.flatMap (Bw .i64))
 tl:W.T.length≤65536
 cl:W.C.length≤65536
theorem SW.Ok.le{μ μ':PH}{W:SW}(h:W.Ok μ)(k:Le μ μ'):W.Ok μ':=⟨h.tf,h.cf,fun x hx=>(h.tr x hx).le k,fun x hx=>(h.cr x hx).le k,h.tl,h.cl⟩
def Hk (nT nC:Nat)(c:Cm):Bool:=decide (c.2<(nT:Int))&&!(c.1.any fun p=>decide ((nC:Int)≤p))
theorem QE (b p:Nat)(W:SW)(A:Option Addr)(c:Nat)(h:W.cv=.slice A W.C.length c)(K:List AK)(x:Int):Spec prog 160 [.int .i64 x,pv b] (B5 b 39 [pv p]::CT p W::K) (fun r L=>r=.bool (decide ((W.C.length:Int)≤x))∧L=B5 b 39 [pv p]::CT p W::K):=by
 obtain ⟨q,tv,cv,T,C,dead⟩:=W
 dsimp only at h
 subst h
 refine Spec.of 11 func160 rfl rfl rfl ?_
 refine Ad (Au [0,1] rfl rfl (Ad (Ah rfl (AM (Ak rfl rfl) (Af (Al rfl) (Af (Ae rfl) (AM (Ak rfl rfl) (Af (BD rfl) (Af (Cs rfl rfl) (Au [3] rfl rfl (Av ?_)))))))))))
 exact Aw _ (.tmp rfl .nil) ⟨rfl,rfl⟩ Split.all
set_option maxHeartbeats 2000000 in
theorem SF (μ:PH)(p:Nat)(W:SW)(hW:W.Ok μ)(pvv:Value)(c:Cm)(h:Row μ pvv 1 c.1.length (c.1.flatMap (Bw .i64))):Spec prog 90 [pv p,cmV pvv c.2] [CT p W,ro μ] (fun r L=>r=.bool (Hk W.T.length W.C.length c)∧L=[CT p W,ro μ]):=by
 obtain ⟨⟨A1,c1,e1⟩,⟨A2,c2,e2⟩,_,_,_,_⟩:=hW
 have hk1:=fun b x=>QE b p W A2 c2 e2 [ro μ] x
 obtain ⟨q,tv,cv,T,C,dead⟩:=W
 dsimp only at e1 e2
 subst e1 e2
 refine Spec.of 20 func90 rfl rfl rfl ?_
 refine Ad (AE (Bp rfl rfl) (fun b2=>?_))
 refine AE (Bp rfl rfl) fun b3=>?_
 refine Au [2,3] rfl rfl (Aj ?_)
 refine Bb [1,2,5,10] _ [] (by simp only [List.append_nil]; exact Ent.refl _) AP ?_
 refine AD 0 rfl (Ae rfl) (Bl 1 rfl (Ak rfl rfl) rfl (Bl 2 rfl (Ak rfl rfl) rfl (AD 3 rfl (Al rfl) (AD 4 rfl (Ae rfl) (Bl 5 rfl (Ak rfl rfl) rfl (AD 6 rfl (BD rfl) (AD 7 rfl (Be rfl rfl) (AD 8 rfl (AH rfl) ?_))))))))
 refine E9 13 rfl (fun h13=>?_) (fun h13=>?_)
 ·refine Bn 9 rfl rfl rfl (Ae rfl) AP AP AP (Dt 10 rfl rfl rfl (Ak rfl rfl) rfl AP AP AP (Bn 11 rfl rfl rfl (Cr (vs:=[]) (us:=[_]) rfl rfl) AP AP AP (HL [12] AP rfl ?_)))
  refine OJ 12 rfl (GOn.some rfl rfl) AP (AF (Mz pvv c.1 [B5 b2 39 [pv p],CT p ⟨q,.slice A1 T.length c1,.slice A2 C.length c2,T,C,dead⟩,ro μ] 160 [] [pv b2] (fun x=>decide ((C.length:Int)≤x)) (Ints.row h) (fun x _=>hk1 b2 x)) rfl rfl AG) ?_
  rintro v17 L1 ⟨rfl,rfl⟩
  refine C5 (Bn 13 rfl rfl rfl (Cd rfl) AP AP AP (AD 14 rfl (Bc rfl rfl) (AD 15 rfl (Bf rfl) (BZ [4] rfl (Bv AP (Ai (Av ?_)))))))
  refine Aw [CT p ⟨q,_,_,T,C,dead⟩,ro μ] (.tmp rfl .nil) ⟨?_,rfl⟩ AG
  unfold Hk
  rw [h13]
  rfl
 ·refine C1 9 rfl rfl rfl rfl AP AP AP (C1 10 rfl rfl rfl rfl AP AP AP (C1 11 rfl rfl rfl rfl AP AP AP (C1 12 rfl rfl rfl rfl AP AP AP (C1 13 rfl rfl rfl rfl AP AP AP (AD 14 rfl (B0 rfl rfl) (AD 15 rfl (Bf rfl) (BZ [4] rfl (De AP (Ai (Av ?_))))))))))
  refine Aw [CT p ⟨q,_,_,T,C,dead⟩,ro μ] (.tmp rfl .nil) ⟨?_,rfl⟩ AG
  unfold Hk
  rw [h13]
  rfl
abbrev Lk:Type:=Nat×Nat×Nat
abbrev GN (x:Lk):List Value:=[.int .i64 (x.1:Nat),.int .i64 (x.2.1:Nat),.int .u32 (x.2.2:Nat)]
theorem Pk {μ:PH}{v:Value}{l:List Lk}(h:Row μ v 3 l.length (l.flatMap GN)){i:Nat}{x:Lk}(hi:l[i]? = some x):∃ b off cap,v=.slice (some ⟨b,off,none⟩) l.length cap∧RowAt μ b (off+i*3) (GN x):=by
 have hl:=(List.getElem?_eq_some_iff.1 hi).1
 obtain ⟨b,off,cap,hv,_,_,hr⟩:=h.pos AC
 exact ⟨b,off,cap,hv,hr.elem (f:=GN) (n:=3) (fun _=>rfl) hi⟩
theorem IE (n:Int):Spec prog 165 [.int .i64 n] [] (fun r L=>r=.bool (decide (0≤n)&&decide (n≤1073741824))∧L=[]):=by
 refine Spec.of 9 func165 rfl rfl rfl ?_
 refine Ad (Au [0] rfl rfl (Ad (Ah rfl (Af (H3 rfl rfl) (Ah rfl ?_)))))
 refine B9 5 rfl (fun h5=>?_) (fun h5=>?_)
 ·refine AS rfl rfl (Ah rfl (AS rfl rfl (Af (H3 rfl rfl) (Af (Bc rfl rfl) (Au [2] rfl rfl (Av ?_))))))
  exact Aw [] (.tmp rfl .nil) ⟨by rw [h5]; rfl,rfl⟩ AG
 ·refine B1 rfl rfl rfl (B1 rfl rfl rfl (Af (B0 rfl rfl) (Au [2] rfl rfl (Av ?_))))
  exact Aw [] (.tmp rfl .nil) ⟨by rw [h5]; rfl,rfl⟩ AG
def BK (l:List Lk):Nat:=(l.map (·.2.1)).sum
theorem I9 {l:List Lk}{i:Nat}{x:Lk}(h:l[i]? = some x):BK (l.take (i+1))=BK (l.take i)+x.2.1:=by
 unfold BK
 rw [List.take_add_one,h,List.map_append,List.sum_append]
 simp
theorem Kj {l:List Lk}(i:Nat):BK (l.take i)≤BK l:=by
 have:BK l=BK (l.take i)+BK (l.drop i):=by
  unfold BK
  rw [← List.sum_append,← List.map_append,List.take_append_drop]
 omega
def Lks (L:List AK)(v:Value)(l:List Lk):Prop:=∃ A cap,v=.slice A l.length cap∧l.length≤9223372036854775807∧(0<l.length→∃ b off,A=some ⟨b,off,none⟩∧∀ (j:Nat) (x:Lk),l[j]? = some x→Ld prog L 161 ⟨b,off+j*3,none⟩ (.agg (GN x).toArray))
theorem Lks.row{μ:PH}{v:Value}{l:List Lk}{L:List AK}[InR L μ](h:Row μ v 3 l.length (l.flatMap GN)):Lks L v l:=by
 obtain ⟨A,cap,hv⟩:=h.sl
 refine ⟨A,cap,hv,h.small,fun h0=>?_⟩
 obtain ⟨b,off,cap',hv',c1,c2,hr⟩:=h.pos h0
 subst hv
 injection hv' with e1 _ _
 exact ⟨b,off,e1,fun j x hx=>WP rfl (hr.elem (f:=GN) (n:=3) (fun _=>rfl) hx)⟩
theorem QF (L0:List AK)(v:Value)(l:List Lk)(h:Lks L0 v l)(ht:BK l≤1073741824):Spec prog 62 [v] L0 (fun r L=>r=.int .i64 (BK l:Nat)∧L=L0):=by
 obtain ⟨A,cap,rfl,hsm,hld⟩:=h
 refine Spec.of 18 func62 rfl rfl rfl ?_
 refine Ad (Au [0] rfl rfl (Ad (Au [0,3] rfl rfl (Aj (Ad (Ah rfl (Af (BD rfl) (Ah rfl (AI [3,6,7,8] rfl (AB ?_))))))))))
 refine B4 (ι:=Nat) (fun i env L=>Sub env [(3,.int .i64 (BK (l.take i):Nat)),(6,.slice A l.length cap),(7,.int .i64 (l.length:Nat)),(8,.int .i64 (i:Nat))]∧L=L0∧i≤l.length) (fun i=>l.length-i) 0 ⟨⟨rfl,rfl,rfl,rfl,trivial⟩,rfl,Nat.zero_le _⟩ ?_
 rintro i env L ⟨hsub,rfl,hi⟩
 refine B7 _ hsub ?_
 clear hsub env
 refine Ad (Af (Be rfl rfl) (AI [3,6,7,8,9] rfl (Aj ?_)))
 refine Aq rfl (fun h9=>?_) (fun h9=>?_)
 ·have h9':i<l.length:=by have:=of_decide_eq_true h9; omega
  obtain ⟨x,hx⟩:∃ x,l[i]? = some x:=⟨_,List.getElem?_eq_getElem h9'⟩
  obtain ⟨b,off,rfl,hl⟩:=hld AC
  have hs:=I9 hx
  have hle:=Kj (l:=l) (i+1)
  refine Ar (Ai (Aj (AB (Ad ?_))))
  refine Af (AA (off+i*3) rfl rfl AC AC (by rw [Int.toNat_natCast])) ?_
  refine AM (CX rfl (hl i x hx)) (AE (Bd) (fun b5=>?_))
  refine Bh (B8 rfl rfl rfl rfl) (AI [3,5,6,7,8] rfl (Am (Ah rfl (Af (Ae rfl) (AM (Ak rfl rfl) (Af (AQ ((BK (l.take (i+1)):Nat):Int) rfl rfl AC AC AC) (B2 rfl (Bi [3,6,7,8] rfl (AJ (AV (Ai (AX Ent.drop (Am (Af (AQ ((i+1:Nat):Int) rfl rfl AC AC AC) (Ah rfl (Bi [3,6,7,8] rfl (AJ ?_)))))))))))))))))
  exact Ai ⟨i+1,⟨⟨rfl,rfl,rfl,rfl,trivial⟩,rfl,h9'⟩,by omega⟩
 ·have h9':=of_decide_eq_false h9
  obtain rfl:i=l.length:=by omega
  rw [List.take_length]
  refine B3 (AU (AU (AY rfl (Ai (Ad (Ah rfl (Au [2] rfl rfl (Av ?_))))))))
  exact Aw L (.tmp rfl .nil) ⟨rfl,rfl⟩ Split.all
theorem SG (μ:PH)(v:Value)(l:List Lk)(h:Row μ v 3 l.length (l.flatMap GN))(ht:BK l≤1073741824):Spec prog 62 [v] [ro μ] (fun r L=>r=.int .i64 (BK l:Nat)∧L=[ro μ]):=QF [ro μ] v l (.row h) ht
theorem QG (μ:PH)(v:Value)(l:List Lk)(K:List AK)(fn:FuncId)[Body prog fn](fi ca:List Value)(p:Lk→Bool)(h:Row μ v 3 l.length (l.flatMap GN))
  (hf:∀ x∈l,Spec prog fn (fi++[.agg (GN x).toArray]++ca) (ro μ::K) (fun r L=>r=.bool (p x)∧L=ro μ::K)):Spec prog 104 [v,.func (.func fn) fi.toArray ca.toArray] (ro μ::K) (fun r L=>r=.bool (l.any p)∧L=ro μ::K):=by
 have hidx:Spec prog 182 [v,.func (.func fn) fi.toArray ca.toArray] (ro μ::K) (fun r L=>(∃ k:Int,r=.int .i64 k∧(decide (0≤k)=l.any p))∧L=ro μ::K):=by
  have hsm:=h.small
  refine Spec.of 19 func182 rfl rfl rfl ?_
  refine Ad (Au [0,1] rfl rfl (Aj (Ad (Ah rfl (Af (AW h rfl) (Ah rfl (AI [0,1,7,8] rfl (AB ?_))))))))
  refine B4 (ι:=Nat) (fun i env L=>Sub env [(0,v),(1,.func (.func fn) fi.toArray ca.toArray),(7,.int .i64 (l.length:Nat)),(8,.int .i64 (i:Nat))]∧L=ro μ::K∧i≤l.length∧∀ y∈l.take i,p y=false) (fun i=>l.length-i) 0 ⟨⟨rfl,rfl,rfl,rfl,trivial⟩,rfl,Nat.zero_le _,fun y hy=>by simp at hy⟩ ?_
  rintro i env L ⟨hsub,rfl,hi,hno⟩
  refine B7 _ hsub ?_
  clear hsub env
  refine Ad (Af (Be rfl rfl) (AI [0,1,7,8,9] rfl (Aj ?_)))
  refine Aq rfl (fun h9=>?_) (fun h9=>?_)
  ·have h9':i<l.length:=by have:=of_decide_eq_true h9; omega
   obtain ⟨x,hx⟩:∃ x,l[i]? = some x:=⟨_,List.getElem?_eq_getElem h9'⟩
   obtain ⟨b,off,cap,hv,hr⟩:=Pk h hx
   refine Ar (Ai (Aj (AB (Ad (Ah rfl (Au [0,1,5,7,8] rfl rfl (Ad (Ah rfl (Ah rfl (Ah rfl ?_))))))))))
   refine Af (AA (off+i*3) (congrArg some hv) rfl AC AC (by rw [Int.toNat_natCast])) ?_
   refine AM (Cu (vs:=GN x) rfl rfl hr) (AE (FJ (R:=[]) (hf x (List.mem_of_getElem? hx)) rfl rfl (Split.all)) ?_)
   rintro v1 L1 ⟨rfl,rfl⟩
   rw [List.append_nil]
   refine AI [0,1,5,7,8,16] rfl ?_
   refine Aq rfl (fun h16=>?_) (fun h16=>?_)
   ·refine Ad (Ah rfl (Au [4] rfl rfl (Av (Bg (AZ (AZ (Bg (AZ ?_))))))))
    exact Aw _ (.tmp rfl .nil) ⟨⟨i,rfl,by rw [decide_eq_true AC]; exact (List.any_eq_true.2 ⟨x,List.mem_of_getElem? hx,h16⟩).symm⟩,rfl⟩ Split.all
   ·refine Ar (AV (Ai (Am (Af (AQ ((i+1:Nat):Int) rfl rfl AC AC AC) (Ah rfl (Bi [0,1,7,8] rfl (AJ ?_)))))))
    exact Ai ⟨i+1,⟨⟨rfl,rfl,rfl,rfl,trivial⟩,rfl,h9',fun y hy=>by
     rw [List.take_add_one,hx] at hy
     rcases List.mem_append.1 hy with hy | hy
     ·exact hno y hy
     ·obtain rfl:y=x:=by simpa using hy
      exact h16⟩,by omega⟩
  ·have h9':=of_decide_eq_false h9
   obtain rfl:i=l.length:=by omega
   refine B3 (AU (AU (AY rfl (Ai (Ad (Au [4] rfl rfl (Av ?_)))))))
   refine Aw _ (.tmp rfl .nil) ⟨⟨-1,rfl,?_⟩,rfl⟩ Split.all
   rw [List.take_length] at hno
   rw [decide_eq_false AC]
   symm
   rw [List.any_eq_false]
   exact fun x hx=>by rw [hno x hx]; simp
 refine Spec.of 9 func104 rfl rfl rfl ?_
 refine Ad (Au [0,1] rfl rfl (Ad (Ah rfl (Ah rfl (AE (AF (R:=[]) hidx rfl rfl (Split.all)) ?_)))))
 rintro v1 L1 ⟨⟨k,rfl,hk⟩,rfl⟩
 rw [List.append_nil]
 refine Af (Cs rfl rfl) (Au [4] rfl rfl (Av ?_))
 exact Aw _ (.tmp rfl .nil) ⟨congrArg Value.bool hk,rfl⟩ Split.all
structure LkOk (l:List Lk):Prop where
 len:l.length≤8
 one:∀ x∈l,x.1≤1073741823∧1≤x.2.1∧x.2.1≤65536∧x.2.2<4294967296
 nod:(l.map (·.1)).Nodup
 tot:BK l≤65536
theorem Vr (x y:Lk)(b:Nat)(A:AK)(K:List AK):Spec prog 234 [.agg (GN y).toArray,pv b] (A::B5 b 161 (GN x)::K) (fun r L=>r=.bool (decide (y.1=x.1))∧L=A::B5 b 161 (GN x)::K):=by
 refine Spec.of 9 func234 rfl rfl rfl ?_
 refine Ad (AE (Bp rfl rfl) (fun b2=>?_))
 refine Au [1,2] rfl rfl (Ad (Af (Ae rfl) (AM (Ak rfl rfl) (Af (Ae rfl) (AM (Ak rfl rfl) (Af (Bo rfl rfl) (Au [3] rfl rfl (Av ?_))))))))
 refine Aw _ (.tmp rfl .nil) ⟨?_,rfl⟩ (Split.skip Split.all)
 show Value.bool _=Value.bool _
 congr 1
 exact decide_eq_decide.2 AC
theorem LkOk.no{l:List Lk}(h:LkOk l){i:Nat}{x:Lk}(hx:l[i]? = some x):(l.take i).any (fun y=>decide (y.1=x.1))=false:=by
 rw [List.any_eq_false]
 intro y hy hh
 have he:y.1=x.1:=by simpa using hh
 obtain ⟨j,hj⟩:=List.getElem?_of_mem hy
 have hjl:=(List.getElem?_eq_some_iff.1 hj).1
 rw [List.length_take] at hjl
 rw [List.getElem?_take_of_lt AC] at hj
 have h1:(l.map (·.1))[j]? = some x.1:=by rw [List.getElem?_map,hj,← he]; rfl
 have h2:(l.map (·.1))[i]? = some x.1:=by rw [List.getElem?_map,hx]; rfl
 have:=(List.getElem?_inj (by rw [List.length_map]; have:=(List.getElem?_eq_some_iff.1 hj).1; omega) h.nod).1 (h1.trans h2.symm)
 omega
theorem TW {μ:PH}{A:Option Addr}{cap:Nat}{l:List Lk}(h:Row μ (.slice A l.length cap) 3 l.length (l.flatMap GN)){i:Nat}(hi:i≤l.length):Row μ (.slice A i cap) 3 (l.take i).length ((l.take i).flatMap GN):=by
 obtain ⟨e0,A',c',e1,e2,e3,e4,e5⟩:=h
 cases e1
 have hl:(l.take i).length=i:=by rw [List.length_take]; omega
 rw [hl]
 refine ⟨by rw [Cp (f:=GN) (k:=3) (fun _=>rfl),hl],A,cap,rfl,by omega,e3,e4,fun h0=>?_⟩
 obtain ⟨b,off,rfl,hr⟩:=e5 AC
 refine ⟨b,off,rfl,fun j u hj=>?_⟩
 have hs:l.flatMap GN=(l.take i).flatMap GN++(l.drop i).flatMap GN:=by rw [← List.flatMap_append,List.take_append_drop]
 have hjl:=(List.getElem?_eq_some_iff.1 hj).1
 exact hr j u (by rw [hs,List.getElem?_append_left hjl]; exact hj)
set_option maxHeartbeats 2000000 in
theorem SH (μ:PH)(v:Value)(l:List Lk)(h:Row μ v 3 l.length (l.flatMap GN))(hok:LkOk l):Spec prog 141 [v] [ro μ] (fun r L=>r=.int .i64 0∧L=[ro μ]):=by
 obtain ⟨A,cap,hv0⟩:=h.sl
 subst hv0
 have hcap:l.length≤cap:=by obtain ⟨_,_,_,he,hh,_⟩:=h; cases he; exact hh
 have hl8:=hok.len
 refine Spec.of 44 func141 rfl rfl rfl ?_
 refine Ad (Au [0] rfl rfl (Aj (Ad (Ah rfl (Af (BD rfl) (Af (BO rfl rfl) (AI [0,7] rfl ?_)))))))
 refine Aq rfl (fun h7=>by have:=of_decide_eq_true h7; omega) (fun h7=>?_)
 refine Ar (Ai (Aj (Ad (Ah rfl (Af (BD rfl) (Ah rfl (AI [0,8,9,10] rfl (AB ?_))))))))
 refine B4 (ι:=Nat) (fun i env L=>Sub env [(0,.slice A l.length cap),(8,.slice A l.length cap),(9,.int .i64 (l.length:Nat)),(10,.int .i64 (i:Nat))]∧Ent L [ro μ]∧i≤l.length) (fun i=>l.length-i) 0 ⟨⟨rfl,rfl,rfl,rfl,trivial⟩,Ent.refl _,Nat.zero_le _⟩ ?_
 rintro i env L ⟨hsub,hE,hi⟩
 refine B7 _ hsub (AX hE ?_)
 clear hsub hE env L
 refine Ad (Af (Be rfl rfl) (AI [0,8,9,10,11] rfl (Aj ?_)))
 refine Aq rfl (fun h11=>?_) (fun h11=>?_)
 ·have h11':i<l.length:=by have:=of_decide_eq_true h11; omega
  obtain ⟨x,hx⟩:∃ x,l[i]? = some x:=⟨_,List.getElem?_eq_getElem h11'⟩
  obtain ⟨b,off,c2,hv,hr⟩:=Pk h hx
  obtain ⟨o1,o2,o3,o4⟩:=hok.one x (List.mem_of_getElem? hx)
  have hno:=hok.no hx
  have htl:=Kj (l:=l) (i+1)
  have htt:=hok.tot
  refine Ar (Ai (Aj (AB (Ad (Ah rfl ?_)))))
  refine Af (AA (off+i*3) (congrArg some hv) rfl AC AC (by rw [Int.toNat_natCast])) ?_
  refine AM (Cu (vs:=GN x) rfl rfl hr) (AE (Bd) (fun b4=>?_))
  refine B2 rfl (Bh (B8 rfl rfl rfl rfl) (AI [0,3,4,8,9,10] rfl (AB (Ad (Af (Ae rfl) (AM (Ak rfl rfl) ?_))))))
  refine AE (AF (IE (x.1:Nat)) rfl rfl AG) ?_
  rintro v18 L1 ⟨rfl,rfl⟩
  refine As (Af (Cd rfl) (Ah rfl ?_))
  refine B9 20 rfl (fun h20=>by rw [decide_eq_true AC,decide_eq_true AC] at h20; cases h20) (fun h20=>?_)
  refine AS rfl rfl (Af (Ae rfl) (AS rfl rfl (AM (Ak rfl rfl) (AS rfl rfl (Af (Be rfl rfl) (Af (B0 rfl rfl) (Ah rfl ?_)))))))
  refine B9 25 rfl (fun h25=>by have:=of_decide_eq_true h25; omega) (fun h25=>?_)
  refine AS rfl rfl (Af (Ae rfl) (AS rfl rfl (AM (Ak rfl rfl) (AS rfl rfl (Af (BO rfl rfl) (Af (B0 rfl rfl) (Au [0,3,4,8,9,10,15] rfl rfl ?_)))))))
  refine Aq rfl (fun h15=>by have:=of_decide_eq_true h15; omega) (fun h15=>?_)
  refine Ad (Ah rfl (Ah rfl (Af (DL i rfl rfl rfl AC) (Af (Cr (vs:=[]) (us:=[_]) rfl rfl) ?_))))
  refine AE (AF (QG μ (.slice A i cap) (l.take i) [B5 b4 161 (GN x)] 234 [] [pv b4] (fun y=>decide (y.1=x.1)) (TW h AC) (fun y _=>Vr x y b4 (ro μ) [])) rfl rfl AG) ?_
  rintro v35 L1 ⟨rfl,rfl⟩
  rw [hno]
  refine As (Au [0,3,8,9,10,30] rfl rfl (Dw rfl (Ad (Ah rfl (Ah rfl (Af (AQ ((i+1:Nat):Int) rfl rfl AC AC AC) (Af (DL (i+1) rfl rfl rfl AC) ?_)))))))
  refine AE (AF (SG μ (.slice A (i+1) cap) (l.take (i+1)) (TW h AC) AC) rfl rfl AG) ?_
  rintro v41 L1 ⟨rfl,rfl⟩
  refine As (Af (BO rfl rfl) (Au [0,8,9,10,36] rfl rfl ?_))
  refine Aq rfl (fun h36=>by have:=of_decide_eq_true h36; omega) (fun h36=>?_)
  refine Ar (AV (AV (Ai (Am (Af (AQ ((i+1:Nat):Int) rfl rfl AC AC AC) (Ah rfl (Bi [0,8,9,10] rfl (AJ ?_))))))))
  exact Ai ⟨i+1,⟨⟨rfl,rfl,rfl,rfl,trivial⟩,Split.ent' AG,h11'⟩,by omega⟩
 ·refine B3 (AU (AU (AY rfl (Ai (Ad (Au [2] rfl rfl (Av ?_)))))))
  exact Aw [ro μ] (.tmp rfl .nil) ⟨rfl,rfl⟩ AG
def KH (x:Lk):List UInt8:=Br 4 x.1++(Br 4 x.2.1++Br 4 x.2.2)
abbrev Jr:List UInt8:=[80,68,71,77,1]
def FT (l:List Lk):List UInt8:=Jr++Br 1 l.length++l.flatMap KH
def Dp (l:List Lk):List UInt8:=FT l++Br 4 (Ji (FT l))
theorem Vs (x:Lk):(KH x).length=12:=by unfold KH; simp only [List.length_append,Bu]
theorem MB (l:List Lk):(l.flatMap KH).length=12*l.length:=by
 induction l with
 | nil=>rfl
 | cons x l ih=>rw [List.flatMap_cons,List.length_append,Vs,ih,List.length_cons]; omega
theorem MC (l:List Lk):(FT l).length=6+12*l.length:=by
 unfold FT
 rw [List.length_append,List.length_append,Bu,MB]
 show 5+1+_=_
 omega
theorem JI (l:List Lk):(Dp l).length=10+12*l.length:=by unfold Dp; rw [List.length_append,MC,Bu]; omega
set_option maxHeartbeats 4000000 in
theorem SI (μ:PH)(v:Value)(l:List Lk)(h:Row μ v 3 l.length (l.flatMap GN))(hok:LkOk l):Spec prog 96 [v] [ro μ] (fun r L=>r=.tuple #[.string (str (Dp l)),.int .i64 0]∧L=[ro μ]):=by
 have hl8:=hok.len
 have hcb:=MC l
 have hce:=JI l
 refine Spec.of 50 func96 rfl rfl rfl ?_
 refine Ad (B2 rfl (Au [0] rfl rfl (Aj (Ad (Ah rfl ?_)))))
 refine AE (AF (SH μ v l h hok) rfl rfl AG) ?_
 rintro v9 L1 ⟨rfl,rfl⟩
 refine As (Au [0,4] rfl rfl (Ad (Ah rfl (Af (Bx rfl rfl) (AI [0,4,11] rfl (Dw rfl (Ar (Ai (Ad ?_)))))))))
 refine AE (AF Dn rfl rfl AG) ?_
 rintro v13 L1 ⟨p,rfl,rfl⟩
 refine As (Au [0,5] rfl rfl (Ad (Ah rfl ?_)))
 refine AE (AF (EV p [] Jr (by decide) (by decide)) rfl rfl AG) ?_
 rintro v15 L1 ⟨rfl,rfl⟩
 refine As (AI [0,5] rfl (Ad (Ah rfl (Ah rfl (Af (AW h rfl) (Af (BP rfl (EC AC)) ?_))))))
 refine AE (AF (ED p l.length ([]++Jr) AC (by decide)) rfl rfl AG) ?_
 rintro v20 L1 ⟨rfl,rfl⟩
 refine As (AI [0,5] rfl (Aj (Ad (Ah rfl (Af (AW h rfl) (Ah rfl (AI [5,21,22,23] rfl (AB ?_))))))))
 rw [List.nil_append]
 refine B4 (ι:=Nat) (fun i env L=>Sub env [(5,pv p),(21,v),(22,.int .i64 (l.length:Nat)),(23,.int .i64 (i:Nat))]∧Ent L [Ep p (Jr++Br 1 l.length++(l.take i).flatMap KH),ro μ]∧i≤l.length) (fun i=>l.length-i) 0 ⟨⟨rfl,rfl,rfl,rfl,trivial⟩,by rw [List.take_zero,List.flatMap_nil,List.append_nil]; exact Split.ent' AG,Nat.zero_le _⟩ ?_
 rintro i env L ⟨hsub,hE,hi⟩
 refine B7 _ hsub (AX hE ?_)
 clear hsub hE env L
 have hbl:(Jr++Br 1 l.length++(l.take i).flatMap KH).length≤200:=by
  rw [List.length_append,List.length_append,Bu,MB,List.length_take]
  show 5+1+_≤200
  omega
 generalize hB:Jr++Br 1 l.length++(l.take i).flatMap KH=B at *
 refine Ad (Af (Be rfl rfl) (AI [5,21,22,23,24] rfl (Aj ?_)))
 refine Aq rfl (fun h24=>?_) (fun h24=>?_)
 ·have h24':i<l.length:=by have:=of_decide_eq_true h24; omega
  obtain ⟨x,hx⟩:∃ x,l[i]? = some x:=⟨_,List.getElem?_eq_getElem h24'⟩
  obtain ⟨b,off,c2,hv,hr⟩:=Pk h hx
  obtain ⟨o1,o2,o3,o4⟩:=hok.one x (List.mem_of_getElem? hx)
  refine Ar (Ai (Aj (AB (Ad ?_))))
  refine Af (AA (off+i*3) (congrArg some hv) rfl AC AC (by rw [Int.toNat_natCast])) ?_
  refine AM (Cu (vs:=GN x) rfl rfl hr) (AE (Bd) (fun b7=>?_))
  refine Bh (B8 rfl rfl rfl rfl) (AI [5,7,21,22,23] rfl (Ad (Ah rfl (Af (Ae rfl) (AM (Ak rfl rfl) (Af (BP rfl (FF AC)) ?_))))))
  refine AE (AF (Cb p x.1 B AC AC) rfl rfl AG) ?_
  rintro v31 L1 ⟨rfl,rfl⟩
  refine As (AI [5,7,21,22,23] rfl (Ad (Ah rfl (Af (Ae rfl) (AM (Ak rfl rfl) (Af (BP rfl (FF AC)) ?_))))))
  refine AE (AF (Cb p x.2.1 (B++Br 4 x.1) AC (by rw [List.length_append,Bu]; omega)) rfl rfl AG) ?_
  rintro v36 L1 ⟨rfl,rfl⟩
  refine As (AI [5,7,21,22,23] rfl (Am (Ah rfl (Af (Ae rfl) (AM (Ak rfl rfl) ?_)))))
  refine AE (AF (Cb p x.2.2 (B++Br 4 x.1++Br 4 x.2.1) AC (by rw [List.length_append,List.length_append,Bu,Bu]; omega)) rfl rfl AG) ?_
  rintro v40 L1 ⟨rfl,rfl⟩
  refine As (Bi [5,21,22,23] rfl (AJ (AV (Ai (Am (Af (AQ ((i+1:Nat):Int) rfl rfl AC AC AC) (Ah rfl (Bi [5,21,22,23] rfl (AJ ?_)))))))))
  refine Ai ⟨i+1,⟨⟨rfl,rfl,rfl,rfl,trivial⟩,?_,h24'⟩,by omega⟩
  have e:Jr++Br 1 l.length++(l.take (i+1)).flatMap KH=B++Br 4 x.1++Br 4 x.2.1++Br 4 x.2.2:=by
   rw [List.take_add_one,hx,List.flatMap_append,← List.append_assoc,hB]
   simp only [Option.toList_some,List.flatMap_cons,List.flatMap_nil,List.append_nil,List.append_assoc]
   rfl
  rw [e]
  exact Split.ent' AG
 ·have h24':=of_decide_eq_false h24
  obtain rfl:i=l.length:=by omega
  rw [List.take_length] at hB
  obtain rfl:B=FT l:=hB.symm
  refine B3 (AU (AU (AY rfl (Ai (Ad (Ah rfl (Ah rfl ?_)))))))
  refine AE (AF (DX p (FT l) (fun e=>by rw [e,List.length_nil] at hcb; omega)) rfl rfl AG) ?_
  rintro v44 L1 ⟨rfl,rfl⟩
  refine As (AE (Bs (qs:=[(0,_)]) rfl rfl rfl) (fun b45=>?_))
  refine AE (AF (GK b45 1 (str (FT l)) (by rw [Di]; omega)) rfl rfl AG) ?_
  rintro v46 L1 ⟨rfl,rfl⟩
  refine As ?_
  refine AE (AF (Cb p (Ji (FT l)) (FT l) (JA _) AC) rfl rfl AG) ?_
  rintro v47 L1 ⟨rfl,rfl⟩
  refine As (AI [5] rfl (Aj ?_))
  rw [show FT l++Br 4 (Ji (FT l))=Dp l from rfl]
  refine Am (Ah rfl ?_)
  refine AE (AF (DX p (Dp l) (fun e=>by rw [e,List.length_nil] at hce; omega)) rfl rfl AG) ?_
  rintro v49 L1 ⟨rfl,rfl⟩
  refine As (B2 rfl (Au [2,3] rfl rfl (Av ?_)))
  exact Aw [ro μ] (.tmp rfl (.tmp rfl .nil)) ⟨rfl,rfl⟩ AG
def Cw (l:List Lk):Nat:=l.foldl (fun m x=>max m (x.1+1)) 0
theorem SJ {l:List Lk}{i:Nat}{x:Lk}(h:l[i]? = some x):Cw (l.take (i+1))=max (Cw (l.take i)) (x.1+1):=by
 unfold Cw
 rw [List.take_add_one,h,List.foldl_append]; rfl
theorem Y3 {l:List Lk}{m:Nat}(h:∀ x∈l,x.1<m):Cw l≤m:=by
 have:∀ (k:List Lk) (a:Nat),a≤m→(∀ x∈k,x.1<m)→k.foldl (fun m x=>max m (x.1+1)) a≤m:=by
  intro k
  induction k with
  | nil=>intro a ha _; exact ha
  | cons y k ih=>intro a ha hk; exact ih _ (by have:=hk y (List.mem_cons_self ..); show max a (y.1+1)≤m; omega) fun x hx=>hk x (List.mem_cons_of_mem _ hx)
 exact this l 0 (Nat.zero_le _) h
theorem MD {l:List Lk}{x:Lk}(h:x∈l):x.1<Cw l:=by
 have:∀ (k:List Lk) (a:Nat),a≤k.foldl (fun m x=>max m (x.1+1)) a∧∀ x∈k,x.1<k.foldl (fun m x=>max m (x.1+1)) a:=by
  intro k
  induction k with
  | nil=>intro a; exact ⟨Nat.le_refl _,fun x hx=>by cases hx⟩
  | cons y k ih =>
   intro a
   obtain ⟨h1,h2⟩:=ih (max a (y.1+1))
   refine ⟨by show a≤_; rw [List.foldl_cons]; omega,fun x hx=>?_⟩
   rw [List.foldl_cons]
   rcases List.mem_cons.1 hx with rfl | hx
   ·omega
   ·exact h2 x hx
 exact (this l 0).2 x h
theorem ME {κ:Type}[DecidableEq κ]{P:Program}{env:CA}{L:List AK}{t kt et b c:Nat}{kv:κ→Value}{l:BM κ}{z v:Value}[hm:TMap P t kt et][hk:TKey P kt kv][hz:TZv P et z]{m x:Operand}[hb:InM b L kv l c](a:κ)(hx:AO env m=some (.map (some b)))(hy:AO env x=some (kv a))(h:(C7 l a).getD z=v):Rd P env L (.lookup t m x false) v :=
 h▸PX a hx hy
set_option maxHeartbeats 2000000 in
theorem SK (μ:PH)(v:Value)(l:List Lk)(h:Row μ v 3 l.length (l.flatMap GN))(hok:LkOk l):Spec prog 93 [v] [ro μ] (fun r L=>r=.int .i64 (Cw l:Nat)∧L=[ro μ]):=by
 have hl8:=hok.len
 have hnl:Cw l≤1073741824:=Y3 fun x hx=>by have:=(hok.one x hx).1; omega
 refine Spec.of 38 func93 rfl rfl rfl ?_
 refine Ad (Au [0] rfl rfl (Ad (AE (ET (kv:=LK)) (fun b7=>?_))))
 refine Au [0,3] rfl rfl (Ad (Au [0,3,4] rfl rfl (Aj (Ad (Ah rfl (Af (AW h rfl) (Ah rfl (AI [3,4,8,9,10] rfl (AB ?_)))))))))
 refine B4 (ι:=Nat) (fun i env L=>∃ (ents:BM Int) (clk:Nat),(∀ a,∃ c:Nat,(C7 ents a).getD (.int .i64 0)=.int .i64 (c:Nat)∧c≤i)∧Sub env [(3,.map (some b7)),(4,.int .i64 (Cw (l.take i):Nat)),(8,v),(9,.int .i64 (l.length:Nat)),(10,.int .i64 (i:Nat))]∧Ent L [BI b7 LK ents clk,ro μ]∧i≤l.length) (fun i=>l.length-i) 0 ⟨[],0,fun a=>⟨0,rfl,Nat.le_refl _⟩,⟨rfl,rfl,rfl,rfl,rfl,trivial⟩,Split.ent' AG,Nat.zero_le _⟩ ?_
 rintro i env L ⟨ents,clk,hcnt,hsub,hE,hi⟩
 refine B7 _ hsub (AX hE ?_)
 clear hsub hE env L
 refine Ad (Af (Be rfl rfl) (AI [3,4,8,9,10,11] rfl (Aj ?_)))
 refine Aq rfl (fun h11=>?_) (fun h11=>?_)
 ·have h11':i<l.length:=by have:=of_decide_eq_true h11; omega
  obtain ⟨x,hx⟩:∃ x,l[i]? = some x:=⟨_,List.getElem?_eq_getElem h11'⟩
  obtain ⟨b,off,c2,hv,hr⟩:=Pk h hx
  obtain ⟨o1,o2,o3,o4⟩:=hok.one x (List.mem_of_getElem? hx)
  obtain ⟨cn,hcn,hcl⟩:=hcnt (x.1:Nat)
  have hns:=SJ hx
  refine Ar (Ai (Aj (AB (Ad ?_))))
  refine Af (AA (off+i*3) (congrArg some hv) rfl AC AC (by rw [Int.toNat_natCast])) ?_
  refine AM (Cu (vs:=GN x) rfl rfl hr) (AE (Bd) (fun b6=>?_))
  refine Bh (B8 rfl rfl rfl rfl) (AI [3,4,6,8,9,10] rfl (Ad (Af (Ae rfl) (AM (Ak rfl rfl) ?_))))
  refine AE (AF (IE (x.1:Nat)) rfl rfl AG) ?_
  rintro v16 L1 ⟨rfl,rfl⟩
  refine As (AI [3,4,6,8,9,10,16] rfl ?_)
  refine Aq rfl (fun h16=>?_) (fun h16=>by rw [decide_eq_true AC,decide_eq_true AC] at h16; cases h16)
  refine Ad (Ah rfl (Af (Ae rfl) (AM (Ak rfl rfl) (AM (ME (kv:=LK) (x.1:Nat) rfl rfl hcn) (Af (AQ ((cn+1:Nat):Int) rfl rfl AC AC AC) ?_)))))
  refine Bh (LJ (kv:=LK) (x.1:Nat) rfl rfl rfl AG) ?_
  refine AI [3,4,6,8,9,10] rfl (Am (Ah rfl (Af (Ae rfl) (AM (Ak rfl rfl) (Af (AQ ((x.1+1:Nat):Int) rfl rfl AC AC AC) (Af (Ea rfl rfl) (B2 rfl (Bi [3,4,8,9,10] rfl (AJ (AV (Ai (Am (Af (AQ ((i+1:Nat):Int) rfl rfl AC AC AC) (Ah rfl (Bi [3,4,8,9,10] rfl (AJ ?_))))))))))))))))
  refine Ai ⟨i+1,⟨_,_,fun a=>?_,⟨rfl,by rw [hns]; show some (Value.int .i64 (max _ _))=_; congr 2; omega,rfl,rfl,rfl,trivial⟩,Split.ent' AG,h11'⟩,by omega⟩
  rw [It]
  by_cases ha:(((x.1:Nat):Int))=a
  ·rw [if_pos ha]; exact ⟨cn+1,rfl,by omega⟩
  ·rw [if_neg ha]
   obtain ⟨c,h1,h2⟩:=hcnt a
   exact ⟨c,h1,by omega⟩
 ·have h11':=of_decide_eq_false h11
  obtain rfl:i=l.length:=by omega
  rw [List.take_length]
  refine B3 (AU (AU (AY rfl (Ai (Aj (Ad (Ah rfl ?_)))))))
  refine AE (AF (IE (Cw l:Nat)) rfl rfl AG) ?_
  rintro v29 L1 ⟨rfl,rfl⟩
  refine As (AI [3,4,29] rfl ?_)
  refine Aq rfl (fun h29=>?_) (fun h29=>by rw [decide_eq_true AC,decide_eq_true AC] at h29; cases h29)
  refine Ad (Ah rfl (Au [2] rfl rfl (Av (AZ ?_))))
  exact B6 [ro μ] (.tmp rfl .nil) ⟨rfl,rfl⟩ (Split.ent' AG)
abbrev cB (p:Nat)(room:Int)(mo:Option Nat)(l:List Nd):AK:=B5 p 187 [.int .i64 room,.map mo,pt (hd l none),pt (Hd none l)]
abbrev KI (p:Nat)(room:Int)(mo h t:Option Nat):AK:=B5 p 187 [.int .i64 room,.map mo,pt h,pt t]
theorem Pm {l:List Nd}(h:l≠[]):∃ l' m,l=l'++[m]:=⟨l.dropLast,l.getLast h,(List.dropLast_concat_getLast h).symm⟩
theorem TX {l:List Nd}(h:(Hd none l)=none):l=[]:=by
 rcases Decidable.em (l=[]) with h1 | h1
 ·exact h1
 ·obtain ⟨l',m,rfl⟩:=Pm h1
  rw [He] at h; cases h
theorem Y4 {l:List Nd}(h:hd l none=none):l=[]:=by
 cases l with
 | nil=>rfl
 | cons x l=>cases h
theorem Ll {o:Option Nat}(h:((o.map fun p=>(⟨p,0,none⟩:Addr)).isNone)=true):o=none:=by cases o with
 | none=>rfl
 | some x=>cases h
theorem Lm {o:Option Nat}(h:((o.map fun p=>(⟨p,0,none⟩:Addr)).isNone)=false):o≠none:=by cases o with
 | none=>cases h
 | some x=>exact fun h=>by cases h
set_option maxHeartbeats 4000000 in
theorem KJ (p:Nat)(room:Int)(mo:Option Nat)(a:List Nd)(x:Nd)(b:List Nd):Spec prog 115 [pv p,pv x.p] [cB p room mo (a++x::b),dA 233 none (a++x::b) none] (fun r L=>r=.tuple #[]∧L=[dA 233 none (a++b) none,G4 233 x none none,cB p room mo (a++b)]):=by
 have e1:hd (a++x::b) none=hd a (some x.p):=by rw [Gj]; rfl
 have e2:Hd none (a++x::b)=Hd (some x.p) b:=by rw [Lh]; rfl
 unfold cB
 rw [e1,e2]
 refine Spec.of 54 func115 rfl rfl rfl ?_
 refine AX (Ent.swap.trans Xr) ?_
 obtain ⟨o,ho⟩:∃ o,Hd none a=o:=⟨_,rfl⟩
 obtain ⟨e,he⟩:∃ e,hd b none=e:=⟨_,rfl⟩
 obtain ⟨h0,hh0⟩:∃ h,hd a (some x.p)=h:=⟨_,rfl⟩
 obtain ⟨t0,ht0⟩:∃ t,Hd (some x.p) b=t:=⟨_,rfl⟩
 rw [ho,he,hh0,ht0]
 clear e1 e2
 refine Aj (Ad (Ah rfl (Af (Al rfl) (Af (Ae rfl) (AM (Ak rfl rfl) (Af (Bm rfl rfl) (AI [0,1,8] rfl ?_)))))))
 refine Aq rfl (fun h8=>?_) (fun h8=>?_)
 ·obtain rfl:=Ll h8
  obtain rfl:=TX ho
  refine Am (Ah rfl (Ah rfl (Af (Al rfl) (Af (Ae rfl) (AM (Ak rfl rfl) (Af (Al rfl) (Af (Ae rfl) (Bh (Ba rfl rfl rfl) (AI [0,1] rfl (Aj (Ad (Ah rfl (Af (Al rfl) (Af (Ae rfl) (AM (Ak rfl rfl) (Af (Bm rfl rfl) (AI [0,1,30] rfl ?_)))))))))))))))))
  refine Aq rfl (fun h30=>?_) (fun h30=>?_)
  ·obtain rfl:=Ll h30
   obtain rfl:=Y4 he
   refine Am (Ah rfl (Ah rfl (Af (Al rfl) (Af (Ae rfl) (AM (Ak rfl rfl) (Af (Al rfl) (Af (Ae rfl) (Bh (Ba rfl rfl rfl) (AI [1] rfl (Am (Ah rfl (Ah rfl (Af (Al rfl) (Af (Ae rfl) (Bh (Ba rfl rfl rfl) (Af (Al rfl) (Af (Ae rfl) (Bh (Ba rfl rfl rfl) (C3 _ .nil (AJ ?_))))))))))))))))))))
   exact B6 [dA 233 none [] none,G4 233 x none none,KI p room mo none none] (.nil) ⟨rfl,rfl⟩ ((Split.ent' (K:=[ndV 233 x (.pointer none) (.pointer none),KI p room mo none none]) AG).trans M7)
  ·obtain ⟨m',b',rfl⟩:∃ m' b',b=m'::b':=by
    cases b with
    | nil=>exact absurd he.symm (Lm h30)
    | cons m' b'=>exact ⟨m',b',rfl⟩
   replace he:some m'.p=e:=he
   subst he
   refine AX ((Split.ent' (K:=[dA 233 (some x.p) (m'::b') none,G4 233 x none (some m'.p),KI p room mo (some m'.p) t0]) AG).trans dA_cons) ?_
   refine Bb [3,7] ([G4 233 x none (some m'.p)]) ([G4 233 m' (some x.p) (hd b' none),dA 233 (some m'.p) b' none,KI p room mo (some m'.p) t0]) (Split.ent AG) AP ?_
   refine AD 0 rfl (AH rfl) (AD 1 rfl (Al rfl) (AD 2 rfl (Ae rfl) (Bl 3 rfl (Ak rfl rfl) rfl (AD 4 rfl (AH rfl) (AD 5 rfl (Al rfl) (AD 6 rfl (Ae rfl) (Bl 7 rfl (Ak rfl rfl) rfl (AD 8 rfl (Al rfl) (AD 9 rfl (Ae rfl) (Cx 10 rfl AP AP (Ba rfl rfl rfl) (BZ [1] rfl (Bv AP (Ai (Am (Ah rfl (Ah rfl (Af (Al rfl) (Af (Ae rfl) (Bh (Ba rfl rfl rfl) (Af (Al rfl) (Af (Ae rfl) (Bh (Ba rfl rfl rfl) (C3 _ .nil (AJ ?_))))))))))))))))))))))))
   subst ht0
   exact B6 [dA 233 none (m'::b') none,G4 233 x none none,KI p room mo (some m'.p) (Hd (some m'.p) b')] (.nil) ⟨rfl,rfl⟩ ((Split.ent' (K:=[G4 233 m' none (hd b' none),dA 233 (some m'.p) b' none,ndV 233 x (.pointer none) (.pointer none),KI p room mo (some m'.p) (Hd (some x.p) (m'::b'))]) AG).trans dA_uncons)
 ·obtain ⟨a',m,rfl⟩:=Pm (l:=a) (fun h=>Lm h8 (by rw [← ho,h]; rfl))
  rw [He] at ho
  subst ho
  refine AX ((Split.ent' (K:=[dA 233 none (a'++[m]) (some x.p),G4 233 x (some m.p) e,KI p room mo h0 t0,dA 233 (some x.p) b none]) AG).trans TL) ?_
  refine Bb [3,7] ([G4 233 x (some m.p) e]) ([G4 233 m (Hd none a') (some x.p),dA 233 none a' (some m.p),KI p room mo h0 t0,dA 233 (some x.p) b none]) (Split.ent AG) AP ?_
  refine AD 0 rfl (AH rfl) (AD 1 rfl (Al rfl) (AD 2 rfl (Ae rfl) (Bl 3 rfl (Ak rfl rfl) rfl (AD 4 rfl (AH rfl) (AD 5 rfl (Al rfl) (AD 6 rfl (Ae rfl) (Bl 7 rfl (Ak rfl rfl) rfl (AD 8 rfl (Al rfl) (AD 9 rfl (Ae rfl) (Cx 10 rfl AP AP (Ba rfl rfl rfl) (BZ [0,1] rfl (Bv AP (Ai (Aj (Ad (Ah rfl (Af (Al rfl) (Af (Ae rfl) (AM (Ak rfl rfl) (Af (Bm rfl rfl) (AI [0,1,30] rfl ?_)))))))))))))))))))))
  refine Aq rfl (fun h30=>?_) (fun h30=>?_)
  ·obtain rfl:=Ll h30
   obtain rfl:=Y4 he
   refine Am (Ah rfl (Ah rfl (Af (Al rfl) (Af (Ae rfl) (AM (Ak rfl rfl) (Af (Al rfl) (Af (Ae rfl) (Bh (Ba rfl rfl rfl) (AI [1] rfl (Am (Ah rfl (Ah rfl (Af (Al rfl) (Af (Ae rfl) (Bh (Ba rfl rfl rfl) (Af (Al rfl) (Af (Ae rfl) (Bh (Ba rfl rfl rfl) (C3 _ .nil (AJ ?_))))))))))))))))))))
   refine B6 [dA 233 none (a'++[m]) none,G4 233 x none none,KI p room mo h0 (some m.p)] (.nil) ⟨rfl,?_⟩ ((Split.ent' (K:=[G4 233 m (Hd none a') none,dA 233 none a' (some m.p),ndV 233 x (.pointer none) (.pointer none),KI p room mo h0 (some m.p)]) AG).trans NH)
   rw [List.append_nil,He,← hh0,Gj,Gj]; rfl
  ·obtain ⟨m',b',rfl⟩:∃ m' b',b=m'::b':=by
    cases b with
    | nil=>exact absurd he.symm (Lm h30)
    | cons m' b'=>exact ⟨m',b',rfl⟩
   replace he:some m'.p=e:=he
   subst he
   refine AX ((Split.ent' (K:=[dA 233 (some x.p) (m'::b') none,G4 233 x (some m.p) (some m'.p),G4 233 m (Hd none a') (some m'.p),dA 233 none a' (some m.p),KI p room mo h0 t0]) AG).trans dA_cons) ?_
   refine Bb [3,7] ([G4 233 x (some m.p) (some m'.p)]) ([G4 233 m' (some x.p) (hd b' none),dA 233 (some m'.p) b' none,G4 233 m (Hd none a') (some m'.p),dA 233 none a' (some m.p),KI p room mo h0 t0]) (Split.ent AG) AP ?_
   refine AD 0 rfl (AH rfl) (AD 1 rfl (Al rfl) (AD 2 rfl (Ae rfl) (Bl 3 rfl (Ak rfl rfl) rfl (AD 4 rfl (AH rfl) (AD 5 rfl (Al rfl) (AD 6 rfl (Ae rfl) (Bl 7 rfl (Ak rfl rfl) rfl (AD 8 rfl (Al rfl) (AD 9 rfl (Ae rfl) (Cx 10 rfl AP AP (Ba rfl rfl rfl) (BZ [1] rfl (Bv AP (Ai (Am (Ah rfl (Ah rfl (Af (Al rfl) (Af (Ae rfl) (Bh (Ba rfl rfl rfl) (Af (Al rfl) (Af (Ae rfl) (Bh (Ba rfl rfl rfl) (C3 _ .nil (AJ ?_))))))))))))))))))))))))
   refine B6 [dA 233 none (a'++[m]++m'::b') none,G4 233 x none none,KI p room mo h0 t0] (.nil) ⟨rfl,?_⟩ ((Split.ent' (K:=[G4 233 m (Hd none a') (some m'.p),dA 233 none a' (some m.p),G4 233 m' (some m.p) (hd b' none),dA 233 (some m'.p) b' none,ndV 233 x (.pointer none) (.pointer none),KI p room mo h0 t0]) AG).trans TM)
   rw [← hh0,← ht0,Gj,Gj,Gj,Lh,He]; rfl
end SX
namespace SX
open Go Go.Proofs Go.MapKept
theorem Vt {κ:Type}[DecidableEq κ]{P:Program}{env:CA}{L:List AK}{t kt et:Nat}{kv:κ→Value}{z:Value}[hm:TMap P t kt et][hk:TKey P kt kv][hz:TZv P et z]{m x:Operand}(a:κ)(hx:AO env m=some (.map none))(hy:AO env x=some (kv a)):Rd P env L (.lookup t m x false) z:=by
 intro ρ hρ dst ty pos af g E w hh
 obtain ⟨d,hd,hik,hs⟩:=hk.ok
 have hck:∀ e,(Instr.checkKey e 10000 kt (kv a)).run P w=.ok () w:=fun e=>run_checkKey (P:=P) (w:=w) hd (hik a) e 9999
 rcases FO hs a [] 0 with ⟨_,h2,_⟩ | ⟨j,v,h1,_⟩
 ·have hf:=run_findKey (P:=P) (w:=w) (l:=([]:BM κ).map (G2 kv)) hd h2
  simp only [List.map_nil] at hf
  simp [execOp,hρ m _ hx,hρ x _ hy,Instr.lookup,run_underlying hm.und,hck,hf,hz.run w,Result.andThen]
 ·cases h1
structure CM (ents:BM ByteArray) (l:List Nd):Prop where
 look:∀ k v,C7 ents k=some v↔∃ x∈l,x.k=k∧v=pv x.p
 nod:(l.map (·.k)).Nodup
 en:(ents.map (·.1)).Nodup
theorem CM.no{ents:BM ByteArray}{l:List Nd}(h:CM ents l){k:ByteArray}(hk:∀ x∈l,x.k≠k):C7 ents k=none:=by
 cases hm:C7 ents k with
 | none=>rfl
 | some v =>
  obtain ⟨x,hx,e,_⟩:=(h.look k v).1 hm
  exact absurd e (hk x hx)
theorem CM.perm{ents:BM ByteArray}{l l':List Nd}(h:CM ents l)(hp:l.Perm l'):CM ents l' :=
 ⟨fun k v=>(h.look k v).trans ⟨fun ⟨x,hx,e⟩=>⟨x,hp.mem_iff.1 hx,e⟩,fun ⟨x,hx,e⟩=>⟨x,hp.mem_iff.2 hx,e⟩⟩,(hp.map _).nodup_iff.1 h.nod,h.en⟩
theorem CM.new{ents:BM ByteArray}{l:List Nd}(h:CM ents l)(x:Nd)(hx:∀ y∈l,y.k≠x.k)(clk:Nat):CM (upd ents clk x.k (pv x.p)) (l++[x]):=by
 refine ⟨fun k v=>?_,?_,Qa h.en ..⟩
 ·rw [It]
  by_cases hk:x.k=k
  ·rw [if_pos hk]
   constructor
   ·intro e; exact ⟨x,by simp,hk,(Option.some.inj e).symm⟩
   ·rintro ⟨y,hy,e1,e2⟩
    rcases List.mem_append.1 hy with hy | hy
    ·exact absurd (e1.trans hk.symm) (hx y hy)
    ·obtain rfl:=List.mem_singleton.1 hy
     rw [e2]
  ·rw [if_neg hk,h.look]
   constructor
   ·rintro ⟨y,hy,e⟩; exact ⟨y,List.mem_append_left _ hy,e⟩
   ·rintro ⟨y,hy,e1,e2⟩
    rcases List.mem_append.1 hy with hy | hy
    ·exact ⟨y,hy,e1,e2⟩
    ·obtain rfl:=List.mem_singleton.1 hy
     exact absurd e1 hk
 ·rw [List.map_append,List.nodup_append]
  refine ⟨h.nod,by simp,fun a ha b hb e=>?_⟩
  obtain ⟨y,hy,rfl⟩:=List.mem_map.1 ha
  have hb':b=x.k:=by simpa using hb
  exact hx y hy (e.trans hb')
theorem CM.del{ents:BM ByteArray}{a b:List Nd}{x:Nd}(h:CM ents (a++x::b)):CM (del ents x.k) (a++b):=by
 have hp:(a++x::b).Perm (x::(a++b)):=List.perm_middle
 have hn:=(hp.map (·.k)).nodup_iff.1 h.nod
 rw [List.map_cons,List.nodup_cons] at hn
 refine ⟨fun k v=>?_,hn.2,LS h.en _⟩
 rw [K3 h.en]
 by_cases hk:x.k=k
 ·rw [if_pos hk]
  constructor
  ·intro e; cases e
  ·rintro ⟨y,hy,e1,_⟩
   exact absurd (List.mem_map.2 ⟨y,hy,e1.trans hk.symm⟩) hn.1
 ·rw [if_neg hk,h.look]
  constructor
  ·rintro ⟨y,hy,e1,e2⟩
   rcases List.mem_cons.1 (hp.mem_iff.1 hy) with rfl | hy
   ·exact absurd e1 hk
   ·exact ⟨y,hy,e1,e2⟩
  ·rintro ⟨y,hy,e⟩; exact ⟨y,hp.mem_iff.2 (List.mem_cons_of_mem _ hy),e⟩
inductive CaW (l:List Nd) where
 | nil (h:l=[])
 | map (m:Nat) (ents:BM ByteArray) (clk:Nat) (h:CM ents l)
def CaW.mo {l:List Nd}:CaW l→Option Nat
 | .nil _=>none
 | .map m _ _ _=>some m
def ZN {l:List Nd}(c:CaW l):AK:=exA fun _:Unit=>match c with
 | .nil _=>[]
 | .map m ents clk _=>[dA 233 none l none,BI m BN ents clk]
abbrev caL (p:Nat)(room:Int)(l:List Nd)(c:CaW l):List AK:=[cB p room c.mo l,ZN c]
def Eg (p:Nat)(room:Int)(l:List Nd):AK:=exA (caL p room l)
theorem TY {l:List Nd}{c:CaW l}(h:c.mo=none):l=[]:=by
 cases c with
 | nil h1=>exact h1
 | map m ents clk h1=>cases h
theorem TZ {l:List Nd}{c:CaW l}{m:Nat}(h:c.mo=some m):∃ ents clk,CM ents l∧∀ L,Ent (ZN c::L) (dA 233 none l none::BI m BN ents clk::L):=by
 cases c with
 | nil h1=>cases h
 | map m' ents clk h1 =>
  cases h
  exact ⟨ents,clk,h1,fun L m hm=>by obtain ⟨_,h⟩:=Ew hm; exact h⟩
theorem U0 {p:Nat}{room:Int}{L:List AK}:Ent (cB p room none []::L) (Eg p room []::L):=by
 refine Ent.trans ?_ (DZ (F:=caL p room []) (CaW.nil rfl))
 exact Ent.under (DZ (F:=fun _:Unit=>[]) ()) [_]
theorem Ln {p:Nat}{room:Int}{l:List Nd}{m:Nat}{ents:BM ByteArray}{clk:Nat}{L:List AK}(h:CM ents l):Ent (cB p room (some m) l::dA 233 none l none::BI m BN ents clk::L) (Eg p room l::L):=by
 refine Ent.trans ?_ (DZ (F:=caL p room l) (CaW.map m ents clk h))
 exact Ent.under (DZ (F:=fun _:Unit=>[dA 233 none l none,BI m BN ents clk]) ()) [_]
theorem ZO {p:Nat}{room:Int}{l:List Nd}{x:Nd}(hx:x∈l){ro:Option Nat}{c:Code}{Q:DK}{N:Nat}{env:CA}{L:List AK}(h:∀ m ents clk,CM ents l→FZ Tryz.prog ro c Q N env (cB p room (some m) l::dA 233 none l none::BI m BN ents clk::L)):FZ Tryz.prog ro c Q N env (Eg p room l::L):=by
 refine J6 fun c=>?_
 cases hm:c.mo with
 | none=>rw [TY hm] at hx; cases hx
 | some m =>
  obtain ⟨ents,clk,hc,hE⟩:=TZ hm
  refine AX ?_ (h m ents clk hc)
  show Ent (cB p room c.mo l::ZN c::L) _
  rw [hm]
  exact Ent.under (hE L) [_]
abbrev cBv (p:Nat)(room:Int)(mo:Option Nat)(h t:Value):AK:=B5 p 187 [.int .i64 room,.map mo,h,t]
theorem Y5 (p:Nat)(room:Int)(h t:Option Nat)(k:ByteArray):Spec Tryz.prog 114 [pv p,.string k] [KI p room none h t] (fun r L=>r=.pointer none∧L=[KI p room none h t]):=by
 refine Spec.of 13 Tryz.func114 rfl rfl rfl ?_
 refine Ad (Au [0,1] rfl rfl (Aj (Ad (Ah rfl (Af (Bm rfl rfl) (AI [0,1,6] rfl (Dw rfl (Ar (Ai (Ad (Ah rfl (Af (Al rfl) (Af (Ae rfl) (AM (Ak rfl rfl) (Ah rfl (AM (Vt (kv:=BN) k rfl rfl) (Au [4] rfl rfl (Av ?_))))))))))))))))))
 exact Aw [KI p room none h t] (.tmp rfl .nil) ⟨rfl,rfl⟩ AG
theorem MF (p:Nat)(room:Int)(h t:Option Nat)(k:ByteArray)(m:Nat)(ents:BM ByteArray)(clk:Nat)(v:Value)(hv:(C7 ents k).getD (.pointer none)=v):Spec Tryz.prog 114 [pv p,.string k] [KI p room (some m) h t,BI m BN ents clk] (fun r L=>r=v∧L=[KI p room (some m) h t,BI m BN ents clk]):=by
 refine Spec.of 13 Tryz.func114 rfl rfl rfl ?_
 refine Ad (Au [0,1] rfl rfl (Aj (Ad (Ah rfl (Af (Bm rfl rfl) (AI [0,1,6] rfl (Dw rfl (Ar (Ai (Ad (Ah rfl (Af (Al rfl) (Af (Ae rfl) (AM (Ak rfl rfl) (Ah rfl (AM (ME (kv:=BN) k rfl rfl hv) (Au [4] rfl rfl (Av ?_))))))))))))))))))
 exact Aw [KI p room (some m) h t,BI m BN ents clk] (.tmp rfl .nil) ⟨rfl,rfl⟩ AG
def A0A (l:List Nd)(k:ByteArray)(v:Value):Prop:=(∃ x∈l,x.k=k∧v=pv x.p)∨((∀ x∈l,x.k≠k)∧v=.pointer none)
theorem CM.find{ents:BM ByteArray}{l:List Nd}(h:CM ents l){k:ByteArray}{v:Value}(hv:A0A l k v):(C7 ents k).getD (.pointer none)=v:=by
 rcases hv with ⟨x,hx,e1,rfl⟩ | ⟨hn,rfl⟩
 ·rw [(h.look k (pv x.p)).2 ⟨x,hx,e1,rfl⟩]; rfl
 ·rw [h.no hn]; rfl
theorem Lo (p:Nat)(room:Int)(l:List Nd)(k:ByteArray)(v:Value)(hv:A0A l k v):Spec Tryz.prog 114 [pv p,.string k] [Eg p room l] (fun r L=>r=v∧L=[Eg p room l]):=by
 refine Spec.exA' fun c=>?_
 cases c with
 | nil h =>
  refine Spec.ent3 (Spec.fr (Y5 p room (hd l none) (Hd none l) k) [ZN (.nil h)]) ?_
  rintro r L ⟨L',⟨rfl,rfl⟩,rfl⟩
  refine ⟨_,DZ (F:=caL p room l) (CaW.nil h) (L:=[]),?_,rfl⟩
  rcases hv with ⟨x,hx,_⟩ | ⟨_,rfl⟩
  ·rw [h] at hx; cases hx
  ·rfl
 | map m ents clk h =>
  refine Spec.pre (Spec.ent3 (Spec.fr (MF p room (hd l none) (Hd none l) k m ents clk v (h.find hv)) [dA 233 none l none]) ?_) (pre':=_) ?_
  ·rintro r L ⟨L',⟨rfl,rfl⟩,rfl⟩
   refine ⟨_,?_,rfl,rfl⟩
   exact Ent.trans (Ent.under Ent.swap [_]) (Ln h (L:=[]))
  ·show Ent [cB p room (some m) l,ZN (.map m ents clk h)] [KI p room (some m) (hd l none) (Hd none l),BI m BN ents clk,dA 233 none l none]
   exact (Ent.under (fun m' hm'=>by obtain ⟨_,h⟩:=Ew hm'; exact h:Ent [ZN (.map m ents clk h)] [dA 233 none l none,BI m BN ents clk]) [_]).trans (Ent.under Ent.swap [_])
theorem O3 (p:Nat)(room:Int)(mo:Option Nat)(l:List Nd)(x:Nd):Spec Tryz.prog 116 [pv p,pv x.p] [cB p room mo l,dA 233 none l none,G4 233 x none none] (fun r L=>r=.tuple #[]∧L=[dA 233 none (l++[x]) none,cB p room mo (l++[x])]):=by
 unfold cB
 refine Spec.of 31 Tryz.func116 rfl rfl rfl ?_
 obtain ⟨o,ho⟩:∃ o,Hd none l=o:=⟨_,rfl⟩
 obtain ⟨h0,hh0⟩:∃ h,hd l none=h:=⟨_,rfl⟩
 rw [ho,hh0]
 refine Ad (Ah rfl (Ah rfl (Af (Al rfl) (Af (Ae rfl) (AM (Ak rfl rfl) (Af (Al rfl) (Af (Ae rfl) (Bh (Ba rfl rfl rfl) (AI [0,1] rfl (Aj (Ad (Ah rfl (Af (Al rfl) (Af (Ae rfl) (AM (Ak rfl rfl) (Af (Bm rfl rfl) (AI [0,1,15] rfl ?_)))))))))))))))))
 refine Aq rfl (fun h15=>?_) (fun h15=>?_)
 ·obtain rfl:=Ll h15
  obtain rfl:=TX ho
  obtain rfl:none=h0:=hh0
  refine Am (Ah rfl (Ah rfl (Af (Al rfl) (Af (Ae rfl) (Bh (Ba rfl rfl rfl) (AI [0,1] rfl (Am (Ah rfl (Ah rfl (Af (Al rfl) (Af (Ae rfl) (Bh (Ba rfl rfl rfl) (C3 _ .nil (AJ ?_))))))))))))))
  exact Gr [dA 233 none [x] none,KI p room mo (some x.p) (some x.p)] .nil ⟨rfl,rfl⟩ ((Split.ent' (K:=[G4 233 x none none,cBv p room mo (pv x.p) (pv x.p)]) AG).trans ((Ent.under (M7 (tn:=233) (o:=some x.p) (e:=none)) [G4 233 x none none]).trans (dA_uncons (tn:=233) (o:=none) (x:=x) (l:=[]) (e:=none))))
 ·obtain ⟨l',m,rfl⟩:=Pm (l:=l) (fun h=>Lm h15 (by rw [← ho,h]; rfl))
  rw [He] at ho
  subst ho
  refine AX ((Split.ent' (K:=[dA 233 none (l'++[m]) none,G4 233 x (some m.p) none,KI p room mo h0 (some m.p)]) AG).trans TL) ?_
  refine Am (Ah rfl (Af (Al rfl) (Af (Ae rfl) (AM (Ak rfl rfl) (Ah rfl (Af (Al rfl) (Af (Ae rfl) (Bh (Ba rfl rfl rfl) (AI [0,1] rfl (Am (Ah rfl (Ah rfl (Af (Al rfl) (Af (Ae rfl) (Bh (Ba rfl rfl rfl) (C3 _ .nil (AJ ?_)))))))))))))))))
  refine Gr [dA 233 none (l'++[m]++[x]) none,KI p room mo h0 (some x.p)] .nil ⟨rfl,?_⟩ ((Split.ent' (K:=[ndV 233 m (pt (Hd none l')) (pv x.p),dA 233 none l' (some m.p),G4 233 x (some m.p) none,cBv p room mo (pt h0) (pv x.p)]) AG).trans ((Ent.under (M7 (tn:=233) (o:=some x.p) (e:=none)) [_,_,_]).trans (TM (b:=[]))))
  rw [← hh0,He,Gj,Gj,Gj]; rfl
end SX
namespace SX
open Go Go.Proofs Go.Proofs.Tryz
theorem Vu (p:Nat)(room:Int)(m:Nat)(a b:List Nd)(x:Nd)(ents:BM ByteArray)(clk:Nat)(hc:CM ents (a++x::b)):Spec prog 131 [pv p,.string x.k] [cB p room (some m) (a++x::b),dA 233 none (a++x::b) none,BI m BN ents clk] (fun r L=>r=.bool true∧L=[dA 233 none (a++b) none,G4 233 x none none,cB p room (some m) (a++b),BI m BN (del ents x.k) clk]):=by
 have hl:(C7 ents x.k).getD (.pointer none)=pv x.p:=by rw [(hc.look x.k (pv x.p)).2 ⟨x,by simp,rfl,rfl⟩]; rfl
 refine Spec.of 19 func131 rfl rfl rfl ?_
 refine Ad (Au [0,1] rfl rfl (Ad (Ah rfl (Ah rfl ?_))))
 refine AE (AF (MF p room _ _ x.k m ents clk _ hl) rfl rfl AG) ?_
 rintro v8 L1 ⟨rfl,rfl⟩
 refine As (Au [0,1,5] rfl rfl (Aj (Ad (Ah rfl (Af (Bm rfl rfl) (AI [0,1,5,10] rfl (Dw rfl (Ar (Ai (Ad (Ah rfl (Ah rfl ?_))))))))))))
 refine AE (AF (KJ p room (some m) a x b) rfl rfl AG) ?_
 rintro v13 L1 ⟨rfl,rfl⟩
 refine As (AI [0,1] rfl (Ad (Ah rfl (Af (Al rfl) (Af (Ae rfl) (AM (Ak rfl rfl) (Ah rfl ?_)))))))
 refine Bh (Nz (kv:=BN) x.k rfl rfl AG) ?_
 refine C3 _ .nil (Dj (Ad (Au [4] rfl rfl (Av ?_))))
 exact Aw [dA 233 none (a++b) none,G4 233 x none none,cB p room (some m) (a++b),BI m BN (del ents x.k) clk] (.tmp rfl .nil) ⟨rfl,rfl⟩ AG
theorem Y6 (p:Nat)(room:Int)(m:Nat)(l:List Nd)(x:Nd)(ents:BM ByteArray)(clk:Nat)(hc:CM ents l)(hx:x∈l):Spec prog 117 [pv p,.string x.k] [cB p room (some m) l,dA 233 none l none,BI m BN ents clk] (fun r L=>r=.tuple #[.agg (Lg x.a).toArray,.bool true]∧L=[cB p room (some m) l,dA 233 none l none,BI m BN ents clk]):=by
 have hl:(C7 ents x.k).getD (.pointer none)=pv x.p:=by rw [(hc.look x.k (pv x.p)).2 ⟨x,hx,rfl,rfl⟩]; rfl
 refine Spec.of 18 func117 rfl rfl rfl ?_
 refine Ad (AE (Bd) (fun b4=>?_))
 refine Au [0,1,4] rfl rfl (Aj (Ad (Ah rfl (Ah rfl ?_))))
 refine AE (AF (MF p room _ _ x.k m ents clk _ hl) rfl rfl AG) ?_
 rintro v8 L1 ⟨rfl,rfl⟩
 refine As (Au [4,6] rfl rfl (Ad (Ah rfl (Af (Ct rfl rfl) (AI [4,6,12] rfl (Tv rfl ?_))))))
 obtain ⟨a,b,hab⟩:=List.append_of_mem hx
 refine AX (show Ent _ (G4 233 x (Hd none a) (hd b none)::dA 233 (some x.p) b none::dA 233 none a (some x.p)::[cB p room (some m) l,BI m BN ents clk,B5 b4 62 [.int .i64 0,.bool false,.int .i64 0,.slice none 0 0,.slice none 0 0]]) from ?_) ?_
 ·refine Ent.trans (Split.ent' (K:=[dA 233 none l none,cB p room (some m) l,BI m BN ents clk,B5 b4 62 [.int .i64 0,.bool false,.int .i64 0,.slice none 0 0,.slice none 0 0]]) AG) ?_
  rw [hab]
  exact Xr
 refine Ad (Ah rfl (Af (Al rfl) (Af (Ae rfl) (AM (BL (vs:=[.int .i64 x.a.e,.bool x.a.y,.int .i64 x.a.n,TK x.a.i,TK x.a.t]) rfl rfl rfl) (Bh (B8 rfl rfl rfl rfl) (Au [4,5] rfl rfl (Av (AZ ?_))))))))
 refine B6 [cB p room (some m) l,dA 233 none l none,BI m BN ents clk] (.cell rfl (BT rfl) (.tmp rfl .nil)) ⟨rfl,rfl⟩ ((Split.ent' (K:=[G4 233 x (Hd none a) (hd b none),dA 233 (some x.p) b none,dA 233 none a (some x.p),BI m BN ents clk,cB p room (some m) l]) AG).trans ?_)
 refine dA_unmid.trans ?_
 rw [← hab]
 exact Split.ent' AG
abbrev an0:An:=⟨0,false,0,(none,0,0),(none,0,0)⟩
theorem ZP (p:Nat)(room:Int)(l:List Nd)(k:ByteArray)(hn:∀ x∈l,x.k≠k):Spec prog 117 [pv p,.string k] [Eg p room l] (fun r L=>r=.tuple #[.agg (Lg an0).toArray,.bool false]∧L=[Eg p room l]):=by
 refine Spec.of 18 func117 rfl rfl rfl ?_
 refine Ad (AE (Bd) (fun b4=>?_))
 refine Au [0,1,4] rfl rfl (Aj (Ad (Ah rfl (Ah rfl ?_))))
 refine AE (AF (Lo p room l k (.pointer none) (.inr ⟨hn,rfl⟩)) rfl rfl AG) ?_
 rintro v8 L1 ⟨rfl,rfl⟩
 refine As (Au [4,6] rfl rfl (Ad (Ah rfl (Af (Ct rfl rfl) (AI [4,6,12] rfl (Dw rfl (Ar (Ai (Ad (AE (Bd) (fun b7=>?_)))))))))))
 refine AI [4,7] rfl (Ad (AM (Cn rfl rfl) (Bh (B8 rfl rfl rfl rfl) (Au [4,5] rfl rfl (Av ?_)))))
 exact Aw [Eg p room l] (.cell rfl (BT rfl) (.tmp rfl .nil)) ⟨rfl,rfl⟩ AG
theorem A0Z(p:Nat)(room:Int)(l:List Nd)(k:ByteArray)(hn:∀ x∈l,x.k≠k):Spec prog 65 [pv p,.string k] [Eg p room l] (fun r L=>r=.tuple #[.agg (Lg an0).toArray,.bool false]∧L=[Eg p room l]):=by
 refine Spec.of 23 func65 rfl rfl rfl ?_
 refine Ad (AE (Bd) (fun b4=>?_))
 refine Au [0,1,4] rfl rfl (Aj (Ad (Ah rfl (Ah rfl ?_))))
 refine AE (AF (Lo p room l k (.pointer none) (.inr ⟨hn,rfl⟩)) rfl rfl AG) ?_
 rintro v8 L1 ⟨rfl,rfl⟩
 refine As (Au [0,1,4,6] rfl rfl (Ad (Ah rfl (Af (Ct rfl rfl) (AI [0,1,4,6,11] rfl (Dw rfl (Ar (Ai (Ad (Ah rfl (Ah rfl ?_)))))))))))
 refine AE (AF (ZP p room l k hn) rfl rfl AG) ?_
 rintro v20 L1 ⟨rfl,rfl⟩
 refine As (Af (Ax rfl) (Af (Ax rfl) (Bh (B8 rfl rfl rfl rfl) (Au [4,5] rfl rfl (Av ?_)))))
 exact Aw [Eg p room l] (.cell rfl (BT rfl) (.tmp rfl .nil)) ⟨rfl,rfl⟩ AG
theorem ZQ (p:Nat)(room:Int)(l:List Nd)(x:Nd)(hx:x∈l):Spec prog 65 [pv p,.string x.k] [Eg p room l] (fun r L=>∃ l',(∀ y∈l',y∈l)∧r=.tuple #[.agg (Lg x.a).toArray,.bool true]∧L=[Eg p room l']):=by
 refine Spec.of 23 func65 rfl rfl rfl ?_
 refine Ad (AE (Bd) (fun b4=>?_))
 refine Au [0,1,4] rfl rfl (Aj (Ad (Ah rfl (Ah rfl ?_))))
 refine AE (AF (Lo p room l x.k (pv x.p) (.inl ⟨x,hx,rfl,rfl⟩)) rfl rfl AG) ?_
 rintro v8 L1 ⟨rfl,rfl⟩
 refine As (Au [0,1,4,6] rfl rfl (Ad (Ah rfl (Af (Ct rfl rfl) (AI [0,1,4,6,11] rfl (Tv rfl ?_))))))
 refine ZO hx fun m ents clk hc=>?_
 obtain ⟨a,b,hab⟩:=List.append_of_mem hx
 have hpm:l.Perm (a++b++[x]):=by rw [hab]; exact List.perm_middle.trans (List.perm_append_singleton x (a++b)).symm
 have hc':=hc.perm hpm
 rw [hab]
 refine Ad (Ah rfl (Ah rfl ?_))
 refine AE (AF (KJ p room (some m) a x b) rfl rfl AG) ?_
 rintro v14 L1 ⟨rfl,rfl⟩
 refine As (AI [0,1,4,6] rfl (Am (Ah rfl (Ah rfl ?_))))
 refine AE (AF (O3 p room (some m) (a++b) x) rfl rfl AG) ?_
 rintro v17 L1 ⟨rfl,rfl⟩
 refine As (AI [0,1,4] rfl (Ad (Ah rfl (Ah rfl ?_))))
 refine AE (AF (Y6 p room m (a++b++[x]) x ents clk hc' (by simp)) rfl rfl AG) ?_
 rintro v20 L1 ⟨rfl,rfl⟩
 refine As (Af (Ax rfl) (Af (Ax rfl) (Bh (B8 rfl rfl rfl rfl) (Au [4,5] rfl rfl (Av ?_)))))
 refine B6 [Eg p room (a++b++[x])] (.cell rfl (BT rfl) (.tmp rfl .nil)) ⟨_,fun y hy=>by rw [← hab]; exact hpm.mem_iff.2 hy,rfl,rfl⟩ ((Split.ent' (K:=[cB p room (some m) (a++b++[x]),dA 233 none (a++b++[x]) none,BI m BN ents clk]) AG).trans (Ln hc'))
theorem O4 (p:Nat)(room:Int)(l:List Nd):Spec prog 57 [pv p] [Eg p room l] (fun r L=>r=.tuple #[]∧L=[Eg p room []]):=by
 refine Spec.exA' fun c=>?_
 show Spec prog 57 [pv p] [KI p room c.mo (hd l none) (Hd none l),ZN c] _
 refine Spec.of 13 func57 rfl rfl rfl ?_
 refine Ad (Ah rfl (Af (Ct rfl rfl) (AI [0,3] rfl (Tv rfl (Am (Ah rfl (Ah rfl (Ah rfl (Af (Al rfl) (Af (Ae rfl) (Bh (Ba rfl rfl rfl) (Af (Al rfl) (Af (Ae rfl) (Bh (Ba rfl rfl rfl) (Af (Al rfl) (Af (Ae rfl) (Bh (Ba rfl rfl rfl) (C3 _ .nil (AJ ?_)))))))))))))))))))
 exact Gr [Eg p room []] .nil ⟨rfl,rfl⟩ ((Split.ent' (K:=[cBv p room none (.pointer none) (.pointer none)]) AG).trans U0)
theorem Kk:Spec prog 77 [.int .i64 64] [] (fun r L=>∃ p,r=pv p∧L=[Eg p 64 []]):=by
 refine Spec.of 8 func77 rfl rfl rfl ?_
 refine Ad (Au [0] rfl rfl (Ad (Ah rfl (Af (Ea rfl rfl) (Af (DE rfl rfl) (Af (Bz (qs:=[(0,_)]) rfl) (AE (Bp rfl rfl) (fun b7=>?_))))))))
 refine Au [2] rfl rfl (Av ?_)
 exact B6 [Eg b7 64 []] (.tmp rfl .nil) ⟨_,rfl,rfl⟩ ((Split.ent' (K:=[cBv b7 (min (max 64 0) 4096) none (.pointer none) (.pointer none)]) AG).trans U0)
theorem Vv (p:Nat)(room:Int)(l:List Nd)(k:ByteArray)(a:An)(hn:∀ x∈l,x.k≠k):Spec prog 68 [pv p,.string k,.agg (Lg a).toArray] [Eg p room l] (fun _ L=>∃ l',(∀ y∈l',y∈l∨(y.k=k∧y.a=a))∧L=[Eg p room l']):=by
 refine Spec.of 87 func68 rfl rfl rfl ?_
 refine Ad (AE (Bp rfl rfl) (fun b5=>?_))
 refine B2 rfl (AE (Bd) (fun b7=>?_))
 refine Au [0,1,5,7] rfl rfl (Ad (Au [0,1,5,7,9] rfl rfl (Ad (AE (Bd) (fun b10=>?_)))))
 refine AI [0,1,5,7,9,10] rfl (Aj (Ad (Ah rfl (Af (Bm rfl rfl) (AI [0,1,5,7,9,10,15] rfl (Dw rfl (Ar (Ai (Aj (Ad (Ah rfl (Ah rfl ?_))))))))))))
 refine AE (AF (Lo p room l k (.pointer none) (.inr ⟨hn,rfl⟩)) rfl rfl AG) ?_
 rintro v20 L1 ⟨rfl,rfl⟩
 refine As (Au [0,1,5,7,9,10,11] rfl rfl (Ad (Ah rfl (Af (Ct rfl rfl) (AI [0,1,5,7,9,10,11,22] rfl (Dw rfl ?_))))))
 refine AX (Split.ent' (K:=[Eg p room l,B5 b5 62 (Lg a),B5 b7 62 [.int .i64 0,.bool false,.int .i64 0,.slice none 0 0,.slice none 0 0],B5 b10 62 [.int .i64 0,.bool false,.int .i64 0,.slice none 0 0,.slice none 0 0]]) AG) ?_
 refine J6 fun c=>?_
 obtain ⟨mo,hmo⟩:∃ mo,c.mo=mo:=⟨_,rfl⟩
 have hnone:=fun h=>TY (c:=c) h
 have hmap:=fun m h=>TZ (c:=c) (m:=m) h
 refine AX (show Ent _ [KI p room mo (hd l none) (Hd none l),ZN c,B5 b5 62 (Lg a),B5 b7 62 [.int .i64 0,.bool false,.int .i64 0,.slice none 0 0,.slice none 0 0],B5 b10 62 [.int .i64 0,.bool false,.int .i64 0,.slice none 0 0,.slice none 0 0]] from by rw [← hmo]; exact Ent.refl _) ?_
 rw [hmo] at hnone hmap
 refine Ar (Ai ?_)
 refine Co (fun env L=>∃ (m:Nat) (ents:BM ByteArray) (clk:Nat),CM ents l∧Sub env [(0,pv p),(1,.string k),(5,pv b5),(7,pv b7),(9,.string ⟨#[]⟩),(10,pv b10)]∧Ent L [cB p room (some m) l,dA 233 none l none,BI m BN ents clk,B5 b5 62 (Lg a),B5 b7 62 [.int .i64 0,.bool false,.int .i64 0,.slice none 0 0,.slice none 0 0],B5 b10 62 [.int .i64 0,.bool false,.int .i64 0,.slice none 0 0,.slice none 0 0]]) ?_ ?_
 ·refine Ad (Ah rfl (Af (Al rfl) (Af (Ae rfl) (AM (Ak rfl rfl) (Af (IY rfl rfl) (AI [0,1,5,7,9,10,39] rfl ?_))))))
  refine Aq rfl (fun h39=>?_) (fun h39=>?_)
  ·obtain rfl:mo=none:=by cases mo with
    | none=>rfl
    | some m=>cases h39
   obtain rfl:=hnone rfl
   refine Am (Ah rfl (AE (ET (kv:=BN)) (fun b41=>?_)))
   refine Af (Al rfl) (Af (Ae rfl) (Bh (Ba rfl rfl rfl) (Bi [0,1,5,7,9,10] rfl (AJ ?_))))
   refine Ai ⟨b41,[],0,⟨fun k v=>⟨fun h=>(by cases h),fun ⟨x,hx,_⟩=>(by cases hx)⟩,List.nodup_nil,List.nodup_nil⟩,⟨rfl,rfl,rfl,rfl,rfl,rfl,trivial⟩,(Split.ent' (K:=[cBv p room (some b41) (pt (hd [] none)) (pt (Hd none [])),BI b41 BN [] 0,B5 b5 62 (Lg a),B5 b7 62 [.int .i64 0,.bool false,.int .i64 0,.slice none 0 0,.slice none 0 0],B5 b10 62 [.int .i64 0,.bool false,.int .i64 0,.slice none 0 0,.slice none 0 0]]) AG).trans (Ent.under M7 [_])⟩
  ·obtain ⟨m,rfl⟩:∃ m,mo=some m:=by cases mo with
    | none=>cases h39
    | some m=>exact ⟨m,rfl⟩
   obtain ⟨ents,clk,hc,hE⟩:=hmap m rfl
   refine Ar ?_
   refine Ai ⟨m,ents,clk,hc,⟨rfl,rfl,rfl,rfl,rfl,rfl,trivial⟩,?_⟩
   refine (Split.ent' (K:=[cB p room (some m) l,ZN c,B5 b5 62 (Lg a),B5 b7 62 [.int .i64 0,.bool false,.int .i64 0,.slice none 0 0,.slice none 0 0],B5 b10 62 [.int .i64 0,.bool false,.int .i64 0,.slice none 0 0,.slice none 0 0]]) AG).trans ?_
   exact Ent.under (hE _) [_]
 rintro env L ⟨m,ents,clk,hc,hsub,hE⟩
 refine B7 _ hsub (AX hE ?_)
 clear hsub hE env L hnone hmap hmo mo
 refine Ad (Ah rfl (AM (BL (vs:=[.int .i64 a.e,.bool a.y,.int .i64 a.n,TK a.i,TK a.t]) rfl rfl rfl) (Af (Bz (qs:=[(0,_),(1,_)]) rfl) (AE (Bp rfl rfl) (fun b47=>?_)))))
 refine Au [0,1,7,9,10,12] rfl rfl (Ad (Ah rfl (Af (Al rfl) (Af (Ae rfl) (AM (Ak rfl rfl) (Ah rfl (Ah rfl ?_)))))))
 refine Bh (LJ (kv:=BN) k rfl rfl rfl AG) ?_
 refine AI [0,7,9,10,12] rfl (Aj ?_)
 refine AX (show Ent _ [G4 233 ⟨b47,k,a⟩ none none,cB p room (some m) l,dA 233 none l none,BI m BN (upd ents clk k (pv b47)) (K0 ents clk k),B5 b7 62 [.int .i64 0,.bool false,.int .i64 0,.slice none 0 0,.slice none 0 0],B5 b10 62 [.int .i64 0,.bool false,.int .i64 0,.slice none 0 0,.slice none 0 0]] from Split.ent' (K:=[ndV 233 ⟨b47,k,a⟩ (.pointer none) (.pointer none),cB p room (some m) l,dA 233 none l none,BI m BN (upd ents clk k (pv b47)) (K0 ents clk k),B5 b7 62 [.int .i64 0,.bool false,.int .i64 0,.slice none 0 0,.slice none 0 0],B5 b10 62 [.int .i64 0,.bool false,.int .i64 0,.slice none 0 0,.slice none 0 0]]) AG) ?_
 refine Am (Ah rfl (Ah rfl ?_))
 refine AE (AF (O3 p room (some m) l ⟨b47,k,a⟩) rfl rfl AG) ?_
 rintro v56 L1 ⟨rfl,rfl⟩
 refine As (AI [0,7,9,10] rfl (Aj (Aj ?_)))
 have hc':=hc.new ⟨b47,k,a⟩ hn clk
 refine Bb [3,4,8] _ [] (by simp only [List.append_nil]; exact Ent.refl _) AP ?_
 refine AD 0 rfl (AH rfl) (AD 1 rfl (Al rfl) (AD 2 rfl (Ae rfl) (Bl 3 rfl (Ak rfl rfl) rfl (Bl 4 rfl (Iv (κ:=ByteArray) rfl) rfl (AD 5 rfl (AH rfl) (AD 6 rfl (Al rfl) (AD 7 rfl (Ae rfl) (Bl 8 rfl (Ak rfl rfl) rfl (AD 9 rfl (H3 rfl rfl) (BZ [0,7,9,10,66] rfl (De AP (Ai ?_))))))))))))
 refine Aq rfl (fun h66=>?_) (fun h66=>?_)
 ·refine Aj ?_
  refine Bb [1] _ [] (by simp only [List.append_nil]; exact Ent.refl _) AP ?_
  refine AD 0 rfl (AH rfl) (Bl 1 rfl (Cn rfl rfl) rfl (AD 2 rfl (Bf rfl) (Cx 3 rfl AP AP (B8 rfl rfl rfl rfl) (AD 4 rfl (Bf rfl) (BZ [6,7,8] rfl (Bv AP (Ai (Av (AZ ?_)))))))))
  refine B6 [Eg p room (l++[⟨b47,k,a⟩])] (.tmp rfl (.cell rfl (BT rfl) (.tmp rfl .nil))) ⟨_,fun y hy=>?_,rfl⟩ ((Split.ent' (K:=[cB p room (some m) (l++[⟨b47,k,a⟩]),dA 233 none (l++[⟨b47,k,a⟩]) none,BI m BN (upd ents clk k (pv b47)) (K0 ents clk k)]) AG).trans (Ln hc'))
  rcases List.mem_append.1 hy with hy | hy
  ·exact .inl hy
  ·obtain rfl:=List.mem_singleton.1 hy
   exact .inr ⟨rfl,rfl⟩
 ·generalize hE:upd ents clk k (pv b47)=ents' at *
  generalize hC:K0 ents clk k=clk' at *
  obtain ⟨y,b,hyb⟩:∃ y b,l++[(⟨b47,k,a⟩:Nd)]=y::b:=by
   cases l with
   | nil=>exact ⟨_,_,rfl⟩
   | cons y l=>exact ⟨_,_,rfl⟩
  have hin:∀ z∈b,z∈l∨(z.k=k∧z.a=a):=fun z hz=>by
   have hz:z∈l++[(⟨b47,k,a⟩:Nd)]:=by rw [hyb]; exact List.mem_cons_of_mem _ hz
   rcases List.mem_append.1 hz with hz | hz
   ·exact .inl hz
   ·obtain rfl:=List.mem_singleton.1 hz
    exact .inr ⟨rfl,rfl⟩
  have hc2:CM ents' (y::b):=hyb▸hc'
  rw [hyb]
  refine AX ((Split.ent' (K:=[dA 233 none (y::b) none,cB p room (some m) (y::b),BI m BN ents' clk',B5 b7 62 [.int .i64 0,.bool false,.int .i64 0,.slice none 0 0,.slice none 0 0]]) AG).trans dA_cons) ?_
  refine Ar (Ai (Ad (Ah rfl (Af (Al rfl) (Af (Ae rfl) (AM (Ak rfl rfl) (Au [0,7,13] rfl rfl (Aj ?_))))))))
  have hdr:=Vu p room m [] b y ents' clk' hc2
  simp only [List.nil_append] at hdr
  refine Am (Ah rfl (Ah rfl (Af (Al rfl) (Af (Ae rfl) (AM (Ak rfl rfl) ?_)))))
  refine AE (AF (hdr.pre (pre':=[cB p room (some m) (y::b),G4 233 y none (hd b none),dA 233 (some y.p) b none,BI m BN ents' clk']) (Ent.under dA_uncons [_])) rfl rfl AG) ?_
  rintro v78 L1 ⟨rfl,rfl⟩
  refine As (AI [7,13] rfl (Aj ?_))
  refine Bb [3,7] _ [] (by simp only [List.append_nil]; exact Ent.refl _) AP ?_
  refine AD 0 rfl (AH rfl) (AD 1 rfl (Al rfl) (AD 2 rfl (Ae rfl) (Bl 3 rfl (Ak rfl rfl) rfl (AD 4 rfl (AH rfl) (AD 5 rfl (Al rfl) (AD 6 rfl (Ae rfl) (Bl 7 rfl (BL (vs:=[.int .i64 y.a.e,.bool y.a.y,.int .i64 y.a.n,TK y.a.i,TK y.a.t]) rfl rfl rfl) rfl (AD 8 rfl (Bf rfl) (Cx 9 rfl AP AP (B8 rfl rfl rfl rfl) (AD 10 rfl (Bf rfl) (BZ [6,7,8] rfl (Bv AP (Ai (Av ?_))))))))))))))
  exact B6 [Eg p room b] (.tmp rfl (.cell rfl (BT rfl) (.tmp rfl .nil))) ⟨b,hin,rfl⟩ ((Split.ent' (K:=[cB p room (some m) b,dA 233 none b none,BI m BN (del ents' y.k) clk']) AG).trans (Ln (CM.del (a:=[]) hc2)))
abbrev St2:Type:=List (List En)×List Cm
def SW.pl (W:SW):St2:=(W.T.map (·.2),W.C.map (·.2))
theorem Ok.addT{μ μ':PH}{W:SW}(h:W.Ok μ)(hl:Le μ μ'){t:List En}{A:Option Addr}{k:Nat}(hr:Row μ' (.slice A t.length k) 2 t.length (Ci t))(hn:W.T.length<65536){B:Option Addr}{c:Nat} :
  SW.Ok μ' { W with T:=W.T++[(.slice A t.length k,t)],tv:=.slice B (W.T.length+1) c}:=by
 refine ⟨⟨B,c,by rw [List.length_append]; rfl⟩,h.cf,fun x hx=>?_,(h.le hl).cr,by rw [List.length_append,List.length_singleton]; omega,h.cl⟩
 rcases List.mem_append.1 hx with hx | hx
 ·exact (h.le hl).tr x hx
 ·obtain rfl:x=(.slice A t.length k,t):=by simpa using hx
  exact hr
theorem Ok.addC{μ μ':PH}{W:SW}(h:W.Ok μ)(hl:Le μ μ'){x:Cm}{A:Option Addr}{k:Nat}(hr:Row μ' (.slice A x.1.length k) 1 x.1.length (x.1.flatMap (Bw .i64)))(hn:W.C.length<65536){B:Option Addr}{c:Nat} :
  SW.Ok μ' { W with C:=W.C++[(.slice A x.1.length k,x)],cv:=.slice B (W.C.length+1) c}:=by
 refine ⟨h.tf,⟨B,c,by rw [List.length_append]; rfl⟩,(h.le hl).tr,fun y hy=>?_,h.tl,by rw [List.length_append,List.length_singleton]; omega⟩
 rcases List.mem_append.1 hy with hy | hy
 ·exact (h.le hl).cr y hy
 ·obtain rfl:y=(.slice A x.1.length k,x):=by simpa using hy
  exact hr

def Pn (b:UInt8):Bool:=decide (b.toNat<33)||decide (126<b.toNat)
theorem QH (b:UInt8):Spec prog 310 [.int .u8 (b.toNat:Nat)] [] (fun r L=>r=.bool (Pn b)∧L=[]):=by
 refine Spec.of 9 func310 rfl rfl rfl ?_
 refine Ad (Au [0] rfl rfl (Ad (Ah rfl (Af (Be rfl rfl) (Ah rfl ?_)))))
 refine B9 5 rfl (fun h5=>?_) (fun h5=>?_)
 ·refine B1 rfl rfl rfl (B1 rfl rfl rfl (Af (Bc rfl rfl) (Au [2] rfl rfl (Av ?_))))
  refine Aw [] (.tmp rfl .nil) ⟨?_,rfl⟩ AG
  unfold Pn
  first
   | (have h:=of_decide_eq_true h5; rw [decide_eq_true (show b.toNat<33 by omega)]; rfl)
   | (
    have h:=of_decide_eq_false h5
    rw [decide_eq_false (show ¬ b.toNat<33 by omega)]
    by_cases h2:126<b.toNat
    ·rw [decide_eq_true h2,decide_eq_true AC]; rfl
    ·rw [decide_eq_false h2,decide_eq_false AC]; rfl)
 ·refine AS rfl rfl (Ah rfl (AS rfl rfl (Af (BO rfl rfl) (Af (B0 rfl rfl) (Au [2] rfl rfl (Av ?_))))))
  refine Aw [] (.tmp rfl .nil) ⟨?_,rfl⟩ AG
  unfold Pn
  first
   | (have h:=of_decide_eq_true h5; rw [decide_eq_true (show b.toNat<33 by omega)]; rfl)
   | (
    have h:=of_decide_eq_false h5
    rw [decide_eq_false (show ¬ b.toNat<33 by omega)]
    by_cases h2:126<b.toNat
    ·rw [decide_eq_true h2,decide_eq_true AC]; rfl
    ·rw [decide_eq_false h2,decide_eq_false AC]; rfl)
theorem MG {P:Program}{rn:Option Nat}{Q:DK}{N:Nat}{L:List AK}{μ:PH}{env:CA}{ops:Array Oper}{ol:List Oper}{b:Nat}{o:Obj}{L0:List AK}(hL:Split L0 [one b o,ro μ] L)(h:∀ μ',Le μ μ'→μ' b=some o→G1 P rn ops Q N ol env (ro μ'::L)):G1 P rn ops Q N ol env L0:=fun E D a w hd hf hh=>by
 obtain ⟨μ',h1,h2,h3⟩:=(hh.ent hL.ent).share
 exact h μ' h1 h2 E D a w hd hf h3
theorem U1 {L:List AK}:Ent L (ro (fun _=>none)::L):=fun m h=>⟨fun _=>none,m,(fun k x hk=>by cases hk),h,(fun _=>.inl rfl),(fun _ _ h=>by cases h),(fun _ _ h=>h)⟩
theorem Y7 (μ:PH)(v:Value)(l:List UInt8)(hr:Row μ v 1 l.length (Dx l))(hl:l.length≤1048576):Spec prog 352 [v,.func (.func 310) #[] #[]] [ro μ] (fun r L=>∃ i:Int,r=.int .i64 i∧(0≤i↔l.any Pn=true)∧L=[ro μ]):=by
 refine Spec.of 19 func352 rfl rfl rfl ?_
 refine Ad (Au [0,1] rfl rfl (Aj (Ad (Ah rfl (Af (AW hr rfl) (Ah rfl (AI [0,1,7,8] rfl (AB ?_))))))))
 refine B4 (ι:=Nat) (fun i env L=>Sub env [(0,v),(1,.func (.func 310) #[] #[]),(7,.int .i64 (l.length:Nat)),(8,.int .i64 (i:Nat))]∧L=[ro μ]∧i≤l.length∧(l.take i).any Pn=false) (fun i=>l.length-i) 0 ⟨⟨rfl,rfl,rfl,rfl,trivial⟩,rfl,Nat.zero_le _,rfl⟩ ?_
 rintro i env L ⟨hsub,rfl,hi,hn⟩
 refine B7 _ hsub ?_
 clear hsub env
 refine Ad (Af (Be rfl rfl) (AI [0,1,7,8,9] rfl (Aj ?_)))
 refine Aq rfl (fun h9=>?_) (fun h9=>?_)
 ·have h9':i<l.length:=by have:=of_decide_eq_true h9; omega
  obtain ⟨b,hb⟩:∃ b,l[i]? = some b:=⟨_,List.getElem?_eq_getElem h9'⟩
  obtain ⟨g,o,c,hv,_,_,hrr⟩:=hr.pos AC
  have hc:=(hrr.elem (f:=bc1) (n:=1) (fun _=>rfl) hb).cell
  refine Ar (Ai (Aj (AB (Ad (Ah rfl (Au [0,1,5,7,8] rfl rfl (Ad (Ah rfl (Ah rfl (Ah rfl ?_))))))))))
  refine Af (AA (o+i*1) (congrArg some hv) rfl AC AC (by rw [Int.toNat_natCast])) ?_
  refine AM (BJ rfl hc) ?_
  refine AE (AF (QH b) rfl rfl AG) ?_
  rintro v16 L1 ⟨rfl,rfl⟩
  refine As (AI [0,1,5,7,8,16] rfl ?_)
  refine Aq rfl (fun h16=>?_) (fun h16=>?_)
  ·refine Ad (Ah rfl (Au [4] rfl rfl (Av (Bg (AZ (AZ (Bg (AZ ?_))))))))
   refine Aw [ro μ] (.tmp rfl .nil) ⟨i,rfl,⟨fun _=>List.any_eq_true.2 ⟨b,List.mem_of_getElem? hb,h16⟩,fun _=>by omega⟩,rfl⟩ AG
  ·refine Ar (AV (Ai (Am (Af (AQ ((i+1:Nat):Int) rfl rfl AC AC AC) (Ah rfl (Bi [0,1,7,8] rfl (AJ ?_)))))))
   refine Ai ⟨i+1,⟨⟨rfl,rfl,rfl,rfl,trivial⟩,rfl,h9',?_⟩,by omega⟩
   rw [List.take_add_one,hb,List.any_append,hn]; simp [h16]
 ·have h9':=of_decide_eq_false h9
  obtain rfl:i=l.length:=by omega
  rw [List.take_length] at hn
  refine B3 (AU (AU (AY rfl (Ai (Ad (Au [4] rfl rfl (Av ?_)))))))
  refine Aw [ro μ] (.tmp rfl .nil) ⟨-1,rfl,⟨fun h=>by omega,fun h=>by rw [hn] at h; cases h⟩,rfl⟩ AG
theorem J1 (μ:PH)(v:Value)(l:List UInt8)(hr:Row μ v 1 l.length (Dx l))(hl:l.length≤1048576):Spec prog 309 [v,.func (.func 310) #[] #[]] [ro μ] (fun r L=>r=.bool (l.any Pn)∧L=[ro μ]):=by
 refine Spec.of 9 func309 rfl rfl rfl ?_
 refine Ad (Au [0,1] rfl rfl (Ad (Ah rfl (Ah rfl ?_))))
 refine AE (AF (Y7 μ v l hr hl) rfl rfl AG) ?_
 rintro v7 L1 ⟨i,rfl,hi,rfl⟩
 refine As (Af (Cs rfl rfl) (Au [4] rfl rfl (Av ?_)))
 refine Aw [ro μ] (.tmp rfl .nil) ⟨?_,rfl⟩ AG
 show Value.bool (decide (0≤i))=_
 congr 1
 by_cases h:l.any Pn=true
 ·rw [h]; exact decide_eq_true (hi.2 h)
 ·rw [Bool.not_eq_true] at h; rw [h]; exact decide_eq_false (fun k=>by rw [hi.1 k] at h; cases h)
theorem Y8 (s:ByteArray):DG s=(decide (s.size≠0)&&(decide (s.size≤32)&&!s.data.toList.any Pn)):=by
 unfold DG
 congr 1
 ·congr 1; exact propext ⟨fun h=>by omega,fun h=>by omega⟩
 ·congr 1
  rw [List.not_any_eq_all_not]
  congr 1
  funext b
  unfold Pn
  by_cases h1:b.toNat<33
  ·rw [decide_eq_true h1,decide_eq_false (show ¬ 33≤b.toNat by omega)]; rfl
  ·rw [decide_eq_false h1,decide_eq_true (show 33≤b.toNat by omega)]
   by_cases h2:126<b.toNat
   ·rw [decide_eq_true h2,decide_eq_false (show ¬ b.toNat≤126 by omega)]; rfl
   ·rw [decide_eq_false h2,decide_eq_true (show b.toNat≤126 by omega)]; rfl
theorem O5 (s:ByteArray):Bt s Dd=decide (s.size=0):=by
 by_cases h:s.size=0
 ·rw [decide_eq_true h]
  refine BS.2 ?_
  cases s with
  | mk d=>congr 1; exact Array.eq_empty_of_size_eq_zero h
 ·rw [decide_eq_false h,Cc]; rintro rfl; exact h rfl
theorem MH (s:ByteArray):Spec prog 238 [.string s] [] (fun r L=>r=.bool (DG s)∧L=[]):=by
 have hg:=Y8 s
 have hn:=O5 s
 have hll:s.data.toList.length=s.size:=by rw [Array.length_toList]; rfl
 refine Spec.of 16 func238 rfl rfl rfl ?_
 refine Ad (Au [0] rfl rfl (Ad (Ah rfl (Af (FN rfl rfl) (Ah rfl ?_)))))
 refine B9 5 rfl (fun h5=>?_) (fun h5=>?_)
 ·refine AS rfl rfl (Ah rfl (AS rfl rfl (Af (D8 rfl) (AS rfl rfl (Af (H3 rfl rfl) (Af (Bc rfl rfl) (Ah rfl ?_)))))))
  refine B9 10 rfl (fun h10=>?_) (fun h10=>?_)
  ·refine AS rfl rfl (Ah rfl (AS rfl rfl ?_))
   refine AE (Jx rfl (by first | (simp only [maxLen]; have:=of_decide_eq_true h10; omega) | cases h10)) ?_
   rintro g cap cs fr hc1 hc2 hc3
   refine C9 U1 ?_
   refine MG AG fun μ1 _ gg=>?_
   have hrow:=Iu hc1 hc2 hc3 gg
   refine AS rfl rfl ?_
   refine AE (AF (J1 μ1 _ _ hrow (by first | (have:=of_decide_eq_true h10; omega) | cases h10)) rfl rfl AG) ?_
   rintro v13 L1 ⟨rfl,rfl⟩
   refine As (AS rfl rfl (Af (Cd rfl) (Af (Bc rfl rfl) (Au [2] rfl rfl (Av ?_)))))
   refine Aw [] (.tmp rfl .nil) ⟨?_,rfl⟩ AG
   rw [hg]
   rw [hn] at h5
   first
    | (cases h10; done)
    | (
     have h1:s.size≠0:=by simpa using h5
     have h2:=of_decide_eq_true h10
     rw [decide_eq_true h1,decide_eq_true AC]; rfl)
    | (
     have h1:s.size≠0:=by simpa using h5
     have h2:=of_decide_eq_false h10
     rw [decide_eq_true h1,decide_eq_false (p:=s.size≤32) AC]; rfl)
    | (
     have h1:s.size=0:=by simpa using h5
     rw [decide_eq_false (p:=s.size≠0) AC]; rfl)
  ·refine B1 rfl rfl rfl (B1 rfl rfl rfl (B1 rfl rfl rfl (B1 rfl rfl rfl (Af (B0 rfl rfl) (Au [2] rfl rfl (Av ?_))))))
   refine Aw [] (.tmp rfl .nil) ⟨?_,rfl⟩ AG
   rw [hg]
   rw [hn] at h5
   first
    | (cases h10; done)
    | (
     have h1:s.size≠0:=by simpa using h5
     have h2:=of_decide_eq_true h10
     rw [decide_eq_true h1,decide_eq_true AC]; rfl)
    | (
     have h1:s.size≠0:=by simpa using h5
     have h2:=of_decide_eq_false h10
     rw [decide_eq_true h1,decide_eq_false (p:=s.size≤32) AC]; rfl)
    | (
     have h1:s.size=0:=by simpa using h5
     rw [decide_eq_false (p:=s.size≠0) AC]; rfl)
 ·refine B1 rfl rfl rfl (B1 rfl rfl rfl (B1 rfl rfl rfl (Af (B0 rfl rfl) (Ah rfl ?_))))
  refine B9 10 rfl (fun h10=>?_) (fun h10=>?_)
  ·refine AS rfl rfl (Ah rfl (AS rfl rfl ?_))
   refine AE (Jx rfl (by first | (simp only [maxLen]; have:=of_decide_eq_true h10; omega) | cases h10)) ?_
   rintro g cap cs fr hc1 hc2 hc3
   refine C9 U1 ?_
   refine MG AG fun μ1 _ gg=>?_
   have hrow:=Iu hc1 hc2 hc3 gg
   refine AS rfl rfl ?_
   refine AE (AF (J1 μ1 _ _ hrow (by first | (have:=of_decide_eq_true h10; omega) | cases h10)) rfl rfl AG) ?_
   rintro v13 L1 ⟨rfl,rfl⟩
   refine As (AS rfl rfl (Af (Cd rfl) (Af (Bc rfl rfl) (Au [2] rfl rfl (Av ?_)))))
   refine Aw [] (.tmp rfl .nil) ⟨?_,rfl⟩ AG
   rw [hg]
   rw [hn] at h5
   first
    | (cases h10; done)
    | (
     have h1:s.size≠0:=by simpa using h5
     have h2:=of_decide_eq_true h10
     rw [decide_eq_true h1,decide_eq_true AC]; rfl)
    | (
     have h1:s.size≠0:=by simpa using h5
     have h2:=of_decide_eq_false h10
     rw [decide_eq_true h1,decide_eq_false (p:=s.size≤32) AC]; rfl)
    | (
     have h1:s.size=0:=by simpa using h5
     rw [decide_eq_false (p:=s.size≠0) AC]; rfl)
  ·refine B1 rfl rfl rfl (B1 rfl rfl rfl (B1 rfl rfl rfl (B1 rfl rfl rfl (Af (B0 rfl rfl) (Au [2] rfl rfl (Av ?_))))))
   refine Aw [] (.tmp rfl .nil) ⟨?_,rfl⟩ AG
   rw [hg]
   rw [hn] at h5
   first
    | (cases h10; done)
    | (
     have h1:s.size≠0:=by simpa using h5
     have h2:=of_decide_eq_true h10
     rw [decide_eq_true h1,decide_eq_true AC]; rfl)
    | (
     have h1:s.size≠0:=by simpa using h5
     have h2:=of_decide_eq_false h10
     rw [decide_eq_true h1,decide_eq_false (p:=s.size≤32) AC]; rfl)
    | (
     have h1:s.size=0:=by simpa using h5
     rw [decide_eq_false (p:=s.size≠0) AC]; rfl)
theorem ZR (b cl:Nat)(es:BM ByteArray)(g c:ByteArray)(o:Option Addr):Spec prog 262 [.agg (Cj (g,c,.pointer o)).toArray,.map (some b)] [BI b BN es cl] (fun _ L=>L=[BI b BN (KE es cl (g,c,.pointer o)) (Nc es cl (g,c,.pointer o))]):=by
 refine Spec.of 15 func262 rfl rfl rfl ?_
 refine Ad (AE (Bp rfl rfl) (fun b2=>?_))
 refine AI [1,2] rfl (Ad (Ah rfl (Af (Ae rfl) (AM (Ak rfl rfl) ?_))))
 refine Bh (Nz (kv:=BN) g rfl rfl AG) ?_
 refine AI [1,2] rfl (Ad (Af (Ae rfl) (AM (Ak rfl rfl) (Af (Ct rfl rfl) (AI [1,2,9] rfl ?_)))))
 refine Aq rfl (fun h9=>?_) (fun h9=>?_)
 ·obtain ⟨a,rfl⟩:∃ a,o=some a:=by cases o with | none=>cases h9 | some a=>exact ⟨a,rfl⟩
  refine Am (Ah rfl (Af (Ae rfl) (AM (Ak rfl rfl) (Af (Ae rfl) (AM (Ak rfl rfl) ?_)))))
  refine Bh (LJ (kv:=BN) c rfl rfl rfl AG) ?_
  refine C3 _ .nil (AJ ?_)
  exact Gr [BI b BN (KE es cl (g,c,.pointer (some a))) (Nc es cl (g,c,.pointer (some a)))] .nil rfl Ent.one
 ·obtain rfl:o=none:=by cases o with | none=>rfl | some a=>cases h9
  refine Ar ?_
  exact Gr [BI b BN (KE es cl (g,c,.pointer none)) (Nc es cl (g,c,.pointer none))] .nil rfl Ent.one
theorem GO {f:FuncId}[Body prog f]{ca:List Value}{pre:List AK}{K:Int→List AK→Prop}(p:Nat)(q:Int)(n sb fb:Nat)(v:Value)(fa:Int)(off:Bool)(h0:0≤fa∧fa≤9223372036854775807)
  (h:∀ fa':Int,Spec prog f ca (B5 p 100 (ID q n sb fb v fa' off)::pre) (fun _ L=>K fa' L)) :
  Spec prog 174 [pv p,.func (.func f) #[] ca.toArray] (B5 p 100 (ID q n sb fb v fa off)::pre) (fun r L=>(fa=1∧r=.int .i64 8∧L=B5 p 100 (ID q n sb fb v 0 true)::pre)∨(fa≠1∧r=.int .i64 0∧K (if 0<fa then fa-1 else fa) L)):=by
 refine Spec.of 27 func174 rfl rfl rfl ?_
 refine Ad (Au [0,1] rfl rfl (Aj (Ad (Ah rfl (Af (Al rfl) (Af (Ae rfl) (AM (Ak rfl rfl) (Af (BO rfl rfl) (AI [0,1,9] rfl ?_)))))))))
 refine Aq rfl (fun h9=>?_) (fun h9=>?_)
 ·have h9':0<fa:=by have:=of_decide_eq_true h9; omega
  refine Ad (Ah rfl (Af (Al rfl) (Af (Ae rfl) (AM (Ak rfl rfl) (Af (Io rfl rfl AC AC) (Af (Al rfl) (Af (Ae rfl) (Bh (Ba rfl rfl rfl) (AI [0,1] rfl (Ad (Ah rfl (Af (Al rfl) (Af (Ae rfl) (AM (Ak rfl rfl) (Af (Bo rfl rfl) (AI [0,1,21] rfl ?_))))))))))))))))
  refine Aq rfl (fun h21=>?_) (fun h21=>?_)
  ·have h21':fa=1:=by have:=of_decide_eq_true h21; omega
   refine Ad (Ah rfl (Af (Al rfl) (Af (Ae rfl) (Bh (Ba rfl rfl rfl) (C3 _ .nil (Dj (Ad (Au [4] rfl rfl (Av (AZ (B6 (B5 p 100 (ID q n sb fb v 0 true)::pre) (.tmp rfl .nil) (.inl ⟨h21',rfl,rfl⟩) ?_)))))))))))
   rw [show fa-1=0 by omega]; exact Ent.refl _
  ·have h21':fa≠1:=by have:=of_decide_eq_false h21; omega
   refine Ar (Ai (Ad (Ah rfl (AE (FJ (fi:=[]) (args:=[]) (ca:=ca) (R:=[]) (h (fa-1)) rfl rfl Split.all) ?_))))
   rintro v26 L1 hk
   rw [List.append_nil]
   refine C3 _ .nil (Dj (Ad (Au [4] rfl rfl (Av ?_))))
   refine Aw L1 (.tmp rfl .nil) (.inr ⟨h21',rfl,?_⟩) (R:=[]) Split.all
   rw [if_pos h9']; exact hk
 ·have h9':¬ 0<fa:=by have:=of_decide_eq_false h9; omega
  refine Ar (Ai (Ad (Ah rfl (AE (FJ (fi:=[]) (args:=[]) (ca:=ca) (R:=[]) (h fa) rfl rfl Split.all) ?_))))
  rintro v26 L1 hk
  rw [List.append_nil]
  refine C3 _ .nil (Dj (Ad (Au [4] rfl rfl (Av ?_))))
  refine Aw L1 (.tmp rfl .nil) (.inr ⟨by omega,rfl,?_⟩) (R:=[]) Split.all
  rw [if_neg h9']; exact hk
theorem Ia (p:Nat)(q:Int)(n sb fb:Nat)(w:Value)(fa:Int)(off:Bool)(es:BM ByteArray)(cl:Nat)(ps:List Pc)(hl:ps.length≤1048576)(g c:ByteArray)(o:Option Addr) :
  Spec prog 178 [pv p,.agg (Cj (g,c,.pointer o)).toArray] [B5 p 100 (ID q n sb fb w fa off),BI sb BN es cl,own 279 3 w ps.length (ps.flatMap Cj)]
   (fun _ L=>∃ w' ps',ps'=ps++[((g,c,Value.pointer o):Pc)]∧L=[B5 p 100 (ID q n sb fb w' fa off),BI sb BN (KE es cl (g,c,.pointer o)) (Nc es cl (g,c,.pointer o)),own 279 3 w' ps'.length (ps'.flatMap Cj)]):=by
 have hps:(ps++[((g,c,Value.pointer o):Pc)]).flatMap Cj=ps.flatMap Cj++[.string g,.string c,.pointer o]:=by rw [List.flatMap_append]; rfl
 have hpl:(ps++[((g,c,Value.pointer o):Pc)]).length=ps.length+1:=by rw [List.length_append]; rfl
 generalize ps++[((g,c,Value.pointer o):Pc)]=ps' at hps hpl
 refine Spec.of 20 func178 rfl rfl rfl ?_
 refine Ad (AE (Bp rfl rfl) (fun b3=>?_))
 refine AI [0,3] rfl (Aj ?_)
 refine Bb [0,4] _ [] (by simp only [List.append_nil]; exact Ent.refl _) AP ?_
 refine Bl 0 rfl (Cn rfl rfl) rfl (AD 1 rfl (AH rfl) (AD 2 rfl (Al rfl) (AD 3 rfl (Ae rfl) (Bl 4 rfl (Ak rfl rfl) rfl ?_))))
 refine BX 5 rfl AP AP (AF (ZR sb cl es g c o) rfl rfl AG) ?_
 rintro v9 L1 rfl
 refine C5 (BZ [0,3] rfl (Bv AP (Ai ?_)))
 refine Bb [4,5] _ [] (by simp only [List.append_nil]; exact Ent.refl _) AP ?_
 refine AD 0 rfl (AH rfl) (AD 1 rfl (AH rfl) (AD 2 rfl (Al rfl) (AD 3 rfl (Ae rfl) (Bl 4 rfl (Ak rfl rfl) rfl (Bl 5 rfl (Cn rfl rfl) rfl (CQ 6 rfl AP (Bs (qs:=[(0,_)]) rfl rfl rfl) (fun b16=>?_)))))))
 refine ⟨_,Split.ent AG,?_⟩
 refine BX 7 rfl AP AP (Bj (l:=ps.length) (m:=1) (news:=[.string g,.string c,.pointer o]) rfl rfl AG (by simp only [maxLen]; omega) AC) ?_
 rintro w' hw'
 obtain ⟨g7,c7,rfl⟩:=hw' (by decide)
 refine AD 8 rfl (Al rfl) (AD 9 rfl (Ae rfl) (Cy 10 rfl AP AP (Ba rfl rfl rfl) (Nn _ .nil (Bv AP ?_))))
 refine CK [B5 p 100 (ID q n sb fb (.slice (some ⟨g7,0,none⟩) (ps.length+1) c7) fa off),BI sb BN (KE es cl (g,c,.pointer o)) (Nc es cl (g,c,.pointer o)),own 279 3 (.slice (some ⟨g7,0,none⟩) (ps.length+1) c7) ps'.length (ps'.flatMap Cj)] .nil ⟨_,ps',rfl,rfl⟩ (by rw [hps,hpl]; exact AG)
abbrev fa1 (d:Dk):Dk:={ d with falls:=if 0<d.falls then d.falls-1 else d.falls}
abbrev JV (d:Dk):Dk:={ d with falls:=0,off:=true}
theorem ZS {d:Dk}(h:d.falls=1):HS d=(JV d,8):=by unfold HS; rw [if_pos AC,if_pos h]
theorem ZT {d:Dk}(h:d.falls≠1):HS d=(fa1 d,0):=by
 unfold HS
 show _=(({ d with falls:=if 0<d.falls then d.falls-1 else d.falls}:Dk),(0:Int))
 by_cases h0:0<d.falls
 ·rw [if_pos h0,if_neg h,if_pos h0]
 ·rw [if_neg h0,if_neg h0]
theorem GQ {d:Dk}(h:d.falls=1)(f:Dk→Dk):EA d f=(JV d,8):=by unfold EA; rw [ZS h]; rfl
theorem GS {d:Dk}(h:d.falls≠1)(f:Dk→Dk):EA d f=(f (fa1 d),0):=by unfold EA; rw [ZT h]; rfl
theorem Rep.fa{d:Dk}{x:FX}(h:Rep d x)(fl:Int)(off:Bool):Rep { d with falls:=fl,off:=off} x:=⟨h.seen,h.safe,h.bs,h.bf,h.len,h.fl,h.ps⟩
theorem ZU {l:List Nm}{c:Cg}{y:Nm}(h:y∈F6 l c):y∈l∨(Bt c.come Dd=false∧y.2=c.file):=by
 unfold F6 at h
 rcases List.mem_append.1 h with h | h
 ·exact .inl (List.mem_filter.1 h).1
 ·split at h
  ·cases h
  ·next k=>rw [List.mem_singleton.1 h]; exact .inr ⟨by simpa using k,rfl⟩
theorem Rep.chg{d:Dk}{x:FX}(h:Rep d x)(hs:∀ y∈d.seen,Bt y.1 Dd=false){p:Pc}{c:Cg}(hp:Xp x.rs p c)(hc:Bt c.come Dd=false→∃ r,x.rs[c.file]? = some r∧r.f=d.fl c.file) :
  Rep (d.chg c) { x with es:=KE x.es x.cs p,cs:=Nc x.es x.cs p,ps:=x.ps++[p]}:=by
 refine ⟨Zq h.seen hs hp fun k=>?_,h.safe,Xq h.bs p,h.bf,h.len,fun k hk=>?_,?_,fun i q e hq he=>?_⟩
 ·obtain ⟨r,hr,_⟩:=hc k; exact (List.getElem?_eq_some_iff.1 hr).1
 ·have key:Dq d k∨(Bt c.come Dd=false∧c.file=k):=by
   rcases hk with ⟨y,hy,e⟩ | hk | ⟨e,he,k1,k2⟩
   ·rcases ZU hy with hy | ⟨k1,k2⟩
    ·exact .inl (.inl ⟨y,hy,e⟩)
    ·exact .inr ⟨k1,by rw [← k2,e]⟩
   ·exact .inl (.inr (.inl hk))
   ·rcases List.mem_append.1 he with he | he
    ·exact .inl (.inr (.inr ⟨e,he,k1,k2⟩))
    ·rw [List.mem_singleton.1 he] at k1 k2; exact .inr ⟨k1,k2⟩
  rcases key with key | ⟨k1,k2⟩
  ·exact h.fl k key
  ·rw [← k2]; exact hc k1
 ·show (x.ps++[p]).length=(d.pend++[c]).length
  rw [List.length_append,List.length_append,h.ps.1]; rfl
 ·have hq':(x.ps++[p])[i]? = some q:=hq
  have he':(d.pend++[c])[i]? = some e:=he
  by_cases hi:i<x.ps.length
  ·rw [List.getElem?_append_left hi] at hq'
   rw [List.getElem?_append_left (by rw [← h.ps.1]; exact hi)] at he'
   exact h.ps.2 i q e hq' he'
  ·have hi2:i=x.ps.length:=by
    have:=(List.getElem?_eq_some_iff.1 hq').1
    rw [List.length_append] at this; simp at this; omega
   subst hi2
   rw [List.getElem?_append_right (Nat.le_refl _),Nat.sub_self] at hq'
   rw [h.ps.1,List.getElem?_append_right (Nat.le_refl _),Nat.sub_self] at he'
   simp at hq' he'
   rw [← hq',← he']; exact hp
theorem ZV {d:Dk}{k:Nat}(f:Fl)(hk:k<d.files.length)(j:Nat):(d.setF k f).fl j=if j=k then f else d.fl j:=by
 unfold Dk.fl Dk.setF
 by_cases e:j=k
 ·subst e; rw [if_pos rfl]; simp [hk]
 ·rw [if_neg e]; simp [Ne.symm e]
theorem Rep.set{d:Dk}{x:FX}(h:Rep d x){k:Nat}{r r':Rc}(hr:x.rs[k]? = some r)(ha:r'.a=r.a):Rep (d.setF k r'.f) { x with rs:=x.rs.set k r'}:=by
 have hk:k<d.files.length:=by rw [← h.len]; exact (List.getElem?_eq_some_iff.1 hr).1
 refine ⟨h.seen.to fun y _=>P2 hr ha _,h.safe.to fun y _=>P2 hr ha _,h.bs,h.bf,?_,fun j hj=>?_,h.ps.1,fun i p c hp hc=>?_⟩
 ·show (x.rs.set k r').length=(d.files.set k r'.f).length
  rw [List.length_set,List.length_set,h.len]
 ·rw [ZV _ hk]
  by_cases e:j=k
  ·subst e; exact ⟨r',List.getElem?_set_self (List.getElem?_eq_some_iff.1 hr).1,by rw [if_pos rfl]⟩
  ·obtain ⟨r2,h1,h2⟩:=h.fl j hj
   exact ⟨r2,by show (x.rs.set k r')[j]? = _; rw [List.getElem?_set_ne (Ne.symm e)]; exact h1,by rw [if_neg e]; exact h2⟩
 ·obtain ⟨k1,k2,k3⟩:=h.ps.2 i p c hp hc
  refine ⟨k1,k2,?_⟩
  rw [k3]
  split
  ·rfl
  ·exact (P2 hr ha _).symm
abbrev Vw (d:Dk):Dk:={ d with files:=d.files++[⟨[],0⟩]}
theorem Rep.new{d:Dk}{x:FX}(h:Rep d x)(hd:d.Ok)(r:Rc):Rep (Vw d) { x with rs:=x.rs++[r]}:=by
 have hp:∀ c∈d.pend,Bt c.come Dd=false→c.file<x.rs.length:=fun c hc he=>by rw [h.len]; exact (hd.pend c hc he).2
 refine ⟨h.seen.to fun y hy=>P3 (by rw [h.len]; exact (hd.seenOk.good y hy).2) r,h.safe.to fun y hy=>P3 (by rw [h.len]; exact (hd.safe.good y hy).2) r,h.bs,h.bf,?_,fun j hj=>?_,h.ps.1,fun i p c hp' hc=>?_⟩
 ·show (x.rs++[r]).length=(d.files++([⟨[],0⟩]:List Fl)).length
  rw [List.length_append,List.length_append,h.len]; rfl
 ·obtain ⟨r2,h1,h2⟩:=h.fl j hj
  have hlt:=(List.getElem?_eq_some_iff.1 h1).1
  refine ⟨r2,by show (x.rs++[r])[j]? = _; rw [List.getElem?_append_left hlt]; exact h1,?_⟩
  rw [h2]
  unfold Dk.fl Vw
  rw [List.getElem?_append_left (by rw [← h.len]; exact hlt)]
 ·obtain ⟨k1,k2,k3⟩:=h.ps.2 i p c hp' hc
  refine ⟨k1,k2,?_⟩
  rw [k3]
  split
  ·rfl
  ·next k=>exact (P3 (hp c (List.mem_of_getElem? hc) (by simpa using k)) r).symm
theorem Rep.find{d:Dk}{x:FX}(h:Rep d x){s:ByteArray}{k:Nat}(hf:BC d.seen s=some k):∃ r,x.rs[k]? = some r∧r.f=d.fl k∧adr x.rs k=pv r.a:=by
 obtain ⟨r,h1,h2⟩:=h.fl k (.inl ⟨_,CC hf,rfl⟩)
 exact ⟨r,h1,h2,Jk h1⟩
theorem Dk.Ok.fa{d:Dk}(h:d.Ok){fl:Int}(hf:0≤fl∧fl≤9223372036854775807)(off:Bool):Dk.Ok { d with falls:=fl,off:=off}:=⟨h.q,h.fl,h.safe,h.pend,h.seen,h.hist,hf⟩
theorem Dk.Ok.fa1{d:Dk}(h:d.Ok):(fa1 d).Ok:=h.fa (by have:=h.falls; split <;> omega) d.off
theorem Vx {rs:List Rc}{a n:Nat}(hn:n=rs.length){L:List AK}:Ent (B5 a 96 [.int .i64 (n:Nat),.slice none 0 0,.int .i64 0]::BV rs::L) (BV (rs++[⟨a,.slice none 0 0,⟨[],0⟩⟩])::L):=by
 subst hn
 exact (own_nil_ent (e:=5) (n:=1)).trans (Ent.swap.trans (Y1 (r:=⟨a,.slice none 0 0,⟨[],0⟩⟩) (Nat.le_refl _)))
theorem Dk.Ok.names{d:Dk}(h:d.Ok):∀ y∈d.seen,Bt y.1 Dd=false:=fun y hy=>HV (h.seenOk.good y hy).1
theorem Po (p d0 s0:Nat)(q:Int)(n sb fb:Nat)(w:Value)(fa:Int)(off:Bool)(es:BM ByteArray)(cl:Nat)(ps:List Pc)(hl:ps.length≤1048576)(hn:n≤1048576)(s:ByteArray) :
  Spec prog 239 [pv d0,pv s0] [B5 p 100 (ID q n sb fb w fa off),B5 d0 23 [pv p],B5 s0 9 [.string s],BI sb BN es cl,own 279 3 w ps.length (ps.flatMap Cj)]
   (fun _ L=>∃ a w' ps',ps'=ps++[((s,s,pv a):Pc)]∧L=[B5 p 100 (ID q (n+1) sb fb w' fa off),BI sb BN (KE es cl (s,s,pv a)) (Nc es cl (s,s,pv a)),own 279 3 w' ps'.length (ps'.flatMap Cj),B5 a 96 [.int .i64 (n:Nat),.slice none 0 0,.int .i64 0]]):=by
 refine Spec.of 20 func239 rfl rfl rfl ?_
 refine Aj ?_
 refine Bb [0,1,2,3,6] _ [] (by simp only [List.append_nil]; exact Ent.refl _) AP ?_
 refine Bl 0 rfl (Ak rfl rfl) rfl (Bl 1 rfl (Ak rfl rfl) rfl (Bl 2 rfl (Ak rfl rfl) rfl (Bl 3 rfl (Ak rfl rfl) rfl (AD 4 rfl (Al rfl) (AD 5 rfl (Ae rfl) (Bl 6 rfl (Ak rfl rfl) rfl (AD 7 rfl (Bz (qs:=[(0,_)]) rfl) (CQ 8 rfl AP (Bp rfl rfl) (fun b10=>?_)))))))))
 refine ⟨_,Split.ent AG,?_⟩
 refine AD 9 rfl (Bz (qs:=[(0,_),(1,_),(2,_)]) rfl) ?_
 refine BX 10 rfl AP AP (AF (Ia p q n sb fb w fa off es cl ps hl s s (some ⟨b10,0,none⟩)) rfl rfl AG) ?_
 rintro v12 L1 ⟨w',ps',hps',rfl⟩
 refine C5 (BZ [0] rfl (Bv AP (Ai (Am (AM (Ak rfl rfl) (Af (Al rfl) (Af (Ae rfl) (AM (Ak rfl rfl) (Af (AQ ((n+1:Nat):Int) rfl rfl AC AC AC) (Af (Al rfl) (Af (Ae rfl) (Bh (Ba rfl rfl rfl) (C3 _ .nil (AJ ?_))))))))))))))
 exact CK [B5 p 100 (ID q (n+1) sb fb w' fa off),BI sb BN (KE es cl (s,s,pv b10)) (Nc es cl (s,s,pv b10)),own 279 3 w' ps'.length (ps'.flatMap Cj),B5 b10 96 [.int .i64 (n:Nat),.slice none 0 0,.int .i64 0]] .nil ⟨b10,w',ps',hps',rfl⟩ AG
theorem EW {rs:List Rc}{d:Dk}{s:ByteArray}{v:Value}{e:Int}(h:Gg rs d s=(v,e)) :
  (e=8∧d.off=true)∨(e=6∧d.off=false∧BC d.seen s=none)∨(e=0∧d.off=false∧∃ k,BC d.seen s=some k∧v=adr rs k):=by
 unfold Gg at h
 by_cases ho:d.off=true
 ·rw [if_pos ho] at h; exact .inl ⟨(Prod.mk.inj h).2.symm,ho⟩
 ·rw [if_neg ho] at h
  have ho':d.off=false:=by simpa using ho
  cases hf:BC d.seen s with
  | none=>rw [hf] at h; exact .inr (.inl ⟨(Prod.mk.inj h).2.symm,ho',rfl⟩)
  | some k=>rw [hf] at h; exact .inr (.inr ⟨(Prod.mk.inj h).2.symm,ho',k,rfl,(Prod.mk.inj h).1.symm⟩)
theorem Eh {p:Nat}{d:Dk}{x:FX}(hx:Rep d x){s:ByteArray}{v:Value}{e:Int}(hve:Gg x.rs d s=(v,e)):Spec prog 33 [pv p,.string s] [EH p d x,BI x.sb BN x.es x.cs] (fun r L=>r=.tuple #[v,.int .i64 e]∧L=[EH p d x,BI x.sb BN x.es x.cs]):=by
 have:=Vq p d x hx s
 rw [hve] at this; exact this
def Z9 (d:Dk):Prop:=d.files.length≤1000000∧d.pend.length≤1000000
set_option maxHeartbeats 8000000 in
theorem KK (p:Nat)(d:Dk)(hd:d.Ok)(hw:Z9 d)(s:ByteArray):Spec prog 145 [pv p,.string s] [FSA p d] (fun r L=>r=.int .i64 (BG d s).2∧L=[FSA p (BG d s).1]):=by
 refine FSA.open' fun x hx=>?_
 obtain ⟨v,e,hve⟩:∃ v e,Gg x.rs d s=(v,e):=⟨_,_,rfl⟩
 have hfs:=Eh (p:=p) hx hve
 have hcs:=EW hve
 have hsl:=hx.seen.len hd.seenOk.nodup
 refine Spec.of 39 func145 rfl rfl rfl ?_
 refine Ad (AE (Bp rfl rfl) (fun b2=>?_))
 refine AE (Bp rfl rfl) fun b3=>?_
 refine Au [2,3] rfl rfl (Ad (AM (Ak rfl rfl) (AM (Ak rfl rfl) ?_)))
 refine AE (AF hfs rfl rfl AG) ?_
 rintro v10 L1 ⟨rfl,rfl⟩
 refine As (Ah rfl (Af (Ax rfl) (Af (Ax rfl) (B2 rfl (Au [2,3,6] rfl rfl ?_)))))
 refine Co (fun env L=>Sub env [(2,pv b2),(3,pv b3)]∧Ent L [B5 b2 23 [pv p],B5 b3 9 [.string s],EH p d x,BI x.sb BN x.es x.cs,BI x.fb BN x.ef x.cf,own 279 3 x.pv x.ps.length (x.ps.flatMap Cj),BV x.rs]∧d.off=false∧DG s=true∧¬ ((BC d.seen s).isNone=true∧64≤d.seen.length)) ?_ ?_
 ·refine AB (Ad (Ah rfl (Af (Bo rfl rfl) (Ah rfl ?_))))
  refine B9 16 rfl (fun h16=>by simp only [decide_eq_true_eq] at h16; omega) (fun h16=>?_)
  refine AS rfl rfl (Ah rfl (AS rfl rfl (Af (Bo rfl rfl) (Af (B0 rfl rfl) (Au [2,3,6,13] rfl rfl ?_)))))
  refine Aq rfl (fun h13=>?_) (fun h13=>?_)
  ·refine Ad (Ah rfl (Au [4] rfl rfl (Av (Bg (AZ ?_)))))
   have h13':=of_decide_eq_true h13
   have hoff:d.off=true:=by rcases hcs with ⟨_,h⟩ | ⟨h,_⟩ | ⟨h,_⟩ <;> first | exact h | omega
   have key:BG d s=(d,8):=by unfold BG; rw [if_pos hoff]
   rw [key,h13']
   exact B6 [FSA p d] (.tmp rfl .nil) ⟨rfl,rfl⟩ ((Split.ent' (K:=[EH p d x,BI x.sb BN x.es x.cs,BI x.fb BN x.ef x.cf,own 279 3 x.pv x.ps.length (x.ps.flatMap Cj),BV x.rs]) AG).trans (BY hx))
  ·have h13':=of_decide_eq_false h13
   have hoff:d.off=false:=by rcases hcs with ⟨h,_⟩ | ⟨_,h,_⟩ | ⟨_,h,_⟩ <;> first | exact h | omega
   refine Ad (AM (Ak rfl rfl) ?_)
   refine AE (AF (MH s) rfl rfl AG) ?_
   rintro v23 L1 ⟨rfl,rfl⟩
   refine As (Af (Cd rfl) (Au [2,3,6,21] rfl rfl ?_))
   refine Aq rfl (fun h21=>?_) (fun h21=>?_)
   ·refine Ad (Au [4] rfl rfl (Av (Bg (AZ ?_))))
    have key:BG d s=(d,1):=by unfold BG; rw [if_neg (by rw [hoff]; decide),if_pos (by simpa using h21)]
    rw [key]
    exact B6 [FSA p d] (.tmp rfl .nil) ⟨rfl,rfl⟩ ((Split.ent' (K:=[EH p d x,BI x.sb BN x.es x.cs,BI x.fb BN x.ef x.cf,own 279 3 x.pv x.ps.length (x.ps.flatMap Cj),BV x.rs]) AG).trans (BY hx))
   ·refine Ad (Ah rfl (Af (Bo rfl rfl) (Ah rfl ?_)))
    refine B9 28 rfl (fun h28=>?_) (fun h28=>?_)
    ·refine AS rfl rfl (AM (Ak rfl rfl) (AS rfl rfl (Af (Al rfl) (AS rfl rfl (Af (Ae rfl) (AS rfl rfl (AM (Ak rfl rfl) (AS rfl rfl (AM (Iv (κ:=ByteArray) rfl) (AS rfl rfl (Af (Cs rfl rfl) (Af (Bc rfl rfl) (Au [2,3,25] rfl rfl ?_)))))))))))))
     refine Aq rfl (fun h25=>?_) (fun h25=>?_)
     ·refine Ad (Au [4] rfl rfl (Av (Bg (AZ ?_))))
      have h28':=of_decide_eq_true h28
      have h25':=of_decide_eq_true h25
      have hno:BC d.seen s=none:=by rcases hcs with ⟨h,_⟩ | ⟨_,_,h⟩ | ⟨h,_⟩ <;> first | exact h | omega
      have key:BG d s=(d,7):=by unfold BG; rw [if_neg (by rw [hoff]; decide),if_neg (by simpa using h21),if_pos ⟨by rw [hno]; rfl,by omega⟩]
      rw [key]
      exact B6 [FSA p d] (.tmp rfl .nil) ⟨rfl,rfl⟩ ((Split.ent' (K:=[EH p d x,BI x.sb BN x.es x.cs,BI x.fb BN x.ef x.cf,own 279 3 x.pv x.ps.length (x.ps.flatMap Cj),BV x.rs]) AG).trans (BY hx))
     ·refine Ar (AV ?_)
      refine Ai ⟨⟨rfl,rfl,trivial⟩,Split.ent' AG,hoff,by simpa using h21,?_⟩
      first
       | (rintro ⟨h1,h2⟩; have h3:=of_decide_eq_false h25; omega)
       | (
        rintro ⟨h1,h2⟩
        have h28':=of_decide_eq_false h28
        rcases hcs with ⟨k1,k2⟩ | ⟨k1,k2,k3⟩ | ⟨k1,k2,k,k3,k4⟩
        ·rw [hoff] at k2; cases k2
        ·omega
        ·rw [k3] at h1; cases h1)
    ·refine B1 rfl rfl rfl (B1 rfl rfl rfl (B1 rfl rfl rfl (B1 rfl rfl rfl (B1 rfl rfl rfl (B1 rfl rfl rfl (Af (B0 rfl rfl) (Au [2,3,25] rfl rfl ?_)))))))
     refine Aq rfl (fun h25=>by cases h25) (fun h25=>?_)
     refine Ar (AV ?_)
     refine Ai ⟨⟨rfl,rfl,trivial⟩,Split.ent' AG,hoff,by simpa using h21,?_⟩
     first
      | (rintro ⟨h1,h2⟩; have h3:=of_decide_eq_false h25; omega)
      | (
       rintro ⟨h1,h2⟩
       have h28':=of_decide_eq_false h28
       rcases hcs with ⟨k1,k2⟩ | ⟨k1,k2,k3⟩ | ⟨k1,k2,k,k3,k4⟩
       ·rw [hoff] at k2; cases k2
       ·omega
       ·rw [k3] at h1; cases h1)
 rintro env L ⟨hsub,hE,h1,h2,h3⟩
 refine B7 _ hsub (AX hE ?_)
 clear hsub hE env L
 refine Ad (AM (Ak rfl rfl) (Af (Cr (vs:=[]) (us:=[_,_]) rfl rfl) ?_))
 refine AE (AF (GO (f:=239) (ca:=[pv b2,pv b3]) (pre:=[B5 b2 23 [pv p],B5 b3 9 [.string s],BI x.sb BN x.es x.cs,own 279 3 x.pv x.ps.length (x.ps.flatMap Cj)]) p d.quota x.rs.length x.sb x.fb x.pv d.falls d.off hd.falls (fun fa'=>Po p b2 b3 d.quota x.rs.length x.sb x.fb x.pv fa' d.off x.es x.cs x.ps (by rw [hx.ps.1]; have:=hw.2; omega) (by rw [hx.len]; have:=hw.1; omega) s)) rfl rfl AG) ?_
 rintro v38 L1 hk
 skip
 refine Au [4] rfl rfl (Av ?_)
 rcases hk with ⟨hf1,rfl,rfl⟩ | ⟨hfn,rfl,a,w',ps',hps,rfl⟩
 ·have key:BG d s=(JV d,8):=by unfold BG; rw [if_neg (by rw [h1]; decide),if_neg (by rw [h2]; decide),if_neg h3]; exact GQ hf1 _
  rw [key]
  refine B6 [FSA p (JV d)] (.tmp rfl .nil) ⟨rfl,rfl⟩ ?_
  simp only [List.cons_append,List.nil_append]
  exact ((Split.ent' (K:=[EH p (JV d) x,BI x.sb BN x.es x.cs,BI x.fb BN x.ef x.cf,own 279 3 x.pv x.ps.length (x.ps.flatMap Cj),BV x.rs]) AG).trans (BY (d:=JV d) (hx.fa _ _)))
 ·have key:BG d s=((Vw (fa1 d)).chg ⟨Dd,s,d.files.length⟩,0):=by unfold BG; rw [if_neg (by rw [h1]; decide),if_neg (by rw [h2]; decide),if_neg h3]; exact GS hfn _
  have hl:=hx.len
  have hr:=(hx.fa (fa1 d).falls d.off).new hd.fa1 ⟨a,.slice none 0 0,⟨[],0⟩⟩
  have hr2:=hr.chg (d:=Vw (fa1 d)) hd.names (p:=(s,s,pv a)) (c:=⟨Dd,s,d.files.length⟩) ⟨rfl,.inr ⟨rfl,rfl⟩,by show _=if Bt s Dd=true then _ else adr (x.rs++[_]) d.files.length; rw [if_neg (by rw [HV h2]; decide),← hl,Zp]⟩
   (fun _=>⟨⟨a,.slice none 0 0,⟨[],0⟩⟩,by show (x.rs++[_])[d.files.length]? = _; rw [← hl]; simp,by unfold Dk.fl; simp⟩)
  rw [key]
  refine B6 [FSA p ((Vw (fa1 d)).chg ⟨Dd,s,d.files.length⟩)] (.tmp rfl .nil) ⟨rfl,rfl⟩ ?_
  simp only [List.cons_append,List.nil_append]
  refine Ent.trans (Split.ent' (K:=[B5 a 96 [.int .i64 (x.rs.length:Nat),.slice none 0 0,.int .i64 0],BV x.rs,B5 p 100 (ID d.quota (x.rs.length+1) x.sb x.fb w' (if 0<d.falls then d.falls-1 else d.falls) d.off),BI x.sb BN (KE x.es x.cs (s,s,pv a)) (Nc x.es x.cs (s,s,pv a)),BI x.fb BN x.ef x.cf,own 279 3 w' ps'.length (ps'.flatMap Cj)]) AG) ?_
  refine (Vx rfl).trans ?_
  rw [show x.rs.length+1=(x.rs++[(⟨a,.slice none 0 0,⟨[],0⟩⟩:Rc)]).length by simp,hps]
  refine Ent.trans (Split.ent' (K:=[B5 p 100 (ID d.quota (x.rs++[(⟨a,.slice none 0 0,⟨[],0⟩⟩:Rc)]).length x.sb x.fb w' (if 0<d.falls then d.falls-1 else d.falls) d.off),BI x.sb BN (KE x.es x.cs (s,s,pv a)) (Nc x.es x.cs (s,s,pv a)),BI x.fb BN x.ef x.cf,own 279 3 w' (x.ps++[(s,s,pv a)]).length ((x.ps++[(s,s,pv a)]).flatMap Cj),BV (x.rs++[(⟨a,.slice none 0 0,⟨[],0⟩⟩:Rc)])]) AG) ?_
  exact BY (d:=(Vw (fa1 d)).chg ⟨Dd,s,d.files.length⟩) (x:={ sb:=x.sb,fb:=x.fb,es:=KE x.es x.cs (s,s,pv a),cs:=Nc x.es x.cs (s,s,pv a),ef:=x.ef,cf:=x.cf,rs:=x.rs++[⟨a,.slice none 0 0,⟨[],0⟩⟩],ps:=x.ps++[(s,s,pv a)],pv:=w'}) ⟨hr2.seen,hr2.safe,hr2.bs,hr2.bf,hr2.len,hr2.fl,hr2.ps⟩
theorem Vy {rs:List Rc}{i:Nat}{r:Rc}(h:rs[i]? = some r)(hg:r.f.safe≤r.f.bytes.length){L:List AK}:Ent (Vo i r++GM rs i::L) (BV rs::L):=by
 have e:rs.set i r=rs:=by
  have:=(List.getElem?_eq_some_iff.1 h)
  rw [← this.2]; exact List.set_getElem_self this.1
 have:=My (rs:=rs) (i:=i) (r:=r) (L:=L) (List.getElem?_eq_some_iff.1 h).1 hg
 rwa [e] at this
theorem Hl {rs:List Rc}{i:Nat}{r:Rc}(h:rs[i]? = some r)(hg:r.f.safe≤r.f.bytes.length){L:List AK}:Ent (BV rs::L) (own 5 1 r.v r.f.bytes.length (Dx r.f.bytes)::B5 r.a 96 [.int .i64 (i:Nat),r.v,.int .i64 (r.f.safe:Nat)]::GM rs i::L) :=
 (Vp h hg).trans Ent.swap
theorem QI {rs:List Rc}{i:Nat}(r:Rc)(h:i<rs.length)(hg:r.f.safe≤r.f.bytes.length){L:List AK}:Ent (own 5 1 r.v r.f.bytes.length (Dx r.f.bytes)::B5 r.a 96 [.int .i64 (i:Nat),r.v,.int .i64 (r.f.safe:Nat)]::GM rs i::L) (BV (rs.set i r)::L) :=
 Ent.swap.trans (My (r:=r) h hg)
theorem Hm {rs:List Rc}{i:Nat}{r:Rc}(h:rs[i]? = some r)(hg:r.f.safe≤r.f.bytes.length){L:List AK}:Ent (own 5 1 r.v r.f.bytes.length (Dx r.f.bytes)::B5 r.a 96 [.int .i64 (i:Nat),r.v,.int .i64 (r.f.safe:Nat)]::GM rs i::L) (BV rs::L) :=
 Ent.swap.trans (Vy h hg)
def IR (d:Dk)(s:ByteArray):Nat:=((BC d.seen s).map fun k=>(d.fl k).bytes.length).getD 0
theorem MI {es:BM ByteArray}{l:List Nm}{rs:List Rc}(h:NmRel es l rs)(hn:(l.map (·.1)).Nodup):(es.map (·.1)).Perm (l.map (·.1)):=by
 have:=(h.perm hn).map (·.1)
 rwa [List.map_map,List.map_map] at this
theorem Y9 {d:Dk}(hd:d.Ok){es:BM ByteArray}{rs:List Rc}(h:NmRel es d.seen rs):(es.map fun x=>IR d x.1).sum=d.used:=by
 have h1:(es.map fun x=>IR d x.1)=(es.map (·.1)).map (IR d):=by rw [List.map_map]; rfl
 have h2:d.used=((d.seen.map (·.1)).map (IR d)).sum:=by
  unfold Dk.used
  rw [List.map_map]
  congr 1
  refine List.map_congr_left fun x hx=>?_
  show _=IR d x.1
  unfold IR
  rw [M4 hd.seenOk.nodup hx]; rfl
 rw [h1,h2]
 exact ((MI h hd.seenOk.nodup).map _).sum_nat
theorem U2 {d:Dk}(hd:d.Ok)(s:ByteArray):IR d s≤FR:=by
 unfold IR
 cases BC d.seen s with
 | none=>exact Nat.zero_le _
 | some k=>exact (Dk.fl_ok hd k).1
theorem Rep.at{d:Dk}{x:FX}(h:Rep d x){y:ByteArray×Value×Nat}(hy:y∈x.es):∃ k r,BC d.seen y.1=some k∧x.rs[k]? = some r∧r.f=d.fl k∧y.2.1=pv r.a:=by
 have h1:=Qb h.seen.keys hy
 rw [h.seen.look] at h1
 obtain ⟨k,hk,hv⟩:=Option.map_eq_some_iff.1 h1
 obtain ⟨r,hr,hf,ha⟩:=h.find hk
 exact ⟨k,r,hk,hr,hf,by rw [← hv,ha]⟩
set_option maxHeartbeats 2000000 in
theorem O6 (p:Nat)(d:Dk)(hd:d.Ok)(x:FX)(hx:Rep d x):Spec prog 9 [pv p] [EH p d x,BI x.sb BN x.es x.cs,BV x.rs] (fun r L=>r=.int .i64 (d.used:Nat)∧L=[EH p d x,BI x.sb BN x.es x.cs,BV x.rs]):=by
 have hel:=hx.seen.len hd.seenOk.nodup
 have hsl:=hd.seenLe
 refine Spec.of 25 func9 rfl rfl rfl ?_
 refine Ad (Au [0] rfl rfl (Ad (Au [0,3] rfl rfl (Aj (Ad (Ah rfl (Af (Ct rfl rfl) (AI [0,3,7] rfl (Tv rfl (Ad (Ah rfl (Af (Al rfl) (Af (Ae rfl) (AM (Ak rfl rfl) (AE (LP (κ:=ByteArray) rfl) ?_)))))))))))))))
 rintro it
 skip
 refine AI [3,12] rfl (AB ?_)
 refine AX (Split.ent' (K:=[RU it x.sb x.cs [] x.cs,BI x.sb BN x.es x.cs,EH p d x,BV x.rs]) AG) ?_
 refine B4 (ι:=BM ByteArray×BM ByteArray) (fun k env L=>Sub env [(3,.int .i64 ((k.1.map fun y=>IR d y.1).sum:Nat)),(12,pv it)]∧Ent L [RU it x.sb x.cs (k.1.map (·.2.2)) x.cs,BI x.sb BN x.es x.cs,EH p d x,BV x.rs]∧Going x.es k.1 k.2) (fun k=>k.2.length) ([],x.es) ⟨⟨rfl,rfl,trivial⟩,Ent.refl _,Going.start _⟩ ?_
 rintro ⟨dn,td⟩ env L ⟨hsub,hE,hgo⟩
 dsimp only at hsub hE hgo
 refine B7 _ hsub (AX hE ?_)
 clear hsub hE env L
 refine Ad ?_
 refine AE (OS (κ:=ByteArray) rfl AG hx.bs.1 (Nat.le_refl _)) ?_
 refine ⟨fun hall=>?_,fun y hy hns=>?_⟩
 ·refine Af (Ax rfl) (AI [3,12,14] rfl (Aj ?_))
  refine Aq rfl (fun h14=>by cases h14) (fun h14=>?_)
  have htd:=hgo.stop hx.bs hall
  rw [htd] at hgo
  have hsum:(dn.map fun y=>IR d y.1).sum=d.used:=by
   rw [← Y9 hd hx.seen]
   refine (List.Perm.map _ ?_).sum_nat
   have:=hgo; unfold Going at this; rwa [List.append_nil] at this
  refine B3 (AU (AU (AY rfl (Ai (Ad (Ah rfl (Au [2] rfl rfl (Av ?_))))))))
  refine Aw [EH p d x,BI x.sb BN x.es x.cs,BV x.rs] (.tmp rfl .nil) ⟨by rw [← hsum]; rfl,rfl⟩ AG
 ·refine Af (Ax rfl) (AI [3,12,14] rfl (Aj ?_))
  refine Aq rfl (fun h14=>?_) (fun h14=>by cases h14)
  obtain ⟨td',hgo',hlt⟩:=hgo.step hy hns
  obtain ⟨k,r,hk,hr,hf,hv⟩:=hx.at hy
  have hle:(dn.map fun y=>IR d y.1).sum≤64*FR:=by
   have h1:=P1 (fun y:ByteArray×Value×Nat=>IR d y.1) FR dn fun y _=>U2 hd y.1
   have h2:dn.length≤64:=by have:=hgo.length_eq; rw [List.length_append] at this; omega
   exact Nat.le_trans h1 (Nat.mul_le_mul_right _ h2)
  have hll:IR d y.1=r.f.bytes.length:=by unfold IR; rw [hk,hf]; rfl
  have hlm:=U2 hd y.1
  simp only [FR] at hle hlm
  refine Ar (Ai (AB (Ad ?_)))
  refine AM (LQ (κ:=ByteArray) rfl AG hy hx.bs) ?_
  refine Af (Ax rfl) (Au [3,5,12] rfl rfl ?_)
  rw [hv]
  refine AX (Split.ent' (K:=[BV x.rs,RU it x.sb x.cs (dn.map (·.2.2)++[y.2.2]) x.cs,BI x.sb BN x.es x.cs,EH p d x]) AG) ?_
  refine AX (Hl hr (Fu hd hf)) ?_
  refine Er (fun m h=>CL h) fun hform=>?_
  refine Am (Ah rfl (Ah rfl (Af (Al rfl) (Af (Ae rfl) (AM (Ak rfl rfl) (Af (J7 hform rfl) ?_))))))
  refine Af (AQ (((dn.map fun y=>IR d y.1).sum+r.f.bytes.length:Nat):Int) rfl rfl AC AC AC) ?_
  refine B2 rfl (Bi [3,12] rfl (AJ (AV ?_)))
  refine Ai ⟨(dn++[y],td'),⟨⟨?_,rfl,trivial⟩,?_,hgo'⟩,by dsimp only; omega⟩
  ·show look _ 3=some (.int .i64 (((dn++[y]).map fun y=>IR d y.1).sum:Nat))
   rw [List.map_append,List.sum_append]
   simp only [List.map_cons,List.map_nil,List.sum_cons,List.sum_nil,Nat.add_zero,hll]; rfl
  ·refine Ent.trans (Split.ent' (K:=[own 5 1 r.v r.f.bytes.length (Dx r.f.bytes),B5 r.a 96 [.int .i64 (k:Nat),r.v,.int .i64 (r.f.safe:Nat)],GM x.rs k,RU it x.sb x.cs (dn.map (·.2.2)++[y.2.2]) x.cs,BI x.sb BN x.es x.cs,EH p d x]) AG) ?_
   refine (Hm hr (Fu hd hf)).trans ?_
   rw [show (dn++[y]).map (·.2.2)=dn.map (·.2.2)++[y.2.2] by rw [List.map_append]; rfl]
   exact Split.ent' AG
instance:TZv prog 5 (.int .u8 0):=⟨by kernel_rfl⟩
theorem SL (a b:List UInt8):Dx (a++b)=Dx a++Dx b:=by rw [Eb,Eb,Eb,List.map_append]
theorem Pp (f0 t0 a k sf l:Nat)(v:Value)(xs:List Value)(s:ByteArray)(hl:l+s.size≤1099511627776) :
  Spec prog 246 [pv f0,pv t0] [B5 f0 92 [pv a],B5 t0 9 [.string s],B5 a 96 [.int .i64 (k:Nat),v,.int .i64 (sf:Nat)],own 5 1 v l xs]
   (fun _ L=>∃ v',L=[B5 f0 92 [pv a],B5 t0 9 [.string s],B5 a 96 [.int .i64 (k:Nat),v',.int .i64 (sf:Nat)],own 5 1 v' (l+s.size) (xs++Dx s.data.toList)]):=by
 refine Spec.of 11 func246 rfl rfl rfl ?_
 refine Bb [0,1,4,5] ([B5 f0 92 [pv a],B5 t0 9 [.string s],B5 a 96 [.int .i64 (k:Nat),v,.int .i64 (sf:Nat)]]) ([own 5 1 v l xs]) (Split.ent AG) AP ?_
 refine Bl 0 rfl (Ak rfl rfl) rfl (Bl 1 rfl (Ak rfl rfl) rfl (AD 2 rfl (Al rfl) (AD 3 rfl (Ae rfl) (Bl 4 rfl (Ak rfl rfl) rfl (Bl 5 rfl (Ak rfl rfl) rfl ?_)))))
 refine CQ 6 rfl AP (IW rfl rfl AG AC) ?_
 rintro A' c'
 refine ⟨_,Split.ent AG,?_⟩
 refine AD 7 rfl (Al rfl) (AD 8 rfl (Ae rfl) (Cx 9 rfl AP AP (Ba rfl rfl rfl) (Nn _ .nil (Bv AP ?_))))
 exact CK [B5 f0 92 [pv a],B5 t0 9 [.string s],B5 a 96 [.int .i64 (k:Nat),.slice A' (l+s.size) c',.int .i64 (sf:Nat)],own 5 1 (.slice A' (l+s.size) c') (l+s.size) (xs++Dx s.data.toList)] .nil ⟨_,rfl⟩ AG
theorem SM (f0 a k sf l:Nat)(v:Value)(hv:∃ A c,v=.slice A l c) :
  Spec prog 247 [pv f0] [B5 f0 92 [pv a],B5 a 96 [.int .i64 (k:Nat),v,.int .i64 (sf:Nat)]]
   (fun _ L=>L=[B5 f0 92 [pv a],B5 a 96 [.int .i64 (k:Nat),v,.int .i64 (l:Nat)]]):=by
 refine Spec.of 9 func247 rfl rfl rfl ?_
 refine Bb [0,1,4] _ [] (by simp only [List.append_nil]; exact Ent.refl _) AP ?_
 refine Bl 0 rfl (Ak rfl rfl) rfl (Bl 1 rfl (Ak rfl rfl) rfl (AD 2 rfl (Al rfl) (AD 3 rfl (Ae rfl) (Bl 4 rfl (Ak rfl rfl) rfl (AD 5 rfl (J7 hv rfl) (AD 6 rfl (Al rfl) (AD 7 rfl (Ae rfl) (Cx 8 rfl AP AP (Ba rfl rfl rfl) (Nn _ .nil (Bv AP ?_))))))))))
 exact CK [B5 f0 92 [pv a],B5 a 96 [.int .i64 (k:Nat),v,.int .i64 (l:Nat)]] .nil rfl AG
theorem JJ {rs:List Rc}{d:Dk}{s:ByteArray}{v:Value}{e:Int}(h:Gg rs d s=(v,e))(he:e≠0)(f:Nat→Dk×Int):Ff d s f=(d,e):=by
 unfold Ff
 rcases EW h with ⟨rfl,h1⟩ | ⟨rfl,h1,h2⟩ | ⟨h0,_⟩
 ·rw [if_pos h1]
 ·rw [if_neg (by rw [h1]; decide),h2]
 ·exact absurd h0 he
theorem Lp {rs:List Rc}{d:Dk}{s:ByteArray}{v:Value}(h:Gg rs d s=(v,0)):∃ k,BC d.seen s=some k∧v=adr rs k∧∀ f,Ff d s f=f k:=by
 rcases EW h with ⟨h0,_⟩ | ⟨h0,_⟩ | ⟨_,h1,k,h2,h3⟩
 ·cases h0
 ·cases h0
 ·refine ⟨k,h2,h3,fun f=>?_⟩
  unfold Ff
  rw [if_neg (by rw [h1]; decide),h2]
theorem GT (rs:List Rc)(d:Dk)(s:ByteArray):∃ o e,Gg rs d s=(.pointer o,e):=by
 unfold Gg
 split
 ·exact ⟨_,_,rfl⟩
 ·split
  ·exact ⟨_,_,rfl⟩
  ·next k _ =>
   unfold adr
   split
   ·exact ⟨_,_,rfl⟩
   ·exact ⟨_,_,rfl⟩
theorem Ya {p:Nat}{d:Dk}{x:FX}(hx:Rep d x){k:Nat}{r r':Rc}(hr:x.rs[k]? = some r)(ha:r'.a=r.a)(hg:r'.f.safe≤r'.f.bytes.length){L:List AK} :
  Ent (own 5 1 r'.v r'.f.bytes.length (Dx r'.f.bytes)::B5 r'.a 96 [.int .i64 (k:Nat),r'.v,.int .i64 (r'.f.safe:Nat)]::GM x.rs k::EH p d x::BI x.sb BN x.es x.cs::BI x.fb BN x.ef x.cf::own 279 3 x.pv x.ps.length (x.ps.flatMap Cj)::L) (FSA p (d.setF k r'.f)::L):=by
 refine (QI r' (List.getElem?_eq_some_iff.1 hr).1 hg).trans ?_
 refine Ent.trans (Ent.perm ?_) (BY (hx.set hr ha))
 show List.Perm (BV (x.rs.set k r')::EH p d x::_::_::_::L) (B5 p 100 (ID d.quota (x.rs.set k r').length x.sb x.fb x.pv d.falls d.off)::_::_::_::BV (x.rs.set k r')::L)
 rw [List.length_set]
 exact (List.perm_middle (a:=BV (x.rs.set k r')) (l₁:=[EH p d x,BI x.sb BN x.es x.cs,BI x.fb BN x.ef x.cf,own 279 3 x.pv x.ps.length (x.ps.flatMap Cj)]) (l₂:=L)).symm
theorem MJ {f:FuncId}[Body prog f]{ca:List Value}{pre:List AK}{K:List AK→Prop}(p:Nat)(q:Int)(n sb fb:Nat)(v:Value)(fa:Int)(off:Bool)(h0:0≤fa∧fa≤9223372036854775807)
  (h:Spec prog f ca pre (fun _ L=>K L)) :
  Spec prog 174 [pv p,.func (.func f) #[] ca.toArray] (B5 p 100 (ID q n sb fb v fa off)::pre) (fun r L=>(fa=1∧r=.int .i64 8∧L=B5 p 100 (ID q n sb fb v 0 true)::pre)∨(fa≠1∧r=.int .i64 0∧∃ L',K L'∧L=B5 p 100 (ID q n sb fb v (if 0<fa then fa-1 else fa) off)::L')) :=
 GO (K:=fun fa' L=>∃ L',K L'∧L=B5 p 100 (ID q n sb fb v fa' off)::L') p q n sb fb v fa off h0 fun fa'=>fun _ _ hw =>
  (h.frame (R:=[B5 p 100 (ID q n sb fb v fa' off)]) (hw.ent (Ent.perm (List.perm_append_comm (l₁:=[_]))))).mono fun _ _ ⟨v,L',e,hk,hh⟩=>⟨v,_,e,⟨L',hk,rfl⟩,hh.ent (Ent.perm (List.perm_append_comm (l₂:=[_])))⟩
set_option maxHeartbeats 4000000 in
theorem O7 (p:Nat)(d:Dk)(hd:d.Ok)(s:ByteArray):Spec prog 157 [pv p,.string s] [FSA p d] (fun r L=>r=.int .i64 (Dz d s).2∧L=[FSA p (Dz d s).1]):=by
 refine FSA.open' fun x hx=>?_
 obtain ⟨o,e,hve⟩:=GT x.rs d s
 have hfs:=Eh (p:=p) hx hve
 refine Spec.of 19 func157 rfl rfl rfl ?_
 refine Ad (Au [0,1] rfl rfl (Ad (Ah rfl (Ah rfl ?_))))
 refine AE (AF hfs rfl rfl AG) ?_
 rintro v10 L1 ⟨rfl,rfl⟩
 refine As (Ah rfl (Af (Ax rfl) (Af (Ax rfl) (AE (Bd) (fun b5=>?_)))))
 refine Bh (Ba rfl rfl rfl) (Au [0,5,6] rfl rfl (Aj (Ad (Ah rfl (Af (Bx rfl rfl) (AI [0,5,6,14] rfl ?_))))))
 refine Aq rfl (fun h14=>?_) (fun h14=>?_)
 ·refine Ad (Ah rfl (Au [4] rfl rfl (Av (AZ ?_))))
  have h14':e≠0:=by simpa using h14
  unfold Dz
  rw [JJ hve h14']
  exact B6 [FSA p d] (.tmp rfl .nil) ⟨rfl,rfl⟩ ((Split.ent' (K:=[EH p d x,BI x.sb BN x.es x.cs,BI x.fb BN x.ef x.cf,own 279 3 x.pv x.ps.length (x.ps.flatMap Cj),BV x.rs]) AG).trans (BY hx))
 ·refine Ar (Ai (Aj ?_))
  have h14':e=0:=by simpa using h14
  subst h14'
  obtain ⟨k,hk1,hk2,hk3⟩:=Lp hve
  obtain ⟨r,hr,hf,ha⟩:=hx.find hk1
  rw [ha] at hk2
  rw [hk2]
  refine AX (Split.ent' (K:=[BV x.rs,B5 b5 92 [pv r.a],EH p d x,BI x.sb BN x.es x.cs,BI x.fb BN x.ef x.cf,own 279 3 x.pv x.ps.length (x.ps.flatMap Cj)]) AG) ?_
  refine AX (Hl hr (Fu hd hf)) ?_
  refine Er (fun m h=>CL h) fun hform=>?_
  refine Am (Ah rfl (Af (Cr (vs:=[]) (us:=[_]) rfl rfl) ?_))
  refine AE (AF (MJ (f:=247) (ca:=[pv b5]) (pre:=[B5 b5 92 [pv r.a],B5 r.a 96 [.int .i64 (k:Nat),r.v,.int .i64 (r.f.safe:Nat)]]) p d.quota x.rs.length x.sb x.fb x.pv d.falls d.off hd.falls (SM b5 r.a k r.f.safe r.f.bytes.length r.v hform)) rfl rfl AG) ?_
  rintro v18 L1 hs
  skip
  refine Au [4] rfl rfl (Av ?_)
  rcases hs with ⟨hf1,rfl,rfl⟩ | ⟨hfn,rfl,L',rfl,rfl⟩
  ·have key:Dz d s=(JV d,8):=by unfold Dz; rw [hk3]; exact GQ hf1 _
   rw [key]
   refine B6 [FSA p (JV d)] (.tmp rfl .nil) ⟨rfl,rfl⟩ ?_
   simp only [List.cons_append,List.nil_append]
   refine Ent.trans (Split.ent' (K:=[own 5 1 r.v r.f.bytes.length (Dx r.f.bytes),B5 r.a 96 [.int .i64 (k:Nat),r.v,.int .i64 (r.f.safe:Nat)],GM x.rs k,EH p (JV d) x,BI x.sb BN x.es x.cs,BI x.fb BN x.ef x.cf,own 279 3 x.pv x.ps.length (x.ps.flatMap Cj)]) AG) ?_
   refine (Hm hr (Fu hd hf)).trans ?_
   exact ((Split.ent' (K:=[EH p (JV d) x,BI x.sb BN x.es x.cs,BI x.fb BN x.ef x.cf,own 279 3 x.pv x.ps.length (x.ps.flatMap Cj),BV x.rs]) AG).trans (BY (d:=JV d) (hx.fa _ _)))
  ·have key:Dz d s=((fa1 d).setF k ⟨r.f.bytes,r.f.bytes.length⟩,0):=by
    unfold Dz; rw [hk3,GS hfn]
    show ((fa1 d).setF k ⟨(d.fl k).bytes,(d.fl k).bytes.length⟩,_)=_
    rw [← hf]
   rw [key]
   refine B6 [FSA p ((fa1 d).setF k ⟨r.f.bytes,r.f.bytes.length⟩)] (.tmp rfl .nil) ⟨rfl,rfl⟩ ?_
   simp only [List.cons_append,List.nil_append]
   refine Ent.trans (Split.ent' (K:=[own 5 1 r.v r.f.bytes.length (Dx r.f.bytes),B5 r.a 96 [.int .i64 (k:Nat),r.v,.int .i64 (r.f.bytes.length:Nat)],GM x.rs k,EH p (fa1 d) x,BI x.sb BN x.es x.cs,BI x.fb BN x.ef x.cf,own 279 3 x.pv x.ps.length (x.ps.flatMap Cj)]) AG) ?_
   exact Ya (hx.fa _ _) hr (r':=⟨r.a,r.v,⟨r.f.bytes,r.f.bytes.length⟩⟩) rfl (Nat.le_refl _)
theorem U3 (s:ByteArray):s.data.toList.length=s.size:=by rw [Array.length_toList]; rfl
set_option maxHeartbeats 4000000 in
theorem KL (p:Nat)(d:Dk)(hd:d.Ok)(s t:ByteArray)(ht:t.size≤1048576):Spec prog 155 [pv p,.string s,.string t] [FSA p d] (fun r L=>r=.int .i64 (BR d s t.data.toList).2∧L=[FSA p (BR d s t.data.toList).1]):=by
 refine FSA.open' fun x hx=>?_
 obtain ⟨o,e,hve⟩:=GT x.rs d s
 have hfs:=Eh (p:=p) hx hve
 have hul:=Dk.used_le hd
 have hn:=O5 t
 have hq:=hd.q
 refine Spec.of 35 func155 rfl rfl rfl ?_
 refine Ad (AE (Bp rfl rfl) (fun b5=>?_))
 refine Au [0,1,5] rfl rfl (Ad (Ah rfl (Ah rfl ?_)))
 refine AE (AF hfs rfl rfl AG) ?_
 rintro v12 L1 ⟨rfl,rfl⟩
 refine As (Ah rfl (Af (Ax rfl) (Af (Ax rfl) (AE (Bd) (fun b7=>?_)))))
 refine Bh (Ba rfl rfl rfl) (Au [0,5,7,8] rfl rfl (Aj (Ad (Ah rfl (Af (Bx rfl rfl) (AI [0,5,7,8,16] rfl ?_))))))
 refine Aq rfl (fun h16=>?_) (fun h16=>?_)
 ·refine Ad (Ah rfl (Au [6] rfl rfl (Av (AZ ?_))))
  have h16':e≠0:=by simpa using h16
  unfold BR
  rw [JJ hve h16']
  exact B6 [FSA p d] (.tmp rfl .nil) ⟨rfl,rfl⟩ ((Split.ent' (K:=[EH p d x,BI x.sb BN x.es x.cs,BI x.fb BN x.ef x.cf,own 279 3 x.pv x.ps.length (x.ps.flatMap Cj),BV x.rs]) AG).trans (BY hx))
 ·have h16':e=0:=by simpa using h16
  subst h16'
  obtain ⟨k,hk1,hk2,hk3⟩:=Lp hve
  obtain ⟨r,hr,hf,ha⟩:=hx.find hk1
  rw [ha] at hk2
  rw [hk2]
  have hlen:=(Dk.fl_ok hd k).1
  simp only [FR] at hlen
  rw [← hf] at hlen
  refine Ar (Ai ?_)
  refine Co (fun env L=>Sub env [(0,pv p),(5,pv b5),(7,pv b7)]∧Ent L [B5 b7 92 [pv r.a],B5 b5 9 [.string t],EH p d x,BI x.sb BN x.es x.cs,BI x.fb BN x.ef x.cf,own 279 3 x.pv x.ps.length (x.ps.flatMap Cj),BV x.rs]∧¬ (0<t.data.toList.length∧d.quota<(d.used:Int)+t.data.toList.length)) ?_ ?_
  ·refine Aj ?_
   refine Bb [0,5,11] ([EH p d x,B5 b5 9 [.string t]]) ([B5 b7 92 [pv r.a],BI x.sb BN x.es x.cs,BI x.fb BN x.ef x.cf,own 279 3 x.pv x.ps.length (x.ps.flatMap Cj),BV x.rs]) (Split.ent AG) AP ?_
   refine Bl 0 rfl (Ak rfl rfl) rfl (AD 1 rfl (FN rfl rfl) (AD 2 rfl (AH rfl) ?_))
   refine E9 20 rfl (fun h20=>?_) (fun h20=>?_)
   ·refine Bn 3 rfl rfl rfl (AH rfl) AP AP AP (Dt 5 rfl rfl rfl (Ak rfl rfl) rfl AP AP AP (Bn 6 rfl rfl rfl (D8 rfl) AP AP AP (Bn 8 rfl rfl rfl (AH rfl) AP AP AP (Bn 9 rfl rfl rfl (Al rfl) AP AP AP (Bn 10 rfl rfl rfl (Ae rfl) AP AP AP (Dt 11 rfl rfl rfl (Ak rfl rfl) rfl AP AP AP (HL [4] AP rfl ?_)))))))
    refine FL 4 rfl (GOn.some rfl rfl) (AF (O6 p d hd x hx) rfl rfl AG) ?_
    rintro v22 L1 ⟨rfl,rfl⟩
    refine ⟨_,BU (Split.ent AG),?_⟩
    refine Bn 7 rfl rfl rfl (AQ ((d.used+t.size:Nat):Int) rfl rfl AC AC AC) AP AP AP (Bn 12 rfl rfl rfl (BO rfl rfl) AP AP AP (AD 13 rfl (Bc rfl rfl) (BZ [0,5,7,31] rfl (De AP (Ai ?_)))))
    refine Aq rfl (fun h31=>?_) (fun h31=>?_)
    ·refine Ad (Au [6] rfl rfl (Av (AZ ?_)))
     have h31':=of_decide_eq_true h31
     have key:BR d s t.data.toList=(d,7):=by
      unfold BR
      rw [hk3,if_pos]
      rw [U3]
      rw [hn] at h20
      have h20':t.size≠0:=by simpa using h20
      exact ⟨by omega,by omega⟩
     rw [key]
     exact B6 [FSA p d] (.tmp rfl .nil) ⟨rfl,rfl⟩ ((Split.ent' (K:=[EH p d x,BI x.sb BN x.es x.cs,BI x.fb BN x.ef x.cf,own 279 3 x.pv x.ps.length (x.ps.flatMap Cj),BV x.rs]) AG).trans (BY hx))
    ·refine Ar ?_
     refine Ai ⟨⟨rfl,rfl,rfl,trivial⟩,Split.ent' AG,?_⟩
     rw [U3]
     first
      | (have h31':=of_decide_eq_false h31; rintro ⟨_,h2⟩; omega)
      | (
       rw [hn] at h20
       have h20':t.size=0:=by simpa using h20
       rintro ⟨h1,_⟩; omega)
   ·refine C1 3 rfl rfl rfl rfl AP AP AP (C1 4 rfl rfl rfl rfl AP AP AP (C1 5 rfl rfl rfl rfl AP AP AP (C1 6 rfl rfl rfl rfl AP AP AP (C1 7 rfl rfl rfl rfl AP AP AP (C1 8 rfl rfl rfl rfl AP AP AP (C1 9 rfl rfl rfl rfl AP AP AP (C1 10 rfl rfl rfl rfl AP AP AP (C1 11 rfl rfl rfl rfl AP AP AP (C1 12 rfl rfl rfl rfl AP AP AP (AD 13 rfl (B0 rfl rfl) (BZ [0,5,7,31] rfl (De AP (Ai ?_)))))))))))))
    refine Aq rfl (fun h31=>by cases h31) (fun h31=>?_)
    refine Ar ?_
    refine Ai ⟨⟨rfl,rfl,rfl,trivial⟩,Split.ent' AG,?_⟩
    rw [U3]
    first
     | (have h31':=of_decide_eq_false h31; rintro ⟨_,h2⟩; omega)
     | (
      rw [hn] at h20
      have h20':t.size=0:=by simpa using h20
      rintro ⟨h1,_⟩; omega)
  rintro env L ⟨hsub,hE,h1⟩
  refine B7 _ hsub (AX hE ?_)
  clear hsub hE env L
  refine Aj ?_
  refine AX (Split.ent' (K:=[BV x.rs,B5 b7 92 [pv r.a],B5 b5 9 [.string t],EH p d x,BI x.sb BN x.es x.cs,BI x.fb BN x.ef x.cf,own 279 3 x.pv x.ps.length (x.ps.flatMap Cj)]) AG) ?_
  refine AX (Hl hr (Fu hd hf)) (Am (Ah rfl (Af (Cr (vs:=[]) (us:=[_,_]) rfl rfl) ?_)))
  refine AE (AF (MJ (f:=246) (ca:=[pv b7,pv b5]) (pre:=[B5 b7 92 [pv r.a],B5 b5 9 [.string t],B5 r.a 96 [.int .i64 (k:Nat),r.v,.int .i64 (r.f.safe:Nat)],own 5 1 r.v r.f.bytes.length (Dx r.f.bytes)]) p d.quota x.rs.length x.sb x.fb x.pv d.falls d.off hd.falls (Pp b7 b5 r.a k r.f.safe r.f.bytes.length r.v (Dx r.f.bytes) t AC)) rfl rfl AG) ?_
  rintro v34 L1 hs
  skip
  refine Au [6] rfl rfl (Av ?_)
  rcases hs with ⟨hf1,rfl,rfl⟩ | ⟨hfn,rfl,L',⟨v',rfl⟩,rfl⟩
  ·have key:BR d s t.data.toList=(JV d,8):=by unfold BR; rw [hk3,if_neg h1]; exact GQ hf1 _
   rw [key]
   refine B6 [FSA p (JV d)] (.tmp rfl .nil) ⟨rfl,rfl⟩ ?_
   simp only [List.cons_append,List.nil_append]
   refine Ent.trans (Split.ent' (K:=[own 5 1 r.v r.f.bytes.length (Dx r.f.bytes),B5 r.a 96 [.int .i64 (k:Nat),r.v,.int .i64 (r.f.safe:Nat)],GM x.rs k,EH p (JV d) x,BI x.sb BN x.es x.cs,BI x.fb BN x.ef x.cf,own 279 3 x.pv x.ps.length (x.ps.flatMap Cj)]) AG) ?_
   refine (Hm hr (Fu hd hf)).trans ?_
   exact ((Split.ent' (K:=[EH p (JV d) x,BI x.sb BN x.es x.cs,BI x.fb BN x.ef x.cf,own 279 3 x.pv x.ps.length (x.ps.flatMap Cj),BV x.rs]) AG).trans (BY (d:=JV d) (hx.fa _ _)))
  ·have key:BR d s t.data.toList=((fa1 d).setF k ⟨r.f.bytes++t.data.toList,r.f.safe⟩,0):=by
    unfold BR; rw [hk3,if_neg h1,GS hfn]
    show ((fa1 d).setF k ⟨(d.fl k).bytes++_,(d.fl k).safe⟩,_)=_
    rw [← hf]
   rw [key]
   refine B6 [FSA p ((fa1 d).setF k ⟨r.f.bytes++t.data.toList,r.f.safe⟩)] (.tmp rfl .nil) ⟨rfl,rfl⟩ ?_
   simp only [List.cons_append,List.nil_append]
   have hl2:r.f.bytes.length+t.size=(r.f.bytes++t.data.toList).length:=by rw [List.length_append,U3]
   rw [hl2,← SL]
   refine Ent.trans (Split.ent' (K:=[own 5 1 v' (r.f.bytes++t.data.toList).length (Dx (r.f.bytes++t.data.toList)),B5 r.a 96 [.int .i64 (k:Nat),v',.int .i64 (r.f.safe:Nat)],GM x.rs k,EH p (fa1 d) x,BI x.sb BN x.es x.cs,BI x.fb BN x.ef x.cf,own 279 3 x.pv x.ps.length (x.ps.flatMap Cj)]) AG) ?_
   exact Ya (hx.fa _ _) hr (r':=⟨r.a,v',⟨r.f.bytes++t.data.toList,r.f.safe⟩⟩) rfl (by have:=Fu hd hf; show r.f.safe≤(r.f.bytes++t.data.toList).length; rw [List.length_append]; omega)
instance:MClone prog 261:=⟨_,func261,by kernel_rfl,by kernel_rfl,by kernel_rfl,by kernel_rfl⟩
theorem QJ (b:Nat)(es:BM ByteArray)(cl:Nat):Spec prog 176 [.map (some b)] [BI b BN es cl] (fun r L=>∃ b',r=.map (some b')∧L=[BI b' BN es cl,BI b BN es cl]):=by
 refine Spec.of 9 func176 rfl rfl rfl ?_
 refine Ad (Au [0] rfl rfl (Aj (Ad (Ah rfl (Af (IY rfl rfl) (AI [0,4] rfl (Dw rfl (Ar (Ai (Ad (Ah rfl (Af (Gq rfl) (AE (UJ (κ:=ByteArray) rfl rfl) ?_)))))))))))))
 rintro b7
 skip
 refine Af (Jz rfl) (Au [2] rfl rfl (Av ?_))
 exact Aw [BI b7 BN es cl,BI b BN es cl] (.tmp rfl .nil) ⟨b7,rfl,rfl⟩ AG
theorem QK (p d0:Nat)(q:Int)(n sb fb:Nat)(w:Value)(fa:Int)(off:Bool)(es:BM ByteArray)(cl:Nat) :
  Spec prog 175 [pv d0] [B5 p 100 (ID q n sb fb w fa off),B5 d0 23 [pv p],BI sb BN es cl]
   (fun _ L=>∃ fb',L=[B5 p 100 (ID q n sb fb' (.slice none 0 0) fa off),BI sb BN es cl,BI fb' BN es cl]):=by
 refine Spec.of 12 func175 rfl rfl rfl ?_
 refine Aj ?_
 refine Bb [0,1,4] ([B5 p 100 (ID q n sb fb w fa off),B5 d0 23 [pv p]]) ([BI sb BN es cl]) (Split.ent AG) AP ?_
 refine Bl 0 rfl (Ak rfl rfl) rfl (Bl 1 rfl (Ak rfl rfl) rfl (AD 2 rfl (Al rfl) (AD 3 rfl (Ae rfl) (Bl 4 rfl (Ak rfl rfl) rfl ?_))))
 refine CQ 5 rfl AP (AF (QJ sb es cl) rfl rfl AG) ?_
 rintro v6 L1 ⟨b',rfl,rfl⟩
 refine ⟨_,BU (Split.ent AG),?_⟩
 refine AD 6 rfl (Al rfl) (AD 7 rfl (Ae rfl) (Cx 8 rfl AP AP (Ba rfl rfl rfl) (BZ [0] rfl (Bv AP (Ai (Am (AM (Ak rfl rfl) (Af (Al rfl) (Af (Ae rfl) (Bh (Ba rfl rfl rfl) (C3 _ .nil (AJ ?_))))))))))))
 exact CK [B5 p 100 (ID q n sb b' (.slice none 0 0) fa off),BI sb BN es cl,BI b' BN es cl] .nil ⟨b',rfl⟩ AG
theorem Rep.sync{d:Dk}{x:FX}(h:Rep d x)(fb':Nat):Rep { d with safe:=d.seen,pend:=[]} { x with fb:=fb',ef:=x.es,cf:=x.cs,ps:=[],pv:=.slice none 0 0} :=
 ⟨h.seen,h.seen,h.bs,h.bs,h.len,fun k hk=>h.fl k (by
  rcases hk with hk | hk | ⟨c,hc,_⟩
  ·exact .inl hk
  ·exact .inl hk
  ·cases hc),rfl,fun i p c hp=>by cases hp⟩
set_option maxHeartbeats 4000000 in
theorem MK (p:Nat)(d:Dk)(hd:d.Ok):Spec prog 99 [pv p] [FSA p d] (fun r L=>r=.int .i64 (C2 d).2∧L=[FSA p (C2 d).1]):=by
 refine FSA.open' fun x hx=>?_
 obtain ⟨o,e,hve⟩:=GT x.rs d Dd
 have hfs:=Eh (p:=p) hx hve
 have hcs:=EW hve
 have hno:BC d.seen Dd=none:=Jj.2 fun x hx e=>by have:=hd.names x hx; rw [e,BQ] at this; cases this
 refine Spec.of 16 func99 rfl rfl rfl ?_
 refine Ad (AE (Bp rfl rfl) (fun b1=>?_))
 refine Au [1] rfl rfl (Aj (Ad (AM (Ak rfl rfl) ?_)))
 refine AE (AF hfs rfl rfl AG) ?_
 rintro v7 L1 ⟨rfl,rfl⟩
 refine As (Ah rfl (Af (Ax rfl) (Af (Ax rfl) (B2 rfl (Au [1,4] rfl rfl (Ad (Ah rfl (Af (Bx rfl rfl) (AI [1,4,11] rfl ?_)))))))))
 refine Aq rfl (fun h11=>?_) (fun h11=>?_)
 ·refine Ad (Ah rfl (Au [2] rfl rfl (Av (AZ ?_))))
  have h11':e≠6:=by simpa using h11
  have h8:e=8∧d.off=true:=by
   rcases hcs with h | ⟨h,_⟩ | ⟨_,_,k,h,_⟩
   ·exact h
   ·exact absurd h h11'
   ·rw [hno] at h; cases h
  have key:C2 d=(d,8):=by unfold C2; rw [if_pos h8.2]
  rw [key,h8.1]
  exact B6 [FSA p d] (.tmp rfl .nil) ⟨rfl,rfl⟩ ((Split.ent' (K:=[EH p d x,BI x.sb BN x.es x.cs,BI x.fb BN x.ef x.cf,own 279 3 x.pv x.ps.length (x.ps.flatMap Cj),BV x.rs]) AG).trans (BY hx))
 ·have h11':e=6:=by simpa using h11
  have hoff:d.off=false:=by
   rcases hcs with ⟨h,_⟩ | ⟨_,h,_⟩ | ⟨h,_⟩
   ·rw [h11'] at h; cases h
   ·exact h
   ·rw [h11'] at h; cases h
  refine Ar (Ai (Ad (AM (Ak rfl rfl) (Af (Cr (vs:=[]) (us:=[_]) rfl rfl) ?_))))
  refine AE (AF (GO (f:=175) (ca:=[pv b1]) (pre:=[B5 b1 23 [pv p],BI x.sb BN x.es x.cs]) p d.quota x.rs.length x.sb x.fb x.pv d.falls d.off hd.falls (fun fa'=>QK p b1 d.quota x.rs.length x.sb x.fb x.pv fa' d.off x.es x.cs)) rfl rfl AG) ?_
  rintro v15 L1 hs
  skip
  refine Au [2] rfl rfl (Av ?_)
  rcases hs with ⟨hf1,rfl,rfl⟩ | ⟨hfn,rfl,fb',rfl⟩
  ·have key:C2 d=(JV d,8):=by unfold C2; rw [if_neg (by rw [hoff]; decide)]; exact GQ hf1 _
   rw [key]
   refine B6 [FSA p (JV d)] (.tmp rfl .nil) ⟨rfl,rfl⟩ ?_
   simp only [List.cons_append,List.nil_append]
   exact ((Split.ent' (K:=[EH p (JV d) x,BI x.sb BN x.es x.cs,BI x.fb BN x.ef x.cf,own 279 3 x.pv x.ps.length (x.ps.flatMap Cj),BV x.rs]) AG).trans (BY (d:=JV d) (hx.fa _ _)))
  ·have key:C2 d=(({ (fa1 d) with safe:=d.seen,pend:=[]}:Dk),0):=by unfold C2; rw [if_neg (by rw [hoff]; decide)]; exact GS hfn _
   rw [key]
   refine B6 [FSA p ({ (fa1 d) with safe:=d.seen,pend:=[]}:Dk)] (.tmp rfl .nil) ⟨rfl,rfl⟩ ?_
   simp only [List.cons_append,List.nil_append]
   refine Ent.trans (own_nil_ent (e:=279) (n:=3)) ?_
   refine Ent.trans (Split.ent' (K:=[B5 p 100 (ID d.quota x.rs.length x.sb fb' (.slice none 0 0) (if 0<d.falls then d.falls-1 else d.falls) d.off),BI x.sb BN x.es x.cs,BI fb' BN x.es x.cs,own 279 3 (.slice none 0 0) 0 [],BV x.rs]) AG) ?_
   exact BY (d:={ (fa1 d) with safe:=d.seen,pend:=[]}) (x:={ x with fb:=fb',ef:=x.es,cf:=x.cs,ps:=[],pv:=.slice none 0 0}) ((hx.fa (fa1 d).falls d.off).sync fb')
theorem Pq (p d0 s0 t0 f0 a:Nat)(q:Int)(n sb fb:Nat)(w:Value)(fa:Int)(off:Bool)(es:BM ByteArray)(cl:Nat)(ps:List Pc)(hl:ps.length≤1048576)(s t:ByteArray) :
  Spec prog 259 [pv s0,pv t0,pv d0,pv f0] [B5 p 100 (ID q n sb fb w fa off),B5 s0 9 [.string s],B5 t0 9 [.string t],B5 d0 23 [pv p],B5 f0 92 [pv a],BI sb BN es cl,own 279 3 w ps.length (ps.flatMap Cj)]
   (fun _ L=>(Bt s t=true∧L=[B5 p 100 (ID q n sb fb w fa off),BI sb BN es cl,own 279 3 w ps.length (ps.flatMap Cj)])∨(Bt s t=false∧∃ w' ps',ps'=ps++[((s,t,pv a):Pc)]∧L=[B5 p 100 (ID q n sb fb w' fa off),BI sb BN (KE es cl (s,t,pv a)) (Nc es cl (s,t,pv a)),own 279 3 w' ps'.length (ps'.flatMap Cj)])):=by
 refine Spec.of 13 func259 rfl rfl rfl ?_
 refine Ad (AM (Ak rfl rfl) (AM (Ak rfl rfl) (Af (FN rfl rfl) (AI [0,1,2,3,6] rfl ?_))))
 refine Aq rfl (fun h6=>?_) (fun h6=>?_)
 ·refine Am (AM (Ak rfl rfl) (AM (Ak rfl rfl) (AM (Ak rfl rfl) (AM (Ak rfl rfl) (Af (Bz (qs:=[(0,_),(1,_),(2,_)]) rfl) ?_)))))
  refine AE (AF (Ia p q n sb fb w fa off es cl ps hl s t (some ⟨a,0,none⟩)) rfl rfl AG) ?_
  rintro v12 L1 ⟨w',ps',hps',rfl⟩
  refine As (C3 _ .nil (AJ ?_))
  exact CK [B5 p 100 (ID q n sb fb w' fa off),BI sb BN (KE es cl (s,t,pv a)) (Nc es cl (s,t,pv a)),own 279 3 w' ps'.length (ps'.flatMap Cj)] .nil (.inr ⟨by simpa using h6,w',ps',hps',rfl⟩) AG
 ·refine Ar ?_
  exact CK [B5 p 100 (ID q n sb fb w fa off),BI sb BN es cl,own 279 3 w ps.length (ps.flatMap Cj)] .nil (.inl ⟨by simpa using h6,rfl⟩) AG
theorem Pr (p d0 s0:Nat)(q:Int)(n sb fb:Nat)(w:Value)(fa:Int)(off:Bool)(es:BM ByteArray)(cl:Nat)(ps:List Pc)(hl:ps.length≤1048576)(s:ByteArray) :
  Spec prog 177 [pv d0,pv s0] [B5 p 100 (ID q n sb fb w fa off),B5 s0 9 [.string s],B5 d0 23 [pv p],BI sb BN es cl,own 279 3 w ps.length (ps.flatMap Cj)]
   (fun _ L=>∃ w' ps',ps'=ps++[((s,Dd,.pointer none):Pc)]∧L=[B5 p 100 (ID q n sb fb w' fa off),BI sb BN (KE es cl (s,Dd,.pointer none)) (Nc es cl (s,Dd,.pointer none)),own 279 3 w' ps'.length (ps'.flatMap Cj)]):=by
 refine Spec.of 6 func177 rfl rfl rfl ?_
 refine Am (AM (Ak rfl rfl) (AM (Ak rfl rfl) (Af (Bz (qs:=[(0,_)]) rfl) ?_)))
 refine AE (AF (Ia p q n sb fb w fa off es cl ps hl s Dd none) rfl rfl AG) ?_
 rintro v5 L1 ⟨w',ps',hps',rfl⟩
 refine As (C3 _ .nil (AJ ?_))
 exact CK [B5 p 100 (ID q n sb fb w' fa off),BI sb BN (KE es cl (s,Dd,.pointer none)) (Nc es cl (s,Dd,.pointer none)),own 279 3 w' ps'.length (ps'.flatMap Cj)] .nil ⟨w',ps',hps',rfl⟩ AG
set_option maxHeartbeats 4000000 in
theorem QL (p:Nat)(d:Dk)(hd:d.Ok)(hw:Z9 d)(s:ByteArray):Spec prog 100 [pv p,.string s] [FSA p d] (fun r L=>r=.int .i64 (DH d s).2∧L=[FSA p (DH d s).1]):=by
 refine FSA.open' fun x hx=>?_
 obtain ⟨o,e,hve⟩:=GT x.rs d s
 have hfs:=Eh (p:=p) hx hve
 refine Spec.of 19 func100 rfl rfl rfl ?_
 refine Ad (AE (Bp rfl rfl) (fun b2=>?_))
 refine AE (Bp rfl rfl) fun b3=>?_
 refine Au [2,3] rfl rfl (Aj (Ad (AM (Ak rfl rfl) (AM (Ak rfl rfl) ?_))))
 refine AE (AF hfs rfl rfl AG) ?_
 rintro v10 L1 ⟨rfl,rfl⟩
 refine As (Ah rfl (Af (Ax rfl) (Af (Ax rfl) (B2 rfl (Au [2,3,6] rfl rfl (Ad (Ah rfl (Af (Bx rfl rfl) (AI [2,3,6,14] rfl ?_)))))))))
 refine Aq rfl (fun h14=>?_) (fun h14=>?_)
 ·refine Ad (Ah rfl (Au [4] rfl rfl (Av (AZ ?_))))
  have h14':e≠0:=by simpa using h14
  unfold DH
  rw [JJ hve h14']
  exact B6 [FSA p d] (.tmp rfl .nil) ⟨rfl,rfl⟩ ((Split.ent' (K:=[EH p d x,BI x.sb BN x.es x.cs,BI x.fb BN x.ef x.cf,own 279 3 x.pv x.ps.length (x.ps.flatMap Cj),BV x.rs]) AG).trans (BY hx))
 ·have h14':e=0:=by simpa using h14
  subst h14'
  obtain ⟨k,hk1,hk2,hk3⟩:=Lp hve
  refine Ar (Ai (Ad (AM (Ak rfl rfl) (Af (Cr (vs:=[]) (us:=[_,_]) rfl rfl) ?_))))
  refine AE (AF (GO (f:=177) (ca:=[pv b2,pv b3]) (pre:=[B5 b3 9 [.string s],B5 b2 23 [pv p],BI x.sb BN x.es x.cs,own 279 3 x.pv x.ps.length (x.ps.flatMap Cj)]) p d.quota x.rs.length x.sb x.fb x.pv d.falls d.off hd.falls (fun fa'=>Pr p b2 b3 d.quota x.rs.length x.sb x.fb x.pv fa' d.off x.es x.cs x.ps (by rw [hx.ps.1]; have:=hw.2; omega) s)) rfl rfl AG) ?_
  rintro v18 L1 hs
  skip
  refine Au [4] rfl rfl (Av ?_)
  rcases hs with ⟨hf1,rfl,rfl⟩ | ⟨hfn,rfl,w',ps',hps,rfl⟩
  ·have key:DH d s=(JV d,8):=by unfold DH; rw [hk3]; exact GQ hf1 _
   rw [key]
   refine B6 [FSA p (JV d)] (.tmp rfl .nil) ⟨rfl,rfl⟩ ?_
   simp only [List.cons_append,List.nil_append]
   exact ((Split.ent' (K:=[EH p (JV d) x,BI x.sb BN x.es x.cs,BI x.fb BN x.ef x.cf,own 279 3 x.pv x.ps.length (x.ps.flatMap Cj),BV x.rs]) AG).trans (BY (d:=JV d) (hx.fa _ _)))
  ·have key:DH d s=((fa1 d).chg ⟨s,Dd,0⟩,0):=by unfold DH; rw [hk3]; exact GS hfn _
   have hr:=(hx.fa (fa1 d).falls d.off).chg hd.names (p:=(s,Dd,.pointer none)) (c:=⟨s,Dd,0⟩) ⟨rfl,.inl rfl,by show _=if Bt Dd Dd=true then _ else _; rw [if_pos (BQ _)]⟩ (fun h=>absurd h (by show ¬ Bt Dd Dd=false; rw [BQ]; decide))
   rw [key]
   refine B6 [FSA p ((fa1 d).chg ⟨s,Dd,0⟩)] (.tmp rfl .nil) ⟨rfl,rfl⟩ ?_
   simp only [List.cons_append,List.nil_append]
   rw [hps]
   refine Ent.trans (Split.ent' (K:=[B5 p 100 (ID d.quota x.rs.length x.sb x.fb w' (if 0<d.falls then d.falls-1 else d.falls) d.off),BI x.sb BN (KE x.es x.cs (s,Dd,.pointer none)) (Nc x.es x.cs (s,Dd,.pointer none)),BI x.fb BN x.ef x.cf,own 279 3 w' (x.ps++[(s,Dd,Value.pointer none)]).length ((x.ps++[(s,Dd,Value.pointer none)]).flatMap Cj),BV x.rs]) AG) ?_
   exact BY (d:=(fa1 d).chg ⟨s,Dd,0⟩) (x:={ x with es:=KE x.es x.cs (s,Dd,.pointer none),cs:=Nc x.es x.cs (s,Dd,.pointer none),ps:=x.ps++[(s,Dd,Value.pointer none)],pv:=w'}) ⟨hr.seen,hr.safe,hr.bs,hr.bf,hr.len,hr.fl,hr.ps⟩
set_option maxHeartbeats 4000000 in
theorem QM (p:Nat)(d:Dk)(hd:d.Ok)(hw:Z9 d)(s t:ByteArray):Spec prog 172 [pv p,.string s,.string t] [FSA p d] (fun r L=>r=.int .i64 (CH d s t).2∧L=[FSA p (CH d s t).1]):=by
 refine FSA.open' fun x hx=>?_
 obtain ⟨o,e,hve⟩:=GT x.rs d s
 have hfs:=Eh (p:=p) hx hve
 refine Spec.of 24 func172 rfl rfl rfl ?_
 refine Ad (AE (Bp rfl rfl) (fun b3=>?_))
 refine AE (Bp rfl rfl) fun b4=>?_
 refine AE (Bp rfl rfl) fun b5=>?_
 refine Au [3,4,5] rfl rfl (Ad (AM (Ak rfl rfl) (AM (Ak rfl rfl) ?_)))
 refine AE (AF hfs rfl rfl AG) ?_
 rintro v12 L1 ⟨rfl,rfl⟩
 refine As (Ah rfl (Af (Ax rfl) (Af (Ax rfl) (AE (Bd) (fun b7=>?_)))))
 refine Bh (Ba rfl rfl rfl) (Au [3,4,5,7,8] rfl rfl (Aj (Ad (Ah rfl (Af (Bx rfl rfl) (AI [3,4,5,7,8,16] rfl ?_))))))
 refine Aq rfl (fun h16=>?_) (fun h16=>?_)
 ·refine Ad (Ah rfl (Au [6] rfl rfl (Av (AZ ?_))))
  have h16':e≠0:=by simpa using h16
  unfold CH
  rw [JJ hve h16']
  exact B6 [FSA p d] (.tmp rfl .nil) ⟨rfl,rfl⟩ ((Split.ent' (K:=[EH p d x,BI x.sb BN x.es x.cs,BI x.fb BN x.ef x.cf,own 279 3 x.pv x.ps.length (x.ps.flatMap Cj),BV x.rs]) AG).trans (BY hx))
 ·have h16':e=0:=by simpa using h16
  subst h16'
  obtain ⟨k,hk1,hk2,hk3⟩:=Lp hve
  obtain ⟨r,hr,hf,ha⟩:=hx.find hk1
  rw [ha] at hk2
  rw [hk2]
  refine Ar (Ai (Aj (Ad (AM (Ak rfl rfl) ?_))))
  refine AE (AF (MH t) rfl rfl AG) ?_
  rintro v19 L1 ⟨rfl,rfl⟩
  refine As (Af (Cd rfl) (AI [3,4,5,7,20] rfl ?_))
  refine Aq rfl (fun h20=>?_) (fun h20=>?_)
  ·refine Ad (Au [6] rfl rfl (Av (AZ ?_)))
   have h20':DG t=false:=by simpa using h20
   have key:CH d s t=(d,1):=by unfold CH; rw [hk3,if_pos h20']
   rw [key]
   exact B6 [FSA p d] (.tmp rfl .nil) ⟨rfl,rfl⟩ ((Split.ent' (K:=[EH p d x,BI x.sb BN x.es x.cs,BI x.fb BN x.ef x.cf,own 279 3 x.pv x.ps.length (x.ps.flatMap Cj),BV x.rs]) AG).trans (BY hx))
  ·have h20':DG t=true:=by simpa using h20
   refine Ar (Ai (Ad (AM (Ak rfl rfl) (Af (Cr (vs:=[]) (us:=[_,_,_,_]) rfl rfl) ?_))))
   refine AE (AF (GO (f:=259) (ca:=[pv b4,pv b5,pv b3,pv b7]) (pre:=[B5 b4 9 [.string s],B5 b5 9 [.string t],B5 b3 23 [pv p],B5 b7 92 [pv r.a],BI x.sb BN x.es x.cs,own 279 3 x.pv x.ps.length (x.ps.flatMap Cj)]) p d.quota x.rs.length x.sb x.fb x.pv d.falls d.off hd.falls (fun fa'=>Pq p b3 b4 b5 b7 r.a d.quota x.rs.length x.sb x.fb x.pv fa' d.off x.es x.cs x.ps (by rw [hx.ps.1]; have:=hw.2; omega) s t)) rfl rfl AG) ?_
   rintro v23 L1 hs
   skip
   refine Au [6] rfl rfl (Av ?_)
   rcases hs with ⟨hf1,rfl,rfl⟩ | ⟨hfn,rfl,hs⟩
   ·have key:CH d s t=(JV d,8):=by unfold CH; rw [hk3,if_neg (by rw [h20']; decide)]; exact GQ hf1 _
    rw [key]
    refine B6 [FSA p (JV d)] (.tmp rfl .nil) ⟨rfl,rfl⟩ ?_
    simp only [List.cons_append,List.nil_append]
    exact ((Split.ent' (K:=[EH p (JV d) x,BI x.sb BN x.es x.cs,BI x.fb BN x.ef x.cf,own 279 3 x.pv x.ps.length (x.ps.flatMap Cj),BV x.rs]) AG).trans (BY (d:=JV d) (hx.fa _ _)))
   ·have key:CH d s t=((if Bt s t=true then fa1 d else (fa1 d).chg ⟨s,t,k⟩),0):=by unfold CH; rw [hk3,if_neg (by rw [h20']; decide)]; exact GS hfn _
    rw [key]
    rcases hs with ⟨hst,rfl⟩ | ⟨hst,w',ps',hps,rfl⟩
    ·rw [if_pos hst]
     refine B6 [FSA p (fa1 d)] (.tmp rfl .nil) ⟨rfl,rfl⟩ ?_
     simp only [List.cons_append,List.nil_append]
     exact (Split.ent' (K:=[EH p (fa1 d) x,BI x.sb BN x.es x.cs,BI x.fb BN x.ef x.cf,own 279 3 x.pv x.ps.length (x.ps.flatMap Cj),BV x.rs]) AG).trans (BY (d:=fa1 d) (hx.fa _ _))
    ·rw [if_neg (by rw [hst]; decide)]
     have hr:=(hx.fa (fa1 d).falls d.off).chg hd.names (p:=(s,t,pv r.a)) (c:=⟨s,t,k⟩) ⟨rfl,.inl rfl,by show _=if Bt t Dd=true then _ else adr x.rs k; rw [if_neg (by rw [HV h20']; decide),ha]⟩ (fun _=>⟨r,hr,hf⟩)
     refine B6 [FSA p ((fa1 d).chg ⟨s,t,k⟩)] (.tmp rfl .nil) ⟨rfl,rfl⟩ ?_
     simp only [List.cons_append,List.nil_append]
     rw [hps]
     refine Ent.trans (Split.ent' (K:=[B5 p 100 (ID d.quota x.rs.length x.sb x.fb w' (if 0<d.falls then d.falls-1 else d.falls) d.off),BI x.sb BN (KE x.es x.cs (s,t,pv r.a)) (Nc x.es x.cs (s,t,pv r.a)),BI x.fb BN x.ef x.cf,own 279 3 w' (x.ps++[(s,t,pv r.a)]).length ((x.ps++[(s,t,pv r.a)]).flatMap Cj),BV x.rs]) AG) ?_
     exact BY (d:=(fa1 d).chg ⟨s,t,k⟩) (x:={ x with es:=KE x.es x.cs (s,t,pv r.a),cs:=Nc x.es x.cs (s,t,pv r.a),ps:=x.ps++[(s,t,pv r.a)],pv:=w'}) ⟨hr.seen,hr.safe,hr.bs,hr.bf,hr.len,hr.fl,hr.ps⟩
theorem Yb {rs:List Rc}{d:Dk}{s:ByteArray}{v:Value}{e:Int}(h:Gg rs d s=(v,e))(he:e≠0):J0 d s=([],e):=by
 unfold J0
 rcases EW h with ⟨rfl,h1⟩ | ⟨rfl,h1,h2⟩ | ⟨h0,_⟩
 ·rw [if_pos h1]
 ·rw [if_neg (by rw [h1]; decide),h2]
 ·exact absurd h0 he
set_option maxHeartbeats 4000000 in
theorem IF (p:Nat)(d:Dk)(hd:d.Ok)(s:ByteArray):Spec prog 8 [pv p,.string s] [FSA p d] (fun r L=>r=.tuple #[.string ⟨(J0 d s).1.toArray⟩,.int .i64 (J0 d s).2]∧L=[FSA p d]):=by
 refine FSA.open' fun x hx=>?_
 obtain ⟨o,e,hve⟩:=GT x.rs d s
 have hfs:=Eh (p:=p) hx hve
 refine Spec.of 22 func8 rfl rfl rfl ?_
 refine Ad (B2 rfl (Au [0,1] rfl rfl (Ad (Ah rfl (Ah rfl ?_)))))
 refine AE (AF hfs rfl rfl AG) ?_
 rintro v11 L1 ⟨rfl,rfl⟩
 refine As (Ah rfl (Af (Ax rfl) (Af (Ax rfl) (B2 rfl (Au [6,7] rfl rfl (Aj (Ad (Ah rfl (Af (Bx rfl rfl) (AI [6,7,15] rfl ?_))))))))))
 refine Aq rfl (fun h15=>?_) (fun h15=>?_)
 ·refine Ad (Ah rfl (B2 rfl (Au [4,5] rfl rfl (Av (AZ ?_)))))
  have h15':e≠0:=by simpa using h15
  rw [Yb hve h15']
  exact B6 [FSA p d] (.tmp rfl (.tmp rfl .nil)) ⟨rfl,rfl⟩ ((Split.ent' (K:=[EH p d x,BI x.sb BN x.es x.cs,BI x.fb BN x.ef x.cf,own 279 3 x.pv x.ps.length (x.ps.flatMap Cj),BV x.rs]) AG).trans (BY hx))
 ·have h15':e=0:=by simpa using h15
  subst h15'
  have hk3:∃ k,BC d.seen s=some k∧.pointer o=adr x.rs k∧J0 d s=((d.fl k).bytes,0):=by
   rcases EW hve with ⟨h0,_⟩ | ⟨h0,_⟩ | ⟨_,h1,k,h2,h3⟩
   ·cases h0
   ·cases h0
   ·refine ⟨k,h2,h3,?_⟩
    unfold J0
    rw [if_neg (by rw [h1]; decide),h2]
  obtain ⟨k,hk1,hk2,hk3⟩:=hk3
  obtain ⟨r,hr,hf,ha⟩:=hx.find hk1
  rw [ha] at hk2
  rw [hk2]
  refine AX (Split.ent' (K:=[BV x.rs,EH p d x,BI x.sb BN x.es x.cs,BI x.fb BN x.ef x.cf,own 279 3 x.pv x.ps.length (x.ps.flatMap Cj)]) AG) ?_
  refine AX (Hl hr (Fu hd hf)) (Ar (Ai (Ad (Ah rfl (Af (Al rfl) (Af (Ae rfl) (AM (Ak rfl rfl) ?_)))))))
  refine AM (H9 r.f.bytes rfl JU) ?_
  refine B2 rfl (Au [4,5] rfl rfl (Av ?_))
  rw [hk3,← hf]
  refine B6 [FSA p d] (.tmp rfl (.tmp rfl .nil)) ⟨rfl,rfl⟩ ?_
  refine Ent.trans (Split.ent' (K:=[own 5 1 r.v r.f.bytes.length (Dx r.f.bytes),B5 r.a 96 [.int .i64 (k:Nat),r.v,.int .i64 (r.f.safe:Nat)],GM x.rs k,EH p d x,BI x.sb BN x.es x.cs,BI x.fb BN x.ef x.cf,own 279 3 x.pv x.ps.length (x.ps.flatMap Cj)]) AG) ?_
  exact (Hm hr (Fu hd hf)).trans ((Split.ent' (K:=[EH p d x,BI x.sb BN x.es x.cs,BI x.fb BN x.ef x.cf,own 279 3 x.pv x.ps.length (x.ps.flatMap Cj),BV x.rs]) AG).trans (BY hx))
theorem Yc (p:Nat)(d:Dk):Spec prog 72 [pv p] [FSA p d] (fun r L=>r=.bool d.off∧L=[FSA p d]):=by
 refine FSA.open' fun x hx=>?_
 refine Spec.of 11 func72 rfl rfl rfl ?_
 refine Ad (Au [0] rfl rfl (Ad (Ah rfl (Af (Ct rfl rfl) (Ah rfl ?_)))))
 refine B9 5 rfl (fun h5=>?_) (fun h5=>by cases h5)
 refine AS rfl rfl (Ah rfl (AS rfl rfl (Af (Al rfl) (AS rfl rfl (Af (Ae rfl) (AS rfl rfl (AM (Ak rfl rfl) (Af (Bc rfl rfl) (Au [2] rfl rfl (Av ?_))))))))))
 exact B6 [FSA p d] (.tmp rfl .nil) ⟨rfl,rfl⟩ ((Split.ent' (K:=[EH p d x,BI x.sb BN x.es x.cs,BI x.fb BN x.ef x.cf,own 279 3 x.pv x.ps.length (x.ps.flatMap Cj),BV x.rs]) AG).trans (BY hx))
theorem Yd (q:Int)(sb fb:Nat):Rep (HT q) ⟨sb,fb,[],0,[],0,[],[],.slice none 0 0⟩ :=
 ⟨.nil _,.nil _,.nil _,.nil _,rfl,(fun k hk=>by
  rcases hk with ⟨⟨y,hy,_⟩⟩ | ⟨⟨y,hy,_⟩⟩ | ⟨c,hc,_⟩
  ·cases hy
  ·cases hy
  ·cases hc),rfl,fun i p c hp=>by cases hp⟩
def A0B (q:Int):Prop:=0≤q∧q≤16777216
theorem Ye (q:Int):Spec prog 23 [.int .i64 q] [] (fun r L=>(¬ A0B q∧r=.tuple #[.pointer none,.int .i64 1]∧L=[])∨(A0B q∧∃ p,r=.tuple #[pv p,.int .i64 0]∧L=[FSA p (HT q)])):=by
 refine Spec.of 15 func23 rfl rfl rfl ?_
 refine Ad (B2 rfl (Au [0] rfl rfl (Aj (Ad (Ah rfl (Af (Be rfl rfl) (Ah rfl ?_)))))))
 refine B9 6 rfl (fun h6=>?_) (fun h6=>?_)
 ·refine B1 rfl rfl rfl (B1 rfl rfl rfl (Af (Bc rfl rfl) (AI [0,9] rfl ?_)))
  refine Aq rfl (fun h9=>?_) (fun h9=>by cases h9)
  refine Ad (B2 rfl (Au [2,3] rfl rfl (Av (AZ ?_))))
  exact Aw [] (.tmp rfl (.tmp rfl .nil)) (.inl ⟨fun h=>by have:=of_decide_eq_true h6; have:=h.1; omega,rfl,rfl⟩) AG
 ·refine AS rfl rfl (Ah rfl (AS rfl rfl (Af (BO rfl rfl) (Af (B0 rfl rfl) (AI [0,9] rfl ?_)))))
  refine Aq rfl (fun h9=>?_) (fun h9=>?_)
  ·refine Ad (B2 rfl (Au [2,3] rfl rfl (Av (AZ ?_))))
   exact Aw [] (.tmp rfl (.tmp rfl .nil)) (.inl ⟨fun h=>by have:=of_decide_eq_true h9; have:=h.2; omega,rfl,rfl⟩) AG
  ·refine Ar (Ai (Ad (Ah rfl (AE (ET (kv:=BN)) (fun b11=>?_)))))
   refine AE (ET (kv:=BN)) fun b12=>?_
   refine Af (Bz (qs:=[(0,_),(2,_),(3,_)]) rfl) (AE (Bp rfl rfl) (fun b14=>?_))
   refine B2 rfl (Au [2,3] rfl rfl (Av ?_))
   refine B6 [FSA b14 (HT q)] (.tmp rfl (.tmp rfl .nil)) (.inr ⟨⟨by have:=of_decide_eq_false h6; omega,by have:=of_decide_eq_false h9; omega⟩,b14,rfl,rfl⟩) ?_
   refine Ent.trans (own_nil_ent (e:=279) (n:=3)) ?_
   have e1:Ent [] [BV []]:=CZ (K:=[]) (L:=[])
   exact Ent.trans (Split.ent' (K:=[B5 b14 100 [.int .i64 q,.int .i64 0,.map (some b11),.map (some b12),.slice none 0 0,.int .i64 0,.bool false],BI b11 BN [] 0,BI b12 BN [] 0,own 279 3 (.slice none 0 0) 0 []]) AG) ((Ent.under (X:=[B5 b14 100 [.int .i64 q,.int .i64 0,.map (some b11),.map (some b12),.slice none 0 0,.int .i64 0,.bool false],BI b11 BN [] 0,BI b12 BN [] 0,own 279 3 (.slice none 0 0) 0 []]) e1).trans (BY (Yd q b11 b12)))
abbrev logN:ByteArray:=⟨#[108,111,103]⟩
def E2 (d:Dk):Dk×Int:=if (BG d logN).2≠0 then BG d logN else C2 (BG d logN).1
theorem SN (b1 q:Nat)(d:Dk)(hd:d.Ok)(hw:Z9 d):Spec prog 144 [pv b1] [FSA q d,B5 b1 23 [pv q]] (fun r L=>r=.int .i64 (BG d logN).2∧L=[FSA q (BG d logN).1,B5 b1 23 [pv q]]):=by
 refine Spec.of 4 func144 rfl rfl rfl ?_
 refine Ad (Au [0] rfl rfl (Ad (AM (Ak rfl rfl) ?_)))
 refine AE (AF (KK q d hd hw logN) rfl rfl AG) ?_
 rintro v3 L1 ⟨rfl,rfl⟩
 refine As (Au [1] rfl rfl (Av ?_))
 exact Aw [FSA q (BG d logN).1,B5 b1 23 [pv q]] (.tmp rfl .nil) ⟨rfl,rfl⟩ AG
theorem QN (b1 q:Nat)(d:Dk)(hd:d.Ok)(hw:Z9 d) :
  Ki [.func (.func 144) #[] #[pv b1],.func (.func 99) #[pv q] #[]] [FSA q d,B5 b1 23 [pv q]] (fun e L=>e=(E2 d).2∧L=[FSA q (E2 d).1,B5 b1 23 [pv q]]):=by
 have hd1:=Mb hd logN
 refine ⟨144,inferInstance,[],[pv b1],rfl,Spec.mono (SN b1 q d hd hw) ?_⟩
 rintro r L ⟨rfl,rfl⟩
 refine ⟨_,rfl,?_⟩
 by_cases h1:(BG d logN).2=0
 ·refine .inl ⟨h1,99,inferInstance,[pv q],[],rfl,Spec.mono (Spec.fr (MK q _ hd1) [B5 b1 23 [pv q]]) ?_⟩
  rintro r L ⟨L',⟨rfl,rfl⟩,rfl⟩
  have e:E2 d=C2 (BG d logN).1:=by unfold E2; rw [if_neg (not_not_intro h1)]
  refine ⟨_,rfl,?_⟩
  by_cases h3:(C2 (BG d logN).1).2=0
  ·exact .inl ⟨h3,by rw [e]; exact ⟨h3.symm,rfl⟩⟩
  ·exact .inr ⟨h3,by rw [e]; exact ⟨rfl,rfl⟩⟩
 ·have e:E2 d=BG d logN:=by unfold E2; rw [if_pos h1]
  exact .inr ⟨h1,by rw [e]; exact ⟨rfl,rfl⟩⟩
abbrev DA (q:Nat):SW:=⟨q,.slice none 0 0,.slice none 0 0,[],[],false⟩
theorem QO (μ:PH)(q:Nat):(DA q).Ok μ:=⟨⟨none,0,rfl⟩,⟨none,0,rfl⟩,fun x hx=>(by cases hx),fun x hx=>(by cases hx),Nat.zero_le _,Nat.zero_le _⟩
theorem Ib (μ:PH)(v:Value)(t:List En)(hv:Row μ v 2 t.length (Ci t))(hl:t.length≤1048576):Spec prog 87 [v] [ro μ] (fun r L=>∃ A c,r=.slice A t.length c∧L=[own 111 2 (.slice A t.length c) t.length (Ci t),ro μ]):=by
 obtain ⟨A,cap,rfl⟩:=hv.sl
 refine Spec.of 8 func87 rfl rfl rfl ?_
 refine Ad (Au [0] rfl rfl (Aj (Ad (Ah rfl (Af (Et rfl rfl) (AI [0,4] rfl ?_))))))
 refine Aq rfl (fun h4=>?_) (fun h4=>?_)
 ·refine Ad (Au [2] rfl rfl (Av (AZ ?_)))
  have hA:A=none:=by cases A <;> simp_all
  subst hA
  have h0:t=[]:=by
   cases t with
   | nil=>rfl
   | cons x l=>obtain ⟨b,o,c,h,_⟩:=hv.pos (by simp); cases h
  subst h0
  exact B6 [own 111 2 (.slice none 0 0) 0 [],ro μ] (.tmp rfl .nil) ⟨none,0,rfl,rfl⟩ own_nil_ent
 ·refine Ar (Ai (Ad (AE (Bs (qs:=[]) rfl rfl rfl) (fun b5=>?_))))
  refine Ah rfl (C9 (Gw (n:=2)) ?_)
  refine AE (D9 hv rfl rfl AG (ON _) (by simp only [maxLen]; omega) AC) ?_
  rintro v7 -
  rw [Nat.zero_add,List.nil_append]
  refine E3 (fun m h=>CL h) fun ⟨A7,c7,hv7⟩=>?_
  subst hv7
  refine Au [2] rfl rfl (Av ?_)
  exact Aw [own 111 2 (.slice A7 t.length c7) t.length (Ci t),ro μ] (.tmp rfl .nil) ⟨A7,c7,rfl,rfl⟩ AG
theorem Fb (μ:PH)(v:Value)(xs:List Int)(hv:Row μ v 1 xs.length (xs.flatMap (Bw .i64)))(hl:xs.length≤1048576):Spec prog 91 [v] [ro μ] (fun r L=>∃ A c,r=.slice A xs.length c∧L=[own 3 1 (.slice A xs.length c) xs.length (xs.flatMap (Bw .i64)),ro μ]):=by
 obtain ⟨A,cap,rfl⟩:=hv.sl
 refine Spec.of 8 func91 rfl rfl rfl ?_
 refine Ad (Au [0] rfl rfl (Aj (Ad (Ah rfl (Af (Et rfl rfl) (AI [0,4] rfl ?_))))))
 refine Aq rfl (fun h4=>?_) (fun h4=>?_)
 ·refine Ad (Au [2] rfl rfl (Av (AZ ?_)))
  have hA:A=none:=by cases A <;> simp_all
  subst hA
  have h0:xs=[]:=by
   cases xs with
   | nil=>rfl
   | cons x l=>obtain ⟨b,o,c,h,_⟩:=hv.pos (by simp); cases h
  subst h0
  exact B6 [own 3 1 (.slice none 0 0) 0 [],ro μ] (.tmp rfl .nil) ⟨none,0,rfl,rfl⟩ own_nil_ent
 ·refine Ar (Ai (Ad (AE (Bs (qs:=[]) rfl rfl rfl) (fun b5=>?_))))
  refine Ah rfl (C9 (Gw (n:=1)) ?_)
  refine AE (D9 hv rfl rfl AG (Xd _) (by simp only [maxLen]; omega) AC) ?_
  rintro v7 -
  rw [Nat.zero_add,List.nil_append]
  refine E3 (fun m h=>CL h) fun ⟨A7,c7,hv7⟩=>?_
  subst hv7
  refine Au [2] rfl rfl (Av ?_)
  exact Aw [own 3 1 (.slice A7 xs.length c7) xs.length (xs.flatMap (Bw .i64)),ro μ] (.tmp rfl .nil) ⟨A7,c7,rfl,rfl⟩ AG
def writeD (d:Dk)(f:Fm):Dk×Int:=if (BR d logN (DF f)).2≠0 then BR d logN (DF f) else Dz (BR d logN (DF f)).1 logN
theorem Yf (q:Nat)(d:Dk)(hd:d.Ok)(s:ByteArray)(l:List UInt8)(hl:l.length≤1048576):Spec prog 155 [pv q,.string s,.string (str l)] [FSA q d] (fun r L=>r=.int .i64 (BR d s l).2∧L=[FSA q (BR d s l).1]):=KL q d hd s (str l) hl
abbrev Ps (b3 b7 p:Nat)(W:SW)(d:Dk)(f:Fm):List AK:=[FSA W.q d,B5 b3 39 [pv p],B5 b7 9 [.string (str (DF f))],CT p W]
theorem Vz (b3 b7 p:Nat)(W:SW)(d:Dk)(hd:d.Ok)(f:Fm)(hf:f.2.length≤1048567):Spec prog 154 [pv b3,pv b7] (Ps b3 b7 p W d f) (fun r L=>r=.int .i64 (BR d logN (DF f)).2∧L=Ps b3 b7 p W (BR d logN (DF f)).1 f):=by
 refine Spec.of 9 func154 rfl rfl rfl ?_
 refine Ad (Au [0,1] rfl rfl (Aj ?_))
 refine Bb [0,3,4] _ [] (by simp only [List.append_nil]; exact Ent.refl _) AP ?_
 refine Bl 0 rfl (Ak rfl rfl) rfl (AD 1 rfl (Al rfl) (AD 2 rfl (Ae rfl) (Bl 3 rfl (Ak rfl rfl) rfl (Bl 4 rfl (Ak rfl rfl) rfl ?_))))
 refine BX 5 rfl AP AP (AF (Yf W.q d hd logN (DF f) (by rw [GA]; omega)) rfl rfl AG) ?_
 rintro v8 L1 ⟨rfl,rfl⟩
 refine C5 (AD 6 rfl (Bf rfl) (BZ [2] rfl (Bv AP (Ai (Av ?_)))))
 exact Aw (Ps b3 b7 p W (BR d logN (DF f)).1 f) (.tmp rfl .nil) ⟨rfl,rfl⟩ AG
theorem VB (b3 b7 p:Nat)(W:SW)(d:Dk)(hd:d.Ok)(f:Fm):Spec prog 156 [pv b3] (Ps b3 b7 p W d f) (fun r L=>r=.int .i64 (Dz d logN).2∧L=Ps b3 b7 p W (Dz d logN).1 f):=by
 refine Spec.of 7 func156 rfl rfl rfl ?_
 refine Ad (Au [0] rfl rfl (Ad (AM (Ak rfl rfl) (Af (Al rfl) (Af (Ae rfl) (AM (Ak rfl rfl) ?_))))))
 refine AE (AF (O7 W.q d hd logN) rfl rfl AG) ?_
 rintro v6 L1 ⟨rfl,rfl⟩
 refine As (Au [1] rfl rfl (Av ?_))
 exact Aw (Ps b3 b7 p W (Dz d logN).1 f) (.tmp rfl .nil) ⟨rfl,rfl⟩ AG
theorem QP (b3 b7 p:Nat)(W:SW)(d:Dk)(hd:d.Ok)(f:Fm)(hf:f.2.length≤1048567) :
  Ki [.func (.func 154) #[] #[pv b3,pv b7],.func (.func 156) #[] #[pv b3]] (Ps b3 b7 p W d f) (fun e L=>e=(writeD d f).2∧L=Ps b3 b7 p W (writeD d f).1 f):=by
 have hd1:=Se hd logN (DF f)
 refine ⟨154,inferInstance,[],[pv b3,pv b7],rfl,Spec.mono (Vz b3 b7 p W d hd f hf) ?_⟩
 rintro r L ⟨rfl,rfl⟩
 refine ⟨_,rfl,?_⟩
 by_cases h1:(BR d logN (DF f)).2=0
 ·refine .inl ⟨h1,156,inferInstance,[],[pv b3],rfl,Spec.mono (VB b3 b7 p W _ hd1 f) ?_⟩
  rintro r L ⟨rfl,rfl⟩
  have e:writeD d f=Dz (BR d logN (DF f)).1 logN:=by unfold writeD; rw [if_neg (not_not_intro h1)]
  refine ⟨_,rfl,?_⟩
  by_cases h3:(Dz (BR d logN (DF f)).1 logN).2=0
  ·exact .inl ⟨h3,by rw [e]; exact ⟨h3.symm,rfl⟩⟩
  ·exact .inr ⟨h3,by rw [e]; exact ⟨rfl,rfl⟩⟩
 ·have e:writeD d f=BR d logN (DF f):=by unfold writeD; rw [if_pos h1]
  exact .inr ⟨h1,by rw [e]; exact ⟨rfl,rfl⟩⟩
set_option maxHeartbeats 2000000 in
theorem ML (p:Nat)(W:SW)(d:Dk)(hd:d.Ok)(f:Fm)(h1:0<f.1)(h2:f.1<256)(hf:f.2.length≤1048567):Spec prog 86 [pv p,.int .i64 (f.1:Nat),.string (str f.2)] [FSA W.q d,CT p W] (fun r L=>r=.int .i64 (writeD d f).2∧L=[FSA W.q (writeD d f).1,CT p { W with dead:=decide ((writeD d f).2=8)}]):=by
 refine Spec.of 28 func86 rfl rfl rfl ?_
 refine Ad (AE (Bp rfl rfl) (fun b3=>?_))
 refine Au [1,2,3] rfl rfl (Ad (Ah rfl (Ah rfl (Af (Bz (qs:=[(0,_),(1,_)]) rfl) ?_))))
 refine AE (AF (Vn f h1 h2 AC) rfl rfl AG) ?_
 rintro v13 L1 ⟨rfl,rfl⟩
 refine As (Ah rfl (Af (Ax rfl) (Af (Ax rfl) (AE (Bd) (fun b7=>?_)))))
 refine Bh (Ba rfl rfl rfl) (Au [3,7,8] rfl rfl (Aj (Ad (Ah rfl (Af (Bo rfl rfl) (AI [3,7,8,17] rfl (Tv rfl (Am (Af (Cr (vs:=[]) (us:=[_,_]) rfl rfl) (Af (Cr (vs:=[]) (us:=[_]) rfl rfl) (AE (Bs (qs:=[(0,_),(1,_)]) rfl rfl rfl) (fun b20=>?_))))))))))))
 refine AE (AF (MA b20 2 [.func (.func 154) #[] #[pv b3,pv b7],.func (.func 156) #[] #[pv b3]] (Ps b3 b7 p W d f) _ (by show 2≤1000; decide) (QP b3 b7 p W d hd f hf)) rfl rfl AG) ?_
 rintro v21 L1 ⟨e,L2,rfl,⟨rfl,rfl⟩,rfl⟩
 refine As (Au [3,8] rfl rfl (Ad (AM (Ak rfl rfl) (Ah rfl (Af (Bo rfl rfl) (Af (Al rfl) (Af (Ae rfl) (Bh (Ba rfl rfl rfl) (AI [8] rfl (Ad (Ah rfl (Au [6] rfl rfl (Av ?_)))))))))))))
 exact Aw [FSA W.q (writeD d f).1,CT p { W with dead:=decide ((writeD d f).2=8)}] (.tmp rfl .nil) ⟨rfl,rfl⟩ AG
theorem O8 (p:Nat)(W:SW):Spec prog 84 [pv p] [CT p W] (fun r L=>r=.int .i64 (if W.dead=true then 8 else 0)∧L=[CT p W]):=by
 refine Spec.of 11 func84 rfl rfl rfl ?_
 refine Ad (Au [0] rfl rfl (Aj (AB (Ad (Ah rfl (Af (Bm rfl rfl) (Au [0,3] rfl rfl (Dw rfl (Ad (Ah rfl (Af (Al rfl) (Af (Ae rfl) (AM (Ak rfl rfl) (Au [6] rfl rfl ?_))))))))))))))
 refine Aq rfl (fun h6=>?_) (fun h6=>?_)
 ·refine Ad (Au [2] rfl rfl (Av (Bg (AZ ?_))))
  exact Aw [CT p W] (.tmp rfl .nil) ⟨by rw [if_pos h6]; rfl,rfl⟩ AG
 ·refine Ar (AV (Ai (Ad (Au [2] rfl rfl (Av ?_)))))
  exact Aw [CT p W] (.tmp rfl .nil) ⟨by rw [if_neg (by rw [h6]; decide)]; rfl,rfl⟩ AG
abbrev Ck:Type:=Nat×List UInt8
abbrev IG (x:Ck):List Value:=[.int .u32 (x.1:Nat),.string (str x.2)]
theorem Kl {μ:PH}{v:Value}{l:List Ck}(h:Row μ v 2 l.length (l.flatMap IG)){i:Nat}{x:Ck}(hi:l[i]? = some x):∃ b off cap,v=.slice (some ⟨b,off,none⟩) l.length cap∧RowAt μ b (off+i*2) (IG x):=by
 have hl:=(List.getElem?_eq_some_iff.1 hi).1
 obtain ⟨b,off,cap,hv,_,_,hr⟩:=h.pos AC
 exact ⟨b,off,cap,hv,hr.elem (f:=IG) (n:=2) (fun _=>rfl) hi⟩
theorem Yg (μ:PH)(v:Value)(l:List Ck)(K:List AK)(fn:FuncId)[Body prog fn](fi ca:List Value)(p:Ck→Bool)(h:Row μ v 2 l.length (l.flatMap IG))
  (hf:∀ x∈l,Spec prog fn (fi++[.agg (IG x).toArray]++ca) (ro μ::K) (fun r L=>r=.bool (p x)∧L=ro μ::K)):Spec prog 252 [v,.func (.func fn) fi.toArray ca.toArray] (ro μ::K) (fun r L=>r=.bool (l.any p)∧L=ro μ::K):=by
 have hidx:Spec prog 319 [v,.func (.func fn) fi.toArray ca.toArray] (ro μ::K) (fun r L=>(∃ k:Int,r=.int .i64 k∧(decide (0≤k)=l.any p))∧L=ro μ::K):=by
  have hsm:=h.small
  refine Spec.of 19 func319 rfl rfl rfl ?_
  refine Ad (Au [0,1] rfl rfl (Aj (Ad (Ah rfl (Af (AW h rfl) (Ah rfl (AI [0,1,7,8] rfl (AB ?_))))))))
  refine B4 (ι:=Nat) (fun i env L=>Sub env [(0,v),(1,.func (.func fn) fi.toArray ca.toArray),(7,.int .i64 (l.length:Nat)),(8,.int .i64 (i:Nat))]∧L=ro μ::K∧i≤l.length∧∀ y∈l.take i,p y=false) (fun i=>l.length-i) 0 ⟨⟨rfl,rfl,rfl,rfl,trivial⟩,rfl,Nat.zero_le _,fun y hy=>by simp at hy⟩ ?_
  rintro i env L ⟨hsub,rfl,hi,hno⟩
  refine B7 _ hsub ?_
  clear hsub env
  refine Ad (Af (Be rfl rfl) (AI [0,1,7,8,9] rfl (Aj ?_)))
  refine Aq rfl (fun h9=>?_) (fun h9=>?_)
  ·have h9':i<l.length:=by have:=of_decide_eq_true h9; omega
   obtain ⟨x,hx⟩:∃ x,l[i]? = some x:=⟨_,List.getElem?_eq_getElem h9'⟩
   obtain ⟨b,off,cap,hv,hr⟩:=Kl h hx
   refine Ar (Ai (Aj (AB (Ad (Ah rfl (Au [0,1,5,7,8] rfl rfl (Ad (Ah rfl (Ah rfl (Ah rfl ?_))))))))))
   refine Af (AA (off+i*2) (congrArg some hv) rfl AC AC (by rw [Int.toNat_natCast])) ?_
   refine AM (Cu (vs:=IG x) rfl rfl hr) (AE (FJ (R:=[]) (hf x (List.mem_of_getElem? hx)) rfl rfl (Split.all)) ?_)
   rintro v1 L1 ⟨rfl,rfl⟩
   rw [List.append_nil]
   refine AI [0,1,5,7,8,16] rfl ?_
   refine Aq rfl (fun h16=>?_) (fun h16=>?_)
   ·refine Ad (Ah rfl (Au [4] rfl rfl (Av (Bg (AZ (AZ (Bg (AZ ?_))))))))
    exact Aw _ (.tmp rfl .nil) ⟨⟨i,rfl,by rw [decide_eq_true AC]; exact (List.any_eq_true.2 ⟨x,List.mem_of_getElem? hx,h16⟩).symm⟩,rfl⟩ Split.all
   ·refine Ar (AV (Ai (Am (Af (AQ ((i+1:Nat):Int) rfl rfl AC AC AC) (Ah rfl (Bi [0,1,7,8] rfl (AJ ?_)))))))
    exact Ai ⟨i+1,⟨⟨rfl,rfl,rfl,rfl,trivial⟩,rfl,h9',fun y hy=>by
     rw [List.take_add_one,hx] at hy
     rcases List.mem_append.1 hy with hy | hy
     ·exact hno y hy
     ·obtain rfl:y=x:=by simpa using hy
      exact h16⟩,by omega⟩
  ·have h9':=of_decide_eq_false h9
   obtain rfl:i=l.length:=by omega
   refine B3 (AU (AU (AY rfl (Ai (Ad (Au [4] rfl rfl (Av ?_)))))))
   refine Aw _ (.tmp rfl .nil) ⟨⟨-1,rfl,?_⟩,rfl⟩ Split.all
   rw [List.take_length] at hno
   rw [decide_eq_false AC]
   symm
   rw [List.any_eq_false]
   exact fun x hx=>by rw [hno x hx]; simp
 refine Spec.of 9 func252 rfl rfl rfl ?_
 refine Ad (Au [0,1] rfl rfl (Ad (Ah rfl (Ah rfl (AE (AF (R:=[]) hidx rfl rfl (Split.all)) ?_)))))
 rintro v1 L1 ⟨⟨k,rfl,hk⟩,rfl⟩
 rw [List.append_nil]
 refine Af (Cs rfl rfl) (Au [4] rfl rfl (Av ?_))
 exact Aw _ (.tmp rfl .nil) ⟨congrArg Value.bool hk,rfl⟩ Split.all
theorem VC (x y:Ck)(b:Nat)(A:AK)(K:List AK):Spec prog 253 [.agg (IG y).toArray,pv b] (A::B5 b 267 (IG x)::K) (fun r L=>r=.bool (decide (y.1=x.1))∧L=A::B5 b 267 (IG x)::K):=by
 refine Spec.of 9 func253 rfl rfl rfl ?_
 refine Ad (AE (Bp rfl rfl) (fun b2=>?_))
 refine Au [1,2] rfl rfl (Ad (Af (Ae rfl) (AM (Ak rfl rfl) (Af (Ae rfl) (AM (Ak rfl rfl) (Af (Bo rfl rfl) (Au [3] rfl rfl (Av ?_))))))))
 refine Aw _ (.tmp rfl .nil) ⟨?_,rfl⟩ (Split.skip Split.all)
 show Value.bool _=Value.bool _
 congr 1
 exact decide_eq_decide.2 AC
theorem O9 (n:Int):Spec prog 321 [.int .u32 n] [] (fun r L=>r=.bool false∧L=[]):=by
 refine Spec.of 6 func321 rfl rfl rfl ?_
 refine Ad (Au [0] rfl rfl (Ad (Ah rfl (Ah rfl (Af (Bx rfl rfl) (Au [2] rfl rfl (Av ?_)))))))
 exact Aw [] (.tmp rfl .nil) ⟨congrArg Value.bool (by simp),rfl⟩ AG
theorem VD (a b:Nat)(h:b<a):Spec prog 257 [.int .u32 (a:Nat),.int .u32 (b:Nat)] [] (fun r L=>r=.int .i64 1∧L=[]):=by
 refine Spec.of 20 func257 rfl rfl rfl ?_
 refine Ad (Au [0,1] rfl rfl (Ad (Ah rfl ?_)))
 refine AE (AF (O9 (a:Nat)) rfl rfl AG) ?_
 rintro v8 L1 ⟨rfl,rfl⟩
 refine As (Au [0,1,5] rfl rfl (Ad (Ah rfl ?_)))
 refine AE (AF (O9 (b:Nat)) rfl rfl AG) ?_
 rintro v10 L1 ⟨rfl,rfl⟩
 refine As (Au [0,1,5,6] rfl rfl (Aj (Ad (Ah rfl (AI [0,1,6,11] rfl (Dw rfl (Ar (Ai (Aj (Ad (Ah rfl (AI [0,1,13] rfl (Dw rfl (Ar (Ai (Aj (Ad (Ah rfl (Ah rfl (Af (Be rfl rfl) (AI [0,1,16] rfl ?_)))))))))))))))))))))
 refine Aq rfl (fun h16=>by have:=of_decide_eq_true h16; omega) (fun h16=>?_)
 refine Ar (Ai (Aj (Ad (Ah rfl (Ah rfl (Af (BO rfl rfl) (AI [19] rfl ?_)))))))
 refine Aq rfl (fun h19=>?_) (fun h19=>by have:=of_decide_eq_false h19; omega)
 refine Ad (Au [4] rfl rfl (Av (AZ ?_)))
 exact Aw [] (.tmp rfl .nil) ⟨rfl,rfl⟩ AG
theorem VE (x y:Ck)(h:y.1<x.1):Spec prog 256 [.agg (IG x).toArray,.agg (IG y).toArray] [] (fun r L=>r=.int .i64 1∧L=[]):=by
 refine Spec.of 10 func256 rfl rfl rfl ?_
 refine Ad (AE (Bp rfl rfl) (fun b2=>?_))
 refine AE (Bp rfl rfl) fun b3=>?_
 refine Au [2,3] rfl rfl (Ad (Af (Ae rfl) (AM (Ak rfl rfl) (Af (Ae rfl) (AM (Ak rfl rfl) ?_)))))
 refine AE (AF (VD x.1 y.1 h) rfl rfl AG) ?_
 rintro v9 L1 ⟨rfl,rfl⟩
 refine As (Au [4] rfl rfl (Av ?_))
 exact Aw [] (.tmp rfl .nil) ⟨rfl,rfl⟩ AG
def AscC (l:List Ck):Prop:=l.Pairwise fun x y=>x.1<y.1
theorem AscC.lt{l:List Ck}(h:AscC l){i j:Nat}{x y:Ck}(hx:l[i]? = some x)(hy:l[j]? = some y)(hij:i<j):x.1<y.1:=by
 obtain ⟨hi,rfl⟩:=List.getElem?_eq_some_iff.1 hx
 obtain ⟨hj,rfl⟩:=List.getElem?_eq_some_iff.1 hy
 exact List.pairwise_iff_getElem.1 h i j hi hj hij
theorem AscC.no{l:List Ck}(h:AscC l){i:Nat}{x:Ck}(hx:l[i]? = some x):(l.take i).any (fun y=>decide (y.1=x.1))=false:=by
 rw [List.any_eq_false]
 intro y hy hh
 have he:y.1=x.1:=by simpa using hh
 obtain ⟨j,hj⟩:=List.getElem?_of_mem hy
 have hjl:=(List.getElem?_eq_some_iff.1 hj).1
 rw [List.length_take] at hjl
 rw [List.getElem?_take_of_lt AC] at hj
 have:=h.lt hj hx AC
 omega
theorem VG (μ:PH)(v:Value)(l:List Ck)(h:Row μ v 2 l.length (l.flatMap IG))(ha:AscC l):Spec prog 355 [v,.int .i64 0,.int .i64 (l.length:Nat),.func (.func 256) #[] #[]] [ro μ] (fun r L=>r=.tuple #[]∧L=[ro μ]):=by
 have hsm:=h.small
 refine Spec.of 53 func355 rfl rfl rfl ?_
 refine Ad (Ah rfl (Af (AQ ((0+1:Nat):Int) rfl rfl AC AC AC) (Au [0,1,2,3,8] rfl rfl (AB ?_))))
 refine B4 (ι:=Nat) (fun i env L=>Sub env [(0,v),(1,.int .i64 0),(2,.int .i64 (l.length:Nat)),(3,.func (.func 256) #[] #[]),(8,.int .i64 (i:Nat))]∧Ent L [ro μ]∧1≤i) (fun i=>l.length-i) 1 ⟨⟨rfl,rfl,rfl,rfl,rfl,trivial⟩,Ent.refl _,Nat.le_refl _⟩ ?_
 rintro i env L ⟨hsub,hE,hi⟩
 refine B7 _ hsub (AX hE ?_)
 clear hsub hE env L
 refine Aj (Ad (Ah rfl (Ah rfl (Af (Be rfl rfl) (AI [0,1,2,3,8,14] rfl ?_)))))
 refine Aq rfl (fun h14=>?_) (fun h14=>?_)
 ·have h14':i<l.length:=by have:=of_decide_eq_true h14; omega
  obtain ⟨x,hx⟩:∃ x,l[i]? = some x:=⟨_,List.getElem?_eq_getElem h14'⟩
  obtain ⟨y,hy⟩:∃ y,l[i-1]? = some y:=⟨_,List.getElem?_eq_getElem AC⟩
  obtain ⟨b,off,cap,hv,hr⟩:=Kl h hx
  obtain ⟨b2,off2,cap2,hv2,hr2⟩:=Kl h hy
  have hlt:=ha.lt hy hx AC
  refine Ar (Ai (Aj (AB (Ad (Ah rfl (Au [0,1,2,3,8,9] rfl rfl (AB ?_)))))))
  refine B4 (ι:=Nat) (fun _ env L=>Sub env [(0,v),(1,.int .i64 0),(2,.int .i64 (l.length:Nat)),(3,.func (.func 256) #[] #[]),(8,.int .i64 (i:Nat)),(9,.int .i64 (i:Nat))]∧Ent L [ro μ]) (fun i=>i) 0 ⟨⟨rfl,rfl,rfl,rfl,rfl,rfl,trivial⟩,Ent.refl _⟩ ?_
  rintro _ env L ⟨hsub,hE⟩
  refine B7 _ hsub (AX hE ?_)
  clear hsub hE env L
  refine Aj (Aj ?_)
  refine Bb [8,13] _ [] (by simp only [List.append_nil]; exact Ent.refl _) AP ?_
  refine AD 0 rfl (AH rfl) (AD 1 rfl (AH rfl) (AD 2 rfl (BO rfl rfl) (AD 3 rfl (AH rfl) ?_)))
  refine E9 21 rfl (fun h21=>?_) (fun h21=>by have:=of_decide_eq_false h21; omega)
  refine Bn 4 rfl rfl rfl (AH rfl) AP AP AP (Bn 5 rfl rfl rfl (AH rfl) AP AP AP (Bn 6 rfl rfl rfl (AH rfl) AP AP AP ?_))
  refine Bn 7 rfl rfl rfl (AA (off+i*2) (congrArg some hv) rfl AC AC (by rw [Int.toNat_natCast])) AP AP AP ?_
  refine Dt 8 rfl rfl rfl (Cu (vs:=IG x) rfl rfl hr) rfl AP AP AP (Bn 9 rfl rfl rfl (AH rfl) AP AP AP (Bn 10 rfl rfl rfl (AH rfl) AP AP AP (Bn 11 rfl rfl rfl (BH ((i-1:Nat):Int) rfl rfl AC AC AC) AP AP AP ?_)))
  refine Bn 12 rfl rfl rfl (AA (off2+(i-1)*2) (congrArg some hv2) rfl AC AC (by rw [Int.toNat_natCast])) AP AP AP ?_
  refine Dt 13 rfl rfl rfl (Cu (vs:=IG y) rfl rfl hr2) rfl AP AP AP (HL [14] AP rfl ?_)
  refine OJ 14 rfl (GOn.some rfl rfl) AP (FJ (fi:=[]) (args:=[.agg (IG x).toArray,.agg (IG y).toArray]) (ca:=[]) (VE x y hlt) rfl rfl AG) ?_
  rintro v32 L1 ⟨rfl,rfl⟩
  refine C5 (Bn 15 rfl rfl rfl (Be rfl rfl) AP AP AP (AD 16 rfl (Bc rfl rfl) (BZ [0,1,2,3,8,9,34] rfl (Bv AP (Ai (Dw rfl (B3 (AU (AU (AY rfl (AV (Ai (Am (Ah rfl (Af (AQ ((i+1:Nat):Int) rfl rfl AC AC AC) (B2 rfl (Bi [0,1,2,3,8] rfl (AJ ?_))))))))))))))))))
  exact Ai ⟨i+1,⟨⟨rfl,rfl,rfl,rfl,rfl,trivial⟩,Split.ent' AG,by omega⟩,by omega⟩
 ·refine B3 (AU (AU (AY rfl ?_)))
  exact CK [ro μ] .nil ⟨rfl,rfl⟩ AG
theorem VH (μ:PH)(v:Value)(l:List Ck)(h:Row μ v 2 l.length (l.flatMap IG))(ha:AscC l)(hl:l.length≤12)(q:Int):Spec prog 320 [v,.int .i64 0,.int .i64 (l.length:Nat),.int .i64 q,.func (.func 256) #[] #[]] [ro μ] (fun r L=>r=.tuple #[]∧L=[ro μ]):=by
 refine Spec.of 148 func320 rfl rfl rfl ?_
 refine Ad (Au [0,1,2,3,4,10] rfl rfl (Ad (Au [0,1,2,3,4,10,11] rfl rfl (AB ?_))))
 refine B4 (ι:=Nat) (fun _ env L=>Sub env [(0,v),(1,.int .i64 0),(2,.int .i64 (l.length:Nat)),(3,.int .i64 q),(4,.func (.func 256) #[] #[]),(10,.bool true),(11,.bool true)]∧Ent L [ro μ]) (fun _=>0) 0 ⟨⟨rfl,rfl,rfl,rfl,rfl,rfl,rfl,trivial⟩,Ent.refl _⟩ ?_
 rintro _ env L ⟨hsub,hE⟩
 refine B7 _ hsub (AX hE ?_)
 clear hsub hE env L
 refine AB (Ad (Ah rfl (Ah rfl (Af (Io rfl rfl AC AC) (Au [0,1,2,3,4,10,11,12] rfl rfl (Aj (Ad (Ah rfl (Af (H3 rfl rfl) (AI [0,1,2,3,4,10,11,12,25] rfl ?_))))))))))
 refine Aq rfl (fun h25=>?_) (fun h25=>by have:=of_decide_eq_false h25; omega)
 refine Ad (Ah rfl (Ah rfl (Ah rfl (Ah rfl ?_))))
 refine AE (AF (VG μ v l h ha) rfl rfl AG) ?_
 rintro v30 L1 ⟨rfl,rfl⟩
 refine As (C3 _ .nil (Dj (Av (AZ (Bg (AZ (Bg ?_)))))))
 exact Aw [ro μ] .nil ⟨rfl,rfl⟩ AG
theorem VI (n:Nat)(hn:n<1000):Spec prog 264 [.int .u64 (n:Nat)] [] (fun r L=>r=.int .i64 (Lib.bitLen n)∧L=[]):=Spec.ofCalls fun w=>bits_Len (n:Int) w AC AC
theorem SO (μ:PH)(v:Value)(l:List Ck)(h:Row μ v 2 l.length (l.flatMap IG))(ha:AscC l)(hl:l.length≤12):Spec prog 255 [v,.func (.func 256) #[] #[]] [ro μ] (fun r L=>r=.tuple #[]∧L=[ro μ]):=by
 refine Spec.of 14 func255 rfl rfl rfl ?_
 refine Ad (Ah rfl (Af (AW h rfl) (Au [0,1,4] rfl rfl (Am (Ah rfl (Ah rfl (Ah rfl (Af (F3 rfl AC AC) ?_))))))))
 refine AE (AF (VI l.length AC) rfl rfl AG) ?_
 rintro v11 L1 ⟨rfl,rfl⟩
 refine As (Ah rfl ?_)
 refine AE (AF (VH μ v l h ha hl _) rfl rfl AG) ?_
 rintro v13 L1 ⟨rfl,rfl⟩
 refine As (C3 _ .nil (AJ ?_))
 exact CK [ro μ] .nil ⟨rfl,rfl⟩ AG
theorem QQ (μ:PH)(v:Value)(t:List Ck)(hv:Row μ v 2 t.length (t.flatMap IG))(hl:t.length≤1048576):Spec prog 254 [v] [ro μ] (fun r L=>∃ A c,r=.slice A t.length c∧L=[own 267 2 (.slice A t.length c) t.length (t.flatMap IG),ro μ]):=by
 obtain ⟨A,cap,rfl⟩:=hv.sl
 refine Spec.of 8 func254 rfl rfl rfl ?_
 refine Ad (Au [0] rfl rfl (Aj (Ad (Ah rfl (Af (Et rfl rfl) (AI [0,4] rfl ?_))))))
 refine Aq rfl (fun h4=>?_) (fun h4=>?_)
 ·refine Ad (Au [2] rfl rfl (Av (AZ ?_)))
  have hA:A=none:=by cases A <;> simp_all
  subst hA
  have h0:t=[]:=by
   cases t with
   | nil=>rfl
   | cons x l=>obtain ⟨b,o,c,h,_⟩:=hv.pos (by simp); cases h
  subst h0
  exact B6 [own 267 2 (.slice none 0 0) 0 [],ro μ] (.tmp rfl .nil) ⟨none,0,rfl,rfl⟩ own_nil_ent
 ·refine Ar (Ai (Ad (AE (Bs (qs:=[]) rfl rfl rfl) (fun b5=>?_))))
  refine Ah rfl (C9 (Gw (n:=2)) ?_)
  refine AE (D9 hv rfl rfl AG (Mc (fun _=>rfl) _) (by simp only [maxLen]; omega) AC) ?_
  rintro v7 -
  rw [Nat.zero_add,List.nil_append]
  refine E3 (fun m h=>CL h) fun ⟨A7,c7,hv7⟩=>?_
  subst hv7
  refine Au [2] rfl rfl (Av ?_)
  exact Aw [own 267 2 (.slice A7 t.length c7) t.length (t.flatMap IG),ro μ] (.tmp rfl .nil) ⟨A7,c7,rfl,rfl⟩ AG
theorem Dv (p:Nat)(bs:List UInt8):Spec prog 112 [.pointer (some ⟨p,0,none⟩)] [Ep p bs] (fun r L=>r=.string (str bs)∧L=[Ep p bs]):=by
 refine Spec.exA' fun v=>?_
 simp only [List.cons_append,List.nil_append]
 refine Spec.ent3 (post:=fun r L=>r=.string (str bs)∧L=[B5 p 294 [v],own 5 1 v bs.length (Dx bs)]) ?_ (fun r L ⟨h1,h2⟩=>⟨[Ep p bs],by rw [h2]; exact GL,h1,rfl⟩)
 refine Spec.of 10 func112 rfl rfl rfl ?_
 refine Ad (Au [0] rfl rfl (Aj (Ad (Ah rfl (Af (Bm rfl rfl) (AI [0,4] rfl (Dw rfl (Ar (Ai (Ad (Ah rfl (Af (Al rfl) (Af (Ae rfl) (AM (Ak rfl rfl) ?_))))))))))))))
 refine AM (H9 bs rfl JU) ?_
 refine Au [2] rfl rfl (Av ?_)
 exact Aw [B5 p 294 [v],own 5 1 v bs.length (Dx bs)] (.tmp rfl .nil) ⟨rfl,rfl⟩ AG
abbrev Ic:List UInt8:=[80,68,71,67,1]
def ckT (x:Ck):List UInt8:=Br 4 x.1++Br 4 x.2.length
def Yh (l:List Ck):List UInt8:=Ic++Br 1 l.length++l.flatMap ckT++l.flatMap (·.2)
def QR (l:List Ck):List UInt8:=Yh l++Br 4 (Ji (Yh l))
theorem U4 (l:List Ck):(l.flatMap ckT).length=8*l.length:=by
 induction l with
 | nil=>rfl
 | cons x l ih=>rw [List.flatMap_cons,List.length_append,ih,List.length_cons]; show (Br 4 _++Br 4 _).length+_=_; rw [List.length_append,Bu,Bu]; omega
def QS (l:List Ck):Nat:=(l.map (·.2.length)).sum
theorem U5 (l:List Ck):(l.flatMap (·.2)).length=QS l:=by rw [List.length_flatMap]; rfl
theorem U6 (l:List Ck):(Yh l).length=6+8*l.length+QS l:=by
 unfold Yh
 rw [List.length_append,List.length_append,List.length_append,Bu,U4,U5]
 show 5+1+_+_=_
 omega
theorem JK (l:List Ck)(i:Nat):QS (l.take i)≤QS l:=by
 have:QS l=QS (l.take i)+QS (l.drop i):=by
  unfold QS
  rw [← List.sum_append,← List.map_append,List.take_append_drop]
 omega
theorem MM {l:List Ck}{i:Nat}{x:Ck}(h:l[i]? = some x):QS (l.take (i+1))=QS (l.take i)+x.2.length:=by
 unfold QS
 rw [List.take_add_one,h,List.map_append,List.sum_append]
 simp
theorem ZW {μ:PH}{A:Option Addr}{cap:Nat}{l:List Ck}(h:Row μ (.slice A l.length cap) 2 l.length (l.flatMap IG)){i:Nat}(hi:i≤l.length):Row μ (.slice A i cap) 2 (l.take i).length ((l.take i).flatMap IG):=by
 obtain ⟨e0,A',c',e1,e2,e3,e4,e5⟩:=h
 cases e1
 have hl:(l.take i).length=i:=by rw [List.length_take]; omega
 rw [hl]
 refine ⟨by rw [Cp (f:=IG) (k:=2) (fun _=>rfl),hl],A,cap,rfl,by omega,e3,e4,fun h0=>?_⟩
 obtain ⟨b,off,rfl,hr⟩:=e5 AC
 refine ⟨b,off,rfl,fun j u hj=>?_⟩
 have hs:l.flatMap IG=(l.take i).flatMap IG++(l.drop i).flatMap IG:=by rw [← List.flatMap_append,List.take_append_drop]
 have hjl:=(List.getElem?_eq_some_iff.1 hj).1
 exact hr j u (by rw [hs,List.getElem?_append_left hjl]; exact hj)
structure CkOk (l:List Ck):Prop where
 asc:AscC l
 len:l.length≤12
 ids:∀ x∈l,1≤x.1∧x.1<4294967296
 size:QS l≤1000000
set_option maxHeartbeats 4000000 in
theorem VJ (μ:PH)(v:Value)(l:List Ck)(h:Row μ v 2 l.length (l.flatMap IG))(hok:CkOk l):Spec prog 164 [v] [ro μ] (fun r L=>∃ μ',Le μ μ'∧r=.tuple #[.string (str (QR l)),.int .i64 0]∧L=[ro μ']):=by
 obtain ⟨A,cap,hv0⟩:=h.sl
 subst hv0
 have hcap:l.length≤cap:=by obtain ⟨_,_,_,he,hh,_⟩:=h; cases he; exact hh
 have hl12:=hok.len
 have hsz:=hok.size
 have hbl:=U6 l
 refine Spec.of 93 func164 rfl rfl rfl ?_
 refine Ad (B2 rfl (Au [0] rfl rfl (Aj (Ad (Ah rfl (Af (BD rfl) (Af (BO rfl rfl) (AI [0,15] rfl ?_))))))))
 refine Aq rfl (fun h15=>by have:=of_decide_eq_true h15; omega) (fun h15=>?_)
 refine Ar (Ai (Ad (Ah rfl (Af (BD rfl) (Af (Fz ((8*l.length:Nat):Int) rfl rfl AC AC AC) (Af (AQ ((10+8*l.length:Nat):Int) rfl rfl AC AC AC) (Au [0,4] rfl rfl (Aj (Ad (Ah rfl (Af (BD rfl) (Ah rfl (AI [0,4,20,21,22] rfl (AB ?_))))))))))))))
 refine B4 (ι:=Nat) (fun i env L=>Sub env [(0,.slice A l.length cap),(4,.int .i64 ((10+8*l.length+QS (l.take i):Nat):Int)),(20,.slice A l.length cap),(21,.int .i64 (l.length:Nat)),(22,.int .i64 (i:Nat))]∧Ent L [ro μ]∧i≤l.length) (fun i=>l.length-i) 0 ⟨⟨rfl,rfl,rfl,rfl,rfl,trivial⟩,Ent.refl _,Nat.zero_le _⟩ ?_
 rintro i env L ⟨hsub,hE,hi⟩
 refine B7 _ hsub (AX hE ?_)
 clear hsub hE env L
 refine Ad (Af (Be rfl rfl) (AI [0,4,20,21,22,23] rfl (Aj ?_)))
 refine Aq rfl (fun h23=>?_) (fun h23=>?_)
 ·have h23':i<l.length:=by have:=of_decide_eq_true h23; omega
  obtain ⟨x,hx⟩:∃ x,l[i]? = some x:=⟨_,List.getElem?_eq_getElem h23'⟩
  obtain ⟨b,off,c2,hv,hr⟩:=Kl h hx
  obtain ⟨o1,o2⟩:=hok.ids x (List.mem_of_getElem? hx)
  have hno:=hok.asc.no hx
  have hst:=JK l (i+1)
  have hss:=MM hx
  refine Ar (Ai (Aj (AB (Ad (Ah rfl ?_)))))
  refine Af (AA (off+i*2) (congrArg some hv) rfl AC AC (by rw [Int.toNat_natCast])) ?_
  refine AM (Cu (vs:=IG x) rfl rfl hr) (AE (Bd) (fun b6=>?_))
  refine B2 rfl (Bh (B8 rfl rfl rfl rfl) (AI [0,4,5,6,20,21,22] rfl (Aj (AB (Ad (Af (Ae rfl) (AM (Ak rfl rfl) (Af (Bo rfl rfl) (Au [0,4,5,6,20,21,22,27] rfl rfl ?_)))))))))
  refine Aq rfl (fun h27=>by have:=of_decide_eq_true h27; omega) (fun h27=>?_)
  refine Ad (Ah rfl (Ah rfl (Af (DL i rfl rfl rfl AC) (Af (Cr (vs:=[]) (us:=[_]) rfl rfl) ?_))))
  refine AE (AF (Yg μ (.slice A i cap) (l.take i) [B5 b6 267 (IG x)] 253 [] [pv b6] (fun y=>decide (y.1=x.1)) (ZW h AC) (fun y _=>VC x y b6 (ro μ) [])) rfl rfl AG) ?_
  rintro v36 L1 ⟨rfl,rfl⟩
  rw [hno]
  refine As (Au [0,4,6,20,21,22,31] rfl rfl (Dw rfl (Ar (AV (Ai (Am (Ah rfl (Af (Ae rfl) (AM (Ak rfl rfl) (Af (D8 rfl) ?_))))))))))
  refine Af (AQ ((10+8*l.length+QS (l.take (i+1)):Nat):Int) rfl rfl (by rw [Di]; omega) AC AC) ?_
  refine B2 rfl (Bi [0,4,20,21,22] rfl (AJ (AV (Ai (Am (Af (AQ ((i+1:Nat):Int) rfl rfl AC AC AC) (Ah rfl (Bi [0,4,20,21,22] rfl (AJ ?_)))))))))
  exact Ai ⟨i+1,⟨⟨rfl,rfl,rfl,rfl,rfl,trivial⟩,Split.ent' AG,h23'⟩,by omega⟩
 ·have h23':=of_decide_eq_false h23
  obtain rfl:i=l.length:=by omega
  rw [List.take_length]
  refine B3 (AU (AU (AY rfl (Ai (Aj (Ad (Ah rfl (Af (BO rfl rfl) (AI [0,44] rfl ?_)))))))))
  refine Aq rfl (fun h44=>by have:=of_decide_eq_true h44; omega) (fun h44=>?_)
  refine Ar (Ai (Ad (Ah rfl ?_)))
  refine AE (AF (QQ μ _ l h AC) rfl rfl AG) ?_
  rintro v46 L1 ⟨A2,c2,rfl,rfl⟩
  refine As (Au [7] rfl rfl (Aj ?_))
  refine BA AG fun μ' hle h2=>?_
  refine Am (Ah rfl ?_)
  refine AE (AF (SO μ' _ l h2 hok.asc hl12) rfl rfl AG) ?_
  rintro v48 L1 ⟨rfl,rfl⟩
  refine As (AI [7] rfl (Ad ?_))
  refine AE (AF Dn rfl rfl AG) ?_
  rintro v49 L1 ⟨p,rfl,rfl⟩
  refine As (Au [7,8] rfl rfl (Ad (Ah rfl ?_)))
  refine AE (AF (EV p [] Ic (by decide) (by decide)) rfl rfl AG) ?_
  rintro v51 L1 ⟨rfl,rfl⟩
  refine As (AI [7,8] rfl (Ad (Ah rfl (Ah rfl (Af (BD rfl) (Af (BP rfl (EC AC)) ?_))))))
  refine AE (AF (ED p l.length ([]++Ic) AC (by decide)) rfl rfl AG) ?_
  rintro v56 L1 ⟨rfl,rfl⟩
  refine As (AI [7,8] rfl (Aj (Ad (Ah rfl (Af (BD rfl) (Ah rfl (AI [7,8,57,58,59] rfl (AB ?_))))))))
  rw [List.nil_append]
  refine B4 (ι:=Nat) (fun i env L=>Sub env [(7,.slice A2 l.length c2),(8,pv p),(57,.slice A2 l.length c2),(58,.int .i64 (l.length:Nat)),(59,.int .i64 (i:Nat))]∧Ent L [Ep p (Ic++Br 1 l.length++(l.take i).flatMap ckT),ro μ']∧i≤l.length) (fun i=>l.length-i) 0 ⟨⟨rfl,rfl,rfl,rfl,rfl,trivial⟩,by rw [List.take_zero,List.flatMap_nil,List.append_nil]; exact Split.ent' AG,Nat.zero_le _⟩ ?_
  rintro i env L ⟨hsub,hE,hi⟩
  refine B7 _ hsub (AX hE ?_)
  clear hsub hE env L
  have hbl2:(Ic++Br 1 l.length++(l.take i).flatMap ckT).length≤200:=by
   rw [List.length_append,List.length_append,Bu,U4,List.length_take]
   show 5+1+_≤200
   omega
  generalize hB:Ic++Br 1 l.length++(l.take i).flatMap ckT=B at *
  refine Ad (Af (Be rfl rfl) (AI [7,8,57,58,59,60] rfl (Aj ?_)))
  refine Aq rfl (fun h60=>?_) (fun h60=>?_)
  ·have h60':i<l.length:=by have:=of_decide_eq_true h60; omega
   obtain ⟨x,hx⟩:∃ x,l[i]? = some x:=⟨_,List.getElem?_eq_getElem h60'⟩
   obtain ⟨b,off,c3,hv,hr⟩:=Kl h2 hx
   obtain ⟨o1,o2⟩:=hok.ids x (List.mem_of_getElem? hx)
   have hst:=JK l (i+1)
   have hss:=MM hx
   refine Ar (Ai (Aj (AB (Ad ?_))))
   refine Af (AA (off+i*2) (congrArg some hv) rfl AC AC (by rw [Int.toNat_natCast])) ?_
   refine AM (Cu (vs:=IG x) rfl rfl hr) (AE (Bd) (fun b10=>?_))
   refine Bh (B8 rfl rfl rfl rfl) (AI [7,8,10,57,58,59] rfl (Ad (Ah rfl (Af (Ae rfl) (AM (Ak rfl rfl) ?_)))))
   refine AE (AF (Cb p x.1 B AC AC) rfl rfl AG) ?_
   rintro v66 L1 ⟨rfl,rfl⟩
   refine As (AI [7,8,10,57,58,59] rfl (Am (Ah rfl (Af (Ae rfl) (AM (Ak rfl rfl) (Af (D8 rfl) ?_))))))
   refine Af (BP rfl (FF (by rw [Di]; omega))) ?_
   refine AE (AF (Cb p x.2.length (B++Br 4 x.1) AC (by rw [List.length_append,Bu]; omega)) rfl rfl AG) ?_
   rintro v72 L1 ⟨rfl,rfl⟩
   refine As (Bi [7,8,57,58,59] rfl (AJ (AV (Ai (Am (Af (AQ ((i+1:Nat):Int) rfl rfl AC AC AC) (Ah rfl (Bi [7,8,57,58,59] rfl (AJ ?_)))))))))
   refine Ai ⟨i+1,⟨⟨rfl,rfl,rfl,rfl,rfl,trivial⟩,?_,h60'⟩,by omega⟩
   have e:Ic++Br 1 l.length++(l.take (i+1)).flatMap ckT=B++Br 4 x.1++Br 4 x.2.length:=by
    rw [List.take_add_one,hx,List.flatMap_append,← List.append_assoc,hB]
    simp only [Option.toList_some,List.flatMap_cons,List.flatMap_nil,List.append_nil,List.append_assoc]
    rfl
   rw [e]
   exact Split.ent' AG
  ·have h60':=of_decide_eq_false h60
   obtain rfl:i=l.length:=by omega
   rw [List.take_length] at hB
   refine B3 (AU (AU (AY rfl (Ai (Aj (Ad (Ah rfl (Af (BD rfl) (Ah rfl (AI [8,74,75,76] rfl (AB ?_)))))))))))
   refine B4 (ι:=Nat) (fun i env L=>Sub env [(8,pv p),(74,.slice A2 l.length c2),(75,.int .i64 (l.length:Nat)),(76,.int .i64 (i:Nat))]∧Ent L [Ep p (B++(l.take i).flatMap (·.2)),ro μ']∧i≤l.length) (fun i=>l.length-i) 0 ⟨⟨rfl,rfl,rfl,rfl,trivial⟩,by rw [List.take_zero,List.flatMap_nil,List.append_nil]; exact Split.ent' AG,Nat.zero_le _⟩ ?_
   rintro i env L ⟨hsub,hE,hi⟩
   refine B7 _ hsub (AX hE ?_)
   clear hsub hE env L
   have hst:=JK l i
   have hdl:(B++(l.take i).flatMap (·.2)).length≤200+QS (l.take i):=by rw [List.length_append,U5]; omega
   refine Ad (Af (Be rfl rfl) (AI [8,74,75,76,77] rfl (Aj ?_)))
   refine Aq rfl (fun h77=>?_) (fun h77=>?_)
   ·have h77':i<l.length:=by have:=of_decide_eq_true h77; omega
    obtain ⟨x,hx⟩:∃ x,l[i]? = some x:=⟨_,List.getElem?_eq_getElem h77'⟩
    obtain ⟨b,off,c3,hv,hr⟩:=Kl h2 hx
    have hst1:=JK l (i+1)
    have hss:=MM hx
    refine Ar (Ai (Aj (AB (Ad ?_))))
    refine Af (AA (off+i*2) (congrArg some hv) rfl AC AC (by rw [Int.toNat_natCast])) ?_
    refine AM (Cu (vs:=IG x) rfl rfl hr) (AE (Bd) (fun b12=>?_))
    refine Bh (B8 rfl rfl rfl rfl) (AI [8,12,74,75,76] rfl (Am (Ah rfl (Af (Ae rfl) (AM (Ak rfl rfl) ?_)))))
    refine AE (AF (EV p (B++(l.take i).flatMap (·.2)) x.2 AC AC) rfl rfl AG) ?_
    rintro v83 L1 ⟨rfl,rfl⟩
    refine As (Bi [8,74,75,76] rfl (AJ (AV (Ai (Am (Af (AQ ((i+1:Nat):Int) rfl rfl AC AC AC) (Ah rfl (Bi [8,74,75,76] rfl (AJ ?_)))))))))
    refine Ai ⟨i+1,⟨⟨rfl,rfl,rfl,rfl,trivial⟩,?_,h77'⟩,by omega⟩
    have e:B++(l.take (i+1)).flatMap (·.2)=B++(l.take i).flatMap (·.2)++x.2:=by
     rw [List.take_add_one,hx,List.flatMap_append,← List.append_assoc]
     simp only [Option.toList_some,List.flatMap_cons,List.flatMap_nil,List.append_nil]
    rw [e]
    exact Split.ent' AG
   ·have h77':=of_decide_eq_false h77
    obtain rfl:i=l.length:=by omega
    rw [List.take_length,← hB,show Ic++Br 1 l.length++l.flatMap ckT++l.flatMap (·.2)=Yh l from rfl]
    refine B3 (AU (AU (AY rfl (Ai (Ad (Ah rfl (Ah rfl ?_)))))))
    refine AE (AF (Dv p (Yh l)) rfl rfl AG) ?_
    rintro v87 L1 ⟨rfl,rfl⟩
    refine As (AE (Bs (qs:=[(0,_)]) rfl rfl rfl) (fun b88=>?_))
    refine AE (AF (GK b88 1 (str (Yh l)) (by rw [Di]; omega)) rfl rfl AG) ?_
    rintro v89 L1 ⟨rfl,rfl⟩
    refine As ?_
    refine AE (AF (Cb p (Ji (Yh l)) (Yh l) (JA _) AC) rfl rfl AG) ?_
    rintro v90 L1 ⟨rfl,rfl⟩
    refine As (AI [8] rfl (Aj ?_))
    rw [show Yh l++Br 4 (Ji (Yh l))=QR l from rfl]
    refine Am (Ah rfl ?_)
    refine AE (AF (Dv p (QR l)) rfl rfl AG) ?_
    rintro v92 L1 ⟨rfl,rfl⟩
    refine As (B2 rfl (Au [2,3] rfl rfl (Av ?_)))
    exact Aw [ro μ'] (.tmp rfl (.tmp rfl .nil)) ⟨μ',hle,rfl,rfl⟩ AG

theorem SP (s:Int)(bt:List UInt8)(h:(s=1∧bt≠[]∧bt.length≤4096)∨(s=2∧bt=[])):Spec prog 318 [.agg #[.int .i64 s,.string (str bt)]] [] (fun r L=>r=.bool true∧L=[]):=by
 refine Spec.of 22 func318 rfl rfl rfl ?_
 refine Ad (AE (Bp rfl rfl) (fun b1=>?_))
 refine Au [1] rfl rfl (Aj (Ad (Af (Ae rfl) (AM (Ak rfl rfl) (AI [1,4] rfl (AB (Aj (Ad (Af (Bo rfl rfl) (Au [1,4,5] rfl rfl ?_))))))))))
 refine Aq rfl (fun h5=>by rcases h with ⟨rfl,_⟩ | ⟨rfl,_⟩ <;> cases h5) (fun h5=>?_)
 refine Am (Af (Bo rfl rfl) (Au [1,4,5] rfl rfl ?_))
 refine Aq rfl (fun h5=>?_) (fun h5=>?_)
 ·refine Ad (Af (Ae rfl) (AM (Ak rfl rfl) (Af (FM rfl rfl) (Au [2] rfl rfl (Av (Bg (AZ ?_)))))))
  have h5':s=2:=of_decide_eq_true h5
  rcases h with ⟨rfl,_⟩ | ⟨_,rfl⟩
  ·cases h5'
  ·exact Aw [] (.tmp rfl .nil) ⟨by rw [show Bt (str []) ⟨#[]⟩=true from BQ _]; rfl,rfl⟩ AG
 ·refine Ad (Af (Bo rfl rfl) (Au [1,11] rfl rfl ?_))
  refine Aq rfl (fun h11=>?_) (fun h11=>by rcases h with ⟨rfl,_⟩ | ⟨rfl,_⟩ <;> first | exact absurd h11 (by decide) | exact absurd h5 (by decide))
  refine Ad (Af (Ae rfl) (AM (Ak rfl rfl) (Af (FN rfl rfl) (Ah rfl ?_))))
  refine B9 16 rfl (fun h16=>?_) (fun h16=>by rcases h with ⟨_,h2,_⟩ | ⟨rfl,_⟩; exact absurd h16 (by rw [show Bt (str bt) ⟨#[]⟩=false from by rw [show (⟨#[]⟩:ByteArray)=str [] from rfl,A0L]; exact decide_eq_false h2]; decide); exact absurd h5 (by decide))
  refine AS rfl rfl (Af (Ae rfl) (AS rfl rfl (AM (Ak rfl rfl) (AS rfl rfl (Af (D8 rfl) (AS rfl rfl (Af (H3 rfl rfl) (Af (Bc rfl rfl) (Au [2] rfl rfl (Av (Bg (AZ ?_))))))))))))
  rcases h with ⟨_,_,h3⟩ | ⟨rfl,_⟩
  ·exact Aw [] (.tmp rfl .nil) ⟨congrArg Value.bool (decide_eq_true (by rw [Di]; omega)),rfl⟩ AG
  ·cases h5
abbrev setC:List Value:=[.int .i64 3,.int .i64 10,.int .i64 2,.int .u32 7]
theorem FU:Spec prog 75 [.agg setC.toArray] [] (fun r L=>r=.int .i64 0∧L=[]):=by
 refine Spec.of 31 func75 rfl rfl rfl ?_
 refine Ad (AE (Bp rfl rfl) (fun b1=>?_))
 refine Au [1] rfl rfl (Aj (Ad (Af (Ae rfl) (AM (Ak rfl rfl) (Af (Be rfl rfl) (Ah rfl ?_))))))
 refine B9 6 rfl (fun h6=>by cases h6) (fun h6=>?_)
 refine AS rfl rfl (Af (Ae rfl) (AS rfl rfl (AM (Ak rfl rfl) (AS rfl rfl (Af (BO rfl rfl) (Af (B0 rfl rfl) (Ah rfl ?_)))))))
 refine B9 11 rfl (fun h11=>by cases h11) (fun h11=>?_)
 refine AS rfl rfl (Af (Ae rfl) (AS rfl rfl (AM (Ak rfl rfl) (AS rfl rfl (Af (Be rfl rfl) (Af (B0 rfl rfl) (Ah rfl ?_)))))))
 refine B9 16 rfl (fun h16=>by cases h16) (fun h16=>?_)
 refine AS rfl rfl (Af (Ae rfl) (AS rfl rfl (AM (Ak rfl rfl) (AS rfl rfl (Af (BO rfl rfl) (Af (B0 rfl rfl) (Ah rfl ?_)))))))
 refine B9 21 rfl (fun h21=>by cases h21) (fun h21=>?_)
 refine AS rfl rfl (Af (Ae rfl) (AS rfl rfl (AM (Ak rfl rfl) (AS rfl rfl (Af (Be rfl rfl) (Af (B0 rfl rfl) (Ah rfl ?_)))))))
 refine B9 26 rfl (fun h26=>by cases h26) (fun h26=>?_)
 refine AS rfl rfl (Af (Ae rfl) (AS rfl rfl (AM (Ak rfl rfl) (AS rfl rfl (Af (BO rfl rfl) (Af (B0 rfl rfl) (AI [30] rfl (Dw rfl (Ar (Ai (Ad (Au [2] rfl rfl (Av ?_)))))))))))))
 exact Aw [] (.tmp rfl .nil) ⟨rfl,rfl⟩ AG
set_option maxHeartbeats 2000000 in
theorem SQ (μ:PH)(A:Option Addr)(cap:Nat)(r:GR)(n:Nat)(hr:Row μ (.slice A r.ps.length cap) 1 r.ps.length (r.ps.flatMap (Bw .i64)))(h:r.Ok n):Spec prog 251 [.agg (grl A cap r).toArray,.int .i64 (n:Nat)] [ro μ] (fun r L=>r=.bool true∧L=[ro μ]):=by
 have hpl:=h.pl
 have htr:=h.tr
 have hgn:=h.gn
 refine Spec.of 58 func251 rfl rfl rfl ?_
 refine Ad (AE (Bp rfl rfl) (fun b2=>?_))
 refine Au [1,2] rfl rfl (Aj (Ad (Af (Ae rfl) (AM (Ak rfl rfl) (Af (AW hr rfl) (Af (BO rfl rfl) (Ah rfl ?_)))))))
 refine B9 11 rfl (fun h11=>by have:=of_decide_eq_true h11; omega) (fun h11=>?_)
 refine AS rfl rfl (Af (Ae rfl) (AS rfl rfl (AM (Ak rfl rfl) (AS rfl rfl (Af (Be rfl rfl) (Af (B0 rfl rfl) (Ah rfl ?_)))))))
 refine B9 16 rfl (fun h16=>by have:=of_decide_eq_true h16; omega) (fun h16=>?_)
 refine AS rfl rfl (Af (Ae rfl) (AS rfl rfl (AM (Ak rfl rfl) (AS rfl rfl (Af (Cs rfl rfl) (Af (B0 rfl rfl) (Ah rfl ?_)))))))
 refine B9 21 rfl (fun h21=>by have:=of_decide_eq_true h21; omega) (fun h21=>?_)
 refine AS rfl rfl (Af (Ae rfl) (AS rfl rfl (AM (Ak rfl rfl) (AS rfl rfl (Af (Be rfl rfl) (Af (B0 rfl rfl) (Ah rfl ?_)))))))
 refine B9 26 rfl (fun h26=>by have:=of_decide_eq_true h26; omega) (fun h26=>?_)
 refine AS rfl rfl (Af (Ae rfl) (AS rfl rfl (AM (Ak rfl rfl) (AS rfl rfl (Af (BO rfl rfl) (Af (B0 rfl rfl) (AI [1,2,30] rfl ?_)))))))
 refine Aq rfl (fun h30=>by have:=of_decide_eq_true h30; omega) (fun h30=>?_)
 refine Ar (Ai (Aj (Ad (Af (Ae rfl) (AM (Ak rfl rfl) (Af (AW hr rfl) (Ah rfl (AI [1,2,32,33,34] rfl (AB ?_)))))))))
 refine B4 (ι:=Nat) (fun i env L=>Sub env [(1,.int .i64 (n:Nat)),(2,pv b2),(32,.slice A r.ps.length cap),(33,.int .i64 (r.ps.length:Nat)),(34,.int .i64 (i:Nat))]∧Ent L [B5 b2 211 [.slice A r.ps.length cap,.int .i64 r.tr,.int .i64 r.gn,.int .i64 r.st,.string (str r.bt)],ro μ]∧i≤r.ps.length) (fun i=>r.ps.length-i) 0 ⟨⟨rfl,rfl,rfl,rfl,rfl,trivial⟩,Split.ent' AG,Nat.zero_le _⟩ ?_
 rintro i env L ⟨hsub,hE,hi⟩
 refine B7 _ hsub (AX hE ?_)
 clear hsub hE env L
 refine Ad (Af (Be rfl rfl) (AI [1,2,32,33,34,35] rfl (Aj ?_)))
 refine Aq rfl (fun h35=>?_) (fun h35=>?_)
 ·have h35':i<r.ps.length:=by have:=of_decide_eq_true h35; omega
  obtain ⟨p,hp⟩:∃ p,r.ps[i]? = some p:=⟨_,List.getElem?_eq_getElem h35'⟩
  obtain ⟨b,off,c2,hv,hc⟩:=Hj hr hp
  have hpr:=h.pr p (List.mem_of_getElem? hp)
  have hno:(r.ps.take i).contains p=false:=by
   rw [← Bool.not_eq_true,List.contains_iff_mem]
   intro hm
   obtain ⟨j,hj⟩:=List.getElem?_of_mem hm
   have hjl:=(List.getElem?_eq_some_iff.1 hj).1
   rw [List.length_take] at hjl
   rw [List.getElem?_take_of_lt AC] at hj
   have:=(List.getElem?_inj AC h.pn).1 (hj.trans hp.symm)
   omega
  refine Ar (Ai (Aj (AB (Ad (Ah rfl ?_)))))
  refine Af (AA (off+i*1) (congrArg some hv) rfl AC AC (by rw [Int.toNat_natCast])) ?_
  refine AM (BJ rfl hc) (B2 rfl (Au [1,2,5,6,32,33,34] rfl rfl (Ad (Ah rfl (Af (Be rfl rfl) (Ah rfl ?_))))))
  refine B9 41 rfl (fun h41=>by have:=of_decide_eq_true h41; omega) (fun h41=>?_)
  refine AS rfl rfl (Ah rfl (AS rfl rfl (Ah rfl (AS rfl rfl (Af (Cs rfl rfl) (Af (B0 rfl rfl) (Ah rfl ?_)))))))
  refine B9 46 rfl (fun h46=>by have:=of_decide_eq_true h46; omega) (fun h46=>?_)
  refine AS rfl rfl (Af (Ae rfl) (AS rfl rfl (AM (Ak rfl rfl) (AS rfl rfl (Ah rfl (AS rfl rfl ?_))))))
  refine Af (DL i rfl rfl rfl (by obtain ⟨_,_,_,he,hh,_⟩:=hr; cases he; omega)) ?_
  refine AS rfl rfl (Ah rfl (AS rfl rfl ?_))
  refine AE (AF (QA μ (.slice A i cap) (r.ps.take i) p (hr.tk (f:=Bw .i64) (fun _=>rfl) AC)) rfl rfl AG) ?_
  rintro v52 L1 ⟨rfl,rfl⟩
  rw [hno]
  refine As (Af (B0 rfl rfl) (AI [1,2,32,33,34,53] rfl (Dw rfl (Ar (AV (Ai (Am (Af (AQ ((i+1:Nat):Int) rfl rfl AC AC AC) (Ah rfl (Bi [1,2,32,33,34] rfl (AJ ?_)))))))))))
  exact Ai ⟨i+1,⟨⟨rfl,rfl,rfl,rfl,rfl,trivial⟩,Split.ent' AG,h35'⟩,by omega⟩
 ·refine B3 (AU (AU (AY rfl (Ai (Ad (Af (Ae rfl) (AM (BL (vs:=[.int .i64 r.st,.string (str r.bt)]) rfl rfl rfl) ?_)))))))
  refine AE (AF (SP r.st r.bt h.ft) rfl rfl AG) ?_
  rintro v57 L1 ⟨rfl,rfl⟩
  refine As (Au [4] rfl rfl (Av ?_))
  exact Aw [ro μ] (.tmp rfl .nil) ⟨rfl,rfl⟩ AG
abbrev SR (base:Nat)(v:Value):List Value:=[.int .i64 (base:Nat),.int .i64 3,.int .i64 10,.int .i64 2,.int .u32 7,v]
set_option maxHeartbeats 2000000 in
theorem VL (μ:PH)(base:Nat)(v:Value)(R:List (Value×GR))(hg:GRows μ v R)(h:GsOk base (E0 R)):Spec prog 161 [.agg (SR base v).toArray] [ro μ] (fun r L=>r=.int .i64 0∧L=[ro μ]):=by
 have hlen:=h.len
 have hall:=h.all
 rw [List.length_map] at hlen hall
 refine Spec.of 41 func161 rfl rfl rfl ?_
 refine Ad (AE (Bp rfl rfl) (fun b1=>?_))
 refine Au [1] rfl rfl (Aj (Ad (Af (Ae rfl) (AM (Ak rfl rfl) (Af (Be rfl rfl) (Ah rfl ?_))))))
 refine B9 8 rfl (fun h8=>by have:=of_decide_eq_true h8; omega) (fun h8=>?_)
 refine AS rfl rfl (Af (Ae rfl) (AS rfl rfl (AM (Ak rfl rfl) (AS rfl rfl (Af (BO rfl rfl) (Af (B0 rfl rfl) (Ah rfl ?_)))))))
 refine B9 13 rfl (fun h13=>by have:=of_decide_eq_true h13; omega) (fun h13=>?_)
 refine AS rfl rfl (Af (Ae rfl) (AS rfl rfl (AM (Ak rfl rfl) (AS rfl rfl (Af (AW hg.row rfl) (AS rfl rfl (Af (Ae rfl) (AS rfl rfl (AM (Ak rfl rfl) (AS rfl rfl (Af (BH ((65536-base:Nat):Int) rfl rfl AC AC AC) (AS rfl rfl (Af (BO rfl rfl) (Af (B0 rfl rfl) (AI [1,21] rfl ?_)))))))))))))))
 refine Aq rfl (fun h21=>by have:=of_decide_eq_true h21; omega) (fun h21=>?_)
 refine Ar (Ai (Aj (Ad (Af (Ae rfl) (AM (Ak rfl rfl) (Af (AW hg.row rfl) (Ah rfl (AI [1,23,24,25] rfl (AB ?_)))))))))
 refine B4 (ι:=Nat) (fun i env L=>Sub env [(1,pv b1),(23,v),(24,.int .i64 (R.length:Nat)),(25,.int .i64 (i:Nat))]∧Ent L [B5 b1 141 [.int .i64 (base:Nat),.int .i64 3,.int .i64 10,.int .i64 2,.int .u32 7,v],ro μ]∧i≤R.length) (fun i=>R.length-i) 0 ⟨⟨rfl,rfl,rfl,rfl,trivial⟩,Split.ent' AG,Nat.zero_le _⟩ ?_
 rintro i env L ⟨hsub,hE,hi⟩
 refine B7 _ hsub (AX hE ?_)
 clear hsub hE env L
 refine Ad (Af (Be rfl rfl) (AI [1,23,24,25,26] rfl (Aj ?_)))
 refine Aq rfl (fun h26=>?_) (fun h26=>?_)
 ·have h26':i<R.length:=by have:=of_decide_eq_true h26; omega
  obtain ⟨x,hx⟩:∃ x,R[i]? = some x:=⟨_,List.getElem?_eq_getElem h26'⟩
  obtain ⟨b,off,c2,A,c,hv,hr,hp,_⟩:=P8 hg hx
  refine Ar (Ai (Aj (AB (Ad (Ah rfl ?_)))))
  refine Af (AA (off+i*5) (congrArg some hv) rfl AC AC (by rw [Int.toNat_natCast])) ?_
  refine AM (Cu (vs:=[.slice A x.2.ps.length c,.int .i64 x.2.tr,.int .i64 x.2.gn,.int .i64 x.2.st,.string (str x.2.bt)]) rfl rfl hr) (AE (Bd) (fun b4=>?_))
  refine B2 rfl (Bh (B8 rfl rfl rfl rfl) (AI [1,3,4,23,24,25] rfl (Ad (AM (Cn rfl rfl) (Af (Ae rfl) (AM (Ak rfl rfl) (Ah rfl (Af (AQ ((base+i:Nat):Int) rfl rfl AC AC AC) ?_))))))))
  refine AE (AF (SQ μ A c x.2 (base+i) hp (h.row i x.2 (Sk hx))) rfl rfl AG) ?_
  rintro v35 L1 ⟨rfl,rfl⟩
  refine As (Af (Cd rfl) (AI [1,23,24,25,36] rfl (Dw rfl (Ar (AV (Ai (Am (Af (AQ ((i+1:Nat):Int) rfl rfl AC AC AC) (Ah rfl (Bi [1,23,24,25] rfl (AJ ?_)))))))))))
  exact Ai ⟨i+1,⟨⟨rfl,rfl,rfl,rfl,trivial⟩,Split.ent' AG,h26'⟩,by omega⟩
 ·refine B3 (AU (AU (AY rfl (Ai (Ad (Af (Ae rfl) (AM (BL (vs:=[.int .i64 3,.int .i64 10,.int .i64 2,.int .u32 7]) rfl rfl rfl) ?_)))))))
  refine AE (AF FU rfl rfl AG) ?_
  rintro v40 L1 ⟨rfl,rfl⟩
  refine As (Au [2] rfl rfl (Av ?_))
  exact Aw [ro μ] (.tmp rfl .nil) ⟨rfl,rfl⟩ AG
theorem Km (p:Nat)(bs:List UInt8):Spec prog 163 [pv p] [Ep p bs] (fun r L=>r=.int .i64 (bs.length:Nat)∧L=[Ep p bs]):=by
 refine Spec.exA' fun v=>?_
 simp only [List.cons_append,List.nil_append]
 refine Spec.ent3 (post:=fun r L=>r=.int .i64 (bs.length:Nat)∧L=[B5 p 294 [v],own 5 1 v bs.length (Dx bs)]) ?_ (fun r L ⟨h1,h2⟩=>⟨[Ep p bs],by rw [h2]; exact GL,h1,rfl⟩)
 refine Spec.pre (pre:=[own 5 1 v bs.length (Dx bs),B5 p 294 [v]]) ?_ Ent.swap
 refine Spec.fact' (fun m h=>CL h) fun hf=>?_
 refine Spec.of 10 func163 rfl rfl rfl ?_
 refine Ad (Au [0] rfl rfl (Aj (Ad (Ah rfl (Af (Bm rfl rfl) (AI [0,4] rfl (Dw rfl (Ar (Ai (Ad (Ah rfl (Af (Al rfl) (Af (Ae rfl) (AM (Ak rfl rfl) (Af (J7 hf rfl) (Au [2] rfl rfl (Av ?_)))))))))))))))))
 exact Aw [B5 p 294 [v],own 5 1 v bs.length (Dx bs)] (.tmp rfl .nil) ⟨rfl,rfl⟩ AG
set_option maxHeartbeats 4000000 in
theorem VN (μ:PH)(p q:Nat)(X E:List UInt8)(A:Option Addr)(cap:Nat)(r:GR)(n:Nat)(hr:Row μ (.slice A r.ps.length cap) 1 r.ps.length (r.ps.flatMap (Bw .i64)))(h:r.Ok n)(hn:n≤65536)(hE:E.length≤4000)(hX:X.length≤4000):Spec prog 162 [pv p,pv q,.agg (grl A cap r).toArray] [Ep p X,Ep q E,ro μ] (fun v L=>v=.tuple #[]∧L=[Ep p (X++HY E.length r),Ep q (E++F7 r),ro μ]):=by
 have hpl:=h.pl
 have htr:=h.tr
 have hgn:=h.gn
 have hst:0≤r.st∧r.st<256:=by rcases h.ft with ⟨e,_⟩ | ⟨e,_⟩ <;> omega
 have hpr:∀ (i:Nat) (x:Int),r.ps[i]? = some x→x=(x.toNat:Int)∧x.toNat<65536:=fun i x hx=>by have:=h.pr x (List.mem_of_getElem? hx); omega
 refine Spec.of 86 func162 rfl rfl rfl ?_
 refine Ad (AE (Bp rfl rfl) (fun b5=>?_))
 refine AI [0,1,5] rfl (Ad (B2 rfl (Au [0,1,5,6,7] rfl rfl ?_)))
 refine Co (fun env L=>Sub env [(0,pv p),(5,pv b5),(6,.int .u32 4294967295),(7,.int .u32 (IN E.length r:Nat))]∧Ent L [Ep p X,Ep q (E++F7 r),B5 b5 211 [.slice A r.ps.length cap,.int .i64 r.tr,.int .i64 r.gn,.int .i64 r.st,.string (str r.bt)],ro μ]) ?_ ?_
 ·refine Ad (Af (Ae rfl) (AM (Ak rfl rfl) (Af (AW hr rfl) (Au [0,1,5,6,7,8] rfl rfl (AB (Ad (Ah rfl (Af (BO rfl rfl) (Au [0,1,5,6,7,8,14] rfl rfl ?_)))))))))
  refine Aq rfl (fun h14=>?_) (fun h14=>?_)
  ·refine Ad (Ah rfl ?_)
   refine AE (AF (Km q E) rfl rfl AG) ?_
   rintro v18 L1 ⟨rfl,rfl⟩
   refine As (Af (EO ((E.length / 4:Nat):Int) rfl rfl AC AC AC AC) (Af (CD (E.length / 4) rfl rfl (DW AC)) (Af (Mf (2147483648+E.length / 4) rfl rfl AC AC) (Au [0,1,5,6,7,8] rfl rfl (Aj (Aj ?_))))))
   have h14':2<r.ps.length:=by have:=of_decide_eq_true h14; omega
   obtain ⟨vm,hrm,hpu⟩:=Row.mid (P:=prog) (t:=60) hr 1 (r.ps.length-1) AC AC
   rw [Sl,← Qr] at hrm
   refine Am (Af (Ae rfl) (AM (Ak rfl rfl) (Ah rfl (Af (BH ((r.ps.length-1:Nat):Int) rfl rfl AC AC AC) (Af (hpu _ _ _ _ _ _ _ _ rfl rfl rfl rfl rfl) (Af (AW hrm rfl) (Ah rfl (AI [0,1,5,6,7,8,26,27,28] rfl (AB ?_)))))))))
   refine B4 (ι:=Nat) (fun i env L=>Sub env [(0,pv p),(1,pv q),(5,pv b5),(6,.int .u32 4294967295),(7,.int .u32 (2147483648+E.length / 4:Nat)),(8,.int .i64 (r.ps.length:Nat)),(26,vm),(27,.int .i64 ((HX r).length:Nat)),(28,.int .i64 (i:Nat))]∧Ent L [Ep q (E++GF ((HX r).take i)),Ep p X,B5 b5 211 [.slice A r.ps.length cap,.int .i64 r.tr,.int .i64 r.gn,.int .i64 r.st,.string (str r.bt)],ro μ]∧i≤(HX r).length) (fun i=>(HX r).length-i) 0 ⟨⟨rfl,rfl,rfl,rfl,rfl,rfl,rfl,rfl,rfl,trivial⟩,by rw [List.take_zero,show GF []=[] from rfl,List.append_nil]; exact Split.ent' AG,Nat.zero_le _⟩ ?_
   rintro i env L ⟨hsub,hE',hi⟩
   refine B7 _ hsub (AX hE' ?_)
   clear hsub hE' env L
   have hml:=Qr r
   have hbl:(E++GF ((HX r).take i)).length≤5000:=by rw [List.length_append,NI,List.length_take]; omega
   refine Ad (Af (Be rfl rfl) (AI [0,1,5,6,7,8,26,27,28,29] rfl (Aj ?_)))
   refine Aq rfl (fun h29=>?_) (fun h29=>?_)
   ·have h29':i<(HX r).length:=by have:=of_decide_eq_true h29; omega
    obtain ⟨y,hy⟩:∃ y,(HX r)[i]? = some y:=⟨_,List.getElem?_eq_getElem h29'⟩
    obtain ⟨b,off,c2,hv,hc⟩:=Hj hrm hy
    obtain ⟨hy1,hy2⟩:=hpr (1+i) y (by unfold HX at hy; rw [List.getElem?_take_of_lt AC,List.getElem?_drop] at hy; exact hy)
    refine Ar (Ai (Aj (AB (Ad ?_))))
    refine Af (AA (off+i*1) (congrArg some hv) rfl AC AC (by rw [Int.toNat_natCast])) ?_
    refine AM (BJ rfl hc) (Au [0,1,5,6,7,8,10,26,27,28] rfl rfl (Am (Ah rfl (Ah rfl (Af (CD y.toNat rfl hy1 (DW AC)) ?_)))))
    refine AE (AF (Cb q y.toNat (E++GF ((HX r).take i)) AC AC) rfl rfl AG) ?_
    rintro v35 L1 ⟨rfl,rfl⟩
    refine As (Bi [0,1,5,6,7,8,26,27,28] rfl (AJ (AV (Ai (Am (Af (AQ ((i+1:Nat):Int) rfl rfl AC AC AC) (Ah rfl (Bi [0,1,5,6,7,8,26,27,28] rfl (AJ ?_)))))))))
    refine Ai ⟨i+1,⟨⟨rfl,rfl,rfl,rfl,rfl,rfl,rfl,rfl,rfl,trivial⟩,?_,h29'⟩,by omega⟩
    rw [Ca hy,UT,← List.append_assoc,show GF [y]=Br 4 y.toNat from List.append_nil _]
    exact Split.ent' AG
   ·have h29':=of_decide_eq_false h29
    obtain rfl:i=(HX r).length:=by omega
    rw [List.take_length] at hbl ⊢
    obtain ⟨y,hy⟩:∃ y,r.ps[r.ps.length-1]? = some y:=⟨_,List.getElem?_eq_getElem AC⟩
    obtain ⟨b,off,c2,hv,hc⟩:=Hj hr hy
    obtain ⟨hy1,hy2⟩:=hpr _ y hy
    have hyl:Si r=y.toNat:=by unfold Si; rw [List.getD_eq_getElem?_getD,hy]; rfl
    refine B3 (AU (AU (AY rfl (Ai (Am (Ah rfl (Af (Ae rfl) (AM (Ak rfl rfl) (Ah rfl (Af (BH ((r.ps.length-1:Nat):Int) rfl rfl AC AC AC) ?_))))))))))
    refine Af (AA (off+(r.ps.length-1)*1) (congrArg some hv) rfl AC AC (by rw [Int.toNat_natCast])) ?_
    refine AM (BJ rfl hc) (Af (CD y.toNat rfl hy1 (DW AC)) (Af (Mf (y.toNat+2147483648) rfl rfl AC AC) ?_))
    refine AE (AF (Cb q (y.toNat+2147483648) (E++GF (HX r)) AC AC) rfl rfl AG) ?_
    rintro v46 L1 ⟨rfl,rfl⟩
    refine As (Bi [0,5,6,7] rfl (AJ (AV ?_)))
    have e1:F7 r=GF (HX r)++Br 4 (y.toNat+2147483648):=by unfold F7; rw [if_pos h14',hyl]
    have e2:IN E.length r=2147483648+E.length / 4:=by unfold IN; rw [if_pos h14']
    rw [e1,e2,← List.append_assoc]
    exact Ai ⟨⟨rfl,rfl,rfl,rfl,trivial⟩,Split.ent' AG⟩
  ·have h14':¬ 2<r.ps.length:=by have:=of_decide_eq_false h14; omega
   have e1:F7 r=[]:=by unfold F7; rw [if_neg h14']
   rw [e1,List.append_nil]
   refine Ad (Ah rfl (Af (Bo rfl rfl) (Au [0,5,6,7,47] rfl rfl ?_)))
   refine Aq rfl (fun h47=>?_) (fun h47=>?_)
   ·have h47':r.ps.length=2:=by have:=of_decide_eq_true h47; omega
    obtain ⟨y,hy⟩:∃ y,r.ps[1]? = some y:=⟨_,List.getElem?_eq_getElem AC⟩
    obtain ⟨b,off,c2,hv,hc⟩:=Hj hr hy
    obtain ⟨hy1,hy2⟩:=hpr _ y hy
    refine Am (Af (Ae rfl) (AM (Ak rfl rfl) (Af (AA (off+1*1) (congrArg some hv) rfl AC AC rfl) (AM (BJ rfl hc) (Af (CD y.toNat rfl hy1 (DW AC)) (B2 rfl (Bi [0,5,6,7] rfl (AJ (AV ?_)))))))))
    have e2:IN E.length r=y.toNat:=by unfold IN; rw [if_neg h14',hy]
    rw [e2]
    exact Ai ⟨⟨rfl,rfl,rfl,rfl,trivial⟩,Split.ent' AG⟩
   ·refine Ar (AV ?_)
    have e2:IN E.length r=4294967295:=by unfold IN; rw [if_neg h14',List.getElem?_eq_none (by have:=of_decide_eq_false h47; omega)]
    rw [e2]
    exact Ai ⟨⟨rfl,rfl,rfl,rfl,trivial⟩,Split.ent' AG⟩
 rintro env L ⟨hsub,hE'⟩
 refine B7 _ hsub (AX hE' ?_)
 clear hsub hE' env L
 refine Co (fun env L=>Sub env [(0,pv p),(5,pv b5),(6,.int .u32 (JB r:Nat)),(7,.int .u32 (IN E.length r:Nat))]∧Ent L [Ep p X,Ep q (E++F7 r),B5 b5 211 [.slice A r.ps.length cap,.int .i64 r.tr,.int .i64 r.gn,.int .i64 r.st,.string (str r.bt)],ro μ]) ?_ ?_
 ·refine Ad (Af (Ae rfl) (AM (Ak rfl rfl) (Af (AW hr rfl) (Af (BO rfl rfl) (AI [0,5,6,7,58] rfl ?_)))))
  refine Aq rfl (fun h58=>?_) (fun h58=>?_)
  ·obtain ⟨y,hy⟩:∃ y,r.ps[0]? = some y:=⟨_,List.getElem?_eq_getElem (by have:=of_decide_eq_true h58; omega)⟩
   obtain ⟨b,off,c2,hv,hc⟩:=Hj hr hy
   obtain ⟨hy1,hy2⟩:=hpr _ y hy
   refine Am (Af (Ae rfl) (AM (Ak rfl rfl) ?_))
   refine Af (AA (off+0*1) (congrArg some hv) rfl AC (by have:=of_decide_eq_true h58; omega) rfl) ?_
   refine AM (BJ rfl hc) (Af (CD y.toNat rfl hy1 (DW AC)) (B2 rfl (Bi [0,5,6,7] rfl (AJ ?_))))
   have e2:JB r=y.toNat:=by
    unfold JB
    cases hps:r.ps with
    | nil=>rw [hps] at hy; cases hy
    | cons z l=>rw [hps] at hy; cases hy; rfl
   rw [e2]
   exact Ai ⟨⟨rfl,rfl,rfl,rfl,trivial⟩,Split.ent' AG⟩
  ·refine Ar ?_
   have e2:JB r=4294967295:=by
    unfold JB
    cases hps:r.ps with
    | nil=>rfl
    | cons z l=>rw [hps] at h58; exact absurd h58 (by simp)
   rw [e2]
   exact Ai ⟨⟨rfl,rfl,rfl,rfl,trivial⟩,Split.ent' AG⟩
 rintro env L ⟨hsub,hE'⟩
 refine B7 _ hsub (AX hE' ?_)
 clear hsub hE' env L
 have hf:JB r<4294967296:=by
  unfold JB
  cases hps:r.ps with
  | nil=>show 4294967295<4294967296; decide
  | cons z l=>have:=hpr 0 z (by rw [hps]; rfl); show z.toNat<_; omega
 have hs:IN E.length r<4294967296:=by
  unfold IN
  split
  ·omega
  ·cases hps:r.ps[1]? with
   | none=>show 4294967295<4294967296; decide
   | some z=>have:=hpr 1 z hps; show z.toNat<_; omega
 refine Ad (Ah rfl (Af (Ae rfl) (AM (Ak rfl rfl) (Af (CD r.tr.toNat rfl AC (DW AC)) ?_))))
 refine AE (AF (Cb p r.tr.toNat X AC AC) rfl rfl AG) ?_
 rintro v68 L1 ⟨rfl,rfl⟩
 refine As (AI [0,5,6,7] rfl (Ad (Ah rfl (Ah rfl ?_))))
 refine AE (AF (Cb p (JB r) (X++Br 4 r.tr.toNat) hf (by rw [List.length_append,Bu]; omega)) rfl rfl AG) ?_
 rintro v71 L1 ⟨rfl,rfl⟩
 refine As (AI [0,5,7] rfl (Ad (Ah rfl (Ah rfl ?_))))
 refine AE (AF (Cb p (IN E.length r) (X++Br 4 r.tr.toNat++Br 4 (JB r)) hs (by simp only [List.length_append,Bu]; omega)) rfl rfl AG) ?_
 rintro v74 L1 ⟨rfl,rfl⟩
 refine As (AI [0,5] rfl (Ad (Ah rfl (Af (Ae rfl) (AM (Ak rfl rfl) (Af (CD r.gn.toNat rfl AC (Ke AC)) ?_))))))
 refine AE (AF (Kf p r.gn.toNat (X++Br 4 r.tr.toNat++Br 4 (JB r)++Br 4 (IN E.length r)) AC (by simp only [List.length_append,Bu]; omega)) rfl rfl AG) ?_
 rintro v79 L1 ⟨rfl,rfl⟩
 refine As (AI [0,5] rfl (Am (Ah rfl (Af (Ae rfl) (Af (Bk rfl) (AM (Ak rfl rfl) (Af (CD r.st.toNat rfl AC (EC AC)) ?_)))))))
 refine AE (AF (ED p r.st.toNat (X++Br 4 r.tr.toNat++Br 4 (JB r)++Br 4 (IN E.length r)++Br 2 r.gn.toNat) AC (by simp only [List.length_append,Bu]; omega)) rfl rfl AG) ?_
 rintro v85 L1 ⟨rfl,rfl⟩
 refine As (C3 _ .nil (AJ ?_))
 have e:X++HY E.length r=X++Br 4 r.tr.toNat++Br 4 (JB r)++Br 4 (IN E.length r)++Br 2 r.gn.toNat++Br 1 r.st.toNat:=by unfold HY; simp only [List.append_assoc]
 rw [e]
 exact CK [Ep p (X++Br 4 r.tr.toNat++Br 4 (JB r)++Br 4 (IN E.length r)++Br 2 r.gn.toNat++Br 1 r.st.toNat),Ep q (E++F7 r),ro μ] .nil ⟨rfl,rfl⟩ AG
def KY (base:Nat)(R:List GR):List Ck:=[(1,HZ base R.length),(2,Ee 0 R),(3,EK R),(4,FS 0 R),(5,El R)]
def Fv (base:Nat)(R:List GR):List UInt8:=QR (KY base R)
theorem ZX {base:Nat}{R:List GR}(h:GsOk base R):CkOk (KY base R):=by
 have h1:=Me h R.length
 rw [List.take_length] at h1
 have h2:=h.len
 refine ⟨?_,by show 5≤12; decide,?_,?_⟩
 ·simp [AscC,KY]
 ·intro x hx
  simp only [KY,List.mem_cons,List.not_mem_nil,or_false] at hx
  rcases hx with rfl | rfl | rfl | rfl | rfl <;> exact ⟨(by dsimp only; decide),(by dsimp only; decide)⟩
 ·simp only [QS,KY,List.map_cons,List.map_nil,List.sum_cons,List.sum_nil,NP,Hg,Iy]
  omega
theorem QT {base:Nat}{R:List GR}(h:GsOk base R):(Fv base R).length≤70000:=by
 have h1:=Me h R.length
 rw [List.take_length] at h1
 have h2:=h.len
 have:=U6 (KY base R)
 unfold Fv QR
 rw [List.length_append,Bu,this]
 simp only [QS,KY,List.map_cons,List.map_nil,List.sum_cons,List.sum_nil,NP,Hg,Iy,List.length_cons,List.length_nil]
 omega
set_option maxHeartbeats 4000000 in
theorem VO (μ:PH)(base:Nat)(v:Value)(R:List (Value×GR))(hg:GRows μ v R)(h:GsOk base (E0 R)):Spec prog 92 [.agg (SR base v).toArray] [ro μ] (fun r L=>∃ μ',Le μ μ'∧r=.tuple #[.string (str (Fv base (E0 R))),.int .i64 0]∧L=[ro μ']):=by
 have hlen:=h.len
 have hall:=h.all
 rw [List.length_map] at hlen hall
 refine Spec.of 97 func92 rfl rfl rfl ?_
 refine Ad (AE (Bp rfl rfl) (fun b1=>?_))
 refine B2 rfl (Au [1] rfl rfl (Aj (Ad (AM (Cn rfl rfl) ?_))))
 refine AE (AF (VL μ base v R hg h) rfl rfl AG) ?_
 rintro v12 L1 ⟨rfl,rfl⟩
 refine As (Af (Bx rfl rfl) (AI [1,13] rfl (Dw rfl (Ar (Ai (Ad ?_))))))
 refine AE (AF Dn rfl rfl AG) ?_
 rintro v14 L1 ⟨p1,rfl,rfl⟩
 refine As ?_
 refine AE (AF Dn rfl rfl AG) ?_
 rintro v15 L1 ⟨p2,rfl,rfl⟩
 refine As ?_
 refine AE (AF Dn rfl rfl AG) ?_
 rintro v16 L1 ⟨p3,rfl,rfl⟩
 refine As ?_
 refine AE (AF Dn rfl rfl AG) ?_
 rintro v17 L1 ⟨p4,rfl,rfl⟩
 refine As ?_
 refine AE (AF Dn rfl rfl AG) ?_
 rintro v18 L1 ⟨p5,rfl,rfl⟩
 refine As (B2 rfl (B2 rfl (B2 rfl (B2 rfl (Au [1,4,5,6,7,8] rfl rfl (Ad (Ah rfl (Af (Ae rfl) (AM (Ak rfl rfl) (Af (CD base rfl rfl (DW AC)) ?_))))))))))
 refine AE (AF (Cb p1 base [] AC (by decide)) rfl rfl AG) ?_
 rintro v23 L1 ⟨rfl,rfl⟩
 refine As (AI [1,4,5,6,7,8] rfl (Ad (Ah rfl (Af (Ae rfl) (AM (Ak rfl rfl) (Af (AW hg.row rfl) (Af (CD R.length rfl rfl (DW AC)) ?_)))))))
 refine AE (AF (Cb p1 R.length ([]++Br 4 base) AC (by rw [List.nil_append,Bu]; decide)) rfl rfl AG) ?_
 rintro v29 L1 ⟨rfl,rfl⟩
 refine As (AI [1,4,5,6,7,8] rfl (Ad (Ah rfl (Af (Ae rfl) (Af (Bk rfl) (AM (Ak rfl rfl) (Af (CD 3 rfl rfl (EC AC)) ?_)))))))
 refine AE (AF (ED p1 3 ([]++Br 4 base++Br 4 R.length) (by decide) (by simp only [List.length_append,Bu,List.length_nil]; decide)) rfl rfl AG) ?_
 rintro v35 L1 ⟨rfl,rfl⟩
 refine As (AI [1,4,5,6,7,8] rfl (Ad (Ah rfl (Af (Ae rfl) (Af (Bk rfl) (AM (Ak rfl rfl) (Af (CD 10 rfl rfl (EC AC)) ?_)))))))
 refine AE (AF (ED p1 10 ([]++Br 4 base++Br 4 R.length++Br 1 3) (by decide) (by simp only [List.length_append,Bu,List.length_nil]; decide)) rfl rfl AG) ?_
 rintro v41 L1 ⟨rfl,rfl⟩
 refine As (AI [1,4,5,6,7,8] rfl (Ad (Ah rfl (Af (Ae rfl) (Af (Bk rfl) (AM (Ak rfl rfl) (Af (CD 2 rfl rfl (Ke AC)) ?_)))))))
 refine AE (AF (Kf p1 2 ([]++Br 4 base++Br 4 R.length++Br 1 3++Br 1 10) (by decide) (by simp only [List.length_append,Bu,List.length_nil]; decide)) rfl rfl AG) ?_
 rintro v47 L1 ⟨rfl,rfl⟩
 refine As (AI [1,4,5,6,7,8] rfl (Ad (Ah rfl (Af (Ae rfl) (Af (Bk rfl) (AM (Ak rfl rfl) ?_))))))
 refine AE (AF (Cb p1 7 ([]++Br 4 base++Br 4 R.length++Br 1 3++Br 1 10++Br 2 2) (by decide) (by simp only [List.length_append,Bu,List.length_nil]; decide)) rfl rfl AG) ?_
 rintro v52 L1 ⟨rfl,rfl⟩
 refine As (AI [1,4,5,6,7,8] rfl (Aj (Aj ?_)))
 rw [show []++Br 4 base++Br 4 R.length++Br 1 3++Br 1 10++Br 2 2++Br 4 7=HZ base R.length by unfold HZ; simp only [List.nil_append,List.append_assoc]]
 refine Am (Af (Ae rfl) (AM (Ak rfl rfl) (Af (AW hg.row rfl) (Ah rfl (AI [4,5,6,7,8,54,55,56] rfl (AB ?_))))))
 refine B4 (ι:=Nat) (fun i env L=>Sub env [(4,pv p1),(5,pv p2),(6,pv p3),(7,pv p4),(8,pv p5),(54,v),(55,.int .i64 (R.length:Nat)),(56,.int .i64 (i:Nat))]∧Ent L [Ep p1 (HZ base R.length),Ep p2 (Ee 0 ((E0 R).take i)),Ep p3 (EK ((E0 R).take i)),Ep p4 (FS 0 ((E0 R).take i)),Ep p5 (El ((E0 R).take i)),ro μ]∧i≤R.length) (fun i=>R.length-i) 0 ⟨⟨rfl,rfl,rfl,rfl,rfl,rfl,rfl,rfl,trivial⟩,by show Ent _ [Ep p1 (HZ base R.length),Ep p2 [],Ep p3 [],Ep p4 [],Ep p5 [],ro μ]; exact Split.ent' AG,Nat.zero_le _⟩ ?_
 rintro i env L ⟨hsub,hE,hi⟩
 refine B7 _ hsub (AX hE ?_)
 clear hsub hE env L
 obtain ⟨hl1,hl2,hl3⟩:=Me h i
 refine Ad (Af (Be rfl rfl) (AI [4,5,6,7,8,54,55,56,57] rfl (Aj ?_)))
 refine Aq rfl (fun h57=>?_) (fun h57=>?_)
 ·have h57':i<R.length:=by have:=of_decide_eq_true h57; omega
  obtain ⟨x,hx⟩:∃ x,R[i]? = some x:=⟨_,List.getElem?_eq_getElem h57'⟩
  have hxp:=Sk hx
  obtain ⟨b,off,c2,A,c,hv,hr,hp,_⟩:=P8 hg hx
  have hok:=h.row i x.2 hxp
  have hbl:=hok.bl
  have htl:((E0 R).take i).length=i:=by rw [List.length_take,List.length_map]; omega
  refine Ar (Ai (Aj (AB (Ad ?_))))
  refine Af (AA (off+i*5) (congrArg some hv) rfl AC AC (by rw [Int.toNat_natCast])) ?_
  refine AM (Cu (vs:=[.slice A x.2.ps.length c,.int .i64 x.2.tr,.int .i64 x.2.gn,.int .i64 x.2.st,.string (str x.2.bt)]) rfl rfl hr) (AE (Bd) (fun b10=>?_))
  refine Bh (B8 rfl rfl rfl rfl) (AI [4,5,6,7,8,10,54,55,56] rfl (Ad (Ah rfl (Ah rfl (AM (Cn rfl rfl) ?_)))))
  refine AE (AF (VN μ p2 p3 (Ee 0 ((E0 R).take i)) (EK ((E0 R).take i)) A c x.2 (base+i) hp hok AC AC (by rw [Hg,htl]; omega)) rfl rfl AG) ?_
  rintro v63 L1 ⟨rfl,rfl⟩
  refine As (AI [4,5,6,7,8,10,54,55,56] rfl (Ad (Ah rfl (Af (Ae rfl) (Af (Bk rfl) (AM (Ak rfl rfl) ?_))))))
  refine AE (AF (EV p5 (El ((E0 R).take i)) x.2.bt AC AC) rfl rfl AG) ?_
  rintro v68 L1 ⟨rfl,rfl⟩
  refine As (AI [4,5,6,7,8,54,55,56] rfl (Ad (Ah rfl (Ah rfl ?_))))
  refine AE (AF (Km p5 (El ((E0 R).take i)++x.2.bt)) rfl rfl AG) ?_
  rintro v71 L1 ⟨rfl,rfl⟩
  refine As ?_
  refine Af (CD ((El ((E0 R).take i)).length+x.2.bt.length) rfl (by rw [List.length_append]) (DW AC)) ?_
  refine AE (AF (Cb p4 ((El ((E0 R).take i)).length+x.2.bt.length) (FS 0 ((E0 R).take i)) AC (by rw [Iy,htl]; omega)) rfl rfl AG) ?_
  rintro v73 L1 ⟨rfl,rfl⟩
  refine As (AI [4,5,6,7,8,54,55,56] rfl (Ad (Ah rfl ?_)))
  refine AE (AF (Km p5 (El ((E0 R).take i)++x.2.bt)) rfl rfl AG) ?_
  rintro v75 L1 ⟨rfl,rfl⟩
  refine As (Af (BO rfl rfl) (AI [4,5,6,7,8,54,55,56,76] rfl ?_))
  refine Aq rfl (fun h76=>by have:=of_decide_eq_true h76; rw [List.length_append] at this; omega) (fun h76=>?_)
  refine Ar (AV (Ai (Am (Af (AQ ((i+1:Nat):Int) rfl rfl AC AC AC) (Ah rfl (Bi [4,5,6,7,8,54,55,56] rfl (AJ ?_)))))))
  refine Ai ⟨i+1,⟨⟨rfl,rfl,rfl,rfl,rfl,rfl,rfl,rfl,trivial⟩,?_,h57'⟩,by omega⟩
  rw [Sm hxp,UU hxp,UV hxp,UW hxp]
  exact Split.ent' AG
 ·have h57':=of_decide_eq_false h57
  obtain rfl:i=R.length:=by omega
  have hta:(E0 R).take R.length=E0 R:=List.take_of_length_le (by rw [List.length_map]; exact Nat.le_refl _)
  rw [hta]
  refine B3 (AU (AU (AY rfl (Ai (Ad (Ah rfl ?_))))))
  refine AE (AF (Dv p1 (HZ base R.length)) rfl rfl AG) ?_
  rintro v79 L1 ⟨rfl,rfl⟩
  refine As (Af (Bz (qs:=[(0,_),(1,_)]) rfl) (Ah rfl ?_))
  refine AE (AF (Dv p2 (Ee 0 (E0 R))) rfl rfl AG) ?_
  rintro v82 L1 ⟨rfl,rfl⟩
  refine As (Af (Bz (qs:=[(0,_),(1,_)]) rfl) (Ah rfl ?_))
  refine AE (AF (Dv p3 (EK (E0 R))) rfl rfl AG) ?_
  rintro v85 L1 ⟨rfl,rfl⟩
  refine As (Af (Bz (qs:=[(0,_),(1,_)]) rfl) (Ah rfl ?_))
  refine AE (AF (Dv p4 (FS 0 (E0 R))) rfl rfl AG) ?_
  rintro v88 L1 ⟨rfl,rfl⟩
  refine As (Af (Bz (qs:=[(0,_),(1,_)]) rfl) (Ah rfl ?_))
  refine AE (AF (Dv p5 (El (E0 R))) rfl rfl AG) ?_
  rintro v91 L1 ⟨rfl,rfl⟩
  refine As (Af (Bz (qs:=[(0,_),(1,_)]) rfl) (AE (Bs (qs:=[(0,_),(1,_),(2,_),(3,_),(4,_)]) rfl rfl rfl) (fun b93=>?_)))
  refine ER (b:=b93) (μ:=μ) AG fun μ1 h1 k1=>?_
  have hrow:Row μ1 (.slice (some ⟨b93,0,none⟩) 5 5) 2 (KY base (E0 R)).length ((KY base (E0 R)).flatMap IG):=by
   have:=Ed (n:=2) (l:=5) k1 rfl (by decide)
   have e:(KY base (E0 R)).flatMap IG=_:=rfl
   unfold KY
   rw [List.length_map]
   exact this
  refine AE (AF (VJ μ1 _ (KY base (E0 R)) hrow (ZX h)) rfl rfl AG) ?_
  rintro v94 L1 ⟨μ2,h2,rfl,rfl⟩
  refine As (Af (Ax rfl) (Af (Ax rfl) (B2 rfl (Au [2,3] rfl rfl (Av ?_)))))
  exact Aw [ro μ2] (.tmp rfl (.tmp rfl .nil)) ⟨μ2,h1.trans h2,rfl,rfl⟩ AG



instance tif_err:TIface prog 283:=⟨⟨_,underlying283⟩⟩
theorem QU {P:Program}{env:CA}{t u:TypeId}[h:TIface P t]{x:Operand}(hx:AO env x=some .nilIface):Pu P env (.binOp .neq t x (.const .nilIface) u) (.bool false):=fun ρ hρ _ _ _ _ _ w=>by
 obtain ⟨e,he⟩:=h.und
 have hy:ρ (.const .nilIface)=.nilIface:=hρ _ _ rfl
 have hg:∀ X,eqGuard .neq t X (.const .nilIface) .nilIface .nilIface=pure ():=fun X=>by simp [eqGuard]
 have hb:binOp .neq t .nilIface .nilIface=(do pure (.bool (!(← Op.equal t .nilIface .nilIface)))):=rfl
 have hd:∀ d w,(Op.equalIn (d+1) t .nilIface .nilIface).run P w=.ok true w:=fun d w=>by simp [Op.equalIn,run_underlying he]
 have hq:(Op.equal t .nilIface .nilIface).run P w=.ok true w:=hd 9999 w
 simp only [execOp,hρ x _ hx,hy,Sem.run_bind,hg,hb,hq,Sem.run_pure,Result.andThen_ok,Bool.not_true]
def Cq (k:Nat):ByteArray:=str ([103,114,97,112,104,45]++Lib.decDigits k)
abbrev MN:List UInt8:=[103,114,97,112,104,45]
theorem VP:((List.range 20).all fun k=>DG (Cq k)&&(Lib.hasPrefix (Cq k).data.toList MN&&((Lib.trimPrefix (Cq k).data.toList MN == Lib.decDigits k)&&((Lib.atoi (Lib.decDigits k) == some (k:Int))&&decide ((Lib.decDigits k).length≤2)))))=true:=by kernel_rfl
theorem Fw {k:Nat}(h:k<20):DG (Cq k)=true∧Lib.hasPrefix (Cq k).data.toList MN=true∧Lib.trimPrefix (Cq k).data.toList MN=Lib.decDigits k∧Lib.atoi (Lib.decDigits k)=some (k:Int)∧(Lib.decDigits k).length≤2:=by
 have:=List.all_eq_true.1 VP k (List.mem_range.2 h)
 simp only [Bool.and_eq_true,beq_iff_eq,decide_eq_true_eq] at this
 exact this
theorem Kn {a b:Nat}(ha:a<20)(hb:b<20)(h:Cq a=Cq b):a=b:=by
 have h1:=(Fw ha).2.2
 have h2:=(Fw hb).2.2
 rw [h,h2.1] at h1
 rw [← h1.1] at h1
 have:=h2.2.1.symm.trans h1.2.1
 exact (Int.ofNat_inj.1 (Option.some.inj this)).symm
abbrev chainN:ByteArray:=⟨#[99,104,97,105,110]⟩
abbrev HC:ByteArray:=⟨#[99,104,97,105,110,46,116,109,112]⟩
abbrev HE:ByteArray:=⟨#[103,114,97,112,104,46,116,109,112]⟩
def SynOk (μ:PH):Prop:=∃ ev,CellAt μ 0 0 ev∧(ev=.nilIface∨∃ te pe,ev=.iface te pe)
theorem SynOk.le{μ μ':PH}(h:SynOk μ)(k:Le μ μ'):SynOk μ':=let ⟨ev,h1,h2⟩:=h; ⟨ev,h1.le k,h2⟩
theorem H.below{E:Ctx}{w w':World}{L:List AK}(h:H E w L)(hb:RowKit.Below w.heap.size w w'):H E w' L:=by
 obtain ⟨h1,h2,h3,h4,h5⟩:=h
 refine ⟨hb.os.trans h1,hb.output.trans h2,hb.tape.trans h3,Nat.le_trans h4 hb.size,h5.mono fun b o hb'=>?_⟩
 rw [hb.block b (Array.getElem?_eq_some_iff.1 hb').1]; exact hb'
theorem VQ (k:Nat)(h:k<20):Spec prog 173 [.int .i64 (k:Nat)] [] (fun r L=>r=.string (str (Lib.decDigits k))∧L=[]):=Spec.ofCalls fun w=>strconv_Itoa_small k AC w
theorem VR (k:Nat)(h:k<20):Spec prog 181 [.string (str (Lib.decDigits k))] [] (fun r L=>r=.tuple #[.int .i64 (k:Nat),.nilIface]∧L=[]):=fun E w hw =>
 (strconv_Atoi (str (Lib.decDigits k)) k (by rw [Di]; have:=(Fw h).2.2.2.2; omega) (Fw h).2.2.2.1 w).mono fun e w' ⟨e1,t,e2⟩=>⟨_,[],e1,⟨rfl,rfl⟩,by rw [e2]; exact hw.below (Lib.bytesWorld_below w 5 t)⟩
theorem ZY (μ:PH)(hs:SynOk μ)(s:ByteArray)(hl:s.size≤18)(h:Lib.atoi s.data.toList=none):Spec prog 181 [.string s] [ro μ] (fun r L=>(∃ v,r=.tuple #[.int .i64 0,v])∧L=[ro μ]):=fun E w hw=>by
 obtain ⟨ev,hc,hev⟩:=hs
 exact (strconv_Atoi_err s hl h ev w (H5 hw hc) hev).mono fun e w' ⟨N,e1,_,_,e2⟩=>⟨_,[ro μ],e1,⟨⟨_,rfl⟩,rfl⟩,hw.below e2⟩
theorem Oa (s p:ByteArray):Spec prog 180 [.string s,.string p] [] (fun r L=>r=.tuple #[.string (str (Lib.trimPrefix s.data.toList p.data.toList)),.bool (Lib.hasPrefix s.data.toList p.data.toList)]∧L=[]):=Spec.ofCalls fun w=>strings_CutPrefix s p w
theorem MO (k:Nat)(h:k<20):Spec prog 98 [.int .i64 (k:Nat)] [] (fun r L=>r=.string (Cq k)∧L=[]):=by
 have hd:=(Fw h).2.2.2.2
 refine Spec.of 9 func98 rfl rfl rfl ?_
 refine Ad (Au [0] rfl rfl (Aj (Ad (Ah rfl ?_))))
 refine AE (AF (IE (k:Nat)) rfl rfl AG) ?_
 rintro v4 L1 ⟨rfl,rfl⟩
 refine As (Af (Cd rfl) (AI [0,5] rfl ?_))
 refine Aq rfl (fun h5=>by rw [decide_eq_true AC,decide_eq_true AC] at h5; cases h5) (fun h5=>?_)
 refine Ar (Ai (Ad (Ah rfl ?_)))
 refine AE (AF (VQ k h) rfl rfl AG) ?_
 rintro v7 L1 ⟨rfl,rfl⟩
 refine As ?_
 refine Af (UG (a:=MN) rfl rfl (by show 6+_≤_; omega)) ?_
 refine Au [2] rfl rfl (Av ?_)
 exact Aw [] (.tmp rfl .nil) ⟨rfl,rfl⟩ AG
theorem Yi (k:Nat)(h:k<20):Spec prog 103 [.string (Cq k)] [] (fun r L=>r=.tuple #[.int .i64 (k:Nat),.bool true]∧L=[]):=by
 obtain ⟨h1,h2,h3,h4,h5⟩:=Fw h
 refine Spec.of 31 func103 rfl rfl rfl ?_
 refine Ad (B2 rfl (Au [0] rfl rfl (Ad (Ah rfl ?_))))
 refine AE (AF (Oa (Cq k) ⟨#[103,114,97,112,104,45]⟩) rfl rfl AG) ?_
 rintro v10 L1 ⟨rfl,rfl⟩
 rw [show Lib.trimPrefix (Cq k).data.toList (⟨#[103,114,97,112,104,45]⟩:ByteArray).data.toList=Lib.decDigits k from h3,show Lib.hasPrefix (Cq k).data.toList (⟨#[103,114,97,112,104,45]⟩:ByteArray).data.toList=true from h2]
 refine As (Ah rfl (Af (Ax rfl) (Af (Ax rfl) (B2 rfl (Au [0,4,5] rfl rfl (Ad (Ah rfl ?_)))))))
 refine AE (AF (VR k h) rfl rfl AG) ?_
 rintro v15 L1 ⟨rfl,rfl⟩
 refine As (Ah rfl (Af (Ax rfl) (Af (Ax rfl) (B2 rfl (Au [0,5,6,7] rfl rfl (Aj (Ad (Ah rfl (Af (Cd rfl) (Ah rfl ?_))))))))))
 refine B9 20 rfl (fun h20=>by cases h20) (fun h20=>?_)
 refine AS rfl rfl (Ah rfl (AS rfl rfl (Af (QU rfl) (Af (B0 rfl rfl) (Ah rfl ?_)))))
 refine B9 24 rfl (fun h24=>by cases h24) (fun h24=>?_)
 refine AS rfl rfl (Ah rfl (AS rfl rfl ?_))
 refine AE (AF (MO k h) rfl rfl AG) ?_
 rintro v26 L1 ⟨rfl,rfl⟩
 refine As (AS rfl rfl (Ah rfl (AS rfl rfl (Af (FN rfl rfl) (Af (B0 rfl rfl) (AI [6,29] rfl ?_))))))
 refine Aq rfl (fun h29=>by rw [BQ] at h29; cases h29) (fun h29=>?_)
 refine Ar (Ai (Ad (Ah rfl (B2 rfl (Au [2,3] rfl rfl (Av ?_))))))
 exact Aw [] (.tmp rfl (.tmp rfl .nil)) ⟨rfl,rfl⟩ AG
theorem U7 (μ:PH)(hs:SynOk μ)(s:ByteArray)(hl:s.size≤18)(hp:Lib.hasPrefix s.data.toList MN=false)(ht:Lib.trimPrefix s.data.toList MN=s.data.toList)(h:Lib.atoi s.data.toList=none):Spec prog 103 [.string s] [ro μ] (fun r L=>r=.tuple #[.int .i64 0,.bool false]∧L=[ro μ]):=by
 refine Spec.of 31 func103 rfl rfl rfl ?_
 refine Ad (B2 rfl (Au [0] rfl rfl (Ad (Ah rfl ?_))))
 refine AE (AF (Oa s ⟨#[103,114,97,112,104,45]⟩) rfl rfl AG) ?_
 rintro v10 L1 ⟨rfl,rfl⟩
 rw [show Lib.trimPrefix s.data.toList (⟨#[103,114,97,112,104,45]⟩:ByteArray).data.toList=s.data.toList from ht,show Lib.hasPrefix s.data.toList (⟨#[103,114,97,112,104,45]⟩:ByteArray).data.toList=false from hp]
 refine As (Ah rfl (Af (Ax rfl) (Af (Ax rfl) (B2 rfl (Au [0,4,5] rfl rfl (Ad (Ah rfl ?_)))))))
 refine AE (AF (ZY μ hs s hl h) rfl rfl AG) ?_
 rintro v15 L1 ⟨⟨v,rfl⟩,rfl⟩
 refine As (Ah rfl (Af (Ax rfl) (Af (Ax rfl) (B2 rfl (Au [0,5,6,7] rfl rfl (Aj (Ad (Ah rfl (Af (Cd rfl) (Ah rfl ?_))))))))))
 refine B9 20 rfl (fun h20=>?_) (fun h20=>by cases h20)
 refine B1 rfl rfl rfl (B1 rfl rfl rfl (Af (Bc rfl rfl) (Ah rfl ?_)))
 refine B9 24 rfl (fun h24=>?_) (fun h24=>by cases h24)
 refine B1 rfl rfl rfl (B1 rfl rfl rfl (B1 rfl rfl rfl (B1 rfl rfl rfl (Af (Bc rfl rfl) (AI [6,29] rfl (Tv rfl (Ad (B2 rfl (Au [2,3] rfl rfl (Av (AZ ?_)))))))))))
 exact Aw [ro μ] (.tmp rfl (.tmp rfl .nil)) ⟨rfl,rfl⟩ AG

theorem ZZ {l:List UInt8}{k:Nat}{b:UInt8}(h:l[k]? = some b):(Dx l)[0+k*1]? = some (.int .u8 (b.toNat:Nat)):=by rw [Eb,List.getElem?_map,Nat.zero_add,Nat.mul_one,h]; rfl
theorem A00(l:List UInt8)(k:Nat)(b:UInt8):(Dx l).set (0+k*1) (.int .u8 (b.toNat:Nat))=Dx (l.set k b):=by rw [Eb,Eb,Nat.zero_add,Nat.mul_one,List.map_set]
theorem A11(b:UInt8):((b.toNat:Nat):Int)=((BitVec.ofNat 32 b.toNat).toNat:Int):=by
 have:=b.toNat_lt; rw [BitVec.toNat_ofNat,Nat.mod_eq_of_lt AC]
set_option maxHeartbeats 1000000 in
theorem MP (s:BitVec 32)(p:List UInt8)(hs:p.length≤1048576):Spec prog 340 [.int .u32 (s.toNat:Nat),.string (str p)] [] (fun v L=>(∃ w:BitVec 32,v=.int .u32 (w.toNat:Nat))∧L=[]):=by
 refine Spec.of 37 func340 rfl rfl rfl ?_
 refine Ad (Au [0,1] rfl rfl (Ad (Ah rfl (Af (Du (a:=2166136261#32) rfl rfl) (Au [1,5] rfl rfl (Aj (Ad (Ah rfl ?_))))))))
 refine AE (Jx (e:=5) rfl (by rw [Di]; simp only [maxLen]; omega)) ?_
 rintro g cap cs fr hc1 hc2 hcs
 skip
 refine Af (BD rfl) (Ah rfl (AI [5,11,12,13] rfl (AB (AX ZH ?_))))
 refine LL (b:=g) (μ:=fun _=>none) AG fun μ _ hg=>?_
 have hrow:Row μ (.slice (some ⟨g,0,none⟩) p.length cap) 1 p.length (Dx p):=Iu hc1 hc2 hcs hg
 refine B4 (ι:=Nat×BitVec 32) (fun x env L=>Sub env [(5,.int .u32 (x.2.toNat:Nat)),(11,.slice (some ⟨g,0,none⟩) p.length cap),(12,.int .i64 (p.length:Nat)),(13,.int .i64 (x.1:Nat))]∧L=[ro μ]∧x.1≤p.length) (fun x=>p.length-x.1) (0,2166136261#32 ^^^ s) ⟨⟨rfl,rfl,rfl,rfl,trivial⟩,rfl,Nat.zero_le _⟩ ?_
 rintro ⟨i,w⟩ env L ⟨hsub,rfl,hi⟩
 refine B7 _ hsub ?_
 dsimp only at hi
 clear hsub env
 refine Ad (Af (Be rfl rfl) (AI [5,11,12,13,14] rfl (Aj ?_)))
 refine Aq rfl (fun h14=>?_) (fun h14=>?_)
 ·have h14':i<p.length:=by have:=of_decide_eq_true h14; dsimp only at this; omega
  obtain ⟨b,hb⟩:∃ b,p[i]? = some b:=⟨_,List.getElem?_eq_getElem AC⟩
  obtain ⟨g',off,cap',hv,_,_,hr'⟩:=hrow.pos AC
  have hre:=hr'.elem (f:=bc1) (n:=1) (fun _=>rfl) hb
  injection hv with e1 e2 e3
  injection e1 with e1
  injection e1 with e4 e5
  subst e4 e5
  refine Ar (Ai (Aj (AB (Ad ?_))))
  refine Af (AA (0+i*1) rfl rfl AC AC (by rw [Int.toNat_natCast])) ?_
  refine AM (BJ rfl hre.cell) (Au [5,7,11,12,13] rfl rfl (Am (Ah rfl (Ah rfl ?_))))
  refine Af (BP (k':=.u32) (n:=((BitVec.ofNat 32 b.toNat).toNat:Int)) (by rw [← A11]; rfl) (F4 _)) ?_
  refine Af (Du (a:=w) rfl rfl) (Af (Jm (b:=16777619#32) rfl rfl) (B2 rfl (Bi [5,11,12,13] rfl (AJ (AV (Ai (Am (Af (AQ ((i+1:Nat):Int) rfl rfl AC AC AC) (Ah rfl (Bi [5,11,12,13] rfl (AJ ?_)))))))))))
  exact Ai ⟨(i+1,_),⟨⟨rfl,rfl,rfl,rfl,trivial⟩,rfl,h14'⟩,by show p.length-(i+1)<p.length-i; omega⟩
 ·refine B3 (AU (AU (AY rfl (Ai (Ad (Ah rfl (Ah rfl (Af (DQ (a:=w) 16 rfl rfl AC) (Af (Du (a:=w) rfl rfl) (Af (Jm (b:=2246822507#32) rfl rfl) (Au [5] rfl rfl (Ad (Ah rfl (Ah rfl (Af (DQ 13 rfl rfl AC) (Af (Du rfl rfl) (Af (Jm (b:=3266489909#32) rfl rfl) (Au [5] rfl rfl (Ad (Ah rfl (Ah rfl (Af (DQ 16 rfl rfl AC) (Af (Du rfl rfl) (Au [4] rfl rfl (Av ?_)))))))))))))))))))))))))
  exact Aw [] (.tmp rfl .nil) ⟨⟨_,rfl⟩,rfl⟩ AG
set_option maxHeartbeats 2000000 in
theorem Pt (p:List UInt8)(n:Nat)(hs:p.length≤1048576)(hn:0<n)(hn2:n≤1000):Spec prog 269 [.agg setC.toArray,.string (str p),.int .i64 (n:Nat)] [] (fun v L=>∃ (A:Option Addr) (c:Nat) (xs:List Int),v=.slice A xs.length c∧(∀ x∈xs,0≤x∧x<(n:Int))∧L=[own 3 1 (.slice A xs.length c) xs.length (xs.flatMap (Bw .i64))]):=by
 refine Spec.of 48 func269 rfl rfl rfl ?_
 refine Ad (AE (Bp rfl rfl) (fun b3=>?_))
 refine Au [1,2,3] rfl rfl (Aj (Ad (AM (Cn rfl rfl) ?_)))
 refine AE (AF FU rfl rfl AG) ?_
 rintro v11 L1 ⟨rfl,rfl⟩
 refine As (Af (Bx rfl rfl) (Ah rfl ?_))
 refine B9 13 rfl (fun h13=>by cases h13) (fun h13=>?_)
 refine AS rfl rfl (Ah rfl (AS rfl rfl (Af (Be rfl rfl) (Af (B0 rfl rfl) (Ah rfl ?_)))))
 refine B9 17 rfl (fun h17=>by have:=of_decide_eq_true h17; omega) (fun h17=>?_)
 refine AS rfl rfl (Ah rfl (AS rfl rfl (Af (BO rfl rfl) (Af (B0 rfl rfl) (AI [1,2,3,20] rfl ?_)))))
 refine Aq rfl (fun h20=>by have:=of_decide_eq_true h20; omega) (fun h20=>?_)
 refine Ar (Ai (Aj ?_))
 refine Bb [1,5] _ [] (by simp only [List.append_nil]; exact Ent.refl _) AP ?_
 refine AD 0 rfl (Ae rfl) (Bl 1 rfl (Ak rfl rfl) rfl (AD 2 rfl (AH rfl) (AD 4 rfl (Ae rfl) (Bl 5 rfl (Ak rfl rfl) rfl (AD 6 rfl (Mh (a:=7#32) (b:=1#32) rfl rfl) (AD 7 rfl (AH rfl) ?_))))))
 refine CQ 3 rfl AP (AF (MP 7#32 p hs) rfl rfl AG) ?_
 rintro v24 L1 ⟨⟨w1,rfl⟩,rfl⟩
 refine ⟨_,BU (Split.ent AG),?_⟩
 refine BX 8 rfl AP AP (AF (MP (7#32+1#32) p hs) rfl rfl AG) ?_
 rintro v29 L1 ⟨⟨w2,rfl⟩,rfl⟩
 refine C5 (AD 9 rfl (K1 (a:=w2) (b:=1#32) rfl rfl) (AD 10 rfl (Bf rfl) (AD 11 rfl (Bf rfl) (BZ [2,3,7,8] rfl (Bv AP (Ai (Ad (Au [2,3,7,8,9] rfl rfl (Aj (Ad (Af (Ae rfl) (AM (Ak rfl rfl) (Ah rfl (AI [2,7,8,9,32,33] rfl (AB (AX (own_nil_ent (e:=3) (n:=1)) ?_))))))))))))))))
 refine B4 (ι:=Nat×BitVec 32×(Option Addr×Nat)×List Int) (fun x env L=>Sub env [(2,.int .i64 (n:Nat)),(7,.int .u32 (x.2.1.toNat:Nat)),(8,.int .u32 ((w2 ||| 1#32).toNat:Nat)),(9,.slice x.2.2.1.1 x.2.2.2.length x.2.2.1.2),(32,.int .i64 3),(33,.int .i64 (x.1:Nat))]∧Ent L [own 3 1 (.slice x.2.2.1.1 x.2.2.2.length x.2.2.1.2) x.2.2.2.length (x.2.2.2.flatMap (Bw .i64))]∧x.1≤3∧x.2.2.2.length=x.1∧∀ y∈x.2.2.2,0≤y∧y<(n:Int)) (fun x=>3-x.1) (0,w1,(none,0),[]) ⟨⟨rfl,rfl,rfl,rfl,rfl,rfl,trivial⟩,by show Ent _ [own 3 1 (.slice none 0 0) 0 []]; exact Split.ent' AG,by show 0≤3; decide,rfl,fun y hy=>by cases hy⟩ ?_
 rintro ⟨i,w,⟨A,c⟩,xs⟩ env L ⟨hsub,hE,hi,hxl,hxs⟩
 dsimp only at hsub hE hi hxl hxs
 refine B7 _ hsub (AX hE ?_)
 clear hsub hE env L
 refine Ad (Af (Be rfl rfl) (AI [2,7,8,9,32,33,34] rfl (Aj ?_)))
 refine Aq rfl (fun h34=>?_) (fun h34=>?_)
 ·have h34':i<3:=by have:=of_decide_eq_true h34; omega
  have hlt:w.toNat % n<n:=Nat.mod_lt _ hn
  refine Ar (Ai (Aj (AB (Ad (Ah rfl (Ah rfl (Ah rfl (Af (CD n rfl rfl (DW AC)) (Af (Jn rfl rfl hn) (Af (DP rfl AC AC) (AE (Bs (qs:=[(0,_)]) rfl rfl rfl) (fun b41=>?_))))))))))))
  refine AE (Bj (l:=xs.length) (m:=1) rfl rfl AG (by simp only [maxLen]; omega) AC) ?_
  rintro v42 -
  refine E3 (fun m h=>CL h) fun ⟨A42,c42,hv42⟩=>?_
  subst hv42
  refine Au [2,7,8,9,32,33] rfl rfl (Am (Ah rfl (Ah rfl (Af (Mh (a:=w) rfl rfl) (B2 rfl (Bi [2,7,8,9,32,33] rfl (AJ (AV (Ai (Am (Af (AQ ((i+1:Nat):Int) rfl rfl AC AC AC) (Ah rfl (Bi [2,7,8,9,32,33] rfl (AJ ?_))))))))))))))
  have el:(xs++[((w.toNat % n:Nat):Int)]).length=xs.length+1:=by rw [List.length_append]; rfl
  refine Ai ⟨(i+1,w+(w2 ||| 1#32),(A42,c42),xs++[((w.toNat % n:Nat):Int)]),⟨?_,?_,h34',by dsimp only; omega,fun y hy=>?_⟩,by show 3-(i+1)<3-i; omega⟩
  ·dsimp only; rw [el]; exact ⟨rfl,rfl,rfl,rfl,rfl,rfl,trivial⟩
  ·dsimp only
   rw [el,List.flatMap_append]
   show Ent _ [own 3 1 (.slice A42 (xs.length+1) c42) (xs.length+1) (xs.flatMap (Bw .i64)++[.int .i64 ((w.toNat % n:Nat):Int)])]
   exact Split.ent' AG
  ·rcases List.mem_append.1 hy with hy | hy
   ·exact hxs y hy
   ·obtain rfl:=List.mem_singleton.1 hy
    omega
 ·refine B3 (AU (AU (AY rfl (Ai (Ad (Ah rfl (Au [6] rfl rfl (Av ?_))))))))
  exact Aw [own 3 1 (.slice A xs.length c) xs.length (xs.flatMap (Bw .i64))] (.tmp rfl .nil) ⟨A,c,xs,rfl,hxs,rfl⟩ AG
def VU (st:Int)(bt:List UInt8):Prop:=(st=1∧bt≠[]∧bt.length≤3)∨(st=2∧bt=[])
theorem QV {μ:PH}{v:Value}{ps:List ByteArray}(h:Row μ v 1 ps.length (ps.flatMap G3)){i:Nat}{p:ByteArray}(hi:ps[i]? = some p):∃ b off cap,v=.slice (some ⟨b,off,none⟩) ps.length cap∧CellAt μ b (off+i*1) (.string p):=by
 have hl:=(List.getElem?_eq_some_iff.1 hi).1
 obtain ⟨b,off,cap,hv,_,_,hr⟩:=h.pos AC
 exact ⟨b,off,cap,hv,(hr.elem (f:=G3) (n:=1) (fun _=>rfl) hi).cell⟩
theorem VW {l:BM ByteArray}{c:Nat}{a:ByteArray}{v:Value}{Q:ByteArray→Prop}(h:∀ x∈l,Q x.1)(ha:Q a):∀ x∈upd l c a v,Q x.1:=by
 induction l with
 | nil=>intro x hx; obtain rfl:=List.mem_singleton.1 hx; exact ha
 | cons y l ih =>
  intro x hx
  unfold upd at hx
  split at hx
  ·rcases List.mem_cons.1 hx with rfl | hx
   ·exact h y (List.mem_cons_self ..)
   ·exact h x (List.mem_cons_of_mem _ hx)
  ·rcases List.mem_cons.1 hx with rfl | hx
   ·exact h _ (List.mem_cons_self ..)
   ·exact ih (fun z hz=>h z (List.mem_cons_of_mem _ hz)) x hx
set_option maxHeartbeats 4000000 in
theorem SS (μ:PH)(v:Value)(ps:List ByteArray)(h:Row μ v 1 ps.length (ps.flatMap G3))(hps:∀ p∈ps,p.size≤1048576):Spec prog 184 [.agg setC.toArray,v] [ro μ] (fun r L=>∃ μ' st bt,Le μ μ'∧VU st bt∧r=.tuple #[.agg #[.int .i64 st,.string (str bt)],.int .i64 0]∧L=[ro μ']):=by
 have hsm:=h.small
 refine Spec.of 77 func184 rfl rfl rfl ?_
 refine Ad (AE (Bp rfl rfl) (fun b2=>?_))
 refine AE (Bd) fun b4=>?_
 refine Au [1,2,4] rfl rfl (Aj (Ad (AM (Cn rfl rfl) ?_)))
 refine AE (AF FU rfl rfl AG) ?_
 rintro v15 L1 ⟨rfl,rfl⟩
 refine As (Au [1,2,4,6] rfl rfl (Ad (Ah rfl (Af (Bx rfl rfl) (AI [1,2,4,6,17] rfl (Dw rfl (Ar (Ai (Ad (AE (ET (kv:=BN)) (fun b20=>?_)))))))))))
 refine Au [1,2,4,7] rfl rfl (Aj (Ad (Ah rfl (Af (AW h rfl) (Ah rfl (AI [2,4,7,21,22,23] rfl (AB ?_)))))))
 refine B4 (ι:=Nat×BM ByteArray×Nat) (fun x env L=>Sub env [(2,pv b2),(4,pv b4),(7,.map (some b20)),(21,v),(22,.int .i64 (ps.length:Nat)),(23,.int .i64 (x.1:Nat))]∧Ent L [BI b20 BN x.2.1 x.2.2,B5 b2 43 [.int .i64 3,.int .i64 10,.int .i64 2,.int .u32 7],B5 b4 206 [.int .i64 0,.string ⟨#[]⟩],ro μ]∧x.1≤ps.length∧Born x.2.1 x.2.2∧∀ y∈x.2.1,y.1.size≤1048576) (fun x=>ps.length-x.1) (0,[],0) ⟨⟨rfl,rfl,rfl,rfl,rfl,rfl,trivial⟩,Split.ent' AG,Nat.zero_le _,Born.nil _,fun y hy=>by cases hy⟩ ?_
 rintro ⟨i,es,cl⟩ env L ⟨hsub,hE,hi,hB,hk⟩
 dsimp only at hsub hE hi hB hk
 refine B7 _ hsub (AX hE ?_)
 clear hsub hE env L
 refine Ad (Af (Be rfl rfl) (AI [2,4,7,21,22,23,24] rfl (Aj ?_)))
 refine Aq rfl (fun h24=>?_) (fun h24=>?_)
 ·have h24':i<ps.length:=by have:=of_decide_eq_true h24; omega
  obtain ⟨p,hp⟩:∃ p,ps[i]? = some p:=⟨_,List.getElem?_eq_getElem h24'⟩
  obtain ⟨b,off,c2,hv,hc⟩:=QV h hp
  refine Ar (Ai (Aj (AB (Ad ?_))))
  refine Af (AA (off+i*1) (congrArg some hv) rfl AC AC (by rw [Int.toNat_natCast])) ?_
  refine AM (BJ rfl hc) (Au [2,4,7,9,21,22,23] rfl rfl (Am (Ah rfl (Ah rfl (Af (Bz (qs:=[]) rfl) ?_)))))
  refine Bh (LJ (kv:=BN) p rfl rfl rfl AG) ?_
  refine Bi [2,4,7,21,22,23] rfl (AJ (AV (Ai (Am (Af (AQ ((i+1:Nat):Int) rfl rfl AC AC AC) (Ah rfl (Bi [2,4,7,21,22,23] rfl (AJ ?_))))))))
  refine Ai ⟨(i+1,upd es cl p (.agg #[]),K0 es cl p),⟨⟨rfl,rfl,rfl,rfl,rfl,rfl,trivial⟩,?_,h24',hB.upd p _,VW (Q:=fun s=>s.size≤1048576) hk (hps p (List.mem_of_getElem? hp))⟩,by show ps.length-(i+1)<ps.length-i; omega⟩
  dsimp only
  exact Split.ent' AG
 ·refine B3 (AU (AU (AY rfl (Ai (Aj (Ad (Ah rfl (AM (Iv (κ:=ByteArray) rfl) (Af (Ae rfl) (AM (Ak rfl rfl) (Af (BO rfl rfl) (AI [2,4,7,35] rfl ?_))))))))))))
  refine Aq rfl (fun h35=>?_) (fun h35=>?_)
  ·refine Ad (Af (Bz (qs:=[(0,_)]) rfl) (Bh (B8 rfl rfl rfl rfl) (Au [4,5] rfl rfl (Av (AZ ?_)))))
   exact Aw [ro μ] (.cell rfl (BT rfl) (.tmp rfl .nil)) ⟨μ,2,[],Le.refl _,.inr ⟨rfl,rfl⟩,rfl,rfl⟩ AG
  ·have hcnt:es.length≤2:=by have:=of_decide_eq_false h35; omega
   obtain ⟨nb,hnb⟩:∃ nb,nb=max 1 ((es.length*10+7) / 8):=⟨_,rfl⟩
   have hnb1:1≤nb∧nb≤3:=by omega
   refine Ar (Ai (Ad (Ah rfl (AM (Iv (κ:=ByteArray) rfl) (Af (Ae rfl) (AM (Ak rfl rfl) (Af (Fz ((es.length*10:Nat):Int) rfl rfl AC AC AC) (Af (AQ ((es.length*10+7:Nat):Int) rfl rfl AC AC AC) (Af (Mi (b:=8) rfl rfl AC (Es AC AC)) (Af (Ea rfl rfl) ?_))))))))))
   refine AE (FK nb rfl rfl AC AC (by simp only [maxLen]; omega)) ?_
   rintro b45
   rw [show List.replicate nb (Value.int .u8 0)=Dx (List.replicate nb 0) by rw [Eb,List.map_replicate]; rfl]
   refine Au [2,4,7,10] rfl rfl (Aj (Ad (Ah rfl (AE (LP (κ:=ByteArray) rfl) ?_))))
   rintro it
   skip
   refine AI [2,4,10,47] rfl (AB ?_)
   refine AX (Split.ent' (K:=[RU it b20 cl [] cl,BI b20 BN es cl,B5 b45 5 (Dx (List.replicate nb 0)),B5 b2 43 [.int .i64 3,.int .i64 10,.int .i64 2,.int .u32 7],B5 b4 206 [.int .i64 0,.string ⟨#[]⟩],ro μ]) AG) ?_
   refine B4 (ι:=BM ByteArray×BM ByteArray×List UInt8×PH) (fun x env L=>Sub env [(2,pv b2),(4,pv b4),(10,.slice (some ⟨b45,0,none⟩) nb nb),(47,pv it)]∧Ent L [RU it b20 cl (x.1.map (·.2.2)) cl,BI b20 BN es cl,B5 b45 5 (Dx x.2.2.1),B5 b2 43 [.int .i64 3,.int .i64 10,.int .i64 2,.int .u32 7],B5 b4 206 [.int .i64 0,.string ⟨#[]⟩],ro x.2.2.2]∧Going es x.1 x.2.1∧x.2.2.1.length=nb∧Le μ x.2.2.2) (fun x=>x.2.1.length) ([],es,List.replicate nb 0,μ) ⟨⟨rfl,rfl,rfl,rfl,trivial⟩,Ent.refl _,Going.start _,List.length_replicate,Le.refl _⟩ ?_
   rintro ⟨dn,td,bs,μ1⟩ env L ⟨hsub,hE,hgo,hbl,hle⟩
   dsimp only at hsub hE hgo hbl hle
   refine B7 _ hsub (AX hE ?_)
   clear hsub hE env L
   refine Ad ?_
   refine AE (OS (κ:=ByteArray) rfl AG hB.1 (Nat.le_refl _)) ?_
   refine ⟨fun hall=>?_,fun y hy hns=>?_⟩
   ·refine Af (Ax rfl) (AI [2,4,10,47,49] rfl (Aj ?_))
    refine Aq rfl (fun h49=>by cases h49) (fun h49=>?_)
    refine B3 (AU (AU (AY rfl (Ai (Aj ?_)))))
    refine AX (Split.ent' (K:=[B5 b45 5 (Dx bs++[]),B5 b4 206 [.int .i64 0,.string ⟨#[]⟩],ro μ1]) (by rw [List.append_nil]; exact AG)) ?_
    rw [← hbl]
    refine Am (Ah rfl ?_)
    refine AM (LM bs rfl JU) ?_
    refine Af (Bz (qs:=[(0,_),(1,_)]) rfl) (Bh (B8 rfl rfl rfl rfl) (Au [4,5] rfl rfl (Av ?_)))
    exact Aw [ro μ1] (.cell rfl (BT rfl) (.tmp rfl .nil)) ⟨μ1,1,bs,hle,.inl ⟨rfl,fun e=>by rw [e] at hbl; simp at hbl; omega,by omega⟩,rfl,rfl⟩ AG
   ·refine Af (Ax rfl) (AI [2,4,10,47,49] rfl (Aj ?_))
    refine Aq rfl (fun h49=>?_) (fun h49=>by cases h49)
    obtain ⟨td',hgo',hlt⟩:=hgo.step hy hns
    refine Ar (Ai (AB (Ad ?_)))
    refine AM (LQ (κ:=ByteArray) rfl AG hy hB) ?_
    refine Af (Ax rfl) (Au [2,4,10,11,47] rfl rfl (Ad (AM (Cn rfl rfl) (Ah rfl (Ah rfl (Af (BD rfl) (Af (Fz ((8*nb:Nat):Int) rfl rfl AC AC AC) ?_)))))))
    refine AE (AF (Pt y.1.data.toList (8*nb) (hk y hy) AC AC) rfl rfl AG) ?_
    rintro v57 L1 ⟨A,c,xs,rfl,hxs,rfl⟩
    refine As ?_
    refine C4 (μ:=μ1) AG fun μ2 l2 r57=>?_
    refine Af (AW r57 rfl) (Ah rfl (AI [2,4,10,47,57,58,59] rfl (AB ?_)))
    have hxsm:=r57.small
    refine B4 (ι:=Nat×List UInt8) (fun x env L=>Sub env [(2,pv b2),(4,pv b4),(10,.slice (some ⟨b45,0,none⟩) nb nb),(47,pv it),(57,.slice A xs.length c),(58,.int .i64 (xs.length:Nat)),(59,.int .i64 (x.1:Nat))]∧Ent L [B5 b45 5 (Dx x.2),RU it b20 cl (dn.map (·.2.2)++[y.2.2]) cl,BI b20 BN es cl,B5 b2 43 [.int .i64 3,.int .i64 10,.int .i64 2,.int .u32 7],B5 b4 206 [.int .i64 0,.string ⟨#[]⟩],ro μ2]∧x.1≤xs.length∧x.2.length=nb) (fun x=>xs.length-x.1) (0,bs) ⟨⟨rfl,rfl,rfl,rfl,rfl,rfl,rfl,trivial⟩,Split.ent' AG,Nat.zero_le _,hbl⟩ ?_
    rintro ⟨k,cs⟩ env L ⟨hsub,hE,hk2,hcl⟩
    dsimp only at hsub hE hk2 hcl
    refine B7 _ hsub (AX hE ?_)
    clear hsub hE env L
    refine Ad (Af (Be rfl rfl) (AI [2,4,10,47,57,58,59,60] rfl (Aj ?_)))
    refine Aq rfl (fun h60=>?_) (fun h60=>?_)
    ·have h60':k<xs.length:=by have:=of_decide_eq_true h60; omega
     obtain ⟨x,hx⟩:∃ x,xs[k]? = some x:=⟨_,List.getElem?_eq_getElem h60'⟩
     obtain ⟨hx0,hxn⟩:=hxs x (List.mem_of_getElem? hx)
     obtain ⟨z,rfl⟩:∃ z:Nat,x=z:=⟨x.toNat,by omega⟩
     obtain ⟨g,o,c2,hv,hc⟩:=Hj r57 hx
     obtain ⟨b,hb8⟩:∃ b,cs[z / 8]? = some b:=⟨_,List.getElem?_eq_getElem AC⟩
     refine Ar (Ai (Aj (AB (Ad ?_))))
     refine Af (AA (o+k*1) (congrArg some hv) rfl AC AC (by rw [Int.toNat_natCast])) ?_
     refine AM (BJ rfl hc) (Au [2,4,10,13,47,57,58,59] rfl rfl ?_)
     refine Bb [4] _ [] (by simp only [List.append_nil]; exact Ent.refl _) AP ?_
     refine AD 0 rfl (AH rfl) (AD 1 rfl (AH rfl) (AD 2 rfl (Mi (b:=8) rfl rfl AC (Es AC AC)) ?_))
     refine AD 3 rfl (AA (0+(z / 8)*1) rfl rfl AC AC (by rw [Int.toNat_natCast])) ?_
     refine Bl 4 rfl (Ak rfl (ZZ hb8)) rfl (AD 5 rfl (AH rfl) (AD 6 rfl (Jn (b:=8) rfl rfl AC) (AD 7 rfl (Uw (a:=1#8) (z % 8) rfl rfl AC) (AD 8 rfl (WY (a:=b.toBitVec) rfl rfl) ?_))))
     refine AD 9 rfl (AA (0+(z / 8)*1) rfl rfl AC AC (by rw [Int.toNat_natCast])) ?_
     refine Cx 10 rfl AP AP (CB rfl rfl rfl (by rw [L9]; omega)) ?_
     refine BZ [2,4,10,47,57,58,59] rfl (Bv AP ?_)
     rw [show Value.int .u8 ((b.toBitVec ||| 1#8 <<< (z % 8)).toNat:Nat)=.int .u8 ((UInt8.ofBitVec (b.toBitVec ||| (1#8 <<< (z % 8)))).toNat:Nat) from rfl,A00]
     refine AV (Ai (Am (Af (AQ ((k+1:Nat):Int) rfl rfl AC AC AC) (Ah rfl (Bi [2,4,10,47,57,58,59] rfl (AJ ?_))))))
     exact Ai ⟨(k+1,cs.set (z / 8) (UInt8.ofBitVec (b.toBitVec ||| (1#8 <<< (z % 8))))),⟨⟨rfl,rfl,rfl,rfl,rfl,rfl,rfl,trivial⟩,by dsimp only; exact Split.ent' AG,h60',by rw [List.length_set]; exact hcl⟩,by show xs.length-(k+1)<xs.length-k; omega⟩
    ·refine B3 (AU (AU (AY rfl (AV ?_))))
     refine Ai ⟨(dn++[y],td',cs,μ2),⟨⟨rfl,rfl,rfl,rfl,trivial⟩,?_,hgo',hcl,hle.trans l2⟩,by dsimp only; omega⟩
     dsimp only
     rw [show (dn++[y]).map (·.2.2)=dn.map (·.2.2)++[y.2.2] by rw [List.map_append]; rfl]
     exact Split.ent' AG
abbrev Chn:Type:=ByteArray×Int×Int
abbrev WA (x:Chn):List Value:=[.string x.1,.int .u32 x.2.1,.int .u32 x.2.2]
theorem Yj {μ:PH}{v:Value}{e:En}{a:List En}(h:Row μ v 2 (e::a).length (Ci (e::a))):∃ v',Row μ v' 2 a.length (Ci a)∧∀ (env:CA) (x y:Operand) (ki:IntKind) (lo:Int),AO env x=some v→AO env y=some (.int ki lo)→lo=((1:Nat):Int)→Pu prog env (.slice 27 x (some y) none none) v':=by
 obtain ⟨v',h1,h2⟩:=Row.lo (P:=prog) (t:=27) h 1 (by simp)
 exact ⟨v',h1,h2⟩
def ST (l:List En):Prop:=∀ x∈l,x.1.size≤1048576
structure DfI where
 va:Value
 a:List En
 vb:Value
 b:List En
 A:Option Addr
 c:Nat
 cs:List Chn
structure DfI.Ok (μ:PH) (x:DfI) (na nb:Nat):Prop where
 ra:Row μ x.va 2 x.a.length (Ci x.a)
 rb:Row μ x.vb 2 x.b.length (Ci x.b)
 sa:ST x.a
 sb:ST x.b
 sc:∀ y∈x.cs,y.1.size≤1048576
 lc:x.cs.length+x.a.length+x.b.length≤na+nb
set_option maxHeartbeats 4000000 in
theorem SU (μ:PH)(u v:Value)(a b:List En)(ha:Row μ u 2 a.length (Ci a))(hb:Row μ v 2 b.length (Ci b))(sa:ST a)(sb:ST b)(la:a.length≤65536)(lb:b.length≤65536):Spec prog 183 [u,v] [ro μ] (fun r L=>∃ (A:Option Addr) (c:Nat) (cs:List Chn),r=.slice A cs.length c∧cs.length≤131072∧(∀ x∈cs,x.1.size≤1048576)∧L=[own 291 3 (.slice A cs.length c) cs.length (cs.flatMap WA),ro μ]):=by
 refine Spec.of 78 func183 rfl rfl rfl ?_
 refine Ad (Au [0,1] rfl rfl (Ad (Au [0,1,5] rfl rfl (Aj (AB (AX (own_nil_ent (e:=291) (n:=3)) ?_))))))
 refine B4 (ι:=DfI) (fun x env L=>Sub env [(0,x.va),(1,x.vb),(5,.slice x.A x.cs.length x.c)]∧Ent L [own 291 3 (.slice x.A x.cs.length x.c) x.cs.length (x.cs.flatMap WA),ro μ]∧x.Ok μ a.length b.length) (fun x=>x.a.length+x.b.length) ⟨u,a,v,b,none,0,[]⟩ ⟨⟨rfl,rfl,rfl,trivial⟩,Ent.refl _,⟨ha,hb,sa,sb,fun y hy=>(by cases hy),by simp⟩⟩ ?_
 clear ha hb sa sb
 rintro ⟨va,a',vb,b',A,c,cs⟩ env L ⟨hsub,hE,ra,rb,sa,sb,sc,lc⟩
 dsimp only at hsub hE ra rb sa sb sc lc
 refine B7 _ hsub (AX hE ?_)
 clear hsub hE env L u v
 refine Co (fun env L=>Sub env [(0,va),(1,vb),(5,.slice A cs.length c)]∧Ent L [own 291 3 (.slice A cs.length c) cs.length (cs.flatMap WA),ro μ]∧(a'≠[]∨b'≠[])) ?_ ?_
 ·refine Ad (Ah rfl (Af (AW ra rfl) (Af (BO rfl rfl) (Ah rfl ?_))))
  refine B9 11 rfl (fun h11=>?_) (fun h11=>?_)
  ·refine B1 rfl rfl rfl (B1 rfl rfl rfl (B1 rfl rfl rfl (Af (Bc rfl rfl) (AI [0,1,5,15] rfl ?_))))
   refine Aq rfl (fun h15=>?_) (fun h15=>by cases h15)
   refine Ar ?_
   exact Ai ⟨⟨rfl,rfl,rfl,trivial⟩,Split.ent' AG,.inl fun e=>by rw [e] at h11; cases h11⟩
  ·refine AS rfl rfl (Ah rfl (AS rfl rfl (Af (AW rb rfl) (AS rfl rfl (Af (BO rfl rfl) (Af (B0 rfl rfl) (AI [0,1,5,15] rfl ?_)))))))
   refine Aq rfl (fun h15=>?_) (fun h15=>?_)
   ·refine Ar ?_
    exact Ai ⟨⟨rfl,rfl,rfl,trivial⟩,Split.ent' AG,.inr fun e=>by rw [e] at h15; cases h15⟩
   ·refine B3 (AU (AU (AY rfl (Ai (Ad (Ah rfl (Au [4] rfl rfl (Av ?_))))))))
    exact Aw [own 291 3 (.slice A cs.length c) cs.length (cs.flatMap WA),ro μ] (.tmp rfl .nil) ⟨A,c,cs,rfl,by omega,sc,rfl⟩ AG
 rintro env L ⟨hsub,hE,hne⟩
 refine B7 _ hsub (AX hE ?_)
 clear hsub hE env L
 refine AB (Ad (AE (Bd) (fun b6=>?_)))
 refine AI [0,1,5,6] rfl (Ad (Ah rfl (Af (AW rb rfl) (Ah rfl (Af (AW ra rfl) (Af (BH ((b'.length:Int)-a'.length) rfl rfl AC AC AC) (Au [0,1,5,6] rfl rfl ?_)))))))
 refine Co (fun env L=>∃ o:Int,Sub env [(0,va),(1,vb),(5,.slice A cs.length c),(6,pv b6),(7,.int .i64 o)]∧Ent L [B5 b6 291 [.string ⟨#[]⟩,.int .u32 0,.int .u32 0],own 291 3 (.slice A cs.length c) cs.length (cs.flatMap WA),ro μ]∧(o≤0→a'≠[])∧(0≤o→b'≠[])) ?_ ?_
 ·refine Ad (Ah rfl (Af (AW ra rfl) (Af (BO rfl rfl) (Ah rfl ?_))))
  refine B9 24 rfl (fun h24=>?_) (fun h24=>?_)
  ·refine AS rfl rfl (Ah rfl (AS rfl rfl (Af (AW rb rfl) (AS rfl rfl (Af (BO rfl rfl) (Af (Bc rfl rfl) (AI [0,1,5,6,28] rfl ?_)))))))
   refine Aq rfl (fun h28=>?_) (fun h28=>?_)
   ·obtain ⟨ea,ta,rfl⟩:∃ e t,a'=e::t:=by
     cases a' with
     | nil=>cases h24
     | cons e t=>exact ⟨e,t,rfl⟩
    obtain ⟨eb,tb,rfl⟩:∃ e t,b'=e::t:=by
     cases b' with
     | nil=>cases h28
     | cons e t=>exact ⟨e,t,rfl⟩
    obtain ⟨ba,oa,ca,hva,hra,hca,hca2⟩:=Dc ra (i:=0) (e:=ea) rfl
    obtain ⟨bb,ob,cb,hvb,hrb,hcb,hcb2⟩:=Dc rb (i:=0) (e:=eb) rfl
    refine Bb [2,6] _ [] (by simp only [List.append_nil]; exact Ent.refl _) AP ?_
    refine AD 0 rfl (AH rfl) ?_
    refine AD 1 rfl (AA (oa+0*2) (congrArg some hva) rfl AC (by simp) rfl) ?_
    refine Bl 2 rfl (Cu (vs:=Je ea) rfl rfl hra) rfl (AD 3 rfl (AH rfl) ?_)
    refine AD 4 rfl (AA (ob+0*2) (congrArg some hvb) rfl AC (by simp) rfl) ?_
    refine AD 5 rfl (Bk rfl) (Bl 6 rfl (BJ rfl hcb) rfl ?_)
    refine BX 7 rfl AP AP (AF (I8 ea eb.1) rfl rfl AG) ?_
    rintro v36 L1 ⟨rfl,rfl⟩
    refine C5 (AD 8 rfl (Bf rfl) (BZ [0,1,5,6,7] rfl (Bv AP ?_)))
    exact Ai ⟨_,⟨rfl,rfl,rfl,rfl,rfl,trivial⟩,Split.ent' AG,fun _=>List.cons_ne_nil _ _,fun _=>List.cons_ne_nil _ _⟩
   ·refine Ad (Ah rfl (Af (AW rb rfl) (Af (Bo rfl rfl) (AI [0,1,5,6,39] rfl ?_))))
    refine Aq rfl (fun h39=>?_) (fun h39=>by simp at h28 h39; exact absurd h28 h39)
    refine Am (B2 rfl (Bi [0,1,5,6,7] rfl (AJ ?_)))
    exact Ai ⟨-1,⟨rfl,rfl,rfl,rfl,rfl,trivial⟩,Split.ent' AG,(fun _ e=>by rw [e] at h24; cases h24),fun h=>by omega⟩
  ·refine B1 rfl rfl rfl (B1 rfl rfl rfl (B1 rfl rfl rfl (Af (B0 rfl rfl) (AI [0,1,5,6,28] rfl ?_))))
   refine Aq rfl (fun h28=>by cases h28) (fun h28=>?_)
   refine Ad (Ah rfl (Af (AW rb rfl) (Af (Bo rfl rfl) (AI [0,1,5,6,39] rfl ?_))))
   refine Aq rfl (fun h39=>by simp at h24 h39; rcases hne with h | h <;> first | exact absurd h24 h | exact absurd h39 h) (fun h39=>?_)
   refine Am (B2 rfl (Bi [0,1,5,6,7] rfl (AJ ?_)))
   refine Ai ⟨1,⟨rfl,rfl,rfl,rfl,rfl,trivial⟩,Split.ent' AG,fun h=>by omega,fun _ e=>?_⟩
   simp at h24
   rcases hne with h | h
   ·exact h h24
   ·exact h e
 rintro env L ⟨o,hsub,hE,hoa,hob⟩
 refine B7 _ hsub (AX hE ?_)
 clear hsub hE env L hne
 refine Co (fun env L=>∃ (va':Value) (t:List En) (p:ByteArray) (x:Int),Sub env [(0,va'),(1,vb),(5,.slice A cs.length c),(6,pv b6),(7,.int .i64 o)]∧Ent L [B5 b6 291 [.string p,.int .u32 x,.int .u32 0],own 291 3 (.slice A cs.length c) cs.length (cs.flatMap WA),ro μ]∧Row μ va' 2 t.length (Ci t)∧ST t∧p.size≤1048576∧((o≤0∧t.length+1=a'.length)∨(0<o∧t.length=a'.length))) ?_ ?_
 ·refine Ad (Ah rfl (Af (H3 rfl rfl) (AI [0,1,5,6,7,41] rfl ?_)))
  refine Aq rfl (fun h41=>?_) (fun h41=>?_)
  ·have h41':o≤0:=of_decide_eq_true h41
   obtain ⟨ea,ta,rfl⟩:∃ e t,a'=e::t:=by
    cases a' with
    | nil=>exact absurd rfl (hoa h41')
    | cons e t=>exact ⟨e,t,rfl⟩
   obtain ⟨ba,oa,ca,hva,hra,hca,hca2⟩:=Dc ra (i:=0) (e:=ea) rfl
   obtain ⟨va',hr',hpu⟩:=Yj ra
   refine Aj ?_
   refine Bb [3,7] ([ro μ]) ([B5 b6 291 [.string ⟨#[]⟩,.int .u32 0,.int .u32 0],own 291 3 (.slice A cs.length c) cs.length (cs.flatMap WA)]) (Split.ent AG) AP ?_
   refine AD 0 rfl (AH rfl) ?_
   refine AD 1 rfl (AA (oa+0*2) (congrArg some hva) rfl AC (by simp) rfl) ?_
   refine AD 2 rfl (Bk rfl) (Bl 3 rfl (BJ rfl hca) rfl (AD 4 rfl (AH rfl) ?_))
   refine AD 5 rfl (AA (oa+0*2) (congrArg some hva) rfl AC (by simp) rfl) ?_
   refine AD 6 rfl (Bk rfl) (Bl 7 rfl (BJ rfl hca2) rfl (AD 8 rfl (Ae rfl) (RH 9 rfl AP (Ba rfl rfl rfl) ?_)))
   refine ⟨_,Split.ent AG,?_⟩
   refine AD 10 rfl (Ae rfl) (Cx 11 rfl AP AP (Ba rfl rfl rfl) (BZ [0,1,5,6,7] rfl (Bv AP (Ai (Am (Ah rfl (Af (hpu _ _ _ _ _ rfl rfl rfl) (B2 rfl (Bi [0,1,5,6,7] rfl (AJ ?_))))))))))
   exact Ai ⟨va',ta,ea.1,ea.2,⟨rfl,rfl,rfl,rfl,rfl,trivial⟩,Split.ent' AG,hr',fun x hx=>sa x (List.mem_cons_of_mem _ hx),sa ea (List.mem_cons_self ..),.inl ⟨h41',rfl⟩⟩
  ·refine Ar ?_
   exact Ai ⟨va,a',⟨#[]⟩,0,⟨rfl,rfl,rfl,rfl,rfl,trivial⟩,Split.ent' AG,ra,sa,by decide,.inr ⟨by have:=of_decide_eq_false h41; omega,rfl⟩⟩
 rintro env L ⟨va',t,p,x,hsub,hE,ra',sa',hp,hor⟩
 refine B7 _ hsub (AX hE ?_)
 clear hsub hE env L
 refine Co (fun env L=>∃ (vb':Value) (t2:List En) (p:ByteArray) (y:Int),Sub env [(0,va'),(1,vb'),(5,.slice A cs.length c),(6,pv b6)]∧Ent L [B5 b6 291 [.string p,.int .u32 x,.int .u32 y],own 291 3 (.slice A cs.length c) cs.length (cs.flatMap WA),ro μ]∧Row μ vb' 2 t2.length (Ci t2)∧ST t2∧p.size≤1048576∧t.length+t2.length<a'.length+b'.length) ?_ ?_
 ·refine Ad (Ah rfl (Af (Cs rfl rfl) (AI [0,1,5,6,55] rfl ?_)))
  refine Aq rfl (fun h55=>?_) (fun h55=>?_)
  ·have h55':0≤o:=of_decide_eq_true h55
   obtain ⟨eb,tb,rfl⟩:∃ e t,b'=e::t:=by
    cases b' with
    | nil=>exact absurd rfl (hob h55')
    | cons e t=>exact ⟨e,t,rfl⟩
   obtain ⟨bb,ob,cb,hvb,hrb,hcb,hcb2⟩:=Dc rb (i:=0) (e:=eb) rfl
   obtain ⟨vb',hr',hpu⟩:=Yj rb
   refine Aj ?_
   refine Bb [3,7] ([ro μ]) ([B5 b6 291 [.string p,.int .u32 x,.int .u32 0],own 291 3 (.slice A cs.length c) cs.length (cs.flatMap WA)]) (Split.ent AG) AP ?_
   refine AD 0 rfl (AH rfl) ?_
   refine AD 1 rfl (AA (ob+0*2) (congrArg some hvb) rfl AC (by simp) rfl) ?_
   refine AD 2 rfl (Bk rfl) (Bl 3 rfl (BJ rfl hcb) rfl (AD 4 rfl (AH rfl) ?_))
   refine AD 5 rfl (AA (ob+0*2) (congrArg some hvb) rfl AC (by simp) rfl) ?_
   refine AD 6 rfl (Bk rfl) (Bl 7 rfl (BJ rfl hcb2) rfl (AD 8 rfl (Ae rfl) (RH 9 rfl AP (Ba rfl rfl rfl) ?_)))
   refine ⟨_,Split.ent AG,?_⟩
   refine AD 10 rfl (Ae rfl) (Cx 11 rfl AP AP (Ba rfl rfl rfl) (BZ [0,1,5,6] rfl (Bv AP (Ai (Am (Ah rfl (Af (hpu _ _ _ _ _ rfl rfl rfl) (B2 rfl (Bi [0,1,5,6] rfl (AJ ?_))))))))))
   exact Ai ⟨vb',tb,eb.1,eb.2,⟨rfl,rfl,rfl,rfl,trivial⟩,Split.ent' AG,hr',fun x hx=>sb x (List.mem_cons_of_mem _ hx),sb eb (List.mem_cons_self ..),by simp only [List.length_cons]; omega⟩
  ·refine Ar ?_
   exact Ai ⟨vb,b',p,0,⟨rfl,rfl,rfl,rfl,trivial⟩,Split.ent' AG,rb,sb,hp,by have:=of_decide_eq_false h55; omega⟩
 clear hp
 rintro env L ⟨vb',t2,p,y,hsub,hE,rb',sb',hp,hlt⟩
 refine B7 _ hsub (AX hE ?_)
 clear hsub hE env L
 refine Ad (Af (Ae rfl) (AM (Ak rfl rfl) (Af (Ae rfl) (AM (Ak rfl rfl) (Af (Bx rfl rfl) (AI [0,1,5,6,72] rfl ?_))))))
 refine Aq rfl (fun h72=>?_) (fun h72=>?_)
 ·refine Am (Ah rfl (AM (Cn rfl rfl) (AE (Bs (qs:=[(0,_)]) rfl rfl rfl) (fun b75=>?_))))
  refine AE (Bj (l:=cs.length) (m:=1) rfl rfl AG (by simp only [maxLen]; omega) AC) ?_
  rintro v76 -
  refine E3 (fun m h=>CL h) fun ⟨A76,c76,hv76⟩=>?_
  subst hv76
  refine B2 rfl (Bi [0,1,5] rfl (AJ (AV ?_)))
  have el:(cs++[(p,x,y)]).length=cs.length+1:=by rw [List.length_append]; rfl
  refine Ai ⟨⟨va',t,vb',t2,A76,c76,cs++[(p,x,y)]⟩,⟨?_,?_,⟨ra',rb',sa',sb',fun z hz=>?_,by dsimp only; rw [el]; omega⟩⟩,hlt⟩
  ·dsimp only; rw [el]; exact ⟨rfl,rfl,rfl,trivial⟩
  ·dsimp only
   rw [el,List.flatMap_append]
   show Ent _ [own 291 3 (.slice A76 (cs.length+1) c76) (cs.length+1) (cs.flatMap WA++[.string p,.int .u32 x,.int .u32 y]),ro μ]
   exact Split.ent' AG
  ·rcases List.mem_append.1 hz with hz | hz
   ·exact sc z hz
   ·obtain rfl:=List.mem_singleton.1 hz
    exact hp
 ·refine Ar (AV ?_)
  exact Ai ⟨⟨va',t,vb',t2,A,c,cs⟩,⟨⟨rfl,rfl,rfl,trivial⟩,Split.ent' AG,⟨ra',rb',sa',sb',sc,by dsimp only; omega⟩⟩,hlt⟩
set_option maxHeartbeats 4000000 in
theorem MQ (μ:PH)(u v:Value)(a b:List En)(ha:Row μ u 2 a.length (Ci a))(hb:Row μ v 2 b.length (Ci b))(sa:ST a)(sb:ST b)(la:a.length≤65536)(lb:b.length≤65536):Spec prog 107 [.agg setC.toArray,u,v] [ro μ] (fun r L=>∃ μ' st bt,Le μ μ'∧VU st bt∧r=.tuple #[.agg #[.int .i64 st,.string (str bt)],.int .i64 0]∧L=[ro μ']):=by
 refine Spec.of 30 func107 rfl rfl rfl ?_
 refine Ad (AE (Bp rfl rfl) (fun b3=>?_))
 refine AE (Bd) fun b6=>?_
 refine Au [1,2,3,6] rfl rfl (Ad (Au [1,2,3,6,8] rfl rfl (Aj (Ad (Ah rfl (Ah rfl ?_))))))
 refine AE (AF (SU μ u v a b ha hb sa sb la lb) rfl rfl AG) ?_
 rintro v13 L1 ⟨A,c,cs,rfl,hcl,hcs,rfl⟩
 refine As ?_
 refine C4 (μ:=μ) AG fun μ1 l1 r13=>?_
 refine Af (AW r13 rfl) (Ah rfl (AI [3,6,8,13,14,15] rfl (AB (AX (own_nil_ent (e:=9) (n:=1)) ?_))))
 refine B4 (ι:=Nat×Option Addr×Nat) (fun x env L=>Sub env [(3,pv b3),(6,pv b6),(8,.slice x.2.1 x.1 x.2.2),(13,.slice A cs.length c),(14,.int .i64 (cs.length:Nat)),(15,.int .i64 (x.1:Nat))]∧Ent L [own 9 1 (.slice x.2.1 x.1 x.2.2) x.1 (((cs.take x.1).map (·.1)).flatMap G3),B5 b3 43 [.int .i64 3,.int .i64 10,.int .i64 2,.int .u32 7],B5 b6 206 [.int .i64 0,.string ⟨#[]⟩],ro μ1]∧x.1≤cs.length) (fun x=>cs.length-x.1) (0,none,0) ⟨⟨rfl,rfl,rfl,rfl,rfl,rfl,trivial⟩,by show Ent _ [own 9 1 (.slice none 0 0) 0 [],B5 b3 43 [.int .i64 3,.int .i64 10,.int .i64 2,.int .u32 7],B5 b6 206 [.int .i64 0,.string ⟨#[]⟩],ro μ1]; exact Split.ent' AG,Nat.zero_le _⟩ ?_
 rintro ⟨i,B,d⟩ env L ⟨hsub,hE,hi⟩
 dsimp only at hsub hE hi
 refine B7 _ hsub (AX hE ?_)
 clear hsub hE env L
 refine Ad (Af (Be rfl rfl) (AI [3,6,8,13,14,15,16] rfl (Aj ?_)))
 refine Aq rfl (fun h16=>?_) (fun h16=>?_)
 ·have h16':i<cs.length:=by have:=of_decide_eq_true h16; omega
  obtain ⟨x,hx⟩:∃ x,cs[i]? = some x:=⟨_,List.getElem?_eq_getElem h16'⟩
  obtain ⟨g,off,c2,hv,_,_,hr⟩:=r13.pos AC
  have hre:=hr.elem (f:=WA) (n:=3) (fun _=>rfl) hx
  refine Ar (Ai (Aj (AB (Ad ?_))))
  refine Af (AA (off+i*3) (congrArg some hv) rfl AC AC (by rw [Int.toNat_natCast])) ?_
  refine AM (Cu (vs:=WA x) rfl rfl hre) (AE (Bd) (fun b10=>?_))
  refine Bh (B8 rfl rfl rfl rfl) (AI [3,6,8,10,13,14,15] rfl (Am (Ah rfl (Af (Ae rfl) (AM (Ak rfl rfl) (AE (Bs (qs:=[(0,_)]) rfl rfl rfl) (fun b22=>?_)))))))
  refine AE (Bj (l:=i) (m:=1) rfl rfl AG (by simp only [maxLen]; omega) AC) ?_
  rintro v23 -
  refine E3 (fun m h=>CL h) fun ⟨A23,c23,hv23⟩=>?_
  subst hv23
  refine B2 rfl (Bi [3,6,8,13,14,15] rfl (AJ (AV (Ai (Am (Af (AQ ((i+1:Nat):Int) rfl rfl AC AC AC) (Ah rfl (Bi [3,6,8,13,14,15] rfl (AJ ?_)))))))))
  refine Ai ⟨(i+1,A23,c23),⟨⟨rfl,rfl,rfl,rfl,rfl,rfl,trivial⟩,?_,h16'⟩,by show cs.length-(i+1)<cs.length-i; omega⟩
  dsimp only
  rw [Ca hx,List.map_append,List.flatMap_append,show ([x].map (·.1)).flatMap G3=[.string x.1] from rfl]
  exact Split.ent' AG
 ·have h16':=of_decide_eq_false h16
  obtain rfl:i=cs.length:=by omega
  rw [List.take_length]
  refine BA (μ:=μ1) AG fun μ2 l2 r8=>?_
  have el:(cs.map (·.1)).length=cs.length:=List.length_map ..
  refine B3 (AU (AU (AY rfl (Ai (Ad (AM (Cn rfl rfl) (Ah rfl ?_)))))))
  refine AE (AF (SS μ2 _ (cs.map (·.1)) (by rw [el]; exact r8) (fun p hp=>by obtain ⟨x,hx,rfl⟩:=List.mem_map.1 hp; exact hcs x hx)) rfl rfl AG) ?_
  rintro v27 L1 ⟨μ3,st,bt,l3,hf,rfl,rfl⟩
  refine As (Af (Ax rfl) (Af (Ax rfl) (Bh (B8 rfl rfl rfl rfl) (Au [6,7] rfl rfl (Av ?_)))))
  exact Aw [ro μ3] (.cell rfl (BT rfl) (.tmp rfl .nil)) ⟨μ3,st,bt,(l1.trans l2).trans l3,hf,rfl,rfl⟩ AG
end SX
