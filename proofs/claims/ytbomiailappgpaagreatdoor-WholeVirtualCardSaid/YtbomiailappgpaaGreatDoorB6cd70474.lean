/- A part of the proof: walks of the program's functions, and the rules by which they go. -/
import Derived.Test.YtbomiailappgpaaGreatDoorB81f29b4b
import Derived.Test.YtbomiailappgpaaGreatDoorBef3a7c8f
import Derived.Test.YtbomiailappgpaaGreatDoorB0a89f28a
namespace SX
open Go Go.Proofs Go.Proofs.Tryz
abbrev xB (p q:Nat)(lv gv:Value):AK:=B5 p 135 [pv q,lv,gv]
theorem GU (p q:Nat)(lv gv:Value)(L0:List AK)(l:List Lk)(h:Lks (xB p q lv gv::L0) lv l)(ht:BK l≤1073741824):Spec prog 34 [pv p] (xB p q lv gv::L0) (fun r L=>r=.int .i64 (BK l:Nat)∧L=xB p q lv gv::L0):=by
 refine Spec.of 10 func34 rfl rfl rfl ?_
 refine Ad (Au [0] rfl rfl (Aj (Ad (Ah rfl (Af (Bm rfl rfl) (AI [0,4] rfl (Dw rfl (Ar (Ai (Ad (Ah rfl (Af (Al rfl) (Af (Ae rfl) (AM (Ak rfl rfl) (AE (AF (R:=[]) (QF _ lv l h ht) rfl rfl Split.all) ?_)))))))))))))))
 rintro v9 L1 ⟨rfl,rfl⟩
 rw [List.append_nil]
 refine Au [2] rfl rfl (Av ?_)
 exact Aw _ (.tmp rfl .nil) ⟨rfl,rfl⟩ Split.all
abbrev Rv (b4 b5 b6 b7 p q:Nat)(lv gv:Value)(tmp text name:ByteArray)(d:Dk):List AK:=[B5 b4 40 [pv p],B5 b5 9 [.string tmp],B5 b6 9 [.string text],B5 b7 9 [.string name],xB p q lv gv,FSA q d]
theorem Yk (b4 b5 b6 b7 p q:Nat)(lv gv:Value)(tmp text name:ByteArray)(d:Dk)(hd:d.Ok)(hw:Z9 d):Spec prog 168 [pv b4,pv b5] (Rv b4 b5 b6 b7 p q lv gv tmp text name d) (fun r L=>r=.int .i64 (BG d tmp).2∧L=Rv b4 b5 b6 b7 p q lv gv tmp text name (BG d tmp).1):=by
 refine Spec.of 9 func168 rfl rfl rfl ?_
 refine Ad (Au [0,1] rfl rfl (Aj ?_))
 refine Bb [0,3,4] _ [] (by simp only [List.append_nil]; exact Ent.refl _) AP ?_
 refine Bl 0 rfl (Ak rfl rfl) rfl (AD 1 rfl (Al rfl) (AD 2 rfl (Ae rfl) (Bl 3 rfl (Ak rfl rfl) rfl (Bl 4 rfl (Ak rfl rfl) rfl ?_))))
 refine BX 5 rfl AP AP (AF (KK q d hd hw tmp) rfl rfl AG) ?_
 rintro v8 L1 ⟨rfl,rfl⟩
 refine C5 (AD 6 rfl (Bf rfl) (BZ [2] rfl (Bv AP (Ai (Av ?_)))))
 exact Aw (Rv b4 b5 b6 b7 p q lv gv tmp text name (BG d tmp).1) (.tmp rfl .nil) ⟨rfl,rfl⟩ AG
theorem Yl (b4 b5 b6 b7 p q:Nat)(lv gv:Value)(tmp text name:ByteArray)(d:Dk)(hd:d.Ok)(ht:text.size≤1048576):Spec prog 169 [pv b4,pv b5,pv b6] (Rv b4 b5 b6 b7 p q lv gv tmp text name d) (fun r L=>r=.int .i64 (BR d tmp text.data.toList).2∧L=Rv b4 b5 b6 b7 p q lv gv tmp text name (BR d tmp text.data.toList).1):=by
 refine Spec.of 11 func169 rfl rfl rfl ?_
 refine Ad (Au [0,1,2] rfl rfl (Aj ?_))
 refine Bb [0,3,4,5] _ [] (by simp only [List.append_nil]; exact Ent.refl _) AP ?_
 refine Bl 0 rfl (Ak rfl rfl) rfl (AD 1 rfl (Al rfl) (AD 2 rfl (Ae rfl) (Bl 3 rfl (Ak rfl rfl) rfl (Bl 4 rfl (Ak rfl rfl) rfl (Bl 5 rfl (Ak rfl rfl) rfl ?_)))))
 refine BX 6 rfl AP AP (AF (KL q d hd tmp text ht) rfl rfl AG) ?_
 rintro v8 L1 ⟨rfl,rfl⟩
 refine C5 (AD 7 rfl (Bf rfl) (BZ [3] rfl (Bv AP (Ai (Av ?_)))))
 exact Aw (Rv b4 b5 b6 b7 p q lv gv tmp text name (BR d tmp text.data.toList).1) (.tmp rfl .nil) ⟨rfl,rfl⟩ AG
theorem Ym (b4 b5 b6 b7 p q:Nat)(lv gv:Value)(tmp text name:ByteArray)(d:Dk)(hd:d.Ok):Spec prog 170 [pv b4,pv b5] (Rv b4 b5 b6 b7 p q lv gv tmp text name d) (fun r L=>r=.int .i64 (Dz d tmp).2∧L=Rv b4 b5 b6 b7 p q lv gv tmp text name (Dz d tmp).1):=by
 refine Spec.of 9 func170 rfl rfl rfl ?_
 refine Ad (Au [0,1] rfl rfl (Aj ?_))
 refine Bb [0,3,4] _ [] (by simp only [List.append_nil]; exact Ent.refl _) AP ?_
 refine Bl 0 rfl (Ak rfl rfl) rfl (AD 1 rfl (Al rfl) (AD 2 rfl (Ae rfl) (Bl 3 rfl (Ak rfl rfl) rfl (Bl 4 rfl (Ak rfl rfl) rfl ?_))))
 refine BX 5 rfl AP AP (AF (O7 q d hd tmp) rfl rfl AG) ?_
 rintro v8 L1 ⟨rfl,rfl⟩
 refine C5 (AD 6 rfl (Bf rfl) (BZ [2] rfl (Bv AP (Ai (Av ?_)))))
 exact Aw (Rv b4 b5 b6 b7 p q lv gv tmp text name (Dz d tmp).1) (.tmp rfl .nil) ⟨rfl,rfl⟩ AG
theorem Yn (b4 b5 b6 b7 p q:Nat)(lv gv:Value)(tmp text name:ByteArray)(d:Dk)(hd:d.Ok)(hw:Z9 d):Spec prog 171 [pv b4,pv b5,pv b7] (Rv b4 b5 b6 b7 p q lv gv tmp text name d) (fun r L=>r=.int .i64 (CH d tmp name).2∧L=Rv b4 b5 b6 b7 p q lv gv tmp text name (CH d tmp name).1):=by
 refine Spec.of 11 func171 rfl rfl rfl ?_
 refine Ad (Au [0,1,2] rfl rfl (Aj ?_))
 refine Bb [0,3,4,5] _ [] (by simp only [List.append_nil]; exact Ent.refl _) AP ?_
 refine Bl 0 rfl (Ak rfl rfl) rfl (AD 1 rfl (Al rfl) (AD 2 rfl (Ae rfl) (Bl 3 rfl (Ak rfl rfl) rfl (Bl 4 rfl (Ak rfl rfl) rfl (Bl 5 rfl (Ak rfl rfl) rfl ?_)))))
 refine BX 6 rfl AP AP (AF (QM q d hd hw tmp name) rfl rfl AG) ?_
 rintro v8 L1 ⟨rfl,rfl⟩
 refine C5 (AD 7 rfl (Bf rfl) (BZ [3] rfl (Bv AP (Ai (Av ?_)))))
 exact Aw (Rv b4 b5 b6 b7 p q lv gv tmp text name (CH d tmp name).1) (.tmp rfl .nil) ⟨rfl,rfl⟩ AG
theorem DV.few{NS:List ByteArray}{m:Nat}{d:Dk}(h:DV NS m d)(hm:m≤100000):Z9 d:=by
 have:=h.inn.1
 have:=h.inn.2
 exact ⟨by omega,by omega⟩
set_option maxHeartbeats 2000000 in
theorem QW (NS:List ByteArray)(hN:NS.length≤20)(m:Nat)(hm:m≤50000)(p q:Nat)(lv gv:Value)(d:Dk)(h:DV NS m d)(tmp name:ByteArray)(text:List UInt8)(h1:tmp∈NS)(h2:name∈NS)(g1:DG tmp=true)(g2:DG name=true)(hne:tmp≠name)(hl:text.length≤EI) :
  Spec prog 97 [pv p,.string tmp,.string (str text),.string name] [xB p q lv gv,FSA q d] (fun r L=>r=.int .i64 0∧L=[xB p q lv gv,FSA q (PF d tmp text name 4)]):=by
 obtain ⟨e1,e2,e3,e4,hD,-⟩:=h.write hN h1 h2 g1 g2 hne hl
 have hfew:∀ i,Z9 (PF d tmp text name i):=fun i=>(hD i).few AC
 refine Spec.of 28 func97 rfl rfl rfl ?_
 refine Ad (AE (Bp rfl rfl) (fun b4=>?_))
 refine AE (Bp rfl rfl) fun b5=>?_
 refine AE (Bp rfl rfl) fun b6=>?_
 refine AE (Bp rfl rfl) fun b7=>?_
 refine Au [4,5,6,7] rfl rfl (Aj (Ad (Af (Cr (vs:=[]) (us:=[_,_]) rfl rfl) (Af (Cr (vs:=[]) (us:=[_,_,_]) rfl rfl) (Af (Cr (vs:=[]) (us:=[_,_]) rfl rfl) (Af (Cr (vs:=[]) (us:=[_,_,_]) rfl rfl) (AE (Bs (qs:=[(0,_),(1,_),(2,_),(3,_)]) rfl rfl rfl) (fun b16=>?_))))))))
 refine Af (BD rfl) (Ah rfl (AI [16,17,18] rfl (AB ?_)))
 have hst:∀ i,i<4→∃ (fn:FuncId) (_:Body prog fn) (ca:List Value),([.func (.func 168) #[] #[pv b4,pv b5],.func (.func 169) #[] #[pv b4,pv b5,pv b6],.func (.func 170) #[] #[pv b4,pv b5],.func (.func 171) #[] #[pv b4,pv b5,pv b7]]:List Value)[0+i*1]? = some (.func (.func fn) #[] ca.toArray)∧Spec prog fn ca (Rv b4 b5 b6 b7 p q lv gv tmp (str text) name (PF d tmp text name i)) (fun r L=>r=.int .i64 0∧L=Rv b4 b5 b6 b7 p q lv gv tmp (str text) name (PF d tmp text name (i+1))):=by
  intro i hi
  match i,hi with
  | 0,_=>exact ⟨168,inferInstance,[pv b4,pv b5],rfl,(Yk b4 b5 b6 b7 p q lv gv tmp (str text) name _ (hD 0).ok (hfew 0)).mono fun r L k=>by rw [show BG (PF d tmp text name 0) tmp=BG d tmp from rfl,e1] at k; exact k⟩
  | 1,_=>exact ⟨169,inferInstance,[pv b4,pv b5,pv b6],rfl,(Yl b4 b5 b6 b7 p q lv gv tmp (str text) name _ (hD 1).ok (by rw [Di]; simp only [EI] at hl; omega)).mono fun r L k=>by rw [show BR (PF d tmp text name 1) tmp (str text).data.toList=BR (PF d tmp text name 1) tmp text from rfl,e2] at k; exact k⟩
  | 2,_=>exact ⟨170,inferInstance,[pv b4,pv b5],rfl,(Ym b4 b5 b6 b7 p q lv gv tmp (str text) name _ (hD 2).ok).mono fun r L k=>by rw [e3] at k; exact k⟩
  | 3,_=>exact ⟨171,inferInstance,[pv b4,pv b5,pv b7],rfl,(Yn b4 b5 b6 b7 p q lv gv tmp (str text) name _ (hD 3).ok (hfew 3)).mono fun r L k=>by rw [e4] at k; exact k⟩
 refine B4 (ι:=Nat) (fun i env L=>Sub env [(16,.slice (some ⟨b16,0,none⟩) 4 4),(17,.int .i64 4),(18,.int .i64 (i:Nat))]∧Ent L (B5 b16 34 [.func (.func 168) #[] #[pv b4,pv b5],.func (.func 169) #[] #[pv b4,pv b5,pv b6],.func (.func 170) #[] #[pv b4,pv b5],.func (.func 171) #[] #[pv b4,pv b5,pv b7]]::Rv b4 b5 b6 b7 p q lv gv tmp (str text) name (PF d tmp text name i))∧i≤4) (fun i=>4-i) 0 ⟨⟨rfl,rfl,rfl,trivial⟩,by show Ent _ (B5 b16 34 [.func (.func 168) #[] #[pv b4,pv b5],.func (.func 169) #[] #[pv b4,pv b5,pv b6],.func (.func 170) #[] #[pv b4,pv b5],.func (.func 171) #[] #[pv b4,pv b5,pv b7]]::Rv b4 b5 b6 b7 p q lv gv tmp (str text) name d); exact Split.ent' AG,Nat.zero_le _⟩ ?_
 rintro i env L ⟨hsub,hE,hi⟩
 refine B7 _ hsub (AX hE ?_)
 clear hsub hE env L
 refine Ad (Af (Be rfl rfl) (AI [16,17,18,19] rfl (Aj ?_)))
 refine Aq rfl (fun h19=>?_) (fun h19=>?_)
 ·have h19':i<4:=by have:=of_decide_eq_true h19; omega
  obtain ⟨fn,ib,ca,hc,hs⟩:=hst i h19'
  refine Ar (Ai (Aj (AB (Ad ?_))))
  refine Af (AA (0+i*1) rfl rfl AC AC (by rw [Int.toNat_natCast])) ?_
  refine AM (Ak rfl hc) (Au [10,16,17,18] rfl rfl (Ad (Ah rfl ?_)))
  refine AE (FJ (fi:=[]) (args:=[]) (ca:=ca) (by rw [List.nil_append,List.nil_append]; exact hs) rfl rfl AG) ?_
  rintro v23 L1 ⟨rfl,rfl⟩
  refine As (Au [11,16,17,18] rfl rfl (Ad (Ah rfl (Af (Bx rfl rfl) (AI [11,16,17,18,25] rfl (Dw rfl (Ar (AV (Ai (Am (Af (AQ ((i+1:Nat):Int) rfl rfl AC AC AC) (Ah rfl (Bi [16,17,18] rfl (AJ ?_))))))))))))))
  exact Ai ⟨i+1,⟨⟨rfl,rfl,rfl,trivial⟩,Split.ent' AG,h19'⟩,by omega⟩
 ·have h19':=of_decide_eq_false h19
  obtain rfl:i=4:=by omega
  refine B3 (AU (AU (AY rfl (Ai (Ad (Au [8] rfl rfl (Av ?_)))))))
  exact Aw [xB p q lv gv,FSA q (PF d tmp text name 4)] (.tmp rfl .nil) ⟨rfl,rfl⟩ AG
theorem VX (v:Value)(xs:List ByteArray)(hl:xs.length≤1099511627776):Spec prog 179 [v] [own 9 1 v xs.length (xs.flatMap G3)] (fun r L=>r=.tuple #[]∧L=[own 9 1 v xs.length ((Ey xs).flatMap G3)]) :=
 NF (fun B5 off cap ss w=>slices_Sort_string B5 off cap ss w) (fun p cap w=>slices_Sort_string_none p cap w) v xs hl
theorem IH (xs:List ByteArray):(Ey xs).Perm xs:=by
 unfold Ey
 have:=(List.mergeSort_perm (xs.map KW) fun x y=>decide (x≤y)).map Qh
 rw [List.map_map] at this
 have e:(xs.map (Qh∘KW))=xs:=by
  conv=>rhs; rw [← List.map_id xs]
  exact List.map_congr_left fun x _=>Hb x
 rwa [e] at this
theorem VY {xs ys:List ByteArray}(h:xs.Perm ys):Ey xs=Ey ys :=
 List.Perm.eq_of_pairwise (le:=fun a b=>BE b a=false) (fun a b _ _ h1 h2=>by
  rcases DS a b with k | k | k
  ·rw [k] at h2; cases h2
  ·exact k
  ·rw [k] at h1; cases h1) (Lc xs) (Lc ys) ((IH xs).trans (h.trans (IH ys).symm))
def Cl (d:Dk):List ByteArray:=if d.off=true then [] else Ey (d.seen.map (·.1))
set_option maxHeartbeats 4000000 in
theorem SV (p:Nat)(d:Dk)(hd:d.Ok):Spec prog 102 [pv p] [FSA p d] (fun r L=>L=[own 9 1 r (Cl d).length ((Cl d).flatMap G3),FSA p d]):=by
 refine FSA.open' fun x hx=>?_
 have hel:=hx.seen.len hd.seenOk.nodup
 have hsl:=hd.seenLe
 refine Spec.of 30 func102 rfl rfl rfl ?_
 refine Ad (Au [0] rfl rfl (Ad (Au [0,3] rfl rfl (Aj (Ad (Ah rfl (Af (Bm rfl rfl) (Ah rfl ?_))))))))
 refine B9 7 rfl (fun h7=>by cases h7) (fun h7=>?_)
 refine AS rfl rfl (Ah rfl (AS rfl rfl (Af (Al rfl) (AS rfl rfl (Af (Ae rfl) (AS rfl rfl (AM (Ak rfl rfl) (Af (B0 rfl rfl) (AI [0,3,12] rfl ?_)))))))))
 refine Aq rfl (fun h12=>?_) (fun h12=>?_)
 ·refine Ad (Ah rfl (Au [2] rfl rfl (Av (AZ ?_))))
  have key:Cl d=[]:=by unfold Cl; rw [if_pos h12]
  rw [key]
  refine B6 [own 9 1 (.slice none 0 0) 0 [],FSA p d] (.tmp rfl .nil) rfl ?_
  exact (((Split.ent' (K:=[EH p d x,BI x.sb BN x.es x.cs,BI x.fb BN x.ef x.cf,own 279 3 x.pv x.ps.length (x.ps.flatMap Cj),BV x.rs]) AG).trans (BY hx))).trans own_nil_ent
 ·refine Ar (Ai (Aj (Ad (Ah rfl (Af (Al rfl) (Af (Ae rfl) (AM (Ak rfl rfl) (AE (LP (κ:=ByteArray) rfl) ?_))))))))
  rintro it
  skip
  refine AI [3,18] rfl (AB (AX (own_nil_ent (e:=9) (n:=1)) ?_))
  refine AX (Split.ent' (K:=[own 9 1 (.slice none 0 0) 0 [],RU it x.sb x.cs [] x.cs,EH p d x,BI x.sb BN x.es x.cs,BI x.fb BN x.ef x.cf,own 279 3 x.pv x.ps.length (x.ps.flatMap Cj),BV x.rs]) AG) ?_
  refine B4 (ι:=BM ByteArray×BM ByteArray) (fun k env L=>∃ v,Sub env [(3,v),(18,pv it)]∧Ent L [own 9 1 v (k.1.map (·.1)).length ((k.1.map (·.1)).flatMap G3),RU it x.sb x.cs (k.1.map (·.2.2)) x.cs,EH p d x,BI x.sb BN x.es x.cs,BI x.fb BN x.ef x.cf,own 279 3 x.pv x.ps.length (x.ps.flatMap Cj),BV x.rs]∧Going x.es k.1 k.2) (fun k=>k.2.length) ([],x.es) ⟨.slice none 0 0,⟨rfl,rfl,trivial⟩,Ent.refl _,Going.start _⟩ ?_
  rintro ⟨dn,td⟩ env L ⟨v,hsub,hE,hgo⟩
  dsimp only at hsub hE hgo
  refine B7 _ hsub (AX hE ?_)
  clear hsub hE env L
  have hdl:dn.length≤64:=by have:=hgo.length_eq; rw [List.length_append] at this; omega
  refine Ad ?_
  refine AE (OS (κ:=ByteArray) rfl AG hx.bs.1 (Nat.le_refl _)) ?_
  refine ⟨fun hall=>?_,fun y hy hns=>?_⟩
  ·refine Af (Ax rfl) (AI [3,18,20] rfl (Aj ?_))
   refine Aq rfl (fun h20=>by cases h20) (fun h20=>?_)
   have htd:=hgo.stop hx.bs hall
   rw [htd] at hgo
   have hsum:Ey (dn.map (·.1))=Cl d:=by
    unfold Cl
    rw [if_neg (by rw [h12]; decide)]
    refine VY ?_
    refine List.Perm.trans ?_ (MI hx.seen hd.seenOk.nodup)
    refine List.Perm.map _ ?_
    have:=hgo; unfold Going at this; rwa [List.append_nil] at this
   refine B3 (AU (AU (AY rfl (Ai (Ad (Ah rfl ?_))))))
   refine AE (AF (VX v (dn.map (·.1)) (by rw [List.length_map]; omega)) rfl rfl AG) ?_
   rintro v28 L1 ⟨rfl,rfl⟩
   refine As (AI [3] rfl (Ad (Ah rfl (Au [2] rfl rfl (Av ?_)))))
   rw [← hsum,Gz]
   refine B6 [own 9 1 v (dn.map (·.1)).length ((Ey (dn.map (·.1))).flatMap G3),FSA p d] (.tmp rfl .nil) rfl ?_
   refine Ent.trans (Split.ent' (K:=[EH p d x,BI x.sb BN x.es x.cs,BI x.fb BN x.ef x.cf,own 279 3 x.pv x.ps.length (x.ps.flatMap Cj),BV x.rs,own 9 1 v (dn.map (·.1)).length ((Ey (dn.map (·.1))).flatMap G3)]) AG) ?_
   exact (BY hx).trans Ent.swap
  ·refine Af (Ax rfl) (AI [3,18,20] rfl (Aj ?_))
   refine Aq rfl (fun h20=>?_) (fun h20=>by cases h20)
   obtain ⟨td',hgo',hlt⟩:=hgo.step hy hns
   refine Ar (Ai (AB (Ad ?_)))
   refine AM (LQ (κ:=ByteArray) rfl AG hy hx.bs) ?_
   refine Af (Ax rfl) (Au [3,4,18] rfl rfl (Am (Ah rfl (Ah rfl (AE (Bs (qs:=[(0,_)]) rfl rfl rfl) (fun b25=>?_))))))
   refine AE (Bj (l:=(dn.map (·.1)).length) (m:=1) rfl rfl AG (by simp only [maxLen]; rw [List.length_map]; omega) (by rw [List.length_map]; omega)) ?_
   rintro v' hv'
   skip
   refine B2 rfl (Bi [3,18] rfl (AJ (AV ?_)))
   refine Ai ⟨(dn++[y],td'),⟨v',⟨rfl,rfl,trivial⟩,?_,hgo'⟩,by dsimp only; omega⟩
   have e1:((dn++[y]).map (·.1)).length=(dn.map (·.1)).length+1:=by simp
   have e2:((dn++[y]).map (·.1)).flatMap G3=(dn.map (·.1)).flatMap G3++[.string y.1]:=by rw [List.map_append,List.flatMap_append]; rfl
   have e3:(dn++[y]).map (·.2.2)=dn.map (·.2.2)++[y.2.2]:=by rw [List.map_append]; rfl
   dsimp only
   rw [e1,e2,e3]
   exact Split.ent' AG
def NSw:List ByteArray:=logN::chainN::HC::HE::(List.range 14).map Cq
theorem Fx:NSw.length≤20:=by decide
theorem Yo {k:Nat}(h:k<14):Cq k∈NSw:=List.mem_cons_of_mem _ (List.mem_cons_of_mem _ (List.mem_cons_of_mem _ (List.mem_cons_of_mem _ (List.mem_map.2 ⟨k,List.mem_range.2 h,rfl⟩))))
theorem Yp:chainN∈NSw:=.tail _ (.head _)
theorem SY:HC∈NSw:=.tail _ (.tail _ (.head _))
theorem SZ:HE∈NSw:=.tail _ (.tail _ (.tail _ (.head _)))
theorem QX:((List.range 20).all fun k=>!(Bt (Cq k) logN)&&(!(Bt (Cq k) chainN)&&(!(Bt (Cq k) HC)&&!(Bt (Cq k) HE))))=true:=by kernel_rfl
theorem E7 {k:Nat}(h:k<20):Cq k≠logN∧Cq k≠chainN∧Cq k≠HC∧Cq k≠HE:=by
 have:=List.all_eq_true.1 QX k (List.mem_range.2 h)
 simp only [Bool.and_eq_true,Bool.not_eq_true'] at this
 exact ⟨Cc.1 this.1,Cc.1 this.2.1,Cc.1 this.2.2.1,Cc.1 this.2.2.2⟩
def QY (s:ByteArray):Option Nat:=(List.range 20).find? fun k=>Bt (Cq k) s
theorem A01{k:Nat}(h:k<20):QY (Cq k)=some k:=by
 unfold QY
 cases hf:(List.range 20).find? (fun j=>Bt (Cq j) (Cq k)) with
 | none=>exact absurd (List.find?_eq_none.1 hf k (List.mem_range.2 h)) (by rw [BQ]; decide)
 | some j =>
  have h1:=List.find?_some hf
  have h2:=List.mem_range.1 (List.mem_of_find?_eq_some hf)
  rw [Kn h2 h (BS.1 h1)]
def Ie (l:List Lk)(s:ByteArray):Bool:=match QY s with
 | some k=>!(l.any fun y=>decide (y.1=k))
 | none=>false
def Ei (l:List Lk)(d:Dk)(s:ByteArray):Dk:=if Ie l s=true then (DH d s).1 else d
theorem U8 {d:Dk}{s:ByteArray}:Ec d s=none↔BC d.seen s=none:=by unfold Ec; cases BC d.seen s <;> simp
theorem Hn {NS:List ByteArray}{m:Nat}{d:Dk}(h:DV NS m d)(s:ByteArray):s∈Cl d↔Ec d s≠none:=by
 unfold Cl
 rw [if_neg (by rw [h.on]; decide),(IH _).mem_iff]
 constructor
 ·intro hs hn
  obtain ⟨x,hx,rfl⟩:=List.mem_map.1 hs
  exact Jj.1 (U8.1 hn) x hx rfl
 ·intro hn
  cases hf:BC d.seen s with
  | none=>exact absurd (U8.2 hf) hn
  | some k=>exact List.mem_map.2 ⟨_,CC hf,rfl⟩
theorem JL {NS:List ByteArray}{m:Nat}{d:Dk}(h:DV NS m d):(Cl d).Nodup:=by
 unfold Cl
 rw [if_neg (by rw [h.on]; decide)]
 exact (IH _).nodup_iff.2 h.ok.seenOk.nodup
theorem MR {NS:List ByteArray}{m:Nat}{d0:Dk}(h0:DV NS m d0)(l:List Lk):∀ (i:Nat),i≤(Cl d0).length→DV NS (m+i) (((Cl d0).take i).foldl (Ei l) d0)∧(∀ u,u∈(Cl d0).take i→Ie l u=true→Ec (((Cl d0).take i).foldl (Ei l) d0) u=none)∧(∀ u,u∉(Cl d0).take i∨Ie l u=false→Ec (((Cl d0).take i).foldl (Ei l) d0) u=Ec d0 u):=by
 intro i
 induction i with
 | zero=>intro _; exact ⟨h0,fun u h=>by (rw [List.take_zero] at h; cases h),fun u _=>rfl⟩
 | succ i ih =>
  intro hi
  obtain ⟨h1,h2,h3⟩:=ih AC
  obtain ⟨s,hs⟩:∃ s,(Cl d0)[i]? = some s:=⟨_,List.getElem?_eq_getElem AC⟩
  rw [Ca hs,List.foldl_append,List.foldl_cons,List.foldl_nil]
  generalize hd:((Cl d0).take i).foldl (Ei l) d0=d at *
  have hnin:s∉(Cl d0).take i:=by
   intro hm
   obtain ⟨j,hj⟩:=List.getElem?_of_mem hm
   have hjl:=(List.getElem?_eq_some_iff.1 hj).1
   rw [List.length_take] at hjl
   rw [List.getElem?_take_of_lt AC] at hj
   have:=(List.getElem?_inj AC (JL h0)).1 (hj.trans hs.symm)
   omega
  unfold Ei
  by_cases hl:Ie l s=true
  ·rw [if_pos hl]
   have hsome:Ec d s≠none:=by
    rw [h3 s (.inl hnin)]
    exact (Hn h0 s).1 (List.mem_of_getElem? hs)
   obtain ⟨b,hb⟩:=Option.ne_none_iff_exists'.1 hsome
   obtain ⟨_,k2,k3⟩:=h1.remove hb
   refine ⟨k2,fun u hu hlu=>?_,fun u hu=>?_⟩
   ·rw [k3]
    by_cases he:u=s
    ·rw [if_pos he]
    ·rw [if_neg he]
     rcases List.mem_append.1 hu with hu | hu
     ·exact h2 u hu hlu
     ·exact absurd (List.mem_singleton.1 hu) he
   ·have he:u≠s:=by
     rintro rfl
     rcases hu with hu | hu
     ·exact hu (by simp)
     ·rw [hl] at hu; cases hu
    rw [k3,if_neg he]
    exact h3 u (hu.imp (fun k m=>k (List.mem_append_left _ m)) id)
  ·rw [if_neg hl]
   refine ⟨h1.mono AC,fun u hu hlu=>?_,fun u hu=>?_⟩
   ·rcases List.mem_append.1 hu with hu | hu
    ·exact h2 u hu hlu
    ·rw [List.mem_singleton.1 hu] at hlu; exact absurd hlu hl
   ·exact h3 u (hu.imp (fun k m=>k (List.mem_append_left _ m)) id)
abbrev GP:Type:=Nat×List GR
structure XD (m c:Nat) (d:Dk) (l:List Lk) (G:List GP):Prop where
 dv:DV NSw m d
 nm:∀ s,Ec d s≠none→s=logN∨s=chainN∨∃ k,k<14∧s=Cq k
 ch:Ec d chainN=if l=[] then none else some (Dp l)
 len:G.length=l.length
 gf:∀ (i:Nat) (x:Lk) (g:GP),l[i]? = some x→G[i]? = some g→Ec d (Cq x.1)=some (Fv g.1 g.2)∧x.2.2=Ji (Fv g.1 g.2)∧x.2.1=g.2.length∧g.1=BK (l.take i)∧GsOk g.1 g.2
 lk:LkOk l
 nx:Cw l≤c
theorem T2 (a b:List Lk):BK (a++b)=BK a+BK b:=by unfold BK; rw [List.map_append,List.sum_append]
theorem VZ (a:List Lk)(x:Lk):Cw (a++[x])=max (Cw a) (x.1+1):=by unfold Cw; rw [List.foldl_append]; rfl
def MS (d:Dk)(n:Nat)(text:List UInt8)(l':List Lk):Dk:=(C2 (PF (PF d HE text (Cq n) 4) HC (Dp l') chainN 4)).1
theorem Ho {l:List Lk}(h:LkOk l):(Dp l).length≤EI:=by rw [JI]; have:=h.len; simp only [EI]; omega
theorem Ko {m c:Nat}{d:Dk}{l:List Lk}{G:List GP}(h:XD m c d l G)(hc:c<14){n:Nat}(hn:n≤c){text:List UInt8}(ht:text.length≤EI){l':List Lk}(hl':LkOk l'):DV NSw (m+4) (MS d n text l')∧∀ u,Ec (MS d n text l') u=if u=chainN then some (Dp l') else if u=Cq n then some text else if u=HC∨u=HE then none else Ec d u:=by
 have hg:=E7 (show n<20 by omega)
 obtain ⟨_,_,_,_,a1,a2⟩:=h.dv.write Fx (tmp:=HE) (name:=Cq n) (text:=text) SZ (Yo AC) (by decide) (Fw AC).1 (Ne.symm hg.2.2.2) ht
 obtain ⟨_,_,_,_,b1,b2⟩:=(a1 4).write Fx (tmp:=HC) (name:=chainN) (text:=Dp l') SY Yp (by decide) (by decide) (by decide) (Ho hl')
 obtain ⟨_,c2,c3⟩:=(b1 4).syncN
 refine ⟨c2.mono AC,fun u=>?_⟩
 unfold MS
 rw [c3,b2,a2]
 have e1:HC≠Cq n:=Ne.symm hg.2.2.1
 have e2:HE≠Cq n:=Ne.symm hg.2.2.2
 by_cases hu1:u=chainN
 ·rw [if_pos hu1,if_pos hu1]
 ·rw [if_neg hu1,if_neg hu1]
  by_cases hu2:u=HC
  ·rw [if_pos hu2,hu2,if_neg e1,if_pos (.inl rfl)]
  ·rw [if_neg hu2]
   by_cases hu3:u=Cq n
   ·rw [if_pos hu3,if_pos hu3]
   ·rw [if_neg hu3,if_neg hu3]
    by_cases hu4:u=HE
    ·rw [if_pos hu4,if_pos (.inr hu4)]
    ·rw [if_neg hu4,if_neg (fun k=>k.elim hu2 hu4)]
theorem Ig {l:List Lk}{s:ByteArray}(h:∀ k,k<20→Cq k=s→∃ y∈l,y.1=k):Ie l s=false:=by
 unfold Ie
 cases hn:QY s with
 | none=>rfl
 | some k =>
  unfold QY at hn
  have h1:=List.find?_some hn
  obtain ⟨y,hy,e⟩:=h k (List.mem_range.1 (List.mem_of_find?_eq_some hn)) (BS.1 h1)
  show (!(l.any fun y=>decide (y.1=k)))=false
  rw [List.any_eq_true.2 ⟨y,hy,by simpa using e⟩]; rfl
theorem MT {m:Nat}{d:Dk}(h:DV NSw m d):(Cl d).length≤18:=by
 have:=List.Nodup.length_le_of_subset (JL h) (l₂:=NSw) fun s hs=>by
  obtain ⟨b,hb⟩:=Option.ne_none_iff_exists'.1 ((Hn h s).1 hs)
  obtain ⟨k,hk,_⟩:=JC hb
  exact h.nm _ (CC hk)
 exact Nat.le_trans this (by decide)
def Ih (l:List Lk)(d:Dk):Dk:=(Cl d).foldl (Ei l) d
theorem KM {m:Nat}{d:Dk}(h:DV NSw m d)(l:List Lk):DV NSw (m+18) (Ih l d)∧∀ u,Ec (Ih l d) u=if Ie l u=true then none else Ec d u:=by
 obtain ⟨h1,h2,h3⟩:=MR h l _ (Nat.le_refl _)
 have hl:=MT h
 rw [List.take_length] at h1 h2 h3
 refine ⟨h1.mono AC,fun u=>?_⟩
 unfold Ih
 by_cases hu:Ie l u=true
 ·rw [if_pos hu]
  by_cases hm:u∈Cl d
  ·exact h2 u hm hu
  ·rw [h3 u (.inl hm)]
   exact Decidable.byContradiction fun k=>hm ((Hn h u).2 k)
 ·rw [if_neg hu]
  exact h3 u (.inr (by simpa using hu))
theorem A12{m c:Nat}{d:Dk}{l:List Lk}{G:List GP}(h:XD m c d l G)(hc:c<13){l0:List Lk}{G0:List GP}(h0:(l0=l∧G0=G)∨(l0=[]∧G0=[])){base:Nat}{R:List GR}(hb:base=BK l0)(hR:GsOk base R){x:Lk}(hx:x=(Cw l,R.length,Ji (Fv base R)))(hl':LkOk (l0++[x])) :
  XD (m+22) (c+1) (Ih (l0++[x]) (MS d (Cw l) (Fv base R) (l0++[x]))) (l0++[x]) (G0++[(base,R)]):=by
 have hnx:=h.nx
 have hcap:(Fv base R).length≤EI:=by have:=QT hR; simp only [EI]; omega
 obtain ⟨d1,d2⟩:=Ko h AC hnx hcap hl'
 generalize hd1:MS d (Cw l) (Fv base R) (l0++[x])=dd at *
 obtain ⟨e1,e2⟩:=KM d1 (l0++[x])
 generalize hd2:Ih (l0++[x]) dd=de at *
 have hgn:=E7 (show Cw l<20 by omega)
 have hlt:∀ y∈l,y.1<Cw l:=fun y hy=>MD hy
 have hkeep:∀ y∈l0++[x],Ie (l0++[x]) (Cq y.1)=false:=fun y hy=>Ig fun k hk e=>by
  refine ⟨y,hy,?_⟩
  have:y.1<20:=by
   rcases List.mem_append.1 hy with hy | hy
   ·rcases h0 with ⟨rfl,_⟩ | ⟨rfl,_⟩
    ·have:=hlt y hy; omega
    ·cases hy
   ·rw [List.mem_singleton.1 hy,hx]; show Cw l<20; omega
  exact (Kn hk this e).symm
 refine ⟨e1,fun s hs=>?_,?_,?_,?_,hl',?_⟩
 ·rw [e2] at hs
  split at hs
  ·exact absurd rfl hs
  ·rw [d2] at hs
   by_cases a1:s=chainN
   ·exact .inr (.inl a1)
   ·rw [if_neg a1] at hs
    by_cases a2:s=Cq (Cw l)
    ·exact .inr (.inr ⟨_,by omega,a2⟩)
    ·rw [if_neg a2] at hs
     split at hs
     ·exact absurd rfl hs
     ·exact h.nm s hs
 ·rw [e2,if_neg (by rw [Ig (fun k hk e=>absurd e (E7 hk).2.1)]; decide),d2,if_pos rfl,if_neg (by simp)]
 ·rcases h0 with ⟨rfl,rfl⟩ | ⟨rfl,rfl⟩
  ·rw [List.length_append,List.length_append,h.len]; rfl
  ·rfl
 ·have hlen:G0.length=l0.length:=by
   rcases h0 with ⟨rfl,rfl⟩ | ⟨rfl,rfl⟩
   ·exact h.len
   ·rfl
  intro i y g hy hg
  by_cases hi:i<l0.length
  ·rw [List.getElem?_append_left hi] at hy
   rw [List.getElem?_append_left AC] at hg
   rcases h0 with ⟨rfl,rfl⟩ | ⟨rfl,rfl⟩
   ·obtain ⟨k1,k2,k3,k4,k5⟩:=h.gf i y g hy hg
    have hyl:=hlt y (List.mem_of_getElem? hy)
    have hn:=E7 (show y.1<20 by omega)
    refine ⟨?_,k2,k3,?_,k5⟩
    ·rw [e2,if_neg (by rw [hkeep y (List.mem_append_left _ (List.mem_of_getElem? hy))]; decide),d2,if_neg hn.2.1,if_neg (fun e=>by have:=Kn AC AC e; omega),if_neg (fun e=>e.elim hn.2.2.1 hn.2.2.2)]
     exact k1
    ·rw [k4,List.take_append_of_le_length AC]
   ·cases hi
  ·have hi':i=l0.length:=by
    have:=(List.getElem?_eq_some_iff.1 hy).1
    rw [List.length_append] at this
    have:([x]:List Lk).length=1:=rfl
    omega
   subst hi'
   rw [List.getElem?_append_right (Nat.le_refl _),Nat.sub_self] at hy
   rw [List.getElem?_append_right AC,hlen,Nat.sub_self] at hg
   obtain rfl:=Option.some.inj hy
   obtain rfl:=Option.some.inj hg
   refine ⟨?_,by rw [hx],by rw [hx],?_,hR⟩
   ·rw [e2,if_neg (by rw [hkeep x (by simp)]; decide),d2,hx]
    dsimp only
    rw [if_neg hgn.2.1,if_pos rfl]
   ·rw [List.take_left]; exact hb
 ·rw [VZ,hx]
  have:Cw l0≤Cw l:=by
   rcases h0 with ⟨rfl,_⟩ | ⟨rfl,_⟩
   ·exact Nat.le_refl _
   ·exact Nat.zero_le _
  show max _ (Cw l+1)≤_
  omega
theorem A02{m c:Nat}{d:Dk}{l:List Lk}{G:List GP}(h:XD m c d l G)(hc:c<14){n:Nat}(hn:n≤c){text:List UInt8}(ht:text.length≤EI){l':List Lk}(hl':LkOk l'):Ec (Ih l' (MS d n text l')) logN=Ec d logN:=by
 obtain ⟨d1,d2⟩:=Ko h hc hn ht hl'
 obtain ⟨-,e2⟩:=KM d1 l'
 rw [e2,if_neg (by rw [Ig (fun k hk e=>absurd e (E7 hk).1)]; decide),d2,if_neg (by decide),if_neg (Ne.symm (E7 (show n<20 by omega)).1),if_neg (fun k=>k.elim (by decide) (by decide))]
theorem XD.other{m m' c:Nat}{d d':Dk}{l:List Lk}{G:List GP}(h:XD m c d l G)(hv:DV NSw m' d')(hk:∀ u,u≠logN→Ec d' u=Ec d u)(hnx:c<20):XD m' c d' l G:=by
 have hc:chainN≠logN:=by decide
 refine ⟨hv,fun s hs=>?_,by rw [hk _ hc]; exact h.ch,h.len,fun i x g hx hg=>?_,h.lk,h.nx⟩
 ·by_cases e:s=logN
  ·exact .inl e
  ·rw [hk s e] at hs; exact h.nm s hs
 ·obtain ⟨k1,k2⟩:=h.gf i x g hx hg
  have:=MD (List.mem_of_getElem? hx)
  have:=h.nx
  exact ⟨by rw [hk _ (E7 AC).1]; exact k1,k2⟩
theorem LkOk.snoc{l:List Lk}(h:LkOk l)(hl:l.length≤7){n k s:Nat}(hn:∀ y∈l,y.1<n)(hn2:n≤1073741823)(hk:1≤k)(ht:BK l+k≤65536)(hs:s<4294967296):LkOk (l++[(n,k,s)]):=by
 refine ⟨by rw [List.length_append]; show _+1≤_; omega,fun x hx=>?_,?_,by rw [T2]; show _+(k+0)≤_; omega⟩
 ·rcases List.mem_append.1 hx with hx | hx
  ·exact h.one x hx
  ·rw [List.mem_singleton.1 hx]; exact ⟨hn2,hk,by show k≤_; omega,hs⟩
 ·rw [List.map_append,List.nodup_append]
  refine ⟨h.nod,by simp,fun a ha b hb e=>?_⟩
  obtain ⟨y,hy,rfl⟩:=List.mem_map.1 ha
  have hb':b=n:=by simpa using hb
  have:=hn y hy
  omega
theorem LkOk.none:LkOk []:=⟨by decide,fun x hx=>(by cases hx),.nil,by decide⟩
theorem DV.writeD{NS:List ByteArray}{m:Nat}{d:Dk}(h:DV NS m d)(hN:NS.length≤20){b:List UInt8}(hb:Ec d logN=some b){f:Fm}(hl:b.length+(f.2.length+9)≤EI):(writeD d f).2=0∧DV NS m (writeD d f).1∧∀ u,Ec (writeD d f).1 u=if u=logN then some (b++DF f) else Ec d u:=by
 obtain ⟨a1,a2,a3⟩:=h.append hN hb (t:=DF f) (by rw [GA]; exact hl)
 obtain ⟨b1,b2,b3⟩:=a2.sync (s:=logN) (b:=b++DF f) (by rw [a3,if_pos rfl])
 have e:SX.writeD d f=Dz (BR d logN (DF f)).1 logN:=by unfold SX.writeD; rw [if_neg (not_not_intro a1)]
 rw [e]
 exact ⟨b1,b2,fun u=>by rw [b3,a3]⟩
theorem dv_new:DV NSw 0 (HT 16777216):=⟨Zt (by decide),⟨Nat.le_refl _,Nat.le_refl _⟩,rfl,rfl,rfl,.nil,fun x hx=>(by cases hx),fun x hx=>(by cases hx)⟩
theorem A13{m:Nat}{d:Dk}(h:DV NSw m d)(hk:∀ u,u≠logN→Ec d u=none):XD m 0 d [] [] :=
 ⟨h,fun s hs=>.inl (Decidable.byContradiction fun k=>hs (hk s k)),hk _ (by decide),rfl,fun i x g hx=>(by cases hx),.none,Nat.le_refl _⟩
structure GC (C:List Cm):Prop where
 len:C.length≤16
 row:∀ (i:Nat) (c:Cm),C[i]? = some c→KB i c.1=true∧c.1.length≤16∧0≤c.2∧c.2<65536
def C8 (C:List Cm):List Int:=(Dr [] (C.map (·.1))).getD []
theorem GC.more{C:List Cm}(h:GC C):Dr [] (C.map (·.1))=some (C8 C):=by
 have key:∀ i,i≤C.length→∃ a,Dr [] ((C.map (·.1)).take i)=some a:=by
  intro i
  induction i with
  | zero=>exact fun _=>⟨[],rfl⟩
  | succ i ih =>
   intro hi
   obtain ⟨a,ha⟩:=ih AC
   obtain ⟨c,hc⟩:∃ c,C[i]? = some c:=⟨_,List.getElem?_eq_getElem AC⟩
   have hl:=(Gy ha).1
   rw [List.length_nil,List.length_take,List.length_map,Nat.min_eq_left AC,Nat.zero_add] at hl
   rw [Xj ha (by rw [List.getElem?_map,hc]; rfl),hl,if_pos (h.row i c hc).1]
   exact ⟨_,rfl⟩
 obtain ⟨a,ha⟩:=key C.length (Nat.le_refl _)
 rw [← List.length_map (f:=(·.1)),List.take_length] at ha
 unfold C8
 rw [ha]; rfl
theorem GC.glen{C:List Cm}(h:GC C):(C8 C).length=C.length:=by rw [LY h.more,List.length_map]
theorem GC.take{C:List Cm}(h:GC C)(k:Nat):GC (C.take k):=⟨by have:=h.len; rw [List.length_take]; omega,fun i c hc=>by
 by_cases hk:i<k
 ·rw [List.getElem?_take_of_lt hk] at hc; exact h.row i c hc
 ·rw [List.getElem?_take_eq_none AC] at hc; cases hc⟩
theorem W0 {C:List Cm}{c:Cm}(h:GC (C++[c])):C8 (C++[c])=C8 C++[CP (CO (C8 C) c.1)]:=by
 have h1:=h.more
 have h0:GC C:=by have:=h.take C.length; rwa [List.take_left] at this
 have hr:=h.row C.length c (by rw [List.getElem?_append_right (Nat.le_refl _),Nat.sub_self]; rfl)
 rw [List.map_append,Fq,h0.more] at h1
 replace h1:Dr (C8 C) [c.1]=some (C8 (C++[c])):=h1
 rw [Dr,h0.glen,if_pos hr.1] at h1
 exact (Option.some.inj h1).symm
structure RW (C:List Cm) (R:List GR):Prop where
 len:R.length≤C.length
 row:∀ (i:Nat) (r:GR),R[i]? = some r→C[i]? = some (r.ps,r.tr)∧(C8 C)[i]? = some r.gn
theorem RW.snoc{C:List Cm}{R:List GR}(h:RW C R){c:Cm}(hc:GC (C++[c])):RW (C++[c]) R:=by
 have h0:GC C:=by have:=hc.take C.length; rwa [List.take_left] at this
 refine ⟨by rw [List.length_append]; have:=h.len; omega,fun i r hr=>?_⟩
 obtain ⟨a,b⟩:=h.row i r hr
 rw [W0 hc,List.getElem?_append_left (List.getElem?_eq_some_iff.1 a).1,List.getElem?_append_left (List.getElem?_eq_some_iff.1 b).1]
 exact ⟨a,b⟩
structure RN (C:List Cm) (k:Nat) (R:List GR):Prop where
 len:k+R.length≤C.length
 row:∀ (i:Nat) (r:GR),R[i]? = some r→C[k+i]? = some (r.ps,r.tr)∧(C8 C)[k+i]? = some r.gn∧VU r.st r.bt
theorem RN.ok{C:List Cm}(hC:GC C){k:Nat}{R:List GR}(h:RN C k R):GsOk k R:=by
 have hl:=h.len
 have hc:=hC.len
 refine ⟨by omega,by omega,fun i r hr=>?_⟩
 obtain ⟨a,b,f⟩:=h.row i r hr
 obtain ⟨g1,g2,g3,g4⟩:=hC.row _ _ a
 obtain ⟨k1,k2⟩:=Ek.1 g1
 have hg:=S8 hC.more _ _ b
 refine ⟨g2,fun p hp=>?_,k2,⟨g3,g4⟩,⟨hg.1,hg.2.1⟩,?_⟩
 ·have:=k1 p hp; omega
 ·rcases f with ⟨f1,f2,f3⟩ | ⟨f1,f2⟩
  ·exact .inl ⟨f1,f2,by omega⟩
  ·exact .inr ⟨f1,f2⟩
theorem RN.join{C:List Cm}{R R':List GR}(h:RW C R)(h':RN C R.length R'):RW C (R++R'):=by
 refine ⟨by rw [List.length_append]; exact h'.len,fun i r hr=>?_⟩
 by_cases hi:i<R.length
 ·rw [List.getElem?_append_left hi] at hr; exact h.row i r hr
 ·rw [List.getElem?_append_right AC] at hr
  obtain ⟨a,b,_⟩:=h'.row _ r hr
  rw [show R.length+(i-R.length)=i by omega] at a b
  exact ⟨a,b⟩
theorem RN.whole{C:List Cm}{R:List GR}(h:RN C 0 R):RW C R:=⟨by have:=h.len; omega,fun i r hr=>by have:=h.row i r hr; rw [Nat.zero_add] at this; exact ⟨this.1,this.2.1⟩⟩
def CR (G:List GP):List GR:=G.flatMap (·.2)
theorem GW (A B:List GP):CR (A++B)=CR A++CR B:=List.flatMap_append
theorem II (b:Nat)(R:List GR):CR [(b,R)]=R:=List.append_nil _
theorem XD.rlen{m c:Nat}{d:Dk}{l:List Lk}{G:List GP}(h:XD m c d l G):∀ i,i≤l.length→(CR (G.take i)).length=BK (l.take i):=by
 intro i
 induction i with
 | zero=>intro _; rfl
 | succ i ih =>
  intro hi
  obtain ⟨x,hx⟩:∃ x,l[i]? = some x:=⟨_,List.getElem?_eq_getElem AC⟩
  obtain ⟨g,hg⟩:∃ g,G[i]? = some g:=⟨_,List.getElem?_eq_getElem (by rw [h.len]; omega)⟩
  obtain ⟨_,_,k3,_⟩:=h.gf i x g hx hg
  rw [Ca hg,GW,List.length_append,ih AC,I9 hx,k3]
  show _+(CR [(g.1,g.2)]).length=_
  rw [II]
theorem XD.rall{m c:Nat}{d:Dk}{l:List Lk}{G:List GP}(h:XD m c d l G):(CR G).length=BK l:=by
 have:=h.rlen l.length (Nat.le_refl _)
 rwa [List.take_length,← h.len,List.take_length] at this
theorem XD.find{m c:Nat}{d:Dk}{l:List Lk}{G:List GP}(h:XD m c d l G){i n:Nat}{g:GP}(hg:G[i]? = some g)(h1:BK (l.take i)≤n)(h2:n<g.1+g.2.length):g.1=BK (l.take i)∧(CR G)[n]? = g.2[n-g.1]?:=by
 have hi:=(List.getElem?_eq_some_iff.1 hg).1
 obtain ⟨x,hx⟩:∃ x,l[i]? = some x:=⟨_,List.getElem?_eq_getElem (by rw [← h.len]; exact hi)⟩
 obtain ⟨_,_,k3,k4,_⟩:=h.gf i x g hx hg
 refine ⟨k4,?_⟩
 have hr:=h.rlen i (by rw [← h.len]; omega)
 have e:G=G.take i++(g::G.drop (i+1)):=by rw [← NO hg,List.take_append_drop]
 rw [e,GW,List.getElem?_append_right AC,hr,← k4]
 show (g.2++CR (G.drop (i+1)))[_]? = _
 rw [List.getElem?_append_left AC]
abbrev Za (x:GV):List Value:=SR x.1 x.2.1
abbrev HF (V:List GV):List GP:=V.map fun x=>(x.1,E0 x.2.2)
structure IX (μ:PH) (lv gv:Value) (l:List Lk) (V:List GV):Prop where
 lr:Row μ lv 3 l.length (l.flatMap GN)
 gr:Row μ gv 6 V.length (V.flatMap Za)
 rs:∀ x∈V,GRows μ x.2.1 x.2.2
theorem IX.le{μ μ':PH}{lv gv:Value}{l:List Lk}{V:List GV}(h:IX μ lv gv l V)(k:Le μ μ'):IX μ' lv gv l V:=⟨h.lr.le k,h.gr.le k,fun x hx=>(h.rs x hx).le k⟩
theorem IX.none(μ:PH):IX μ (.slice none 0 0) (.slice none 0 0) [] []:=⟨Row.nil _ _,Row.nil _ _,fun x hx=>(by cases hx)⟩
theorem KN (μ:PH)(v:Value)(t:List Lk)(hv:Row μ v 3 t.length (t.flatMap GN))(hl:t.length≤1048576):Spec prog 94 [v] [ro μ] (fun r L=>∃ A c,r=.slice A t.length c∧L=[own 161 3 (.slice A t.length c) t.length (t.flatMap GN),ro μ]):=by
 obtain ⟨A,cap,rfl⟩:=hv.sl
 refine Spec.of 8 func94 rfl rfl rfl ?_
 refine Ad (Au [0] rfl rfl (Aj (Ad (Ah rfl (Af (Et rfl rfl) (AI [0,4] rfl ?_))))))
 refine Aq rfl (fun h4=>?_) (fun h4=>?_)
 ·refine Ad (Au [2] rfl rfl (Av (AZ ?_)))
  have hA:A=none:=by cases A <;> simp_all
  subst hA
  have h0:t=[]:=by
   cases t with
   | nil=>rfl
   | cons x l=>obtain ⟨b,o,c,h,_⟩:=hv.pos (by simp); cases h
  subst h0
  exact B6 [own 161 3 (.slice none 0 0) 0 [],ro μ] (.tmp rfl .nil) ⟨none,0,rfl,rfl⟩ own_nil_ent
 ·refine Ar (Ai (Ad (AE (Bs (qs:=[]) rfl rfl rfl) (fun b5=>?_))))
  refine Ah rfl (C9 (Gw (n:=3)) ?_)
  refine AE (D9 hv rfl rfl AG (Mc (fun _=>rfl) _) (by simp only [maxLen]; omega) AC) ?_
  rintro v7 -
  rw [Nat.zero_add,List.nil_append]
  refine E3 (fun m h=>CL h) fun ⟨A7,c7,hv7⟩=>?_
  subst hv7
  refine Au [2] rfl rfl (Av ?_)
  exact Aw [own 161 3 (.slice A7 t.length c7) t.length (t.flatMap GN),ro μ] (.tmp rfl .nil) ⟨A7,c7,rfl,rfl⟩ AG
theorem A03{V:List GV}{μ:PH}(h:∀ x∈V,GRows μ x.2.1 x.2.2):(V.flatMap Za).all Value.oneCell'=true:=by
 rw [List.all_eq_true]
 intro u hu
 obtain ⟨x,hx,hu⟩:=List.mem_flatMap.1 hu
 obtain ⟨A,c,e⟩:=(h x hx).row.sl
 unfold Za SR at hu
 rw [e] at hu
 simp only [List.mem_cons,List.not_mem_nil,or_false] at hu
 rcases hu with rfl | rfl | rfl | rfl | rfl | rfl <;> rfl
theorem KO (μ:PH)(v:Value)(t:List GV)(hv:Row μ v 6 t.length (t.flatMap Za))(h1:∀ x∈t,GRows μ x.2.1 x.2.2)(hl:t.length≤1048576):Spec prog 101 [v] [ro μ] (fun r L=>∃ A c,r=.slice A t.length c∧L=[own 141 6 (.slice A t.length c) t.length (t.flatMap Za),ro μ]):=by
 obtain ⟨A,cap,rfl⟩:=hv.sl
 refine Spec.of 8 func101 rfl rfl rfl ?_
 refine Ad (Au [0] rfl rfl (Aj (Ad (Ah rfl (Af (Et rfl rfl) (AI [0,4] rfl ?_))))))
 refine Aq rfl (fun h4=>?_) (fun h4=>?_)
 ·refine Ad (Au [2] rfl rfl (Av (AZ ?_)))
  have hA:A=none:=by cases A <;> simp_all
  subst hA
  have h0:t=[]:=by
   cases t with
   | nil=>rfl
   | cons x l=>obtain ⟨b,o,c,h,_⟩:=hv.pos (by simp); cases h
  subst h0
  exact B6 [own 141 6 (.slice none 0 0) 0 [],ro μ] (.tmp rfl .nil) ⟨none,0,rfl,rfl⟩ own_nil_ent
 ·refine Ar (Ai (Ad (AE (Bs (qs:=[]) rfl rfl rfl) (fun b5=>?_))))
  refine Ah rfl (C9 (Gw (n:=6)) ?_)
  refine AE (D9 hv rfl rfl AG (A03 h1) (by simp only [maxLen]; omega) AC) ?_
  rintro v7 -
  rw [Nat.zero_add,List.nil_append]
  refine E3 (fun m h=>CL h) fun ⟨A7,c7,hv7⟩=>?_
  subst hv7
  refine Au [2] rfl rfl (Av ?_)
  exact Aw [own 141 6 (.slice A7 t.length c7) t.length (t.flatMap Za),ro μ] (.tmp rfl .nil) ⟨A7,c7,rfl,rfl⟩ AG
theorem W1 (x:Lk)(b k:Nat)(A:AK)(K:List AK):Spec prog 105 [.agg (GN x).toArray,pv b] (A::B5 b 3 [.int .i64 (k:Nat)]::K) (fun r L=>r=.bool (decide (x.1=k))∧L=A::B5 b 3 [.int .i64 (k:Nat)]::K):=by
 refine Spec.of 8 func105 rfl rfl rfl ?_
 refine Ad (AE (Bp rfl rfl) (fun b2=>?_))
 refine Au [1,2] rfl rfl (Ad (Af (Ae rfl) (AM (Ak rfl rfl) (AM (Ak rfl rfl) (Af (Bo rfl rfl) (Au [3] rfl rfl (Av ?_)))))))
 refine Aw _ (.tmp rfl .nil) ⟨?_,rfl⟩ (Split.skip Split.all)
 show Value.bool _=Value.bool _
 congr 1
 exact decide_eq_decide.2 AC
theorem A14:(logN.size≤18∧Lib.hasPrefix logN.data.toList MN=false∧Lib.trimPrefix logN.data.toList MN=logN.data.toList∧Lib.atoi logN.data.toList=none)∧(chainN.size≤18∧Lib.hasPrefix chainN.data.toList MN=false∧Lib.trimPrefix chainN.data.toList MN=chainN.data.toList∧Lib.atoi chainN.data.toList=none):=⟨⟨by decide,by kernel_rfl,by kernel_rfl,by kernel_rfl⟩,⟨by decide,by kernel_rfl,by kernel_rfl,by kernel_rfl⟩⟩
theorem W2 (μ:PH)(hs:SynOk μ)(s:ByteArray)(h:s=logN∨s=chainN∨∃ k,k<14∧s=Cq k):Spec prog 103 [.string s] [ro μ] (fun r L=>∃ (k:Nat) (b:Bool),r=.tuple #[.int .i64 (k:Nat),.bool b]∧(∀ l,Ie l s=(b&&!(l.any fun y=>decide (y.1=k))))∧L=[ro μ]):=by
 obtain ⟨⟨a1,a2,a3,a4⟩,⟨b1,b2,b3,b4⟩⟩:=A14
 rcases h with rfl | rfl | ⟨k,hk,rfl⟩
 ·exact (U7 μ hs logN a1 a2 a3 a4).mono fun r L ⟨e1,e2⟩=>⟨0,false,e1,fun l=>Ig fun k hk e=>absurd e (E7 hk).1,e2⟩
 ·exact (U7 μ hs chainN b1 b2 b3 b4).mono fun r L ⟨e1,e2⟩=>⟨0,false,e1,fun l=>Ig fun k hk e=>absurd e (E7 hk).2.1,e2⟩
 ·refine ((Yi k AC).fr [ro μ]).mono fun r L ⟨L',⟨e1,e2⟩,e3⟩=>⟨k,true,e1,fun l=>?_,by rw [e3,e2]; rfl⟩
  unfold Ie
  rw [A01 AC]; rfl
set_option maxHeartbeats 8000000 in
theorem QZ (μ:PH)(hs:SynOk μ)(m c p q:Nat)(d:Dk)(l:List Lk)(V:List GV)(lv gv:Value)(hX:XD m c d l (HF V))(hI:IX μ lv gv l V)(hc:c<13)(hm:m≤40000)(l0:List Lk)(V0:List GV)(lv0 gv0:Value)(hI0:IX μ lv0 gv0 l0 V0)(h0:(l0=l∧V0=V)∨(l0=[]∧V0=[]))(hV0:V0.length=l0.length)(base:Nat)(rv:Value)(R:List (Value×GR))(hb:base=BK l0)(hg:GRows μ rv R)(hR:GsOk base (E0 R))(h1:1≤R.length)(hl0:l0.length≤7)(ht:BK l0+R.length≤65536)(x:Lk)(hx:x=(Cw l,R.length,Ji (Fv base (E0 R)))) :
  Spec prog 59 [pv p,lv0,gv0,.agg (SR base rv).toArray] [xB p q lv gv,FSA q d,ro μ] (fun r L=>∃ μ' lv' gv' d',Le μ μ'∧IX μ' lv' gv' (l0++[x]) (V0++[(base,rv,R)])∧XD (m+22) (c+1) d' (l0++[x]) (HF (V0++[(base,rv,R)]))∧Ec d' logN=Ec d logN∧r=.int .i64 0∧L=[xB p q lv' gv',FSA q d',ro μ']):=by
 have hnx:=hX.nx
 have hRl:(E0 R).length=R.length:=List.length_map _
 have hlk:LkOk (l0++[x]):=by
  rw [hx]
  rcases h0 with ⟨rfl,_⟩ | ⟨rfl,_⟩
  ·exact hX.lk.snoc hl0 (fun y hy=>MD hy) AC h1 ht (JA _)
  ·exact LkOk.none.snoc (by decide) (fun y hy=>(by cases hy)) AC h1 ht (JA _)
 have hxd:=A12 hX hc (l0:=l0) (G0:=HF V0) (by
  rcases h0 with ⟨h,k⟩ | ⟨h,k⟩
  ·exact .inl ⟨h,by rw [k]⟩
  ·exact .inr ⟨h,by rw [k]; rfl⟩) hb hR (x:=x) (by rw [hx,hRl]) hlk
 have hcap:(Fv base (E0 R)).length≤EI:=by have:=QT hR; simp only [EI]; omega
 have hlog:=A02 hX AC hnx hcap hlk
 obtain ⟨hdd,hlook⟩:=Ko hX AC hnx hcap hlk
 have hgn:=E7 (show Cw l<20 by omega)
 obtain ⟨_,_,_,_,a1,_⟩:=hX.dv.write Fx (tmp:=HE) (name:=Cq (Cw l)) (text:=Fv base (E0 R)) SZ (Yo AC) (by decide) (Fw AC).1 (Ne.symm hgn.2.2.2) hcap
 obtain ⟨_,_,_,_,b1,_⟩:=(a1 4).write Fx (tmp:=HC) (name:=chainN) (text:=Dp (l0++[x])) SY Yp (by decide) (by decide) (by decide) (Ho hlk)
 have hsy:=(b1 4).syncN.1
 have hsp:Spec prog 99 [pv q] [FSA q (PF (PF d HE (Fv base (E0 R)) (Cq (Cw l)) 4) HC (Dp (l0++[x])) chainN 4)] (fun r L=>r=.int .i64 0∧L=[FSA q (MS d (Cw l) (Fv base (E0 R)) (l0++[x]))]):=(MK q _ (b1 4).ok).mono fun r L ⟨e1,e2⟩=>⟨by rw [e1,hsy],e2⟩
 obtain ⟨Arv,crv,rfl⟩:=hg.row.sl
 have hnm:∀ s∈Cl (MS d (Cw l) (Fv base (E0 R)) (l0++[x])),s=logN∨s=chainN∨∃ k,k<14∧s=Cq k:=fun s hn=>by
  have hn:=(Hn hdd s).1 hn
  rw [hlook] at hn
  by_cases e1:s=chainN
  ·exact .inr (.inl e1)
  ·rw [if_neg e1] at hn
   by_cases e2:s=Cq (Cw l)
   ·exact .inr (.inr ⟨_,by omega,e2⟩)
   ·rw [if_neg e2] at hn
    split at hn
    ·exact absurd rfl hn
    ·exact hX.nm s hn
 have hdl:=MT hdd
 have hclean:=fun i hi=>(MR hdd (l0++[x]) i hi).1
 refine Spec.of 128 func59 rfl rfl rfl ?_
 refine Ad (AE (Bp rfl rfl) (fun b7=>?_))
 refine Au [0,1,2,7] rfl rfl (Ad (AM (BL (vs:=SR base (.slice Arv R.length crv)) rfl rfl rfl) ?_))
 refine AE (AF (VO μ base _ R hg hR) rfl rfl AG) ?_
 rintro v19 L1 ⟨μ1,k1,rfl,rfl⟩
 refine As (Ah rfl (Af (Ax rfl) (Af (Ax rfl) (B2 rfl (Au [0,1,2,7,9,10] rfl rfl (Aj (Ad (Ah rfl (Af (Bx rfl rfl) (AI [0,1,2,7,9,10,23] rfl (Dw rfl (Ar (Ai (Ad (Ah rfl (Af (Al rfl) (Af (Ae rfl) (AM (Ak rfl rfl) ?_))))))))))))))))))
 refine AE (AF (SK μ1 lv l (hI.lr.le k1) hX.lk) rfl rfl AG) ?_
 rintro v29 L1 ⟨rfl,rfl⟩
 refine As (Au [0,1,2,7,9,11] rfl rfl ?_)
 refine Co (fun env L=>∃ v,Sub env [(0,pv p),(1,v),(2,gv0),(7,pv b7),(9,.string (str (Fv base (E0 R)))),(11,.int .i64 (Cw l:Nat))]∧Ent L [own 161 3 v (l0.length+1) (l0.flatMap GN++GN x),B5 b7 141 (SR base (.slice Arv R.length crv)),xB p q lv gv,FSA q d,ro μ1]) ?_ ?_
 ·refine Bb [4] ([B5 b7 141 (SR base (.slice Arv R.length crv))]) ([ro μ1,xB p q lv gv,FSA q d]) (Split.ent AG) AP ?_
  refine AD 0 rfl (AH rfl) (AD 2 rfl (AH rfl) (AD 3 rfl (Ae rfl) (Bl 4 rfl (Ak rfl rfl) rfl (AD 5 rfl (AW hg.row rfl) (AD 6 rfl (AH rfl) ?_)))))
  refine HL [1,7] AP rfl ⟨?_,?_⟩
  ·refine FL 1 rfl GOn.none (AF (KN μ1 lv0 l0 (hI0.lr.le k1) AC) rfl rfl AG) ?_
   rintro v31 L1 ⟨A31,c31,rfl,rfl⟩
   refine ⟨_,BU (Split.ent AG),?_⟩
   refine CQ 7 rfl AP (Bs (qs:=[(0,_)]) rfl rfl rfl) fun b37=>?_
   refine ⟨_,Split.ent AG,?_⟩
   refine CQ 8 rfl AP (AF (GK b37 1 (str (Fv base (E0 R))) (by rw [Di]; simp only [EI] at hcap; omega)) rfl rfl AG) ?_
   rintro v38 L1 ⟨rfl,rfl⟩
   refine ⟨_,BU (Split.ent AG),?_⟩
   refine AD 9 rfl (Bz (qs:=[(0,_),(1,_),(2,_)]) rfl) (BX 10 rfl AP AP (Bs (qs:=[(0,_)]) rfl rfl rfl) (fun b40=>?_))
   refine LH 11 rfl AP AP (Bj (l:=l0.length) (m:=1) rfl rfl AG (by simp only [maxLen]; omega) AC) ?_
   rintro v41 -
   skip
   refine AD 12 rfl (Bf rfl) (BZ [0,1,2,7,9,11] rfl (Bv AP ?_))
   exact Ai ⟨v41,⟨rfl,rfl,rfl,rfl,rfl,rfl,trivial⟩,by rw [hx]; show Ent (own 161 3 v41 (l0.length+1) (l0.flatMap GN++GN (Cw l,R.length,Ji (Fv base (E0 R))))::_) _; exact Split.ent' AG⟩
  ·refine FL 7 rfl GOn.none (Bs (qs:=[(0,_)]) rfl rfl rfl) fun b37=>?_
   refine ⟨_,Split.ent AG,?_⟩
   refine CQ 1 rfl AP (AF (KN μ1 lv0 l0 (hI0.lr.le k1) AC) rfl rfl AG) ?_
   rintro v31 L1 ⟨A31,c31,rfl,rfl⟩
   refine ⟨_,BU (Split.ent AG),?_⟩
   refine CQ 8 rfl AP (AF (GK b37 1 (str (Fv base (E0 R))) (by rw [Di]; simp only [EI] at hcap; omega)) rfl rfl AG) ?_
   rintro v38 L1 ⟨rfl,rfl⟩
   refine ⟨_,BU (Split.ent AG),?_⟩
   refine AD 9 rfl (Bz (qs:=[(0,_),(1,_),(2,_)]) rfl) (BX 10 rfl AP AP (Bs (qs:=[(0,_)]) rfl rfl rfl) (fun b40=>?_))
   refine LH 11 rfl AP AP (Bj (l:=l0.length) (m:=1) rfl rfl AG (by simp only [maxLen]; omega) AC) ?_
   rintro v41 -
   skip
   refine AD 12 rfl (Bf rfl) (BZ [0,1,2,7,9,11] rfl (Bv AP ?_))
   exact Ai ⟨v41,⟨rfl,rfl,rfl,rfl,rfl,rfl,trivial⟩,by rw [hx]; show Ent (own 161 3 v41 (l0.length+1) (l0.flatMap GN++GN (Cw l,R.length,Ji (Fv base (E0 R))))::_) _; exact Split.ent' AG⟩
 rintro env L ⟨v41,hsub,hE⟩
 refine B7 _ hsub (AX hE ?_)
 clear hsub hE env L
 refine BA (v:=v41) (μ:=μ1) AG fun μ2 k2 hr2=>?_
 have hrow:Row μ2 v41 3 (l0++[x]).length ((l0++[x]).flatMap GN):=by rw [List.length_append,List.flatMap_append]; exact hr2
 clear hr2
 obtain ⟨A41,c41,rfl⟩:=hrow.sl
 refine Ad (Ah rfl ?_)
 refine AE (AF (SI μ2 (.slice A41 (l0++[x]).length c41) (l0++[x]) hrow hlk) rfl rfl AG) ?_
 rintro v44 L1 ⟨rfl,rfl⟩
 refine As (Ah rfl (Af (Ax rfl) (Af (Ax rfl) (B2 rfl (Au [0,1,2,7,9,10,11,12] rfl rfl (Aj (Ad (Ah rfl (Af (Bx rfl rfl) (AI [0,1,2,7,9,10,11,12,48] rfl (Dw rfl (Ar (Ai (Aj (Ad (Ah rfl (Ah rfl (Ah rfl ?_))))))))))))))))))
 refine AE (AF (MO (Cw l) AC) rfl rfl AG) ?_
 rintro v53 L1 ⟨rfl,rfl⟩
 refine As ?_
 refine AE (AF (QW NSw Fx m AC p q lv gv d hX.dv HE (Cq (Cw l)) (Fv base (E0 R)) SZ (Yo AC) (by decide) (Fw AC).1 (Ne.symm hgn.2.2.2) hcap) rfl rfl AG) ?_
 rintro v54 L1 ⟨rfl,rfl⟩
 refine As (Au [0,1,2,7,10,11,12] rfl rfl (Ad (Ah rfl (Af (Bo rfl rfl) (AI [0,1,2,7,10,11,12,56] rfl (Tv rfl (Ad (Ah rfl (Ah rfl ?_)))))))))
 refine AE (AF (QW NSw Fx _ AC p q lv gv _ (a1 4) HC chainN (Dp (l0++[x])) SY Yp (by decide) (by decide) (by decide) (Ho hlk)) rfl rfl AG) ?_
 rintro v59 L1 ⟨rfl,rfl⟩
 refine As (Au [0,1,2,7,10,11] rfl rfl (Ad (Ah rfl (Af (Bo rfl rfl) (AI [0,1,2,7,10,11,61] rfl (Tv rfl (Am (Ah rfl (Af (Al rfl) (Af (Ae rfl) (AM (Ak rfl rfl) ?_)))))))))))
 refine AE (AF hsp rfl rfl AG) ?_
 rintro v66 L1 ⟨rfl,rfl⟩
 refine As (Au [0,1,2,7,10,11] rfl rfl (Aj (Ad (Ah rfl (Af (Bx rfl rfl) (AI [0,1,2,7,10,11,68] rfl (Dw rfl (Ar (Ai ?_)))))))))
 refine Co (fun env L=>∃ v,Sub env [(0,pv p),(1,(.slice A41 (l0++[x]).length c41))]∧Ent L [own 141 6 v (V0.length+1) (V0.flatMap Za++SR base (.slice Arv R.length crv)),xB p q (.slice A41 (l0++[x]).length c41) v,FSA q (MS d (Cw l) (Fv base (E0 R)) (l0++[x])),ro μ2]) ?_ ?_
 ·refine Bb [5] ([B5 b7 141 (SR base (.slice Arv R.length crv))]) ([FSA q (MS d (Cw l) (Fv base (E0 R)) (l0++[x])),xB p q lv gv,ro μ2]) (Split.ent AG) AP ?_
  refine AD 0 rfl (AH rfl) (AD 1 rfl (AH rfl) (AD 2 rfl (AH rfl) (AD 3 rfl (AH rfl) (Bl 5 rfl (BL (vs:=SR base (.slice Arv R.length crv)) rfl rfl rfl) rfl ?_))))
  refine HL [4,6] AP rfl ⟨?_,?_⟩
  ·refine FL 4 rfl GOn.none (AF (KO μ2 gv0 V0 ((hI0.gr.le k1).le k2) (fun y hy=>((hI0.rs y hy).le k1).le k2) AC) rfl rfl AG) ?_
   rintro v91 L1 ⟨A91,c91,rfl,rfl⟩
   refine ⟨_,BU (Split.ent AG),?_⟩
   refine BX 6 rfl AP AP (Bs (qs:=[(0,_)]) rfl rfl rfl) fun b93=>?_
   refine LH 7 rfl AP AP (Bj (l:=V0.length) (m:=1) rfl rfl AG (by simp only [maxLen]; omega) AC) ?_
   rintro v94 -
   refine Ix (fun m h=>CL h) fun ⟨A94,c94,hv94⟩=>?_
   subst hv94
   refine AD 8 rfl (Al rfl) (AD 9 rfl (Ae rfl) (Cy 10 rfl AP AP (Ba rfl rfl rfl) (AD 11 rfl (Al rfl) (AD 12 rfl (Ae rfl) (Cy 13 rfl AP AP (Ba rfl rfl rfl) (BZ [0,1] rfl (Bv AP ?_)))))))
   exact Ai ⟨.slice A94 (V0.length+1) c94,⟨rfl,rfl,trivial⟩,Split.ent' AG⟩
  ·refine FL 6 rfl GOn.none (Bs (qs:=[(0,_)]) rfl rfl rfl) fun b93=>?_
   refine ⟨_,Split.ent AG,?_⟩
   refine CQ 4 rfl AP (AF (KO μ2 gv0 V0 ((hI0.gr.le k1).le k2) (fun y hy=>((hI0.rs y hy).le k1).le k2) AC) rfl rfl AG) ?_
   rintro v91 L1 ⟨A91,c91,rfl,rfl⟩
   refine ⟨_,BU (Split.ent AG),?_⟩
   refine BX 7 rfl AP AP (Bj (l:=V0.length) (m:=1) rfl rfl AG (by simp only [maxLen]; omega) AC) ?_
   rintro v94 -
   refine Ix (fun m h=>CL h) fun ⟨A94,c94,hv94⟩=>?_
   subst hv94
   refine AD 8 rfl (Al rfl) (AD 9 rfl (Ae rfl) (Cy 10 rfl AP AP (Ba rfl rfl rfl) (AD 11 rfl (Al rfl) (AD 12 rfl (Ae rfl) (Cy 13 rfl AP AP (Ba rfl rfl rfl) (BZ [0,1] rfl (Bv AP ?_)))))))
   exact Ai ⟨.slice A94 (V0.length+1) c94,⟨rfl,rfl,trivial⟩,Split.ent' AG⟩
 rintro env L ⟨v94,hsub,hE⟩
 refine B7 _ hsub (AX hE ?_)
 clear hsub hE env L
 refine BA (v:=v94) (μ:=μ2) AG fun μ3 k3 hr3=>?_
 have hrowG:Row μ3 v94 6 (V0++[(base,Value.slice Arv R.length crv,R)]).length ((V0++[(base,Value.slice Arv R.length crv,R)]).flatMap Za):=by rw [List.length_append,List.flatMap_append]; exact hr3
 clear hr3
 generalize hdg:MS d (Cw l) (Fv base (E0 R)) (l0++[x])=dd at *
 refine Aj (Ad (Ah rfl (Af (Al rfl) (Af (Ae rfl) (AM (Ak rfl rfl) ?_)))))
 refine AE (AF (SV q dd hdd.ok) rfl rfl AG) ?_
 rintro v103 L1 rfl
 refine As ?_
 refine C4 (v:=v103) (μ:=μ3) AG fun μ4 k4 hr4=>?_
 have k14:=(k1.trans k2).trans (k3.trans k4)
 refine Af (AW hr4 rfl) (Ah rfl (AI [0,1,103,104,105] rfl (AB ?_)))
 refine B4 (ι:=Nat) (fun i env L=>Sub env [(0,pv p),(1,(.slice A41 (l0++[x]).length c41)),(103,v103),(104,.int .i64 ((Cl dd).length:Nat)),(105,.int .i64 (i:Nat))]∧Ent L [xB p q (.slice A41 (l0++[x]).length c41) v94,FSA q (((Cl dd).take i).foldl (Ei (l0++[x])) dd),ro μ4]∧i≤(Cl dd).length) (fun i=>(Cl dd).length-i) 0 ⟨⟨rfl,rfl,rfl,rfl,rfl,trivial⟩,by show Ent _ [xB p q (.slice A41 (l0++[x]).length c41) v94,FSA q dd,ro μ4]; exact Split.ent' AG,Nat.zero_le _⟩ ?_
 rintro i env L ⟨hsub,hE,hi⟩
 refine B7 _ hsub (AX hE ?_)
 clear hsub hE env L
 have hcl:=hclean i hi
 refine Ad (Af (Be rfl rfl) (AI [0,1,103,104,105,106] rfl (Aj ?_)))
 refine Aq rfl (fun h106=>?_) (fun h106=>?_)
 ·have h106':i<(Cl dd).length:=by have:=of_decide_eq_true h106; omega
  obtain ⟨s,hsn⟩:∃ s,(Cl dd)[i]? = some s:=⟨_,List.getElem?_eq_getElem h106'⟩
  obtain ⟨gb,off,cap,hv,hra⟩:=QV hr4 hsn
  have hF:((Cl dd).take (i+1)).foldl (Ei (l0++[x])) dd=Ei (l0++[x]) (((Cl dd).take i).foldl (Ei (l0++[x])) dd) s:=by rw [Ca hsn,List.foldl_append]; rfl
  generalize ((Cl dd).take i).foldl (Ei (l0++[x])) dd=di at *
  refine Ar (Ai (Aj (AB (Ad ?_))))
  refine Af (AA (off+i*1) (congrArg some hv) rfl AC AC (by rw [Int.toNat_natCast])) ?_
  refine AM (BJ rfl hra) (Au [0,1,14,103,104,105] rfl rfl (Ad (Ah rfl ?_)))
  refine AE (AF (W2 μ4 (hs.le k14) s (hnm s (List.mem_of_getElem? hsn))) rfl rfl AG) ?_
  rintro v111 L1 ⟨k,bb,rfl,hlo,rfl⟩
  refine As (Ah rfl (Af (Ax rfl) (Af (Ax rfl) (AE (Bd) (fun b15=>?_)))))
  refine Bh (Ba rfl rfl rfl) (Au [0,1,14,15,16,103,104,105] rfl rfl (Ad (Ah rfl (Ah rfl ?_))))
  refine B9 115 rfl (fun h115=>?_) (fun h115=>?_)
  ·replace hlo:=hlo (l0++[x])
   rw [h115,Bool.true_and] at hlo
   refine AS rfl rfl (Ah rfl (AS rfl rfl (Af (Cr (vs:=[]) (us:=[_]) rfl rfl) (AS rfl rfl ?_))))
   refine AE (AF (QG μ4 (.slice A41 (l0++[x]).length c41) (l0++[x]) [B5 b15 3 [.int .i64 (k:Nat)]] 105 [] [pv b15] (fun y=>decide (y.1=k)) ((hrow.le k3).le k4) (fun y _=>W1 y b15 k (ro μ4) [])) rfl rfl AG) ?_
   rintro v118 L1 ⟨rfl,rfl⟩
   refine As (AS rfl rfl (Af (Cd rfl) (Af (Bc rfl rfl) (AI [0,1,14,103,104,105,120] rfl ?_))))
   refine Aq rfl (fun h120=>?_) (fun h120=>?_)
   ·rw [h120] at hlo
    refine Am (Ah rfl (Af (Al rfl) (Af (Ae rfl) (AM (Ak rfl rfl) (Ah rfl ?_)))))
    refine AE (AF (QL q di hcl.ok (hcl.few AC) s) rfl rfl AG) ?_
    rintro v126 L1 ⟨rfl,rfl⟩
    refine As (Bi [0,1,103,104,105] rfl (AJ (AV (Ai (Am (Af (AQ ((i+1:Nat):Int) rfl rfl AC AC AC) (Ah rfl (Bi [0,1,103,104,105] rfl (AJ ?_)))))))))
    refine Ai ⟨i+1,⟨⟨rfl,rfl,rfl,rfl,rfl,trivial⟩,?_,h106'⟩,by omega⟩
    rw [hF,Ei,if_pos hlo]
    exact Split.ent' AG
   ·refine Ar (AV (Ai (Am (Af (AQ ((i+1:Nat):Int) rfl rfl AC AC AC) (Ah rfl (Bi [0,1,103,104,105] rfl (AJ ?_)))))))
    refine Ai ⟨i+1,⟨⟨rfl,rfl,rfl,rfl,rfl,trivial⟩,?_,h106'⟩,by omega⟩
    rw [h120] at hlo
    rw [hF,Ei,if_neg (by rw [hlo]; decide)]
    exact Split.ent' AG
  ·replace hlo:=hlo (l0++[x])
   rw [h115,Bool.false_and] at hlo
   refine B1 rfl rfl rfl (B1 rfl rfl rfl (B1 rfl rfl rfl (B1 rfl rfl rfl (Af (B0 rfl rfl) (AI [0,1,14,103,104,105,120] rfl ?_)))))
   refine Aq rfl (fun h120=>by cases h120) (fun h120=>?_)
   refine Ar (AV (Ai (Am (Af (AQ ((i+1:Nat):Int) rfl rfl AC AC AC) (Ah rfl (Bi [0,1,103,104,105] rfl (AJ ?_)))))))
   refine Ai ⟨i+1,⟨⟨rfl,rfl,rfl,rfl,rfl,trivial⟩,?_,h106'⟩,by omega⟩
   rw [hF,Ei,if_neg (by rw [hlo]; decide)]
   exact Split.ent' AG
 ·have h106':=of_decide_eq_false h106
  obtain rfl:i=(Cl dd).length:=by omega
  rw [List.take_length,show (Cl dd).foldl (Ei (l0++[x])) dd=Ih (l0++[x]) dd from rfl]
  refine B3 (AU (AU (AY rfl (Ai (Ad (Au [8] rfl rfl (Av ?_)))))))
  refine Aw [xB p q (.slice A41 (l0++[x]).length c41) v94,FSA q (Ih (l0++[x]) dd),ro μ4] (.tmp rfl .nil) ⟨μ4,(.slice A41 (l0++[x]).length c41),v94,_,k14,⟨(hrow.le k3).le k4,hrowG.le k4,fun y hy=>?_⟩,?_,hlog,rfl,rfl⟩ AG
  ·rcases List.mem_append.1 hy with hy | hy
   ·exact (hI0.rs y hy).le k14
   ·rw [List.mem_singleton.1 hy]; exact hg.le k14
  ·unfold HF
   rw [List.map_append]
   exact hxd
structure PSt where
 d:Dk
 s:St2
 dead:Bool
def KZ (x:PSt)(e0:Int)(n:Nat)(f:Fm)(s':St2):PSt×Int×Int :=
 if x.dead=true then (x,0,8) else if e0≠0 then (x,0,e0) else if 65536≤n then (x,0,7) else
 if (writeD x.d f).2≠0 then (⟨(writeD x.d f).1,x.s,decide ((writeD x.d f).2=8)⟩,0,(writeD x.d f).2) else (⟨(writeD x.d f).1,s',false⟩,(n:Nat),0)
def addT (x:PSt)(t:List En):PSt×Int×Int:=KZ x (E1 t) x.s.1.length (1,Eo t) (x.s.1++[t],x.s.2)
def addC (x:PSt)(c:Cm):PSt×Int×Int:=KZ x (if D1 c≠0 then D1 c else if Hk x.s.1.length x.s.2.length c=false then 9 else 0) x.s.2.length (2,D2 c) (x.s.1,x.s.2++[c])
section
variable {x:PSt} {e0:Int} {n:Nat} {f:Fm} {s':St2}
theorem Ob (h:x.dead=true):KZ x e0 n f s'=(x,0,8):=by unfold KZ; rw [if_pos h]
theorem MU (h:x.dead=false)(h2:e0≠0):KZ x e0 n f s'=(x,0,e0):=by unfold KZ; rw [if_neg (by rw [h]; decide),if_pos h2]
theorem Oc (h:x.dead=false)(h2:e0=0)(h3:65536≤n):KZ x e0 n f s'=(x,0,7):=by unfold KZ; rw [if_neg (by rw [h]; decide),if_neg (not_not_intro h2),if_pos h3]
theorem U9 (h:x.dead=false)(h2:e0=0)(h3:n<65536)(h4:(writeD x.d f).2≠0):KZ x e0 n f s'=((⟨(writeD x.d f).1,x.s,decide ((writeD x.d f).2=8)⟩:PSt),(0:Int),(writeD x.d f).2):=by unfold KZ; rw [if_neg (by rw [h]; decide),if_neg (not_not_intro h2),if_neg AC,if_pos h4]
theorem Lq (h:x.dead=false)(h2:e0=0)(h3:n<65536)(h4:(writeD x.d f).2=0):KZ x e0 n f s'=((⟨(writeD x.d f).1,s',false⟩:PSt),((n:Nat):Int),(0:Int)):=by unfold KZ; rw [if_neg (by rw [h]; decide),if_neg (not_not_intro h2),if_neg AC,if_neg (not_not_intro h4)]
end
def A1N (μ:PH)(W:SW)(y:PSt×Int×Int)(r:Value)(W':SW)(μ':PH):Prop:=Le μ μ'∧W'.Ok μ'∧W'.q=W.q∧W'.pl=y.1.s∧W'.dead=y.1.dead∧r=.tuple #[.int .i64 y.2.1,.int .i64 y.2.2]
theorem Od {t:List En}(h:E1 t=0):t.length≤1024∧EE t=0:=by
 unfold E1 at h
 split at h
 ·cases h
 ·exact ⟨by omega,h⟩
theorem Yq {t:List En}(h:E1 t=0):(Eo t).length≤1048567:=by
 obtain ⟨h1,h2⟩:=Od h
 have:=Iw [] t fun e he=>(KG h2 e he).1
 unfold Eo
 rw [List.length_append,Bu]
 omega
theorem Yr {c:Cm}(h:D1 c=0):(D2 c).length≤1048567:=by
 obtain ⟨h1,_⟩:=K8 h
 unfold D2
 simp only [List.length_append,Bu,K9]
 omega
theorem SW.Ok.dead{μ:PH}{W:SW}(h:W.Ok μ)(b:Bool):SW.Ok μ { W with dead:=b}:=⟨h.tf,h.cf,h.tr,h.cr,h.tl,h.cl⟩
set_option maxHeartbeats 4000000 in
theorem Pv (μ:PH)(p:Nat)(W:SW)(hW:W.Ok μ)(d:Dk)(hd:d.Ok)(v:Value)(t:List En)(hv:Row μ v 2 t.length (Ci t))(hu:U32s t):Spec prog 53 [pv p,v] [FSA W.q d,CT p W,DY W,DJ W,ro μ]
  (fun r L=>∃ W' μ',A1N μ W (addT ⟨d,W.pl,W.dead⟩ t) r W' μ'∧L=[FSA W'.q (addT ⟨d,W.pl,W.dead⟩ t).1.d,CT p W',DY W',DJ W',ro μ']):=by
 have hW0:=hW
 obtain ⟨⟨A1,c1,e1⟩,⟨A2,c2,e2⟩,_,_,hT,hC⟩:=hW
 obtain ⟨q,tv,cv,T,C,dead⟩:=W
 dsimp only at e1 e2 hT hC
 subst e1 e2
 have hlen:(SW.pl ⟨q,.slice A1 T.length c1,.slice A2 C.length c2,T,C,dead⟩).1.length=T.length:=List.length_map _
 generalize hy:addT ⟨d,SW.pl ⟨q,.slice A1 T.length c1,.slice A2 C.length c2,T,C,dead⟩,dead⟩ t=y
 refine Spec.of 54 func53 rfl rfl rfl ?_
 refine Ad (B2 rfl (Au [0,1] rfl rfl (Aj (Ad (Ah rfl ?_)))))
 refine AE (AF (O8 p ⟨q,.slice A1 T.length c1,.slice A2 C.length c2,T,C,dead⟩) rfl rfl AG) ?_
 rintro v10 L1 ⟨rfl,rfl⟩
 refine As (Au [0,1,6] rfl rfl (Ad (Ah rfl (Af (Bx rfl rfl) (AI [0,1,6,12] rfl ?_)))))
 refine Aq rfl (fun h12=>?_) (fun h12=>?_)
 ·refine Ad (Ah rfl (B2 rfl (Au [4,5] rfl rfl (Av (AZ ?_)))))
  have hdd:dead=true:=by
   cases dead with
   | true=>rfl
   | false=>simp at h12
  have ha:(⟨d,SW.pl ⟨q,.slice A1 T.length c1,.slice A2 C.length c2,T,C,dead⟩,dead⟩,0,8)=y:=by rw [← hy]; exact (Ob (x:=⟨d,SW.pl ⟨q,.slice A1 T.length c1,.slice A2 C.length c2,T,C,dead⟩,dead⟩) hdd).symm
  subst ha
  exact Aw [FSA q d,CT p ⟨q,.slice A1 T.length c1,.slice A2 C.length c2,T,C,dead⟩,DY ⟨q,.slice A1 T.length c1,.slice A2 C.length c2,T,C,dead⟩,DJ ⟨q,.slice A1 T.length c1,.slice A2 C.length c2,T,C,dead⟩,ro μ] (.tmp rfl (.tmp rfl .nil)) ⟨⟨q,.slice A1 T.length c1,.slice A2 C.length c2,T,C,dead⟩,μ,⟨Le.refl _,hW0,rfl,rfl,rfl,by rw [if_pos hdd]; rfl⟩,rfl⟩ AG
 ·have hdd:dead=false:=by
   cases dead with
   | true=>simp at h12
   | false=>rfl
  refine Ar (Ai (Ad (Ah rfl ?_)))
  refine AE (AF (Vi μ v t hv hu) rfl rfl AG) ?_
  rintro v16 L1 ⟨rfl,rfl⟩
  refine As (Ah rfl (Af (Ax rfl) (Af (Ax rfl) (B2 rfl (Au [0,1,7,8] rfl rfl (Aj (Ad (Ah rfl (Af (Bo rfl rfl) (Ah rfl ?_))))))))))
  refine B9 21 rfl (fun h21=>?_) (fun h21=>?_)
  ·have h21':E1 t=0:=of_decide_eq_true h21
   obtain ⟨hl1,hl2⟩:=Od h21'
   have hev:Nk t=Eo t:=by unfold Nk; rw [if_pos h21']
   refine AS rfl rfl (Ah rfl (AS rfl rfl (Af (Al rfl) (AS rfl rfl (Af (Ae rfl) (AS rfl rfl (AM (Ak rfl rfl) (AS rfl rfl (Af (BD rfl) (AS rfl rfl (Af (Cs rfl rfl) (Af (Bc rfl rfl) (AI [0,1,7,8,28] rfl ?_)))))))))))))
   refine Aq rfl (fun h28=>?_) (fun h28=>?_)
   ·have h28':65536≤T.length:=by have:=of_decide_eq_true h28; omega
    refine Am (Au [0,1,7,8] rfl rfl (Aj (Ad (Ah rfl (Af (Bo rfl rfl) (AI [0,1,7,8,30] rfl ?_))))))
    refine Aq rfl (fun h30=>by cases h30) (fun h30=>?_)
    refine Ar (Ai (Aj (Ad (Ah rfl (Af (Bx rfl rfl) (AI [0,1,8,35] rfl ?_))))))
    refine Aq rfl (fun h35=>?_) (fun h35=>by cases h35)
    refine Ad (Ah rfl (B2 rfl (Au [4,5] rfl rfl (Av (AZ ?_)))))
    have ha:(⟨d,SW.pl ⟨q,.slice A1 T.length c1,.slice A2 C.length c2,T,C,dead⟩,dead⟩,0,7)=y:=by rw [← hy]; exact (Oc (x:=⟨d,SW.pl ⟨q,.slice A1 T.length c1,.slice A2 C.length c2,T,C,dead⟩,dead⟩) hdd h21' (by first | (show (SW.pl ⟨q,.slice A1 T.length c1,.slice A2 C.length c2,T,C,dead⟩).1.length<65536; rw [hlen]; exact h28') | (show 65536≤(SW.pl ⟨q,.slice A1 T.length c1,.slice A2 C.length c2,T,C,dead⟩).1.length; rw [hlen]; exact h28'))).symm
    subst ha
    exact Aw [FSA q d,CT p ⟨q,.slice A1 T.length c1,.slice A2 C.length c2,T,C,dead⟩,DY ⟨q,.slice A1 T.length c1,.slice A2 C.length c2,T,C,dead⟩,DJ ⟨q,.slice A1 T.length c1,.slice A2 C.length c2,T,C,dead⟩,ro μ] (.tmp rfl (.tmp rfl .nil)) ⟨⟨q,.slice A1 T.length c1,.slice A2 C.length c2,T,C,dead⟩,μ,⟨Le.refl _,hW0,rfl,rfl,rfl,rfl⟩,rfl⟩ AG
   ·have h28':T.length<65536:=by have:=of_decide_eq_false h28; omega
    refine Ar (Ai (Aj (Ad (Ah rfl (Af (Bo rfl rfl) (AI [0,1,7,8,30] rfl ?_))))))
    refine Aq rfl (fun h30=>?_) (fun h30=>by rw [h21'] at h30; cases h30)
    refine Am (Ah rfl (Ah rfl ?_))
    refine AE (AF (ML p ⟨q,.slice A1 T.length c1,.slice A2 C.length c2,T,C,dead⟩ d hd (1,Nk t) (by show 0<1; decide) (by show 1<256; decide) (by rw [hev]; exact Yq h21')) rfl rfl AG) ?_
    rintro v33 L1 ⟨rfl,rfl⟩
    rw [hev]
    refine As ?_
    dsimp only
    refine Au [0,1,8] rfl rfl (Aj (Ad (Ah rfl (Af (Bx rfl rfl) (AI [0,1,8,35] rfl ?_)))))
    refine Aq rfl (fun h35=>?_) (fun h35=>?_)
    ·refine Ad (Ah rfl (B2 rfl (Au [4,5] rfl rfl (Av (AZ ?_)))))
     have h35':(writeD d (1,Eo t)).2≠0:=by simpa using h35
     have ha:(⟨(writeD d (1,Eo t)).1,SW.pl ⟨q,.slice A1 T.length c1,.slice A2 C.length c2,T,C,dead⟩,decide ((writeD d (1,Eo t)).2=8)⟩,0,(writeD d (1,Eo t)).2)=y:=by rw [← hy]; exact (U9 (x:=⟨d,SW.pl ⟨q,.slice A1 T.length c1,.slice A2 C.length c2,T,C,dead⟩,dead⟩) hdd h21' (by first | (show (SW.pl ⟨q,.slice A1 T.length c1,.slice A2 C.length c2,T,C,dead⟩).1.length<65536; rw [hlen]; exact h28') | (show 65536≤(SW.pl ⟨q,.slice A1 T.length c1,.slice A2 C.length c2,T,C,dead⟩).1.length; rw [hlen]; exact h28')) h35').symm
     subst ha
     exact Aw [FSA q (writeD d (1,Eo t)).1,CT p ⟨q,.slice A1 T.length c1,.slice A2 C.length c2,T,C,decide ((writeD d (1,Eo t)).2=8)⟩,DY ⟨q,.slice A1 T.length c1,.slice A2 C.length c2,T,C,dead⟩,DJ ⟨q,.slice A1 T.length c1,.slice A2 C.length c2,T,C,dead⟩,ro μ] (.tmp rfl (.tmp rfl .nil)) ⟨⟨q,.slice A1 T.length c1,.slice A2 C.length c2,T,C,decide ((writeD d (1,Eo t)).2=8)⟩,μ,⟨Le.refl _,SW.Ok.dead hW0 _,rfl,rfl,rfl,rfl⟩,rfl⟩ AG
    ·have h35':(writeD d (1,Eo t)).2=0:=by simpa using h35
     have ha:(⟨(writeD d (1,Eo t)).1,((SW.pl ⟨q,.slice A1 T.length c1,.slice A2 C.length c2,T,C,dead⟩).1++[t],(SW.pl ⟨q,.slice A1 T.length c1,.slice A2 C.length c2,T,C,dead⟩).2),false⟩,((SW.pl ⟨q,.slice A1 T.length c1,.slice A2 C.length c2,T,C,dead⟩).1.length:Int),0)=y:=by rw [← hy]; exact (Lq (x:=⟨d,SW.pl ⟨q,.slice A1 T.length c1,.slice A2 C.length c2,T,C,dead⟩,dead⟩) hdd h21' (by first | (show (SW.pl ⟨q,.slice A1 T.length c1,.slice A2 C.length c2,T,C,dead⟩).1.length<65536; rw [hlen]; exact h28') | (show 65536≤(SW.pl ⟨q,.slice A1 T.length c1,.slice A2 C.length c2,T,C,dead⟩).1.length; rw [hlen]; exact h28')) h35').symm
     have hd8:decide ((writeD d (1,Eo t)).2=8)=false:=by rw [h35']; rfl
     rw [hd8]
     subst ha
     refine Ar (Ai (Aj ?_))
     refine Bb [4] ([CT p ⟨q,.slice A1 T.length c1,.slice A2 C.length c2,T,C,false⟩]) ([FSA q (writeD d (1,Eo t)).1,ro μ,DY ⟨q,.slice A1 T.length c1,.slice A2 C.length c2,T,C,dead⟩,DJ ⟨q,.slice A1 T.length c1,.slice A2 C.length c2,T,C,dead⟩]) (Split.ent AG) AP ?_
     refine AD 0 rfl (AH rfl) (AD 1 rfl (AH rfl) (AD 2 rfl (Al rfl) (AD 3 rfl (Ae rfl) (Bl 4 rfl (Ak rfl rfl) rfl (AD 5 rfl (AH rfl) ?_)))))
     refine CQ 6 rfl AP (AF (Ib μ v t hv AC) rfl rfl AG) ?_
     rintro v43 L1 ⟨A3,c3,rfl,rfl⟩
     refine ⟨_,BU (Split.ent AG),?_⟩
     refine CQ 7 rfl AP (Bs (qs:=[(0,_)]) rfl rfl rfl) fun b44=>?_
     refine ⟨_,Split.ent AG,?_⟩
     refine BX 8 rfl AP AP (Bj (l:=T.length) (m:=1) rfl rfl AG (by simp only [maxLen]; omega) AC) ?_
     rintro v45 -
     refine Ix (fun m h=>CL h) fun ⟨A45,c45,hv45⟩=>?_
     subst hv45
     refine AD 9 rfl (Al rfl) (AD 10 rfl (Ae rfl) (Cy 11 rfl AP AP (Ba rfl rfl rfl) (BZ [0] rfl (Bv AP (Ai (Aj ?_))))))
     refine BA (μ:=μ) (v:=.slice A3 t.length c3) (e:=111) (n:=2) AG fun μ' hle hrow=>?_
     refine Am (Ah rfl (Af (Al rfl) (Af (Ae rfl) (AM (Ak rfl rfl) (Af (BD rfl) (Af (BH ((T.length:Nat):Int) rfl rfl AC AC AC) (B2 rfl (Au [4,5] rfl rfl (Av ?_)))))))))
     refine Aw [FSA q (writeD d (1,Eo t)).1,CT p ⟨q,.slice A45 (T.length+1) c45,.slice A2 C.length c2,T++[(.slice A3 t.length c3,t)],C,false⟩,own 27 1 (.slice A45 (T.length+1) c45) (T.length+1) (T.flatMap Y2++[.slice A3 t.length c3]),DJ ⟨q,.slice A1 T.length c1,.slice A2 C.length c2,T,C,dead⟩,ro μ'] (.tmp rfl (.tmp rfl .nil)) ⟨⟨q,.slice A45 (T.length+1) c45,.slice A2 C.length c2,T++[(.slice A3 t.length c3,t)],C,false⟩,μ',⟨hle,SW.Ok.dead (Ok.addT hW0 hle hrow h28') false,rfl,?_,rfl,?_⟩,?_⟩ AG
     ·unfold SW.pl; rw [List.map_append]; rfl
     ·rw [hlen]; rfl
     ·simp only [DY,List.length_append,List.length_singleton,List.flatMap_append]; rfl
  ·have h21':E1 t≠0:=of_decide_eq_false h21
   refine B1 rfl rfl rfl (B1 rfl rfl rfl (B1 rfl rfl rfl (B1 rfl rfl rfl (B1 rfl rfl rfl (B1 rfl rfl rfl (Af (B0 rfl rfl) (AI [0,1,7,8,28] rfl ?_)))))))
   refine Aq rfl (fun h28=>by cases h28) (fun h28=>?_)
   refine Ar (Ai (Aj (Ad (Ah rfl (Af (Bo rfl rfl) (AI [0,1,7,8,30] rfl ?_))))))
   refine Aq rfl (fun h30=>by exact absurd (of_decide_eq_true h30) h21') (fun h30=>?_)
   refine Ar (Ai (Aj (Ad (Ah rfl (Af (Bx rfl rfl) (AI [0,1,8,35] rfl ?_))))))
   refine Aq rfl (fun h35=>?_) (fun h35=>by rw [decide_eq_false h21'] at h35; cases h35)
   refine Ad (Ah rfl (B2 rfl (Au [4,5] rfl rfl (Av (AZ ?_)))))
   have ha:(⟨d,SW.pl ⟨q,.slice A1 T.length c1,.slice A2 C.length c2,T,C,dead⟩,dead⟩,0,E1 t)=y:=by rw [← hy]; exact (MU (x:=⟨d,SW.pl ⟨q,.slice A1 T.length c1,.slice A2 C.length c2,T,C,dead⟩,dead⟩) hdd h21').symm
   subst ha
   exact Aw [FSA q d,CT p ⟨q,.slice A1 T.length c1,.slice A2 C.length c2,T,C,dead⟩,DY ⟨q,.slice A1 T.length c1,.slice A2 C.length c2,T,C,dead⟩,DJ ⟨q,.slice A1 T.length c1,.slice A2 C.length c2,T,C,dead⟩,ro μ] (.tmp rfl (.tmp rfl .nil)) ⟨⟨q,.slice A1 T.length c1,.slice A2 C.length c2,T,C,dead⟩,μ,⟨Le.refl _,hW0,rfl,rfl,rfl,rfl⟩,rfl⟩ AG
theorem Ua {c:Cm}(h:D1 c=0):Qo c=D2 c:=by unfold Qo; rw [if_pos h]
set_option maxHeartbeats 4000000 in
theorem MV (μ:PH)(p:Nat)(W:SW)(hW:W.Ok μ)(d:Dk)(hd:d.Ok)(v:Value)(c:Cm)(hv:Row μ v 1 c.1.length (c.1.flatMap (Bw .i64))):Spec prog 56 [pv p,cmV v c.2] [FSA W.q d,CT p W,DY W,DJ W,ro μ]
  (fun r L=>∃ W' μ',A1N μ W (addC ⟨d,W.pl,W.dead⟩ c) r W' μ'∧L=[FSA W'.q (addC ⟨d,W.pl,W.dead⟩ c).1.d,CT p W',DY W',DJ W',ro μ']):=by
 have hW0:=hW
 obtain ⟨⟨A1,c1,e1⟩,⟨A2,c2,e2⟩,_,_,hT,hC⟩:=hW
 obtain ⟨A5,c5,rfl⟩:=hv.sl
 obtain ⟨q,tv,cv,T,C,dead⟩:=W
 dsimp only at e1 e2 hT hC
 subst e1 e2
 have hlen:(SW.pl ⟨q,.slice A1 T.length c1,.slice A2 C.length c2,T,C,dead⟩).1.length=T.length:=List.length_map _
 have hlen2:(SW.pl ⟨q,.slice A1 T.length c1,.slice A2 C.length c2,T,C,dead⟩).2.length=C.length:=List.length_map _
 generalize hy:addC ⟨d,SW.pl ⟨q,.slice A1 T.length c1,.slice A2 C.length c2,T,C,dead⟩,dead⟩ c=y
 unfold addC at hy
 dsimp only at hy
 rw [hlen,hlen2] at hy
 refine Spec.of 61 func56 rfl rfl rfl ?_
 refine Ad (AE (Bp rfl rfl) (fun b3=>?_))
 refine B2 rfl (Au [0,3] rfl rfl (Aj (Ad (Ah rfl ?_))))
 refine AE (AF (O8 p ⟨q,.slice A1 T.length c1,.slice A2 C.length c2,T,C,dead⟩) rfl rfl AG) ?_
 rintro v10 L1 ⟨rfl,rfl⟩
 refine As (Au [0,3,6] rfl rfl (Ad (Ah rfl (Af (Bx rfl rfl) (AI [0,3,6,12] rfl ?_)))))
 refine Aq rfl (fun h12=>?_) (fun h12=>?_)
 ·refine Ad (Ah rfl (B2 rfl (Au [4,5] rfl rfl (Av (AZ ?_)))))
  have hdd:dead=true:=by
   cases dead with
   | true=>rfl
   | false=>simp at h12
  have ha:(⟨d,SW.pl ⟨q,.slice A1 T.length c1,.slice A2 C.length c2,T,C,dead⟩,dead⟩,0,8)=y:=by rw [← hy]; exact (Ob (x:=⟨d,SW.pl ⟨q,.slice A1 T.length c1,.slice A2 C.length c2,T,C,dead⟩,dead⟩) hdd).symm
  subst ha
  exact Aw [FSA q d,CT p ⟨q,.slice A1 T.length c1,.slice A2 C.length c2,T,C,dead⟩,DY ⟨q,.slice A1 T.length c1,.slice A2 C.length c2,T,C,dead⟩,DJ ⟨q,.slice A1 T.length c1,.slice A2 C.length c2,T,C,dead⟩,ro μ] (.tmp rfl (.tmp rfl .nil)) ⟨⟨q,.slice A1 T.length c1,.slice A2 C.length c2,T,C,dead⟩,μ,⟨Le.refl _,hW0,rfl,rfl,rfl,by rw [if_pos hdd]; rfl⟩,rfl⟩ AG
 ·have hdd:dead=false:=by
   cases dead with
   | true=>simp at h12
   | false=>rfl
  refine Ar (Ai (Ad (AM (Cn rfl rfl) ?_)))
  refine AE (AF (Vm μ (.slice A5 c.1.length c5) c hv) rfl rfl AG) ?_
  rintro v16 L1 ⟨rfl,rfl⟩
  refine As (Ah rfl (Af (Ax rfl) (Af (Ax rfl) (B2 rfl (Au [0,3,7,8] rfl rfl (Aj (AB (Ad (Ah rfl (Af (Bx rfl rfl) (Au [0,3,7,8,22] rfl rfl ?_)))))))))))
  refine Aq rfl (fun h22=>?_) (fun h22=>?_)
  ·have h22':D1 c≠0:=by simpa using h22
   rw [if_pos h22'] at hy
   refine Ar (AV (Ai (Aj (Ad (Ah rfl (Af (Bx rfl rfl) (AI [0,3,8,38] rfl ?_)))))))
   refine Aq rfl (fun h38=>?_) (fun h38=>by rw [decide_eq_false h22'] at h38; cases h38)
   refine Ad (Ah rfl (B2 rfl (Au [4,5] rfl rfl (Av (AZ ?_)))))
   have ha:(⟨d,SW.pl ⟨q,.slice A1 T.length c1,.slice A2 C.length c2,T,C,dead⟩,dead⟩,0,D1 c)=y:=by rw [← hy]; exact (MU (x:=⟨d,SW.pl ⟨q,.slice A1 T.length c1,.slice A2 C.length c2,T,C,dead⟩,dead⟩) hdd h22').symm
   subst ha
   exact Aw [FSA q d,CT p ⟨q,.slice A1 T.length c1,.slice A2 C.length c2,T,C,dead⟩,DY ⟨q,.slice A1 T.length c1,.slice A2 C.length c2,T,C,dead⟩,DJ ⟨q,.slice A1 T.length c1,.slice A2 C.length c2,T,C,dead⟩,ro μ] (.tmp rfl (.tmp rfl .nil)) ⟨⟨q,.slice A1 T.length c1,.slice A2 C.length c2,T,C,dead⟩,μ,⟨Le.refl _,hW0,rfl,rfl,rfl,rfl⟩,rfl⟩ AG
  ·have h22':D1 c=0:=by simpa using h22
   rw [if_neg (not_not_intro h22')] at hy
   refine Ad (Ah rfl (AM (Cn rfl rfl) ?_))
   refine AE (AF (SF μ p ⟨q,.slice A1 T.length c1,.slice A2 C.length c2,T,C,dead⟩ hW0 (.slice A5 c.1.length c5) c hv) rfl rfl AG) ?_
   rintro v28 L1 ⟨rfl,rfl⟩
   refine As (Af (Cd rfl) (Au [0,3,7,25] rfl rfl ?_))
   refine Aq rfl (fun h25=>?_) (fun h25=>?_)
   ·have h25':Hk T.length C.length c=false:=by simpa using h25
    rw [if_pos h25'] at hy
    refine Am (B2 rfl (Bi [0,3,8] rfl (AJ (AV (Ai (Aj (Ad (Ah rfl (Af (Bx rfl rfl) (AI [0,3,8,38] rfl ?_))))))))))
    refine Aq rfl (fun h38=>?_) (fun h38=>by cases h38)
    refine Ad (Ah rfl (B2 rfl (Au [4,5] rfl rfl (Av (AZ ?_)))))
    have ha:(⟨d,SW.pl ⟨q,.slice A1 T.length c1,.slice A2 C.length c2,T,C,dead⟩,dead⟩,0,9)=y:=by rw [← hy]; exact (MU (x:=⟨d,SW.pl ⟨q,.slice A1 T.length c1,.slice A2 C.length c2,T,C,dead⟩,dead⟩) hdd (by decide)).symm
    subst ha
    exact Aw [FSA q d,CT p ⟨q,.slice A1 T.length c1,.slice A2 C.length c2,T,C,dead⟩,DY ⟨q,.slice A1 T.length c1,.slice A2 C.length c2,T,C,dead⟩,DJ ⟨q,.slice A1 T.length c1,.slice A2 C.length c2,T,C,dead⟩,ro μ] (.tmp rfl (.tmp rfl .nil)) ⟨⟨q,.slice A1 T.length c1,.slice A2 C.length c2,T,C,dead⟩,μ,⟨Le.refl _,hW0,rfl,rfl,rfl,rfl⟩,rfl⟩ AG
   ·have h25':Hk T.length C.length c=true:=by simpa using h25
    rw [if_neg (by rw [h25']; decide)] at hy
    refine Ad (Ah rfl (Af (Al rfl) (Af (Ae rfl) (AM (Ak rfl rfl) (Af (BD rfl) (Af (Cs rfl rfl) (Au [0,3,7,30] rfl rfl ?_)))))))
    refine Aq rfl (fun h30=>?_) (fun h30=>?_)
    ·have h30':65536≤C.length:=by have:=of_decide_eq_true h30; omega
     refine Am (B2 rfl (Bi [0,3,8] rfl (AJ (AV (Ai (Aj (Ad (Ah rfl (Af (Bx rfl rfl) (AI [0,3,8,38] rfl ?_))))))))))
     refine Aq rfl (fun h38=>?_) (fun h38=>by cases h38)
     refine Ad (Ah rfl (B2 rfl (Au [4,5] rfl rfl (Av (AZ ?_)))))
     have ha:(⟨d,SW.pl ⟨q,.slice A1 T.length c1,.slice A2 C.length c2,T,C,dead⟩,dead⟩,0,7)=y:=by rw [← hy]; exact (Oc (x:=⟨d,SW.pl ⟨q,.slice A1 T.length c1,.slice A2 C.length c2,T,C,dead⟩,dead⟩) hdd rfl h30').symm
     subst ha
     exact Aw [FSA q d,CT p ⟨q,.slice A1 T.length c1,.slice A2 C.length c2,T,C,dead⟩,DY ⟨q,.slice A1 T.length c1,.slice A2 C.length c2,T,C,dead⟩,DJ ⟨q,.slice A1 T.length c1,.slice A2 C.length c2,T,C,dead⟩,ro μ] (.tmp rfl (.tmp rfl .nil)) ⟨⟨q,.slice A1 T.length c1,.slice A2 C.length c2,T,C,dead⟩,μ,⟨Le.refl _,hW0,rfl,rfl,rfl,rfl⟩,rfl⟩ AG
    ·have h30':C.length<65536:=by have:=of_decide_eq_false h30; omega
     have hbl:=(K8 h22').1
     refine Am (Ah rfl (Ah rfl ?_))
     refine AE (AF (ML p ⟨q,.slice A1 T.length c1,.slice A2 C.length c2,T,C,dead⟩ d hd (2,Qo c) (by show 0<2; decide) (by show 2<256; decide) (by rw [Ua h22']; exact Yr h22')) rfl rfl AG) ?_
     rintro v21 L1 ⟨rfl,rfl⟩
     rw [Ua h22']
     refine As ?_
     dsimp only
     refine B2 rfl (Bi [0,3,8] rfl (AJ (AV (Ai (Aj (Ad (Ah rfl (Af (Bx rfl rfl) (AI [0,3,8,38] rfl ?_)))))))))
     refine Aq rfl (fun h38=>?_) (fun h38=>?_)
     ·refine Ad (Ah rfl (B2 rfl (Au [4,5] rfl rfl (Av (AZ ?_)))))
      have h38':(writeD d (2,D2 c)).2≠0:=by simpa using h38
      have ha:(⟨(writeD d (2,D2 c)).1,SW.pl ⟨q,.slice A1 T.length c1,.slice A2 C.length c2,T,C,dead⟩,decide ((writeD d (2,D2 c)).2=8)⟩,0,(writeD d (2,D2 c)).2)=y:=by rw [← hy]; exact (U9 (x:=⟨d,SW.pl ⟨q,.slice A1 T.length c1,.slice A2 C.length c2,T,C,dead⟩,dead⟩) hdd rfl h30' h38').symm
      subst ha
      exact Aw [FSA q (writeD d (2,D2 c)).1,CT p ⟨q,.slice A1 T.length c1,.slice A2 C.length c2,T,C,decide ((writeD d (2,D2 c)).2=8)⟩,DY ⟨q,.slice A1 T.length c1,.slice A2 C.length c2,T,C,dead⟩,DJ ⟨q,.slice A1 T.length c1,.slice A2 C.length c2,T,C,dead⟩,ro μ] (.tmp rfl (.tmp rfl .nil)) ⟨⟨q,.slice A1 T.length c1,.slice A2 C.length c2,T,C,decide ((writeD d (2,D2 c)).2=8)⟩,μ,⟨Le.refl _,SW.Ok.dead hW0 _,rfl,rfl,rfl,rfl⟩,rfl⟩ AG
     ·have h38':(writeD d (2,D2 c)).2=0:=by simpa using h38
      have ha:(⟨(writeD d (2,D2 c)).1,((SW.pl ⟨q,.slice A1 T.length c1,.slice A2 C.length c2,T,C,dead⟩).1,(SW.pl ⟨q,.slice A1 T.length c1,.slice A2 C.length c2,T,C,dead⟩).2++[c]),false⟩,((C.length:Nat):Int),0)=y:=by rw [← hy]; exact (Lq (x:=⟨d,SW.pl ⟨q,.slice A1 T.length c1,.slice A2 C.length c2,T,C,dead⟩,dead⟩) hdd rfl h30' h38').symm
      have hd8:decide ((writeD d (2,D2 c)).2=8)=false:=by rw [h38']; rfl
      rw [hd8]
      subst ha
      refine Ar (Ai (Aj ?_))
      refine Bb [4,6,9] ([CT p ⟨q,.slice A1 T.length c1,.slice A2 C.length c2,T,C,false⟩,B5 b3 88 [.slice A5 c.1.length c5,.int .i64 c.2]]) ([FSA q (writeD d (2,D2 c)).1,ro μ,DY ⟨q,.slice A1 T.length c1,.slice A2 C.length c2,T,C,dead⟩,DJ ⟨q,.slice A1 T.length c1,.slice A2 C.length c2,T,C,dead⟩]) (Split.ent AG) AP ?_
      refine AD 0 rfl (AH rfl) (AD 1 rfl (AH rfl) (AD 2 rfl (Al rfl) (AD 3 rfl (Ae rfl) (Bl 4 rfl (Ak rfl rfl) rfl (AD 5 rfl (Ae rfl) (Bl 6 rfl (Ak rfl rfl) rfl (AD 8 rfl (Ae rfl) (Bl 9 rfl (Ak rfl rfl) rfl ?_))))))))
      refine CQ 7 rfl AP (AF (Fb μ (.slice A5 c.1.length c5) c.1 hv AC) rfl rfl AG) ?_
      rintro v47 L1 ⟨A3,c3,rfl,rfl⟩
      refine ⟨_,BU (Split.ent AG),?_⟩
      refine AD 10 rfl (Bz (qs:=[(0,_),(1,_)]) rfl) (CQ 11 rfl AP (Bs (qs:=[(0,_)]) rfl rfl rfl) (fun b51=>?_))
      refine ⟨_,Split.ent AG,?_⟩
      refine BX 12 rfl AP AP (Bj (l:=C.length) (m:=1) rfl rfl AG (by simp only [maxLen]; omega) AC) ?_
      rintro v52 -
      refine Ix (fun m h=>CL h) fun ⟨A45,c45,hv45⟩=>?_
      subst hv45
      refine AD 13 rfl (Al rfl) (AD 14 rfl (Ae rfl) (Cy 15 rfl AP AP (Ba rfl rfl rfl) (BZ [0] rfl (Bv AP (Ai (Aj ?_))))))
      refine BA (μ:=μ) (v:=.slice A3 c.1.length c3) (e:=3) (n:=1) AG fun μ' hle hrow=>?_
      refine Am (Ah rfl (Af (Al rfl) (Af (Ae rfl) (AM (Ak rfl rfl) (Af (BD rfl) (Af (BH ((C.length:Nat):Int) rfl rfl AC AC AC) (B2 rfl (Au [4,5] rfl rfl (Av ?_)))))))))
      refine Aw [FSA q (writeD d (2,D2 c)).1,CT p ⟨q,.slice A1 T.length c1,.slice A45 (C.length+1) c45,T,C++[(.slice A3 c.1.length c3,c)],false⟩,DY ⟨q,.slice A1 T.length c1,.slice A2 C.length c2,T,C,dead⟩,own 88 2 (.slice A45 (C.length+1) c45) (C.length+1) (C.flatMap Z8++[.slice A3 c.1.length c3,.int .i64 c.2]),ro μ'] (.tmp rfl (.tmp rfl .nil)) ⟨⟨q,.slice A1 T.length c1,.slice A45 (C.length+1) c45,T,C++[(.slice A3 c.1.length c3,c)],false⟩,μ',⟨hle,SW.Ok.dead (Ok.addC hW0 hle hrow h30') false,rfl,?_,rfl,rfl⟩,?_⟩ AG
      ·unfold SW.pl; rw [List.map_append]; rfl
      ·simp only [DJ,List.length_append,List.length_singleton,List.flatMap_append]; rfl
def FV (ts:List (List En))(n:Int):List En×Int:=if 0≤n then match ts[n.toNat]? with | some t=>(t,0) | none=>([],9) else ([],9)
def J2 (cs:List Cm)(n:Int):Cm×Int:=if 0≤n then match cs[n.toNat]? with | some c=>(c,0) | none=>(([],0),9) else (([],0),9)
theorem Oe {ts:List (List En)}{n:Int}(h:n<0∨(ts.length:Int)≤n):FV ts n=([],9):=by
 unfold FV
 split
 ·rw [List.getElem?_eq_none AC]
 ·rfl
theorem R0 {cs:List Cm}{n:Int}(h:n<0∨(cs.length:Int)≤n):J2 cs n=(([],0),9):=by
 unfold J2
 split
 ·rw [List.getElem?_eq_none AC]
 ·rfl
theorem GX {ts:List (List En)}{k:Nat}{t:List En}(h:ts[k]? = some t):FV ts (k:Nat)=(t,0):=by
 unfold FV
 rw [if_pos (Int.natCast_nonneg k),Int.toNat_natCast,h]
theorem JM {cs:List Cm}{k:Nat}{c:Cm}(h:cs[k]? = some c):J2 cs (k:Nat)=(c,0):=by
 unfold J2
 rw [if_pos (Int.natCast_nonneg k),Int.toNat_natCast,h]
theorem FG (p:Nat)(W:SW)(μ:PH)(hW:W.Ok μ):Spec prog 43 [pv p] [CT p W] (fun r L=>r=.int .i64 (W.C.length:Nat)∧L=[CT p W]):=by
 obtain ⟨⟨A1,c1,e1⟩,⟨A2,c2,e2⟩,_,_,hT,hC⟩:=hW
 obtain ⟨q,tv,cv,T,C,dead⟩:=W
 dsimp only at e1 e2 hT hC
 subst e1 e2
 refine Spec.of 10 func43 rfl rfl rfl ?_
 refine Ad (Au [0] rfl rfl (Aj (Ad (Ah rfl (Af (Bm rfl rfl) (AI [0,4] rfl (Dw rfl (Ar (Ai (Ad (Ah rfl (Af (Al rfl) (Af (Ae rfl) (AM (Ak rfl rfl) (Af (BD rfl) (Au [2] rfl rfl (Av ?_)))))))))))))))))
 exact Aw [CT p ⟨q,.slice A1 T.length c1,.slice A2 C.length c2,T,C,dead⟩] (.tmp rfl .nil) ⟨rfl,rfl⟩ AG
theorem A04{T:List (Value×List En)}{k:Nat}{x:Value×List En}(h:T[k]? = some x):(T.flatMap Y2)[k*1]? = some x.1:=by
 have:=Cz (f:=Y2) (k:=1) (fun x=>(rfl:(Y2 x).length=1)) T [] k x h 0 x.1 rfl
 rwa [List.append_nil,Nat.add_zero] at this
theorem A05{C:List (Value×Cm)}{k:Nat}{x:Value×Cm}(h:C[k]? = some x):(C.flatMap Z8)[k*2]? = some x.1∧(C.flatMap Z8)[k*2+1]? = some (.int .i64 x.2.2):=by
 have h0:=Cz (f:=Z8) (k:=2) (fun x=>(rfl:(Z8 x).length=2)) C [] k x h 0 x.1 rfl
 have h1:=Cz (f:=Z8) (k:=2) (fun x=>(rfl:(Z8 x).length=2)) C [] k x h 1 (.int .i64 x.2.2) rfl
 rw [List.append_nil] at h0 h1
 exact ⟨h0,h1⟩
set_option maxHeartbeats 2000000 in
theorem Of (p:Nat)(W:SW)(μ:PH)(hW:W.Ok μ)(hlt:∀ x∈W.T,x.2.length≤1048576)(n:Int):Spec prog 226 [pv p,.int .i64 n] [CT p W,DY W,ro μ] (fun r L=>∃ A c,r=.tuple #[.slice A (FV W.pl.1 n).1.length c,.int .i64 (FV W.pl.1 n).2]∧L=[own 111 2 (.slice A (FV W.pl.1 n).1.length c) (FV W.pl.1 n).1.length (Ci (FV W.pl.1 n).1),CT p W,DY W,ro μ]):=by
 have hW0:=hW
 obtain ⟨⟨A1,c1,e1⟩,⟨A2,c2,e2⟩,htr,hcr,hT,hC⟩:=hW
 obtain ⟨q,tv,cv,T,C,dead⟩:=W
 dsimp only at e1 e2 htr hcr hT hC hlt
 subst e1 e2
 have hlen:(SW.pl ⟨q,.slice A1 T.length c1,.slice A2 C.length c2,T,C,dead⟩).1.length=T.length:=List.length_map _
 refine Spec.of 29 func226 rfl rfl rfl ?_
 refine Ad (B2 rfl (Au [0,1] rfl rfl (Aj (AB (Ad (Ah rfl (Af (Bm rfl rfl) (Au [0,1,6] rfl rfl (Dw rfl (Ad (Ah rfl (Af (Be rfl rfl) (Ah rfl ?_)))))))))))))
 refine B9 12 rfl (fun h12=>?_) (fun h12=>?_)
 ·have h12':n<0:=of_decide_eq_true h12
  rw [Oe (.inl h12')]
  refine B1 rfl rfl rfl (B1 rfl rfl rfl (B1 rfl rfl rfl (B1 rfl rfl rfl (B1 rfl rfl rfl (B1 rfl rfl rfl (B1 rfl rfl rfl (Af (Bc rfl rfl) (Au [0,1,9] rfl rfl ?_))))))))
  refine Aq rfl (fun h9=>?_) (fun h9=>by cases h9)
  refine Ad (B2 rfl (Au [4,5] rfl rfl (Av (Bg (AZ ?_)))))
  exact B6 [own 111 2 (.slice none 0 0) 0 [],CT p ⟨q,.slice A1 T.length c1,.slice A2 C.length c2,T,C,dead⟩,DY ⟨q,.slice A1 T.length c1,.slice A2 C.length c2,T,C,dead⟩,ro μ] (.tmp rfl (.tmp rfl .nil)) ⟨none,0,rfl,rfl⟩ own_nil_ent
 ·have h12':0≤n:=by have:=of_decide_eq_false h12; omega
  refine AS rfl rfl (Ah rfl (AS rfl rfl (Ah rfl (AS rfl rfl (Af (Al rfl) (AS rfl rfl (Af (Ae rfl) (AS rfl rfl (AM (Ak rfl rfl) (AS rfl rfl (Af (BD rfl) (AS rfl rfl (Af (Cs rfl rfl) (Af (B0 rfl rfl) (Au [0,1,9] rfl rfl ?_)))))))))))))))
  refine Aq rfl (fun h9=>?_) (fun h9=>?_)
  ·refine Ad (B2 rfl (Au [4,5] rfl rfl (Av (Bg (AZ ?_)))))
   have h9':(T.length:Int)≤n:=of_decide_eq_true h9
   rw [Oe (.inr (by rw [hlen]; exact h9'))]
   exact B6 [own 111 2 (.slice none 0 0) 0 [],CT p ⟨q,.slice A1 T.length c1,.slice A2 C.length c2,T,C,dead⟩,DY ⟨q,.slice A1 T.length c1,.slice A2 C.length c2,T,C,dead⟩,ro μ] (.tmp rfl (.tmp rfl .nil)) ⟨none,0,rfl,rfl⟩ own_nil_ent
  ·have h9':¬ (T.length:Int)≤n:=of_decide_eq_false h9
   obtain ⟨k,rfl⟩:∃ k:Nat,n=(k:Int):=⟨n.toNat,by omega⟩
   have hk:k<T.length:=by omega
   obtain ⟨x,hx⟩:∃ x,T[k]? = some x:=⟨_,List.getElem?_eq_getElem hk⟩
   have hxt:(SW.pl ⟨q,.slice A1 T.length c1,.slice A2 C.length c2,T,C,dead⟩).1[k]? = some x.2:=by show (T.map (·.2))[k]? = _; rw [List.getElem?_map,hx]; rfl
   rw [GX hxt]
   have hxm:=List.mem_of_getElem? hx
   have hxr:=htr x hxm
   refine Er (fun m h=>K2 (e:=27) (n:=1) (v:=.slice A1 T.length c1) (l:=T.length) (xs:=T.flatMap Y2) JU h) fun hs=>?_
   obtain ⟨b,rfl⟩:∃ b,A1=some ⟨b,0,none⟩:=by
    rcases hs with ⟨_,h⟩ | ⟨b,cap,h,_⟩
    ·omega
    ·injection h with h1; exact ⟨b,h1⟩
   refine Ar (AV (Ai (Ad (Ah rfl (Af (Al rfl) (Af (Ae rfl) (AM (Ak rfl rfl) (Ah rfl ?_))))))))
   refine Af (AA (0+k*1) rfl rfl AC AC (by rw [Int.toNat_natCast])) ?_
   refine AM (CX rfl (by rw [Nat.zero_add]; exact Zs (e:=27) (n:=1) JU (A04 hx))) ?_
   refine AE (AF (Ib μ x.1 x.2 hxr (hlt x hxm)) rfl rfl AG) ?_
   rintro v28 L1 ⟨A3,c3,rfl,rfl⟩
   refine As (B2 rfl (Au [4,5] rfl rfl (Av ?_)))
   exact Aw [own 111 2 (.slice A3 x.2.length c3) x.2.length (Ci x.2),CT p ⟨q,.slice (some ⟨b,0,none⟩) T.length c1,.slice A2 C.length c2,T,C,dead⟩,DY ⟨q,.slice (some ⟨b,0,none⟩) T.length c1,.slice A2 C.length c2,T,C,dead⟩,ro μ] (.tmp rfl (.tmp rfl .nil)) ⟨A3,c3,rfl,rfl⟩ AG
theorem A06{C:List (Value×Cm)}{k:Nat}{x:Value×Cm}(h:C[k]? = some x):∀ j v,[x.1,.int .i64 x.2.2][j]? = some v→(C.flatMap Z8)[0+k*2+j]? = some v:=fun j v hv=>by
 obtain ⟨h0,h1⟩:=A05 h
 rw [Nat.zero_add]
 match j,hv with
 | 0,hv=>cases hv; exact h0
 | 1,hv=>cases hv; exact h1
 | j+2,hv=>cases hv
set_option maxHeartbeats 2000000 in
theorem Ii (p:Nat)(W:SW)(μ:PH)(hW:W.Ok μ)(hlt:∀ x∈W.C,x.2.1.length≤1048576)(n:Int):Spec prog 297 [pv p,.int .i64 n] [CT p W,DJ W,ro μ] (fun r L=>∃ A c,r=.tuple #[cmV (.slice A (J2 W.pl.2 n).1.1.length c) (J2 W.pl.2 n).1.2,.int .i64 (J2 W.pl.2 n).2]∧L=[own 3 1 (.slice A (J2 W.pl.2 n).1.1.length c) (J2 W.pl.2 n).1.1.length ((J2 W.pl.2 n).1.1.flatMap (Bw .i64)),CT p W,DJ W,ro μ]):=by
 have hW0:=hW
 obtain ⟨⟨A1,c1,e1⟩,⟨A2,c2,e2⟩,htr,hcr,hT,hC⟩:=hW
 obtain ⟨q,tv,cv,T,C,dead⟩:=W
 dsimp only at e1 e2 htr hcr hT hC hlt
 subst e1 e2
 have hlen:(SW.pl ⟨q,.slice A1 T.length c1,.slice A2 C.length c2,T,C,dead⟩).2.length=C.length:=List.length_map _
 refine Spec.of 37 func297 rfl rfl rfl ?_
 refine Ad (AE (Bd) (fun b4=>?_))
 refine Au [0,1,4] rfl rfl (Aj (AB (Ad (Ah rfl (Af (Bm rfl rfl) (Au [0,1,4,7] rfl rfl (Dw rfl (Ad (Ah rfl (Af (Be rfl rfl) (Ah rfl ?_)))))))))))
 refine B9 14 rfl (fun h14=>?_) (fun h14=>?_)
 ·have h12':n<0:=of_decide_eq_true h14
  rw [R0 (.inl h12')]
  refine B1 rfl rfl rfl (B1 rfl rfl rfl (B1 rfl rfl rfl (B1 rfl rfl rfl (B1 rfl rfl rfl (B1 rfl rfl rfl (B1 rfl rfl rfl (Af (Bc rfl rfl) (Au [0,1,4,11] rfl rfl ?_))))))))
  refine Aq rfl (fun h11=>?_) (fun h11=>by cases h11)
  refine Ad (Af (Bz (qs:=[]) rfl) (Bh (B8 rfl rfl rfl rfl) (Au [4,5] rfl rfl (Av (Bg (AZ ?_))))))
  exact B6 [own 3 1 (.slice none 0 0) 0 [],CT p ⟨q,.slice A1 T.length c1,.slice A2 C.length c2,T,C,dead⟩,DJ ⟨q,.slice A1 T.length c1,.slice A2 C.length c2,T,C,dead⟩,ro μ] (.cell rfl (BT rfl) (.tmp rfl .nil)) ⟨none,0,rfl,rfl⟩ ((Split.ent' (K:=[CT p ⟨q,.slice A1 T.length c1,.slice A2 C.length c2,T,C,dead⟩,DJ ⟨q,.slice A1 T.length c1,.slice A2 C.length c2,T,C,dead⟩,ro μ]) AG).trans own_nil_ent)
 ·have h12':0≤n:=by have:=of_decide_eq_false h14; omega
  refine AS rfl rfl (Ah rfl (AS rfl rfl (Ah rfl (AS rfl rfl (Af (Al rfl) (AS rfl rfl (Af (Ae rfl) (AS rfl rfl (AM (Ak rfl rfl) (AS rfl rfl (Af (BD rfl) (AS rfl rfl (Af (Cs rfl rfl) (Af (B0 rfl rfl) (Au [0,1,4,11] rfl rfl ?_)))))))))))))))
  refine Aq rfl (fun h11=>?_) (fun h11=>?_)
  ·refine Ad (Af (Bz (qs:=[]) rfl) (Bh (B8 rfl rfl rfl rfl) (Au [4,5] rfl rfl (Av (Bg (AZ ?_))))))
   have h9':(C.length:Int)≤n:=of_decide_eq_true h11
   rw [R0 (.inr (by rw [hlen]; exact h9'))]
   exact B6 [own 3 1 (.slice none 0 0) 0 [],CT p ⟨q,.slice A1 T.length c1,.slice A2 C.length c2,T,C,dead⟩,DJ ⟨q,.slice A1 T.length c1,.slice A2 C.length c2,T,C,dead⟩,ro μ] (.cell rfl (BT rfl) (.tmp rfl .nil)) ⟨none,0,rfl,rfl⟩ ((Split.ent' (K:=[CT p ⟨q,.slice A1 T.length c1,.slice A2 C.length c2,T,C,dead⟩,DJ ⟨q,.slice A1 T.length c1,.slice A2 C.length c2,T,C,dead⟩,ro μ]) AG).trans own_nil_ent)
  ·have h9':¬ (C.length:Int)≤n:=of_decide_eq_false h11
   obtain ⟨k,rfl⟩:∃ k:Nat,n=(k:Int):=⟨n.toNat,by omega⟩
   have hk:k<C.length:=by omega
   obtain ⟨x,hx⟩:∃ x,C[k]? = some x:=⟨_,List.getElem?_eq_getElem hk⟩
   have hxt:(SW.pl ⟨q,.slice A1 T.length c1,.slice A2 C.length c2,T,C,dead⟩).2[k]? = some x.2:=by show (C.map (·.2))[k]? = _; rw [List.getElem?_map,hx]; rfl
   rw [JM hxt]
   have hxm:=List.mem_of_getElem? hx
   have hxr:=hcr x hxm
   obtain ⟨A6,c6,hx1⟩:=hxr.sl
   have hrow:=A06 hx
   rw [hx1] at hrow hxr
   refine Er (fun m h=>K2 (e:=88) (n:=2) (v:=.slice A2 C.length c2) (l:=C.length) (xs:=C.flatMap Z8) JU h) fun hs=>?_
   obtain ⟨b,rfl⟩:∃ b,A2=some ⟨b,0,none⟩:=by
    rcases hs with ⟨_,h⟩ | ⟨b,cap,h,_⟩
    ·omega
    ·injection h with h1; exact ⟨b,h1⟩
   refine Ar (AV (Ai (Ad (Ah rfl (Af (Al rfl) (Af (Ae rfl) (AM (Ak rfl rfl) (Ah rfl ?_))))))))
   refine Af (AA (0+k*2) rfl rfl AC AC (by rw [Int.toNat_natCast])) ?_
   refine AM (CX rfl (TN (e:=88) (n:=2) (vs:=[.slice A6 x.2.1.length c6,.int .i64 x.2.2]) JU rfl hrow)) ?_
   refine AE (Bd) fun b6=>?_
   refine Bh (B8 rfl rfl rfl rfl) (AI [4,6] rfl (Aj ?_))
   refine Bb [1,4] ([B5 b6 88 [.slice A6 x.2.1.length c6,.int .i64 x.2.2]]) ([B5 b4 88 [.slice none 0 0,.int .i64 0],CT p ⟨q,.slice A1 T.length c1,.slice (some ⟨b,0,none⟩) C.length c2,T,C,dead⟩,DJ ⟨q,.slice A1 T.length c1,.slice (some ⟨b,0,none⟩) C.length c2,T,C,dead⟩,ro μ]) (Split.ent AG) AP ?_
   refine AD 0 rfl (Ae rfl) (Bl 1 rfl (Ak rfl rfl) rfl (AD 3 rfl (Ae rfl) (Bl 4 rfl (Ak rfl rfl) rfl ?_)))
   refine CQ 2 rfl AP (AF (Fb μ (.slice A6 x.2.1.length c6) x.2.1 hxr (hlt x hxm)) rfl rfl AG) ?_
   rintro v33 L1 ⟨A3,c3,rfl,rfl⟩
   refine ⟨_,BU (Split.ent AG),?_⟩
   refine AD 5 rfl (Bz (qs:=[(0,_),(1,_)]) rfl) (Cx 6 rfl AP AP (B8 rfl rfl rfl rfl) (AD 7 rfl (Bf rfl) (BZ [4,5] rfl (Bv AP (Ai (Av ?_))))))
   exact Aw [own 3 1 (.slice A3 x.2.1.length c3) x.2.1.length (x.2.1.flatMap (Bw .i64)),CT p ⟨q,.slice A1 T.length c1,.slice (some ⟨b,0,none⟩) C.length c2,T,C,dead⟩,DJ ⟨q,.slice A1 T.length c1,.slice (some ⟨b,0,none⟩) C.length c2,T,C,dead⟩,ro μ] (.cell rfl (BT rfl) (.tmp rfl .nil)) ⟨A3,c3,rfl,rfl⟩ AG


theorem Ys {μ:PH}{v:Value}{G:List (Value×List Int)}(hG:Graph μ v G){i:Nat}(hi:i<G.length):∃ gb off cap x,v=.slice (some ⟨gb,off,none⟩) G.length cap∧G[i]? = some x∧CellAt μ gb (off+i*1) x.1∧Row μ x.1 1 x.2.length (x.2.flatMap (Bw .i64))∧(C6 G)[i]? = some x.2:=by
 obtain ⟨gb,off,cap,hv,_,_,hr⟩:=hG.1.pos AC
 have hx:G[i]? = some G[i]:=List.getElem?_eq_getElem hi
 exact ⟨gb,off,cap,G[i],hv,hx,(hr.elem OP hx).cell,hG.2 _ (List.mem_of_getElem? hx),by rw [List.getElem?_map,hx]; rfl⟩

theorem Pw (n:Int):Spec prog 185 [.int .i64 n] [] (fun r L=>r=.int .i64 (cnt n)∧L=[]):=by
 refine Spec.of 7 func185 rfl rfl rfl ?_
 refine Ad (Au [0] rfl rfl (Aj (Ad (Ah rfl (Af (BO rfl rfl) (AI [0,4] rfl ?_))))))
 refine Aq rfl (fun h4=>?_) (fun h4=>?_)
 ·refine Ad (Au [2] rfl rfl (Av (AZ ?_)))
  have h:=of_decide_eq_true h4
  exact Aw [] (.tmp rfl .nil) ⟨by unfold cnt; rw [if_pos h]; rfl,rfl⟩ AG
 ·refine Ar (Ai (Ad (Ah rfl (Af (Ea rfl rfl) (Au [2] rfl rfl (Av ?_))))))
  have h:=of_decide_eq_false h4
  exact Aw [] (.tmp rfl .nil) ⟨by unfold cnt; rw [if_neg h]; rfl,rfl⟩ AG
theorem W3 (v:Value)(xs:List Int)(L0:List AK)(hv:Ints prog 3 L0 v xs):Spec prog 108 [v] L0 (fun r L=>r=.int .i64 (CP xs)∧L=L0):=by
 obtain ⟨A,cap,rfl,hl,ha⟩:=hv
 refine Spec.of 22 func108 rfl rfl rfl ?_
 refine Ad (Au [0] rfl rfl (Ad (Au [0,3] rfl rfl (Aj (Ad (Ah rfl (Af (BD rfl) (Ah rfl (AI [3,6,7,8] rfl (AB ?_))))))))))
 refine B4 (ι:=Nat) (fun k env L=>env=[(3,.int .i64 (Xi (xs.take k))),(6,.slice A xs.length cap),(7,.int .i64 (xs.length:Nat)),(8,.int .i64 (k:Nat))]∧L=L0∧k≤xs.length) (fun k=>xs.length-k) 0 ⟨rfl,rfl,Nat.zero_le _⟩ ?_
 rintro k env L ⟨rfl,rfl,hk⟩
 refine Ad (Af (Be rfl rfl) (AI [3,6,7,8,9] rfl (Aj ?_)))
 refine Aq rfl (fun h9=>?_) (fun h9=>?_)
 ·have h9':k<xs.length:=by have:=of_decide_eq_true h9; omega
  obtain ⟨b,off,rfl,hld⟩:=ha AC
  obtain ⟨x,hx⟩:∃ x,xs[k]? = some x:=⟨_,List.getElem?_eq_getElem h9'⟩
  refine Ar (Ai (Aj (AB (Ad ?_))))
  refine Af (AA (off+k*1) rfl rfl AC AC (by rw [Int.toNat_natCast])) ?_
  refine AM (CX rfl (by rw [Nat.mul_one]; exact hld k x hx)) ?_
  refine Au [3,5,6,7,8] rfl rfl (Am (Ah rfl (Ah rfl ?_)))
  refine AE (AF (Pw x) rfl rfl AG) ?_
  rintro v1 L1 ⟨rfl,rfl⟩
  refine As (Af (Ea rfl rfl) (B2 rfl (Bi [3,6,7,8] rfl (AJ (AV (Ai (Am (Af (AQ ((k+1:Nat):Int) rfl rfl AC AC AC) (Ah rfl (Bi [3,6,7,8] rfl (AJ ?_)))))))))))
  exact Ai ⟨k+1,⟨by rw [List.take_add_one,hx]; show _=[(3,Value.int .i64 (Xi (xs.take k++[x]))),_,_,_]; rw [S6],rfl,h9'⟩,by omega⟩
 ·have h9':=of_decide_eq_false h9
  obtain rfl:k=xs.length:=by omega
  rw [List.take_length]
  refine B3 (AU (AU (AY rfl (Ai (Aj (Ad (Ah rfl (Af (Cs rfl rfl) (AI [3,18] rfl ?_)))))))))
  refine Aq rfl (fun h18=>?_) (fun h18=>?_)
  ·refine Ad (Ah rfl (Au [2] rfl rfl (Av (AZ ?_))))
   have h:=of_decide_eq_true h18
   exact Aw _ (.tmp rfl .nil) ⟨by unfold CP; rw [if_pos h]; rfl,rfl⟩ Split.all
  ·refine Ar (Ai (Aj ?_))
   have hr:=ND xs
   refine Am (Ah rfl (Af (Fy rfl rfl AC AC) (Au [2] rfl rfl (Av ?_))))
   have h:=of_decide_eq_false h18
   exact Aw _ (.tmp rfl .nil) ⟨by unfold CP; rw [if_neg h]; rfl,rfl⟩ Split.all
structure SOk (W:SW):Prop where
 gc:GC W.pl.2
 tr:∀ c∈W.pl.2,0≤c.2∧c.2<(W.pl.1.length:Int)
 tg:∀ t∈W.pl.1,t.length≤30∧ST t
theorem SOk.cl{W:SW}(h:SOk W):∀ x∈W.C,x.2.1.length≤1048576:=fun x hx=>by
 obtain ⟨i,hi⟩:=List.getElem?_of_mem hx
 have:=(h.gc.row i x.2 (by show (W.C.map (·.2))[i]? = _; rw [List.getElem?_map,hi]; rfl)).2.1
 omega
theorem SOk.tl{W:SW}(h:SOk W):∀ x∈W.T,x.2.length≤1048576:=fun x hx=>by
 have:=(h.tg x.2 (List.mem_map.2 ⟨x,hx,rfl⟩)).1
 omega
theorem JN (W:SW):W.pl.2.length=W.C.length:=List.length_map _
set_option maxHeartbeats 1000000 in
theorem Kp (p:Nat)(W:SW)(μ:PH)(hW:W.Ok μ)(hS:SOk W)(n:Nat)(hn:n<W.pl.2.length):Spec prog 106 [.iface 39 (pv p),.int .i64 (n:Nat)] [CT p W,DY W,DJ W,ro μ] (fun r L=>∃ A c t,r=.slice A t.length c∧(t.length≤30∧ST t)∧L=[own 111 2 (.slice A t.length c) t.length (Ci t),CT p W,DY W,DJ W,ro μ]):=by
 obtain ⟨cm,hcm⟩:∃ cm,W.pl.2[n]? = some cm:=⟨_,List.getElem?_eq_getElem hn⟩
 obtain ⟨k0,k1⟩:=hS.tr cm (List.mem_of_getElem? hcm)
 obtain ⟨ti,hti⟩:∃ ti:Nat,cm.2=ti:=⟨cm.2.toNat,by omega⟩
 obtain ⟨t,ht⟩:∃ t,W.pl.1[ti]? = some t:=⟨_,List.getElem?_eq_getElem AC⟩
 have hc:=Ii p W μ hW hS.cl n
 rw [JM hcm] at hc
 have hr:=Of p W μ hW hS.tl ti
 rw [GX ht] at hr
 obtain ⟨ps,tr⟩:=cm
 dsimp only at hti hc hr
 subst hti
 refine Spec.of 23 func106 rfl rfl rfl ?_
 refine Ad (Au [0,1] rfl rfl (Ad (Ah rfl (Ah rfl ?_))))
 refine AE (DD rfl (Nat.zero_le _) (InvS.of hc) rfl AG) ?_
 rintro v12 L1 ⟨A1,c1,rfl,rfl⟩
 refine As (Ah rfl (Af (Ax rfl) (Af (Ax rfl) (AE (Bd) (fun b5=>?_)))))
 refine Bh (B8 rfl rfl rfl rfl) (Au [0,5] rfl rfl (Ad (Ah rfl (Af (Ae rfl) (AM (Ak rfl rfl) ?_)))))
 refine AE (DD rfl (Nat.zero_le _) (InvS.of hr) rfl AG) ?_
 rintro v19 L1 ⟨A2,c2,rfl,rfl⟩
 refine As (Ah rfl (Af (Ax rfl) (Af (Ax rfl) (B2 rfl (Au [7] rfl rfl (Ad (Ah rfl (Au [4] rfl rfl (Av ?_)))))))))
 exact Aw [own 111 2 (.slice A2 t.length c2) t.length (Ci t),CT p W,DY W,DJ W,ro μ] (.tmp rfl .nil) ⟨A2,c2,t,rfl,hS.tg t (List.mem_of_getElem? ht),rfl⟩ AG
theorem T3 {V:List GV}{i:Nat}{x:GV}(h:V[i]? = some x):CR (HF V)=CR (HF (V.take i))++(E0 x.2.2++CR (HF (V.drop (i+1)))):=by
 conv=>lhs; rw [← List.take_append_drop i V,NO h]
 unfold HF
 rw [List.map_append,GW]; rfl
theorem W4 {V:List GV}{i:Nat}{x:GV}(h:V[i]? = some x):CR (HF (V.take (i+1)))=CR (HF (V.take i))++E0 x.2.2:=by
 rw [Ca h]
 unfold HF
 rw [List.map_append,GW]
 show _++CR [(x.1,E0 x.2.2)]=_
 rw [II]
theorem Yt {μ:PH}{v:Value}{V:List GV}(h:Row μ v 6 V.length (V.flatMap Za)){i:Nat}{x:GV}(hi:V[i]? = some x):∃ b off cap,v=.slice (some ⟨b,off,none⟩) V.length cap∧RowAt μ b (off+i*6) (SR x.1 x.2.1):=by
 have hl:=(List.getElem?_eq_some_iff.1 hi).1
 obtain ⟨b,off,cap,hv,_,_,hr⟩:=h.pos AC
 exact ⟨b,off,cap,hv,hr.elem (f:=Za) (n:=6) (fun _=>rfl) hi⟩
def G6 (R:List GR):List Int:=R.map (·.gn)
theorem JO (R:List GR):(G6 R).length=R.length:=List.length_map _
theorem Yu (R:List (Value×GR)){j:Nat}{x:Value×GR}(h:R[j]? = some x):G6 (E0 (R.take (j+1)))=G6 (E0 (R.take j))++[x.2.gn]:=by
 rw [Ca h]
 unfold G6 E0
 rw [List.map_append,List.map_append]; rfl
set_option maxHeartbeats 4000000 in
theorem W5 (μ:PH)(p q:Nat)(lv gv:Value)(l:List Lk)(V:List GV)(hI:IX μ lv gv l V)(hB:(CR (HF V)).length≤65536):Spec prog 61 [pv p] [xB p q lv gv,ro μ] (fun r L=>L=[own 3 1 r (G6 (CR (HF V))).length ((G6 (CR (HF V))).flatMap (Bw .i64)),xB p q lv gv,ro μ]):=by
 have hsmV:=hI.gr.small
 refine Spec.of 32 func61 rfl rfl rfl ?_
 refine Ad (Au [0] rfl rfl (Ad (Au [0,3] rfl rfl (Aj (Ad (Ah rfl (Af (Al rfl) (Af (Ae rfl) (AM (Ak rfl rfl) (Af (AW hI.gr rfl) (Ah rfl (AI [3,11,12,13] rfl (AB (AX (own_nil_ent (e:=3) (n:=1)) ?_))))))))))))))
 refine B4 (ι:=Nat×Value) (fun z env L=>Sub env [(3,z.2),(11,gv),(12,.int .i64 (V.length:Nat)),(13,.int .i64 (z.1:Nat))]∧Ent L [own 3 1 z.2 (G6 (CR (HF (V.take z.1)))).length ((G6 (CR (HF (V.take z.1)))).flatMap (Bw .i64)),xB p q lv gv,ro μ]∧z.1≤V.length) (fun z=>V.length-z.1) (0,.slice none 0 0) ⟨⟨rfl,rfl,rfl,rfl,trivial⟩,by show Ent _ [own 3 1 (.slice none 0 0) 0 [],xB p q lv gv,ro μ]; exact Split.ent' AG,Nat.zero_le _⟩ ?_
 rintro ⟨i,av⟩ env L ⟨hsub,hE,hi⟩
 dsimp only at hsub hE hi
 refine B7 _ hsub (AX hE ?_)
 clear hsub hE env L
 refine Ad (Af (Be rfl rfl) (AI [3,11,12,13,14] rfl (Aj ?_)))
 refine Aq rfl (fun h14=>?_) (fun h14=>?_)
 ·have h14':i<V.length:=by have:=of_decide_eq_true h14; omega
  obtain ⟨x,hx⟩:∃ x,V[i]? = some x:=⟨_,List.getElem?_eq_getElem h14'⟩
  obtain ⟨gb,off,cap,hv,hra⟩:=Yt hI.gr hx
  obtain ⟨base,rv,R⟩:=x
  have hgr:=hI.rs _ (List.mem_of_getElem? hx)
  dsimp only at hra hgr
  obtain ⟨Arv,crv,rfl⟩:=hgr.row.sl
  have hsp:=congrArg List.length (T3 hx)
  rw [List.length_append,List.length_append] at hsp
  have hsu:=W4 hx
  have hRl:(E0 R).length=R.length:=List.length_map _
  dsimp only at hsp hsu
  generalize CR (HF (V.take i))=T0 at *
  refine Ar (Ai (Aj (AB (Ad ?_))))
  refine Af (AA (off+i*6) (congrArg some hv) rfl AC AC (by rw [Int.toNat_natCast])) ?_
  refine AM (Cu (vs:=SR base (.slice Arv R.length crv)) rfl rfl hra) (AE (Bd) (fun b5=>?_))
  refine Bh (B8 rfl rfl rfl rfl) (AI [3,5,11,12,13] rfl (Ad (Af (Ae rfl) (AM (Ak rfl rfl) (Af (AW hgr.row rfl) (Ah rfl (AI [3,11,12,13,18,19,20] rfl (AB ?_))))))))
  refine B4 (ι:=Nat×Value) (fun z env L=>Sub env [(3,z.2),(11,gv),(12,.int .i64 (V.length:Nat)),(13,.int .i64 (i:Nat)),(18,.slice Arv R.length crv),(19,.int .i64 (R.length:Nat)),(20,.int .i64 (z.1:Nat))]∧Ent L [own 3 1 z.2 (G6 (T0++E0 (R.take z.1))).length ((G6 (T0++E0 (R.take z.1))).flatMap (Bw .i64)),xB p q lv gv,ro μ]∧z.1≤R.length) (fun z=>R.length-z.1) (0,av) ⟨⟨rfl,rfl,rfl,rfl,rfl,rfl,rfl,trivial⟩,by dsimp only; rw [List.take_zero,show E0 []=[] from rfl,List.append_nil]; exact Split.ent' AG,Nat.zero_le _⟩ ?_
  rintro ⟨j,bv⟩ env L ⟨hsub,hE,hj⟩
  dsimp only at hsub hE hj
  refine B7 _ hsub (AX hE ?_)
  clear hsub hE env L
  refine Ad (Af (Be rfl rfl) (AI [3,11,12,13,18,19,20,21] rfl (Aj ?_)))
  refine Aq rfl (fun h21=>?_) (fun h21=>?_)
  ·have h21':j<R.length:=by have:=of_decide_eq_true h21; omega
   obtain ⟨y,hy⟩:∃ y,R[j]? = some y:=⟨_,List.getElem?_eq_getElem h21'⟩
   obtain ⟨rb,ro1,rcap,Ay,cy,hrv,hry,-,-⟩:=P8 hgr hy
   obtain ⟨yv,r⟩:=y
   have hT:G6 (T0++E0 (R.take (j+1)))=G6 (T0++E0 (R.take j))++[r.gn]:=by
    unfold G6
    rw [List.map_append,List.map_append,List.append_assoc]
    congr 1
    exact Yu R hy
   have hTl:(G6 (T0++E0 (R.take j))).length≤65536:=by
    rw [JO,List.length_append]
    have:(E0 (R.take j)).length=j:=by unfold E0; rw [List.length_map,List.length_take]; omega
    omega
   generalize G6 (T0++E0 (R.take j))=T1 at *
   refine Ar (Ai (Aj (AB (Ad ?_))))
   refine Af (AA (ro1+j*5) (congrArg some hrv) rfl AC AC (by rw [Int.toNat_natCast])) ?_
   refine AM (Cu (vs:=grl Ay cy r) rfl rfl hry) (AE (Bd) (fun b7=>?_))
   refine Bh (B8 rfl rfl rfl rfl) (AI [3,7,11,12,13,18,19,20] rfl (Am (Ah rfl (Af (Ae rfl) (AM (Ak rfl rfl) (AE (Bs (qs:=[(0,_)]) rfl rfl rfl) (fun b27=>?_)))))))
   refine AE (Bj (l:=T1.length) (m:=1) rfl rfl AG (by simp only [maxLen]; omega) AC) ?_
   rintro v28 -
   skip
   refine B2 rfl (Bi [3,11,12,13,18,19,20] rfl (AJ (AV (Ai (Am (Af (AQ ((j+1:Nat):Int) rfl rfl AC AC AC) (Ah rfl (Bi [3,11,12,13,18,19,20] rfl (AJ ?_)))))))))
   refine Ai ⟨(j+1,v28),⟨⟨rfl,rfl,rfl,rfl,rfl,rfl,rfl,trivial⟩,?_,h21'⟩,by show R.length-(j+1)<R.length-j; omega⟩
   dsimp only
   rw [hT,List.length_append,List.flatMap_append]
   show Ent _ [own 3 1 v28 (T1.length+1) (T1.flatMap (Bw .i64)++[.int .i64 r.gn]),xB p q lv gv,ro μ]
   exact Split.ent' AG
  ·have h21':=of_decide_eq_false h21
   obtain rfl:j=R.length:=by omega
   rw [List.take_length]
   refine B3 (AU (AU (AY rfl (AV (Ai (Am (Af (AQ ((i+1:Nat):Int) rfl rfl AC AC AC) (Ah rfl (Bi [3,11,12,13] rfl (AJ ?_))))))))))
   refine Ai ⟨(i+1,bv),⟨⟨rfl,rfl,rfl,rfl,trivial⟩,?_,h14'⟩,by show V.length-(i+1)<V.length-i; omega⟩
   dsimp only
   rw [hsu]
   exact Split.ent' AG
 ·have h14':=of_decide_eq_false h14
  obtain rfl:i=V.length:=by omega
  rw [List.take_length]
  refine B3 (AU (AU (AY rfl (Ai (Ad (Ah rfl (Au [2] rfl rfl (Av ?_))))))))
  exact Aw [own 3 1 av (G6 (CR (HF V))).length ((G6 (CR (HF V))).flatMap (Bw .i64)),xB p q lv gv,ro μ] (.tmp rfl .nil) rfl AG
theorem Hq {P:Program}{rn:Option Nat}{ops:Array Oper}{Q:DK}{N:Nat}{rds:List Nat}{fuel:Nat}{listed:Array Bool}{env:CA}{Lr L L0:List AK}{μ:PH}{e n l:Nat}{v:Value}{xs:List Value}(hL:Split L0 [own e n v l xs,ro μ] L)
  (h:∀ μ',Le μ μ'→Row μ' v n l xs→EG P rn ops Q N rds fuel listed true env Lr (ro μ'::L)):EG P rn ops Q N rds fuel listed true env Lr L0:=fun E D a w hD hf hh hc=>by
 have hh':H (E.add D) w (Lr++L0):=hh
 have hp:(Lr++L0).Perm (own e n v l xs::ro μ::(Lr++L)):=(List.Perm.append_left Lr hL.perm).trans (List.perm_middle.trans (List.Perm.cons _ List.perm_middle))
 obtain ⟨μ',h1,h2,h3⟩:=(hh'.ent (Ent.perm hp)).share_own
 exact h μ' h1 h2 E D a w hD hf (h3.ent (Ent.perm List.perm_middle.symm)) hc
structure RV (μ:PH) (C:List Cm) (k:Nat) (V:List (Value×GR)):Prop where
 ps:∀ x∈V,Row μ x.1 1 x.2.ps.length (x.2.ps.flatMap (Bw .i64))
 row:∀ (i:Nat) (x:Value×GR),V[i]? = some x→C[k+i]? = some (x.2.ps,x.2.tr)∧(C8 C)[k+i]? = some x.2.gn∧VU x.2.st x.2.bt
theorem RV.le{μ μ':PH}{C:List Cm}{k:Nat}{V:List (Value×GR)}(h:RV μ C k V)(hl:Le μ μ'):RV μ' C k V:=⟨fun x hx=>(h.ps x hx).le hl,h.row⟩
theorem RV.nil(μ:PH)(C:List Cm)(k:Nat):RV μ C k []:=⟨fun x hx=>(by cases hx),fun i x hx=>(by cases hx)⟩
theorem RV.snoc{μ:PH}{C:List Cm}{k:Nat}{V:List (Value×GR)}(h:RV μ C k V){x:Value×GR}(hp:Row μ x.1 1 x.2.ps.length (x.2.ps.flatMap (Bw .i64)))(h1:C[k+V.length]? = some (x.2.ps,x.2.tr))(h2:(C8 C)[k+V.length]? = some x.2.gn)(h3:VU x.2.st x.2.bt):RV μ C k (V++[x]):=by
 refine ⟨fun y hy=>?_,fun i y hy=>?_⟩
 ·rcases List.mem_append.1 hy with hy | hy
  ·exact h.ps y hy
  ·rw [List.mem_singleton.1 hy]; exact hp
 ·by_cases hi:i<V.length
  ·rw [List.getElem?_append_left hi] at hy; exact h.row i y hy
  ·have hl:=(List.getElem?_eq_some_iff.1 hy).1
   rw [List.length_append,List.length_singleton] at hl
   obtain rfl:i=V.length:=by omega
   rw [List.getElem?_append_right (Nat.le_refl _),Nat.sub_self] at hy
   obtain rfl:=Option.some.inj hy
   exact ⟨h1,h2,h3⟩
theorem RV.rn{μ:PH}{C:List Cm}{k:Nat}{V:List (Value×GR)}(h:RV μ C k V)(hl:k+V.length≤C.length):RN C k (E0 V):=⟨by rw [List.length_map]; exact hl,fun i r hr=>by
 rw [List.getElem?_map] at hr
 cases hv:V[i]? with
 | none=>rw [hv] at hr; cases hr
 | some x=>rw [hv] at hr; obtain rfl:=Option.some.inj hr; exact h.row i x hv⟩
set_option maxHeartbeats 16000000 in
theorem MW (p:Nat)(W:SW)(μ:PH)(hW:W.Ok μ)(hS:SOk W)(kv:Value)(ks:List Int)(hk:Row μ kv 1 ks.length (ks.flatMap (Bw .i64)))(hks:ks=(C8 W.pl.2).take ks.length)(hkl:ks.length≤W.pl.2.length) :
  Spec prog 60 [.iface 39 (pv p),.agg setC.toArray,kv] [CT p W,DY W,DJ W,ro μ] (fun r L=>∃ μ' V,Le μ μ'∧GRows μ' r V∧RN W.pl.2 ks.length (E0 V)∧ks.length+V.length=W.pl.2.length∧L=[CT p W,DY W,DJ W,ro μ']):=by
 have hC16:=hS.gc.len
 have hgl:=hS.gc.glen
 have hpl:=JN W
 have hkv:=hk.sl
 obtain ⟨C,hC⟩:∃ C,C=W.pl.2:=⟨_,rfl⟩
 rw [← hC] at hks hkl hC16 hgl hpl ⊢
 refine Spec.of 92 func60 rfl rfl rfl ?_
 refine Ad (AE (Bp rfl rfl) (fun b4=>?_))
 refine Au [0,2,4] rfl rfl (Ad (Au [0,2,4,7] rfl rfl (Ad (Ah rfl ?_))))
 refine AE (AF (Fb μ kv ks hk AC) rfl rfl AG) ?_
 rintro v19 L1 ⟨A19,c19,rfl,rfl⟩
 refine As (Au [0,2,4,7,8] rfl rfl (Aj (Ad (Ah rfl (Af (AW hk rfl) (Au [0,4,7,8,9] rfl rfl (AB (AX (own_nil_ent (e:=211) (n:=5)) ?_))))))))
 refine B4 (ι:=Nat×List (Value×GR)×PH×(Option Addr×Nat)×Value) (fun z env L=>Sub env [(0,.iface 39 (pv p)),(4,pv b4),(7,z.2.2.2.2),(8,.slice z.2.2.2.1.1 z.1 z.2.2.2.1.2),(9,.int .i64 (z.1:Nat))]∧Ent L [own 3 1 (.slice z.2.2.2.1.1 z.1 z.2.2.2.1.2) z.1 (((C8 C).take z.1).flatMap (Bw .i64)),own 211 5 z.2.2.2.2 z.2.1.length (z.2.1.flatMap US),B5 b4 43 [.int .i64 3,.int .i64 10,.int .i64 2,.int .u32 7],CT p W,DY W,DJ W,ro z.2.2.1]∧ks.length+z.2.1.length=z.1∧z.1≤C.length∧Le μ z.2.2.1∧RV z.2.2.1 C ks.length z.2.1) (fun z=>C.length-z.1) (ks.length,[],μ,(A19,c19),.slice none 0 0) ⟨⟨rfl,rfl,rfl,rfl,rfl,trivial⟩,by dsimp only; rw [← hks]; show Ent _ [own 3 1 (.slice A19 ks.length c19) ks.length (ks.flatMap (Bw .i64)),own 211 5 (.slice none 0 0) 0 [],B5 b4 43 setC,CT p W,DY W,DJ W,ro μ]; exact Split.ent' AG,rfl,hkl,Le.refl _,RV.nil _ _ _⟩ ?_
 rintro ⟨n,V,μ1,⟨Aa,ca⟩,ov⟩ env L ⟨hsub,hE,hn,hnl,k1,hV⟩
 dsimp only at hsub hE hn hnl k1 hV
 refine B7 _ hsub (AX hE ?_)
 clear hsub hE env L
 refine Aj (Ad (Ah rfl (Ah rfl ?_)))
 refine AE (DD rfl (Nat.zero_le _) (InvS.of (FG p W μ1 (hW.le k1))) rfl AG) ?_
 rintro v24 L1 ⟨rfl,rfl⟩
 refine As (Af (Be rfl rfl) (AI [0,4,7,8,9,25] rfl ?_))
 refine Aq rfl (fun h25=>?_) (fun h25=>?_)
 ·have h25':n<C.length:=by have:=of_decide_eq_true h25; omega
  obtain ⟨c,hc⟩:∃ c,C[n]? = some c:=⟨_,List.getElem?_eq_getElem h25'⟩
  obtain ⟨g1,g2,g3,g4⟩:=hS.gc.row n c (by rw [← hC]; exact hc)
  obtain ⟨o1,o2⟩:=Ek.1 g1
  have hcom:=Ii p W μ1 (hW.le k1) hS.cl n
  rw [← hC,JM hc] at hcom
  obtain ⟨hga,-⟩:=OW hS.gc.more (i:=n) (r:=c.1) (by rw [← hC,List.getElem?_map,hc]; rfl)
  rw [← hC] at hga
  obtain ⟨ps,tr⟩:=c
  dsimp only at g2 g3 g4 o1 o2 hcom hga
  refine Ar (Ai (Aj (AB (Ad (Ah rfl (Ah rfl ?_))))))
  refine AE (DD rfl (Nat.zero_le _) (InvS.of hcom) rfl AG) ?_
  rintro v31 L1 ⟨Ap,cp,rfl,rfl⟩
  refine As ?_
  refine C4 (v:=.slice Ap ps.length cp) (μ:=μ1) AG fun μ2 k2 hps=>?_
  have hfst:∀ (xs:List Int),xs=(C8 C).take n→xs.length=n:=fun xs e=>by rw [e,List.length_take]; omega
  refine Ah rfl (Af (Ax rfl) (Af (Ax rfl) (AE (Bd) (fun b10=>?_))))
  refine Bh (B8 rfl rfl rfl rfl) (Au [0,4,7,8,9,10] rfl rfl (Ad (Au [0,4,7,8,9,10,12] rfl rfl (Ad (Au [0,4,7,8,9,10,12,13] rfl rfl (Aj (Ad (Af (Ae rfl) (AM (Ak rfl rfl) (Af (BD rfl) (Ah rfl (AI [0,4,7,8,9,10,12,13,35,36,37] rfl (AB (AX (own_nil_ent (e:=3) (n:=1)) ?_))))))))))))))
  refine B4 (ι:=Nat×List En×PH×Value×Value) (fun z env L=>Sub env [(0,.iface 39 (pv p)),(4,pv b4),(7,ov),(8,.slice Aa n ca),(9,.int .i64 (n:Nat)),(10,pv b10),(12,z.2.2.2.1),(13,z.2.2.2.2),(35,.slice Ap ps.length cp),(36,.int .i64 (ps.length:Nat)),(37,.int .i64 (z.1:Nat))]∧Ent L [own 3 1 z.2.2.2.2 z.1 ((CO (C8 C) (ps.take z.1)).flatMap (Bw .i64)),own 3 1 (.slice Aa n ca) n (((C8 C).take n).flatMap (Bw .i64)),own 211 5 ov V.length (V.flatMap US),B5 b10 88 [.slice Ap ps.length cp,.int .i64 tr],B5 b4 43 [.int .i64 3,.int .i64 10,.int .i64 2,.int .u32 7],CT p W,DY W,DJ W,ro z.2.2.1]∧z.1≤ps.length∧Le μ2 z.2.2.1∧Row z.2.2.1 z.2.2.2.1 2 z.2.1.length (Ci z.2.1)∧z.2.1.length≤30∧ST z.2.1) (fun z=>ps.length-z.1) (0,[],μ2,.slice none 0 0,.slice none 0 0) ⟨⟨rfl,rfl,rfl,rfl,rfl,rfl,rfl,rfl,rfl,rfl,rfl,trivial⟩,by show Ent _ [own 3 1 (.slice none 0 0) 0 [],own 3 1 (.slice Aa n ca) n (((C8 C).take n).flatMap (Bw .i64)),own 211 5 ov V.length (V.flatMap US),B5 b10 88 [.slice Ap ps.length cp,.int .i64 tr],B5 b4 43 [.int .i64 3,.int .i64 10,.int .i64 2,.int .u32 7],CT p W,DY W,DJ W,ro μ2]; exact Split.ent' AG,Nat.zero_le _,Le.refl _,Row.nil _ _,Nat.zero_le _,fun x hx=>(by cases hx)⟩ ?_
  rintro ⟨j,old,μ3,dv,uv⟩ env L ⟨hsub,hE,hj,k3,hold,hol,hos⟩
  dsimp only at hsub hE hj k3 hold hol hos
  refine B7 _ hsub (AX hE ?_)
  clear hsub hE env L
  refine Ad (Af (Be rfl rfl) (AI [0,4,7,8,9,10,12,13,35,36,37,38] rfl (Aj ?_)))
  refine Aq rfl (fun h38=>?_) (fun h38=>?_)
  ·have h38':j<ps.length:=by have:=of_decide_eq_true h38; omega
   obtain ⟨pi,hpi⟩:∃ q,ps[j]? = some q:=⟨_,List.getElem?_eq_getElem h38'⟩
   obtain ⟨q0,q1⟩:=o1 pi (List.mem_of_getElem? hpi)
   obtain ⟨pn,rfl⟩:∃ k:Nat,pi=(k:Int):=⟨pi.toNat,by omega⟩
   obtain ⟨gb,off,cap,hv,_,_,hra⟩:=(hps.le k3).pos AC
   have hcell:=(hra.elem (f:=Bw .i64) (n:=1) (fun _=>rfl) hpi).cell
   have hvt:CO (C8 C) (ps.take (j+1))=CO (C8 C) (ps.take j)++[(C8 C).getD pn 0]:=by rw [Ca hpi,OV,Int.toNat_natCast]
   have hgv:((C8 C).take n)[pn]? = some ((C8 C).getD pn 0):=by
    rw [List.getElem?_take_of_lt AC,List.getD_eq_getElem?_getD]
    obtain ⟨u,hu⟩:∃ u,(C8 C)[pn]? = some u:=⟨_,List.getElem?_eq_getElem AC⟩
    rw [hu]; rfl
   have hvl:(CO (C8 C) (ps.take j)).length=j:=by unfold CO; rw [List.length_map,List.length_take]; omega
   generalize CO (C8 C) (ps.take j)=T1 at *
   refine Ar (Ai (Aj (AB (Ad (Ah rfl ?_)))))
   refine Af (AA (off+j*1) (congrArg some hv) rfl AC AC (by rw [Int.toNat_natCast])) ?_
   refine AM (BJ rfl hcell) (B2 rfl (Au [0,4,7,8,9,10,12,13,14,15,35,36,37] rfl rfl (Aj (Ad (Ah rfl (Af (Be rfl rfl) (Ah rfl ?_)))))))
   refine B9 44 rfl (fun h44=>by have:=of_decide_eq_true h44; omega) (fun h44=>?_)
   refine AS rfl rfl (Ah rfl (AS rfl rfl (Ah rfl (AS rfl rfl (Af (BD rfl) (AS rfl rfl (Af (Cs rfl rfl) (Af (B0 rfl rfl) (AI [0,4,7,8,9,10,12,13,14,15,35,36,37,49] rfl ?_)))))))))
   refine Aq rfl (fun h49=>by have:=of_decide_eq_true h49; omega) (fun h49=>?_)
   refine Ar (Ai ?_)
   refine Co (fun env L=>∃ (old':List En) (μ4:PH) (dv':Value),Sub env [(0,.iface 39 (pv p)),(4,pv b4),(7,ov),(8,.slice Aa n ca),(9,.int .i64 (n:Nat)),(10,pv b10),(12,dv'),(13,uv),(15,.int .i64 (pn:Nat)),(35,.slice Ap ps.length cp),(36,.int .i64 (ps.length:Nat)),(37,.int .i64 (j:Nat))]∧Ent L [own 3 1 uv j (T1.flatMap (Bw .i64)),own 3 1 (.slice Aa n ca) n (((C8 C).take n).flatMap (Bw .i64)),own 211 5 ov V.length (V.flatMap US),B5 b10 88 [.slice Ap ps.length cp,.int .i64 tr],B5 b4 43 [.int .i64 3,.int .i64 10,.int .i64 2,.int .u32 7],CT p W,DY W,DJ W,ro μ4]∧Le μ3 μ4∧Row μ4 dv' 2 old'.length (Ci old')∧old'.length≤30∧ST old') ?_ ?_
   ·refine Ad (Ah rfl (Af (Bo rfl rfl) (AI [0,4,7,8,9,10,12,13,15,35,36,37,52] rfl ?_)))
    refine Aq rfl (fun h52=>?_) (fun h52=>?_)
    ·refine Am (Ah rfl (Ah rfl ?_))
     refine AE (AF (Kp p W μ3 (hW.le (k1.trans (k2.trans k3))) hS pn (by rw [← hC]; omega)) rfl rfl AG) ?_
     rintro v55 L1 ⟨Ao,co,ol,rfl,⟨hol2,hos2⟩,rfl⟩
     refine As ?_
     refine C4 (v:=.slice Ao ol.length co) (μ:=μ3) AG fun μ4 k4 hol4=>?_
     refine B2 rfl (Bi [0,4,7,8,9,10,12,13,15,35,36,37] rfl (AJ ?_))
     exact Ai ⟨ol,μ4,_,⟨rfl,rfl,rfl,rfl,rfl,rfl,rfl,rfl,rfl,rfl,rfl,rfl,trivial⟩,Split.ent' AG,k4,hol4,hol2,hos2⟩
    ·refine Ar ?_
     exact Ai ⟨old,μ3,dv,⟨rfl,rfl,rfl,rfl,rfl,rfl,rfl,rfl,rfl,rfl,rfl,rfl,trivial⟩,Split.ent' AG,Le.refl _,hold,hol,hos⟩
   rintro env L ⟨old',μ4,dv',hsub,hE,k4,hold4,hol4,hos4⟩
   refine B7 _ hsub (AX hE ?_)
   clear hsub hE env L
   refine AX (Split.ent' (K:=[own 3 1 (.slice Aa n ca) n (((C8 C).take n).flatMap (Bw .i64)),own 3 1 uv j (T1.flatMap (Bw .i64)),own 211 5 ov V.length (V.flatMap US),B5 b10 88 [.slice Ap ps.length cp,.int .i64 tr],B5 b4 43 [.int .i64 3,.int .i64 10,.int .i64 2,.int .u32 7],CT p W,DY W,DJ W,ro μ4]) AG) ?_
   refine Er (fun m h=>GE h) fun hcA=>?_
   obtain ⟨bA,rfl⟩:∃ b:Nat,Aa=some ⟨b,0,none⟩:=by
    obtain ⟨A',c',e,e1,e2,e3,e4⟩:=hcA
    cases e
    cases Aa with
    | none=>have:=e3 rfl; omega
    | some a=>obtain ⟨b,rfl⟩:=e4 a rfl; exact ⟨b,rfl⟩
   refine Am (Ah rfl (Ah rfl (Ah rfl ?_)))
   refine Af (AA pn rfl rfl AC AC (by rw [Int.toNat_natCast]; omega)) ?_
   refine AM (Gk rfl JU (by have:=P7 (f:=Bw .i64) (n:=1) (fun _=>rfl) hgv 0 _ rfl; rwa [Nat.mul_one,Nat.add_zero] at this)) ?_
   refine AE (Bs (qs:=[(0,_)]) rfl rfl rfl) fun b61=>?_
   refine AE (Bj (l:=j) (m:=1) rfl rfl AG (by simp only [maxLen]; omega) AC) ?_
   rintro v62 -
   skip
   refine B2 rfl (Bi [0,4,7,8,9,10,12,13,35,36,37] rfl (AJ (AV (Ai (Am (Af (AQ ((j+1:Nat):Int) rfl rfl AC AC AC) (Ah rfl (Bi [0,4,7,8,9,10,12,13,35,36,37] rfl (AJ ?_)))))))))
   refine Ai ⟨(j+1,old',μ4,dv',v62),⟨⟨rfl,rfl,rfl,rfl,rfl,rfl,rfl,rfl,rfl,rfl,rfl,trivial⟩,?_,h38',k3.trans k4,hold4,hol4,hos4⟩,by show ps.length-(j+1)<ps.length-j; omega⟩
   dsimp only
   rw [hvt,List.flatMap_append]
   show Ent _ [own 3 1 v62 (j+1) (T1.flatMap (Bw .i64)++[.int .i64 ((C8 C).getD pn 0)]),own 3 1 (.slice (some ⟨bA,0,none⟩) n ca) n (((C8 C).take n).flatMap (Bw .i64)),own 211 5 ov V.length (V.flatMap US),B5 b10 88 [.slice Ap ps.length cp,.int .i64 tr],B5 b4 43 [.int .i64 3,.int .i64 10,.int .i64 2,.int .u32 7],CT p W,DY W,DJ W,ro μ4]
   exact Split.ent' AG
  ·have h38':=of_decide_eq_false h38
   obtain rfl:j=ps.length:=by omega
   rw [List.take_length]
   refine B3 (AU (AU (AY rfl (Ai ?_))))
   refine Co (fun env L=>∃ (b16:Nat) (μ5:PH) (st:Int) (bt:List UInt8),Sub env [(0,.iface 39 (pv p)),(4,pv b4),(7,ov),(8,.slice Aa n ca),(9,.int .i64 (n:Nat)),(10,pv b10),(13,uv),(16,pv b16)]∧Ent L [own 3 1 uv ps.length ((CO (C8 C) ps).flatMap (Bw .i64)),own 3 1 (.slice Aa n ca) n (((C8 C).take n).flatMap (Bw .i64)),own 211 5 ov V.length (V.flatMap US),B5 b16 206 [.int .i64 st,.string (str bt)],B5 b10 88 [.slice Ap ps.length cp,.int .i64 tr],B5 b4 43 [.int .i64 3,.int .i64 10,.int .i64 2,.int .u32 7],CT p W,DY W,DJ W,ro μ5]∧Le μ3 μ5∧VU st bt) ?_ ?_
   ·refine Bb [0] ([B5 b4 43 [.int .i64 3,.int .i64 10,.int .i64 2,.int .u32 7]]) ([own 3 1 uv ps.length ((CO (C8 C) ps).flatMap (Bw .i64)),own 3 1 (.slice Aa n ca) n (((C8 C).take n).flatMap (Bw .i64)),own 211 5 ov V.length (V.flatMap US),B5 b10 88 [.slice Ap ps.length cp,.int .i64 tr],CT p W,DY W,DJ W,ro μ3]) (Split.ent AG) AP ?_
    refine Bl 0 rfl (BL (vs:=setC) rfl rfl rfl) rfl (AD 1 rfl (AH rfl) (AD 2 rfl (AH rfl) (AD 3 rfl (AH rfl) ?_)))
    refine HL [4,9] AP rfl ⟨?_,?_⟩
    ·refine FL 4 rfl GOn.none (AF (Kp p W μ3 (hW.le (k1.trans (k2.trans k3))) hS n (by rw [← hC]; omega)) rfl rfl AG) ?_
     rintro v69 L1 ⟨At,ct,tl,rfl,⟨htl,hts⟩,rfl⟩
     refine ⟨_,BU (Split.ent AG),?_⟩
     refine Hq (e:=111) (n:=2) (v:=.slice At tl.length ct) (μ:=μ3) AG fun μ4 k4 htr=>?_
     refine HL [5,9] AP rfl ⟨?_,?_⟩
     ·refine FL 5 rfl GOn.none (AF (MQ μ4 dv _ old tl (hold.le k4) htr hos hts AC AC) rfl rfl AG) ?_
      rintro v70 L1 ⟨μ5,st,bt,k5,hfl,rfl,rfl⟩
      refine ⟨_,BU (Split.ent AG),?_⟩
      refine AD 6 rfl (AH rfl) (AD 7 rfl (Ax rfl) (AD 8 rfl (Ax rfl) (CQ 9 rfl AP (Bd) (fun b16=>?_))))
      refine ⟨_,Split.ent AG,?_⟩
      refine Cx 10 rfl AP AP (B8 rfl rfl rfl rfl) (AD 11 rfl (Bf rfl) (BZ [0,4,7,8,9,10,13,16] rfl (Bv AP ?_)))
      exact Ai ⟨_,μ5,st,bt,⟨rfl,rfl,rfl,rfl,rfl,rfl,rfl,rfl,trivial⟩,Split.ent' AG,k4.trans k5,hfl⟩
     ·refine FL 9 rfl GOn.none (Bd) fun b16=>?_
      refine ⟨_,Split.ent AG,?_⟩
      refine BX 5 rfl AP AP (AF (MQ μ4 dv _ old tl (hold.le k4) htr hos hts AC AC) rfl rfl AG) ?_
      rintro v70 L1 ⟨μ5,st,bt,k5,hfl,rfl,rfl⟩
      refine C5 (AD 6 rfl (AH rfl) (AD 7 rfl (Ax rfl) (AD 8 rfl (Ax rfl) (Cy 10 rfl AP AP (B8 rfl rfl rfl rfl) (AD 11 rfl (Bf rfl) (BZ [0,4,7,8,9,10,13,16] rfl (Bv AP ?_)))))))
      exact Ai ⟨_,μ5,st,bt,⟨rfl,rfl,rfl,rfl,rfl,rfl,rfl,rfl,trivial⟩,Split.ent' AG,k4.trans k5,hfl⟩
    ·refine FL 9 rfl GOn.none (Bd) fun b16=>?_
     refine ⟨_,Split.ent AG,?_⟩
     refine CQ 4 rfl AP (AF (Kp p W μ3 (hW.le (k1.trans (k2.trans k3))) hS n (by rw [← hC]; omega)) rfl rfl AG) ?_
     rintro v69 L1 ⟨At,ct,tl,rfl,⟨htl,hts⟩,rfl⟩
     refine ⟨_,BU (Split.ent AG),?_⟩
     refine Hq (e:=111) (n:=2) (v:=.slice At tl.length ct) (μ:=μ3) AG fun μ4 k4 htr=>?_
     refine BX 5 rfl AP AP (AF (MQ μ4 dv _ old tl (hold.le k4) htr hos hts AC AC) rfl rfl AG) ?_
     rintro v70 L1 ⟨μ5,st,bt,k5,hfl,rfl,rfl⟩
     refine C5 (AD 6 rfl (AH rfl) (AD 7 rfl (Ax rfl) (AD 8 rfl (Ax rfl) (Cy 10 rfl AP AP (B8 rfl rfl rfl rfl) (AD 11 rfl (Bf rfl) (BZ [0,4,7,8,9,10,13,16] rfl (Bv AP ?_)))))))
     exact Ai ⟨_,μ5,st,bt,⟨rfl,rfl,rfl,rfl,rfl,rfl,rfl,rfl,trivial⟩,Split.ent' AG,k4.trans k5,hfl⟩
   rintro env L ⟨b16,μ5,st,bt,hsub,hE,k5,hfl⟩
   refine B7 _ hsub (AX hE ?_)
   clear hsub hE env L
   refine Er (fun m h=>K2 .here h) fun hsh=>?_
   have hvl:(CO (C8 C) ps).length=ps.length:=by unfold CO; rw [List.length_map]
   refine Ad (Ah rfl (Ah rfl ?_))
   refine AE (AF (R:=[]) (W3 uv (CO (C8 C) ps) _ (Xc (by rw [hvl]; exact hsh) (by rw [hvl]; exact JU))) rfl rfl Split.all) ?_
   rintro v75 L1 ⟨rfl,rfl⟩
   rw [List.append_nil]
   refine AE (Bs (qs:=[(0,_)]) rfl rfl rfl) fun b76=>?_
   refine AE (Bj (l:=n) (m:=1) rfl rfl AG (by simp only [maxLen]; omega) AC) ?_
   rintro v77 -
   refine E3 (fun m h=>GE h) fun hcA=>?_
   obtain ⟨bA,cA,rfl⟩:∃ b c:Nat,v77=.slice (some ⟨b,0,none⟩) (n+1) c:=by
    obtain ⟨A',c',e,e1,e2,e3,e4⟩:=hcA
    cases A' with
    | none=>have:=e3 rfl; omega
    | some a=>obtain ⟨b,rfl⟩:=e4 a rfl; exact ⟨b,c',e⟩
   have hgs:((C8 C).take n).flatMap (Bw .i64)++[.int .i64 (CP (CO (C8 C) ps))]=((C8 C).take (n+1)).flatMap (Bw .i64):=by rw [Ca hga,List.flatMap_append]; rfl
   rw [hgs]
   have hgn:((C8 C).take (n+1))[n]? = some (CP (CO (C8 C) ps)):=by rw [List.getElem?_take_of_lt AC]; exact hga
   refine Au [0,4,7,8,9,10,16] rfl rfl ?_
   refine Bb [2,4,8,9] ([own 3 1 (.slice (some ⟨bA,0,none⟩) (n+1) cA) (n+1) (((C8 C).take (n+1)).flatMap (Bw .i64)),B5 b16 206 [.int .i64 st,.string (str bt)],B5 b10 88 [.slice Ap ps.length cp,.int .i64 tr]]) ([own 3 1 uv ps.length ((CO (C8 C) ps).flatMap (Bw .i64)),own 211 5 ov V.length (V.flatMap US),B5 b4 43 [.int .i64 3,.int .i64 10,.int .i64 2,.int .u32 7],CT p W,DY W,DJ W,ro μ5]) (Split.ent AG) AP ?_
   refine AD 0 rfl (AH rfl) (AD 1 rfl (Ae rfl) (Bl 2 rfl (Ak rfl rfl) rfl (AD 3 rfl (Ae rfl) (Bl 4 rfl (Ak rfl rfl) rfl (AD 5 rfl (AH rfl) (AD 6 rfl (AH rfl) ?_))))))
   refine AD 7 rfl (AA n rfl rfl AC AC (by rw [Int.toNat_natCast]; omega)) ?_
   refine Bl 8 rfl (Gk rfl JU (by have:=P7 (f:=Bw .i64) (n:=1) (fun _=>rfl) hgn 0 _ rfl; rwa [Nat.mul_one,Nat.add_zero] at this)) rfl ?_
   refine Bl 9 rfl (BL (vs:=[.int .i64 st,.string (str bt)]) rfl rfl rfl) rfl (AD 10 rfl (Bz (qs:=[(0,_),(1,_),(2,_),(3,_)]) rfl) (BX 11 rfl AP AP (Bs (qs:=[(0,_)]) rfl rfl rfl) (fun b89=>?_)))
   refine LH 12 rfl AP AP (Bj (l:=V.length) (m:=1) rfl rfl AG (by simp only [maxLen]; omega) AC) ?_
   rintro v90 -
   skip
   refine AD 13 rfl (Bf rfl) (BZ [0,4,7,8,9] rfl (Bv AP (AV (Ai (Am (Ah rfl (Af (AQ ((n+1:Nat):Int) rfl rfl AC AC AC) (B2 rfl (Bi [0,4,7,8,9] rfl (AJ ?_))))))))))
   refine Ai ⟨(n+1,V++[(.slice Ap ps.length cp,⟨ps,tr,CP (CO (C8 C) ps),st,bt⟩)],μ5,(some ⟨bA,0,none⟩,cA),v90),⟨⟨rfl,rfl,rfl,rfl,rfl,trivial⟩,?_,?_,h25',k1.trans (k2.trans (k3.trans k5)),?_⟩,by show C.length-(n+1)<C.length-n; omega⟩
   ·dsimp only
    rw [List.length_append,List.flatMap_append]
    show Ent _ [own 3 1 (.slice (some ⟨bA,0,none⟩) (n+1) cA) (n+1) (((C8 C).take (n+1)).flatMap (Bw .i64)),own 211 5 v90 (V.length+1) (V.flatMap US++[.slice Ap ps.length cp,.int .i64 tr,.int .i64 (CP (CO (C8 C) ps)),.int .i64 st,.string (str bt)]),B5 b4 43 [.int .i64 3,.int .i64 10,.int .i64 2,.int .u32 7],CT p W,DY W,DJ W,ro μ5]
    exact Split.ent' AG
   ·dsimp only
    rw [List.length_append,List.length_singleton]; omega
   ·exact (hV.le (k2.trans (k3.trans k5))).snoc (x:=(.slice Ap ps.length cp,⟨ps,tr,CP (CO (C8 C) ps),st,bt⟩)) (hps.le (k3.trans k5)) (by rw [hn]; exact hc) (by rw [hn]; exact hga) hfl
 ·have h25':=of_decide_eq_false h25
  obtain rfl:n=C.length:=by omega
  refine BA (e:=211) (n:=5) (v:=ov) (μ:=μ1) AG fun μ2 k2 hor=>?_
  refine B3 (AU (AU (AY rfl (Ai (Ad (Ah rfl (Au [6] rfl rfl (Av ?_))))))))
  exact Aw [CT p W,DY W,DJ W,ro μ2] (.tmp rfl .nil) ⟨μ2,V,k1.trans k2,⟨hor,(hV.le k2).ps⟩,hV.rn AC,by omega,rfl⟩ AG
instance tif_xs:TIface prog 131:=⟨⟨_,underlying131⟩⟩
theorem MX (μ:PH)(p q:Nat)(lv gv:Value)(l:List Lk)(ps:Nat)(W:SW)(hW:W.Ok μ)(hl:Row μ lv 3 l.length (l.flatMap GN))(ht:BK l≤W.pl.2.length)(hc:W.pl.2.length≤16) :
  Spec prog 58 [pv p,.iface 39 (pv ps),.agg setC.toArray] [xB p q lv gv,CT ps W,ro μ] (fun r L=>r=.int .i64 0∧L=[xB p q lv gv,CT ps W,ro μ]):=by
 have hpl:=JN W
 refine Spec.of 25 func58 rfl rfl rfl ?_
 refine Ad (AE (Bp rfl rfl) (fun b5=>?_))
 refine Au [0,1,5] rfl rfl (Aj (Ad (Ah rfl (Af (Bm rfl rfl) (Ah rfl ?_)))))
 refine B9 9 rfl (fun h9=>by cases h9) (fun h9=>?_)
 refine AS rfl rfl (Ah rfl (AS rfl rfl (Af (Hh rfl rfl) (Af (B0 rfl rfl) (Ah rfl ?_)))))
 refine B9 13 rfl (fun h13=>by cases h13) (fun h13=>?_)
 refine AS rfl rfl (AM (BL (vs:=setC) rfl rfl rfl) (AS rfl rfl ?_))
 refine AE (AF FU rfl rfl AG) ?_
 rintro v15 L1 ⟨rfl,rfl⟩
 refine As (AS rfl rfl (Af (Bx rfl rfl) (Af (B0 rfl rfl) (Ah rfl ?_))))
 refine B9 18 rfl (fun h18=>by cases h18) (fun h18=>?_)
 refine AS rfl rfl (Ah rfl (AS rfl rfl ?_))
 refine AE (DD rfl (Nat.zero_le _) (InvS.of (FG ps W μ hW)) rfl AG) ?_
 rintro v20 L1 ⟨rfl,rfl⟩
 refine As (AS rfl rfl (Ah rfl (AS rfl rfl ?_)))
 refine AE (AF (GU p q lv gv [ro μ] l (.row hl) AC) rfl rfl AG) ?_
 rintro v22 L1 ⟨rfl,rfl⟩
 refine As (AS rfl rfl (Af (Be rfl rfl) (Af (B0 rfl rfl) (AI [24] rfl ?_))))
 refine Aq rfl (fun h24=>by have:=of_decide_eq_true h24; omega) (fun h24=>?_)
 refine Ar (Ai (Ad (Au [6] rfl rfl (Av ?_))))
 exact Aw [xB p q lv gv,CT ps W,ro μ] (.tmp rfl .nil) ⟨rfl,rfl⟩ AG
theorem A15{C:List Cm}{R:List GR}(h:RW C R)(hC:GC C):G6 R=(C8 C).take (G6 R).length:=by
 rw [JO]
 apply List.ext_getElem?
 intro i
 have hl:=h.len
 have hg:=hC.glen
 by_cases hi:i<R.length
 ·rw [List.getElem?_take_of_lt hi]
  have hr:R[i]? = some R[i]:=List.getElem?_eq_getElem hi
  rw [(h.row i _ hr).2]
  unfold G6
  rw [List.getElem?_map,hr]; rfl
 ·rw [List.getElem?_take_eq_none AC,List.getElem?_eq_none (by rw [JO]; omega)]
structure XS (μ:PH) (m c:Nat) (W:SW) (d:Dk) (lv gv:Value) (l:List Lk) (V:List GV):Prop where
 xd:XD m c d l (HF V)
 ix:IX μ lv gv l V
 rw:RW W.pl.2 (CR (HF V))
theorem XS.tot{μ:PH}{m c:Nat}{W:SW}{d:Dk}{lv gv:Value}{l:List Lk}{V:List GV}(h:XS μ m c W d lv gv l V):BK l=(CR (HF V)).length∧BK l≤W.pl.2.length:=by
 have a:=h.xd.rall
 have b:=h.rw.len
 omega
theorem XS.le{μ μ':PH}{m c:Nat}{W:SW}{d:Dk}{lv gv:Value}{l:List Lk}{V:List GV}(h:XS μ m c W d lv gv l V)(k:Le μ μ'):XS μ' m c W d lv gv l V:=⟨h.xd,h.ix.le k,h.rw⟩
abbrev xsA (p ps q:Nat)(W:SW)(d:Dk)(lv gv:Value)(μ:PH):List AK:=[xB p q lv gv,FSA q d,CT ps W,DY W,DJ W,ro μ]
def XQ (p ps q m c:Nat)(W:SW)(μ:PH)(d:Dk)(r:Value)(L:List AK):Prop:=∃ μ' lv gv d' l V,Le μ μ'∧XS μ' (m+22) (c+1) W d' lv gv l V∧Ec d' logN=Ec d logN∧r=.int .i64 0∧L=xsA p ps q W d' lv gv μ'
set_option maxHeartbeats 4000000 in
theorem W6 (μ:PH)(hs:SynOk μ)(m c p q ps:Nat)(d:Dk)(l:List Lk)(V:List GV)(lv gv:Value)(W:SW)(hX:XS μ m c W d lv gv l V)(hW:W.Ok μ)(hS:SOk W)(h0:1≤W.pl.2.length)(hc:c<13)(hm:m≤40000) :
  Spec prog 45 [pv p,.iface 39 (pv ps),.agg setC.toArray] (xsA p ps q W d lv gv μ) (XQ p ps q m c W μ d):=by
 have hC16:=hS.gc.len
 have hpl:=JN W
 obtain ⟨ht,ht2⟩:=hX.tot
 refine Spec.of 27 func45 rfl rfl rfl ?_
 refine Ad (AE (Bp rfl rfl) (fun b5=>?_))
 refine Au [0,1,5] rfl rfl (Aj (Ad (Ah rfl (Ah rfl (AM (BL (vs:=setC) rfl rfl rfl) ?_)))))
 refine AE (AF (MX μ p q lv gv l ps W hW hX.ix.lr ht2 hC16) rfl rfl AG) ?_
 rintro v11 L1 ⟨rfl,rfl⟩
 refine As (Au [0,1,5,7] rfl rfl (Ad (Ah rfl (Af (Bx rfl rfl) (Ah rfl ?_)))))
 refine B9 14 rfl (fun h14=>by cases h14) (fun h14=>?_)
 refine AS rfl rfl (Ah rfl (AS rfl rfl ?_))
 refine AE (DD rfl (Nat.zero_le _) (InvS.of (FG ps W μ hW)) rfl AG) ?_
 rintro v16 L1 ⟨rfl,rfl⟩
 refine As (AS rfl rfl (Af (Bo rfl rfl) (Af (B0 rfl rfl) (AI [0,1,5,7,18] rfl ?_))))
 refine Aq rfl (fun h18=>by have:=of_decide_eq_true h18; omega) (fun h18=>?_)
 refine Ar (Ai (Aj ?_))
 refine Bb [1,3] ([B5 b5 43 setC]) ([CT ps W,xB p q lv gv,ro μ,FSA q d,DY W,DJ W]) (Split.ent AG) AP ?_
 refine AD 0 rfl (AH rfl) (Bl 1 rfl (BL (vs:=setC) rfl rfl rfl) rfl (AD 2 rfl (AH rfl) (Bl 3 rfl (BL (vs:=setC) rfl rfl rfl) rfl ?_)))
 refine CQ 4 rfl AP (AF (MW ps W μ hW hS (.slice none 0 0) [] (Row.nil _ _) (by simp) (Nat.zero_le _)) rfl rfl AG) ?_
 rintro v24 L1 ⟨μ1,R,k1,hg,hn,hl,rfl⟩
 refine ⟨_,BU (Split.ent AG),?_⟩
 obtain ⟨A24,c24,rfl⟩:=hg.row.sl
 refine AD 5 rfl (Bz (qs:=[(1,_),(2,_)]) rfl) ?_
 have hl':R.length=W.pl.2.length:=by simpa using hl
 refine BX 6 rfl AP AP (AF (QZ μ1 (hs.le k1) m c p q d l V lv gv hX.xd (hX.ix.le k1) hc hm [] [] (.slice none 0 0) (.slice none 0 0) (IX.none μ1) (.inr ⟨rfl,rfl⟩) rfl 0 _ R rfl hg (hn.ok hS.gc) AC (by decide) (by show 0+R.length≤_; omega) _ rfl) rfl rfl AG) ?_
 rintro v26 L1 ⟨μ2,lv',gv',d',k2,hI',hX',hlog,rfl,rfl⟩
 refine C5 (AD 7 rfl (Bf rfl) (BZ [6] rfl (Bv AP (Ai (Av ?_)))))
 refine Aw (xsA p ps q W d' lv' gv' μ2) (.tmp rfl .nil) ⟨μ2,lv',gv',d',_,_,k1.trans k2,⟨hX',hI',?_⟩,hlog,rfl,rfl⟩ AG
 have e:CR (HF [(0,Value.slice A24 R.length c24,R)])=E0 R:=II _ _
 rw [List.nil_append,e]
 exact hn.whole
theorem XS.up{μ:PH}{m c:Nat}{W:SW}{d:Dk}{lv gv:Value}{l:List Lk}{V:List GV}(h:XS μ m c W d lv gv l V):XS μ (m+22) (c+1) W d lv gv l V:=⟨⟨h.xd.dv.mono AC,h.xd.nm,h.xd.ch,h.xd.len,h.xd.gf,h.xd.lk,by have:=h.xd.nx; omega⟩,h.ix,h.rw⟩
set_option maxHeartbeats 8000000 in
theorem W7 (μ:PH)(hs:SynOk μ)(m c p q ps:Nat)(d:Dk)(l:List Lk)(V:List GV)(lv gv:Value)(W:SW)(hX:XS μ m c W d lv gv l V)(hW:W.Ok μ)(hS:SOk W)(h0:1≤W.pl.2.length)(hc:c<13)(hm:m≤40000) :
  Spec prog 31 [pv p,.iface 39 (pv ps),.agg setC.toArray] (xsA p ps q W d lv gv μ) (XQ p ps q m c W μ d):=by
 have hC16:=hS.gc.len
 have hpl:=JN W
 obtain ⟨ht,ht2⟩:=hX.tot
 refine Spec.of 51 func31 rfl rfl rfl ?_
 refine Ad (AE (Bp rfl rfl) (fun b5=>?_))
 refine Au [0,1,5] rfl rfl (Aj (Ad (Ah rfl (Ah rfl (AM (BL (vs:=setC) rfl rfl rfl) ?_)))))
 refine AE (AF (MX μ p q lv gv l ps W hW hX.ix.lr ht2 hC16) rfl rfl AG) ?_
 rintro v11 L1 ⟨rfl,rfl⟩
 refine As (Au [0,1,5,7] rfl rfl (Ad (Ah rfl (Af (Bx rfl rfl) (Ah rfl ?_)))))
 refine B9 14 rfl (fun h14=>by cases h14) (fun h14=>?_)
 refine AS rfl rfl (Ah rfl (AS rfl rfl ?_))
 refine AE (DD rfl (Nat.zero_le _) (InvS.of (FG ps W μ hW)) rfl AG) ?_
 rintro v16 L1 ⟨rfl,rfl⟩
 refine As (AS rfl rfl (Ah rfl (AS rfl rfl ?_)))
 refine AE (AF (GU p q lv gv [ro μ] l (.row hX.ix.lr) AC) rfl rfl AG) ?_
 rintro v18 L1 ⟨rfl,rfl⟩
 refine As (AS rfl rfl (Af (Bo rfl rfl) (Af (B0 rfl rfl) (AI [0,1,5,7,20] rfl ?_))))
 refine Aq rfl (fun h20=>?_) (fun h20=>?_)
 ·refine Ad (Ah rfl (Au [6] rfl rfl (Av (AZ ?_))))
  exact Aw (xsA p ps q W d lv gv μ) (.tmp rfl .nil) ⟨μ,lv,gv,d,l,V,Le.refl _,hX.up,rfl,rfl,rfl⟩ AG
 ·have h20':=of_decide_eq_false h20
  refine Ar (Ai (Aj (Ad (Ah rfl (Af (Al rfl) (Af (Ae rfl) (AM (Ak rfl rfl) (Af (AW hX.ix.lr rfl) (Af (Cs rfl rfl) (AI [0,1,5,27] rfl ?_))))))))))
  refine Aq rfl (fun h27=>?_) (fun h27=>?_)
  ·refine Ad (Ah rfl (Ah rfl (AM (BL (vs:=setC) rfl rfl rfl) ?_)))
   refine AE (AF (W6 μ hs m c p q ps d l V lv gv W hX hW hS h0 hc hm) rfl rfl AG) ?_
   rintro v31 L1 ⟨μ',lv',gv',d',l',V',k1,hX',hlog,rfl,rfl⟩
   refine As (Au [6] rfl rfl (Av (AZ ?_)))
   exact Aw (xsA p ps q W d' lv' gv' μ') (.tmp rfl .nil) ⟨μ',lv',gv',d',l',V',k1,hX',hlog,rfl,rfl⟩ AG
  ·have h27':=of_decide_eq_false h27
   refine Ar (Ai (Aj ?_))
   refine Bb [4,8,11,13] ([xB p q lv gv,B5 b5 43 setC]) ([ro μ,CT ps W,FSA q d,DY W,DJ W]) (Split.ent AG) AP ?_
   refine AD 0 rfl (AH rfl) (AD 1 rfl (AH rfl) (AD 2 rfl (Al rfl) (AD 3 rfl (Ae rfl) (Bl 4 rfl (Ak rfl rfl) rfl (AD 5 rfl (AH rfl) (AD 6 rfl (Al rfl) (AD 7 rfl (Ae rfl) (Bl 8 rfl (Ak rfl rfl) rfl (AD 9 rfl (AH rfl) (Bl 11 rfl (BL (vs:=setC) rfl rfl rfl) rfl (AD 12 rfl (AH rfl) (Bl 13 rfl (BL (vs:=setC) rfl rfl rfl) rfl (AD 14 rfl (AH rfl) ?_)))))))))))))
   refine CQ 10 rfl AP (AF (GU p q lv gv [ro μ] l (.row hX.ix.lr) AC) rfl rfl AG) ?_
   rintro v42 L1 ⟨rfl,rfl⟩
   refine ⟨_,BU (Split.ent AG),?_⟩
   refine CQ 15 rfl AP (AF (W5 μ p q lv gv l V hX.ix AC) rfl rfl AG) ?_
   rintro v47 L1 rfl
   refine ⟨_,BU (Split.ent AG),?_⟩
   refine Hq (v:=v47) (μ:=μ) AG fun μ1 k1 hk=>?_
   have hgl:=JO (CR (HF V))
   refine CQ 16 rfl AP (AF (MW ps W μ1 (hW.le k1) hS v47 (G6 (CR (HF V))) hk (A15 hX.rw hS.gc) AC) rfl rfl AG) ?_
   rintro v48 L1 ⟨μ2,R,k2,hg,hn,hl,rfl⟩
   refine ⟨_,BU (Split.ent AG),?_⟩
   obtain ⟨A48,c48,rfl⟩:=hg.row.sl
   refine AD 17 rfl (Bz (qs:=[(0,_),(1,_),(2,_)]) rfl) ?_
   have hbase:BK l=(G6 (CR (HF V))).length:=by omega
   have hlen:V.length=l.length:=by have:=hX.xd.len; unfold HF at this; rwa [List.length_map] at this
   rw [hgl] at hn hl
   refine BX 18 rfl AP AP (AF (QZ μ2 (hs.le (k1.trans k2)) m c p q d l V lv gv hX.xd (hX.ix.le (k1.trans k2)) hc hm l V lv gv (hX.ix.le (k1.trans k2)) (.inl ⟨rfl,rfl⟩) hlen (BK l) _ R rfl hg (by rw [ht]; exact hn.ok hS.gc) AC AC AC _ rfl) rfl rfl AG) ?_
   rintro v50 L1 ⟨μ3,lv',gv',d',k3,hI',hX',hlog,rfl,rfl⟩
   refine C5 (AD 19 rfl (Bf rfl) (BZ [6] rfl (Bv AP (Ai (Av ?_)))))
   refine Aw (xsA p ps q W d' lv' gv' μ3) (.tmp rfl .nil) ⟨μ3,lv',gv',d',_,_,(k1.trans k2).trans k3,⟨hX',hI',?_⟩,hlog,rfl,rfl⟩ AG
   have e:CR (HF (V++[(BK l,Value.slice A48 R.length c48,R)]))=CR (HF V)++E0 R:=by
    unfold HF
    rw [List.map_append,GW]
    exact congrArg (_++·) (II _ _)
   rw [e]
   exact RN.join hX.rw hn
abbrev grZ:List Value:=[.slice none 0 0,.int .i64 0,.int .i64 0,.int .i64 0,.string ⟨#[]⟩]
abbrev stZ:List Value:=[.int .i64 0,.int .i64 0,.int .i64 0,.int .u32 0]
set_option maxHeartbeats 4000000 in
theorem T4 (μ:PH)(m c p q:Nat)(d:Dk)(l:List Lk)(V:List GV)(lv gv:Value)(hX:XD m c d l (HF V))(hI:IX μ lv gv l V)(ht:BK l≤65536)(n:Nat)(hn:n<BK l) :
  Spec prog 351 [pv p,.int .i64 (n:Nat)] [xB p q lv gv,ro μ] (fun r L=>∃ A c0 R,(CR (HF V))[n]? = some R∧Row μ (.slice A R.ps.length c0) 1 R.ps.length (R.ps.flatMap (Bw .i64))∧r=.tuple #[.agg (grl A c0 R).toArray,.agg setC.toArray,.bool true]∧L=[xB p q lv gv,ro μ]):=by
 have hVl:V.length=l.length:=by have:=hX.len; unfold HF at this; rwa [List.length_map] at this
 have hsm:=hI.gr.small
 refine Spec.of 47 func351 rfl rfl rfl ?_
 refine Ad (AE (Bd) (fun b4=>?_))
 refine AE (Bd) fun b5=>?_
 refine Au [0,1,4,5] rfl rfl (Aj (Ad (Ah rfl (Af (Cs rfl rfl) (Ah rfl ?_)))))
 refine B9 11 rfl (fun h11=>?_) (fun h11=>by have:=of_decide_eq_false h11; omega)
 refine AS rfl rfl (Ah rfl (AS rfl rfl (Ah rfl (AS rfl rfl ?_))))
 refine AE (AF (GU p q lv gv [ro μ] l (.row hI.lr) AC) rfl rfl AG) ?_
 rintro v14 L1 ⟨rfl,rfl⟩
 refine As (AS rfl rfl (Af (Be rfl rfl) (Af (Bc rfl rfl) (AI [0,1,4,5,16] rfl ?_))))
 refine Aq rfl (fun h16=>?_) (fun h16=>by have:=of_decide_eq_false h16; omega)
 refine Ad (Ah rfl (Af (Al rfl) (Af (Ae rfl) (AM (Ak rfl rfl) (Af (AW hI.gr rfl) (Ah rfl (AI [1,4,5,20,21,22] rfl (AB ?_))))))))
 refine B4 (ι:=Nat) (fun i env L=>Sub env [(1,.int .i64 (n:Nat)),(4,pv b4),(5,pv b5),(20,gv),(21,.int .i64 (V.length:Nat)),(22,.int .i64 (i:Nat))]∧Ent L [B5 b4 211 grZ,B5 b5 43 stZ,xB p q lv gv,ro μ]∧i≤V.length∧BK (l.take i)≤n) (fun i=>V.length-i) 0 ⟨⟨rfl,rfl,rfl,rfl,rfl,rfl,trivial⟩,Split.ent' AG,Nat.zero_le _,Nat.zero_le _⟩ ?_
 rintro i env L ⟨hsub,hE,hi,hti⟩
 refine B7 _ hsub (AX hE ?_)
 clear hsub hE env L
 refine Ad (Af (Be rfl rfl) (AI [1,4,5,20,21,22,23] rfl (Aj ?_)))
 refine Aq rfl (fun h23=>?_) (fun h23=>?_)
 ·have h23':i<V.length:=by have:=of_decide_eq_true h23; omega
  obtain ⟨x,hx⟩:∃ x,V[i]? = some x:=⟨_,List.getElem?_eq_getElem h23'⟩
  obtain ⟨y,hy⟩:∃ y,l[i]? = some y:=⟨_,List.getElem?_eq_getElem AC⟩
  obtain ⟨gb,off,cap,hv,hra⟩:=Yt hI.gr hx
  have hgr:=hI.rs x (List.mem_of_getElem? hx)
  have hpx:(HF V)[i]? = some (x.1,E0 x.2.2):=by unfold HF; rw [List.getElem?_map,hx]; rfl
  obtain ⟨-,-,f3,f4,-⟩:=hX.gf i y _ hy hpx
  have hts:=I9 hy
  have hle:=Kj (l:=l) (i+1)
  have hRl:(E0 x.2.2).length=x.2.2.length:=List.length_map _
  have hfind:=hX.find (n:=n) hpx hti
  obtain ⟨base,rv,R⟩:=x
  dsimp only at hra hgr f3 f4 hRl hfind
  obtain ⟨Arv,crv,rfl⟩:=hgr.row.sl
  refine Ar (Ai (Aj (AB (Ad ?_))))
  refine Af (AA (off+i*6) (congrArg some hv) rfl AC AC (by rw [Int.toNat_natCast])) ?_
  refine AM (Cu (vs:=SR base (.slice Arv R.length crv)) rfl rfl hra) (AE (Bd) (fun b8=>?_))
  refine Bh (B8 rfl rfl rfl rfl) (AI [1,4,5,8,20,21,22] rfl (Ad (Ah rfl (Af (Ae rfl) (AM (Ak rfl rfl) (Af (Ae rfl) (AM (Ak rfl rfl) (Af (AW hgr.row rfl) (Af (AQ ((base+R.length:Nat):Int) rfl rfl AC AC AC) (Af (Be rfl rfl) (AI [1,4,5,8,20,21,22,33] rfl ?_)))))))))))
  refine Aq rfl (fun h33=>?_) (fun h33=>?_)
  ·have h33':n<base+R.length:=by have:=of_decide_eq_true h33; omega
   obtain ⟨hb,hrow⟩:=hfind AC
   obtain ⟨z,hz⟩:∃ z,R[n-base]? = some z:=⟨_,List.getElem?_eq_getElem AC⟩
   obtain ⟨rb,ro1,rcap,Az,cz,hrv,hrz,hrp,-⟩:=P8 hgr hz
   rw [Sk hz] at hrow
   obtain ⟨zv,z⟩:=z
   dsimp only at hrz hrp hrow
   refine Aj ?_
   refine Bb [1,4,7,9] ([B5 b8 141 (SR base (.slice Arv R.length crv)),ro μ]) ([B5 b4 211 grZ,B5 b5 43 stZ,xB p q lv gv]) (Split.ent AG) AP ?_
   refine AD 0 rfl (Ae rfl) (Bl 1 rfl (Ak rfl rfl) rfl (AD 2 rfl (AH rfl) (AD 3 rfl (Ae rfl) (Bl 4 rfl (Ak rfl rfl) rfl (AD 5 rfl (BH ((n-base:Nat):Int) rfl rfl AC AC AC) ?_)))))
   refine AD 6 rfl (AA (ro1+(n-base)*5) (congrArg some hrv) rfl AC AC (by rw [Int.toNat_natCast])) ?_
   refine Bl 7 rfl (Cu (vs:=grl Az cz z) rfl rfl hrz) rfl (AD 8 rfl (Ae rfl) (Bl 9 rfl (BL (vs:=setC) rfl rfl rfl) rfl (RH 10 rfl AP (B8 rfl rfl rfl rfl) ?_)))
   refine ⟨_,Split.ent AG,?_⟩
   refine Cx 11 rfl AP AP (B8 rfl rfl rfl rfl) (AD 12 rfl (Bf rfl) (BZ [4,5,6] rfl (Bv AP (Ai (Av (Bg (AZ (AZ (Bg (AZ ?_))))))))))
   exact Aw [xB p q lv gv,ro μ] (.cell rfl (BT rfl) (.cell rfl (BT rfl) (.tmp rfl .nil))) ⟨Az,cz,z,hrow,hrp,rfl,rfl⟩ AG
  ·have h33':=of_decide_eq_false h33
   refine Ar (AV (Ai (Am (Af (AQ ((i+1:Nat):Int) rfl rfl AC AC AC) (Ah rfl (Bi [1,4,5,20,21,22] rfl (AJ ?_)))))))
   exact Ai ⟨i+1,⟨⟨rfl,rfl,rfl,rfl,rfl,rfl,trivial⟩,Split.ent' AG,h23',by omega⟩,by omega⟩
 ·have h23':=of_decide_eq_false h23
  obtain rfl:i=V.length:=by omega
  rw [hVl,List.take_length] at hti
  refine B3 (AU (AU (AY rfl (Ai (Ad (Af (Bz (qs:=[]) rfl) (Af (Bz (qs:=[]) rfl) (Bh (B8 rfl rfl rfl rfl) (Bh (B8 rfl rfl rfl rfl) (Au [4,5,6] rfl rfl (Av ?_)))))))))))
  omega
abbrev rwO (A:Option Addr)(c0:Nat)(R:GR):AK:=own 3 1 (.slice A R.ps.length c0) R.ps.length (R.ps.flatMap (Bw .i64))
set_option maxHeartbeats 2000000 in
theorem W8 (μ:PH)(m c p q:Nat)(d:Dk)(l:List Lk)(V:List GV)(lv gv:Value)(hX:XD m c d l (HF V))(hI:IX μ lv gv l V)(ht:BK l≤65536)(n:Nat)(hn:n<BK l)(hps:∀ R,(CR (HF V))[n]? = some R→R.ps.length≤16) :
  Spec prog 296 [pv p,.int .i64 (n:Nat)] [xB p q lv gv,ro μ] (fun r L=>∃ A c0 R,(CR (HF V))[n]? = some R∧r=.tuple #[.agg (grl A c0 R).toArray,.bool true]∧L=[rwO A c0 R,xB p q lv gv,ro μ]):=by
 refine Spec.of 22 func296 rfl rfl rfl ?_
 refine Ad ?_
 refine AE (Bd) fun b4=>?_
 refine Au [0,1,4] rfl rfl (Ad (Ah rfl (Ah rfl ?_)))
 refine AE (AF (T4 μ m c p q d l V lv gv hX hI ht n hn) rfl rfl AG) ?_
 rintro v12 L1 ⟨A,c0,R,hR,hrow,rfl,rfl⟩
 refine As (Ah rfl (Af (Ax rfl) (Af (Ax rfl) (Af (Ax rfl) ?_))))
 refine AE (Bd) fun b6=>?_
 refine AE (Bd) fun b7=>?_
 refine Bh (B8 rfl rfl rfl rfl) ?_
 refine Bh (B8 rfl rfl rfl rfl) ?_
 refine Au [4,6,8] rfl rfl (Ad (Af (Ae rfl) (AM (Ak rfl rfl) ?_)))
 refine AE (AF (Fb μ _ R.ps hrow (by have:=hps R hR; omega)) rfl rfl AG) ?_
 rintro v18 L1 ⟨A18,c18,rfl,rfl⟩
 refine As (Af (Ae rfl) ?_)
 refine Bh (Ba rfl rfl rfl) ?_
 refine AI [4,6,8] rfl (Ad ?_)
 refine AM (Cn rfl rfl) ?_
 refine Ah rfl ?_
 refine Bh (B8 rfl rfl rfl rfl) ?_
 refine Au [4,5] rfl rfl (Av ?_)
 exact Aw [rwO A18 c18 R,xB p q lv gv,ro μ] (.cell rfl (BT rfl) (.tmp rfl .nil)) ⟨A18,c18,R,hR,rfl,rfl⟩ AG

def tabV:List Value:=Lib.deBruijn64tab.map fun n=>Value.int .u8 (n:Nat)
theorem A08{μ:PH}{g:Nat}(h:RowAt μ g 0 tabV){j k:Nat}(hj:j<64)(hk:Lib.deBruijn64tab.getD j 0=k):CellAt μ g j (.int .u8 (k:Nat)):=by
 have hlen:Lib.deBruijn64tab.length=64:=rfl
 have:=h j (.int .u8 (k:Nat)) (by
  unfold tabV
  rw [List.getElem?_map,List.getElem?_eq_getElem AC]
  simp only [Option.map_some]
  rw [← hk,List.getD_eq_getElem?_getD,List.getElem?_eq_getElem AC]; rfl)
 rwa [Nat.zero_add] at this

theorem A09(μ:PH)(w:BitVec 64)(hT:RowAt μ 2 0 tabV)(hw:w≠0#64):Spec prog 344 [wv w] [ro μ] (fun v L=>v=.int .i64 (ctz w:Nat)∧L=[ro μ]):=by
 obtain ⟨h1,h2⟩:=Zf hw
 have hc:=A08 hT h1 h2
 have hz:=(PU hw).1
 have hn:¬ ((w.toNat:Int)=0):=fun e=>hw (BitVec.eq_of_toNat_eq (by simpa using e))
 refine Spec.of 14 func344 rfl rfl rfl ?_
 refine Ad (Au [0] rfl rfl (Aj (Ad (Ah rfl (Af (Bo rfl rfl) (AI [0,4] rfl ?_))))))
 refine Aq rfl (fun h4=>absurd (of_decide_eq_true h4) hn) (fun h4=>?_)
 refine Ar (Ai (Ad (Ah rfl (Ah rfl (Af (WU (a:=w) rfl) (Af (PR (a:=w) (b:=-w) rfl rfl) (Af (WT (a:=w &&& -w) (b:=285870213051353865#64) rfl rfl) ?_)))))))
 refine Af (Gt (a:=(w &&& -w)*285870213051353865#64) 58 rfl rfl (by decide)) ?_
 refine Af (ES (((w &&& -w)*285870213051353865#64) >>> 58).toNat rfl rfl AC AC (by rw [Int.toNat_natCast]; omega)) ?_
 refine AM (BJ rfl hc) (Af (DP rfl AC AC) (Au [2] rfl rfl (Av ?_)))
 exact Aw [ro μ] (.tmp rfl .nil) ⟨rfl,rfl⟩ AG

def ucs (w:BitVec 64):List Value:=[wv w]
theorem Ub (w:BitVec 64):(ucs w).length=1:=rfl
def CE (ws:List (BitVec 64)):List Value:=ws.flatMap ucs
theorem EX (ws:List (BitVec 64)):(CE ws).length=ws.length:=by unfold CE; rw [Cp Ub,Nat.mul_one]
theorem EY {ws:List (BitVec 64)}{ex:List Value}{i:Nat}{w:BitVec 64}(h:ws[i]? = some w):(CE ws++ex)[i]? = some (wv w):=by
 have:=Cz Ub ws ex i w h 0 (wv w) rfl
 rwa [Nat.mul_one,Nat.add_zero] at this
theorem T5 {ws:List (BitVec 64)}{ex:List Value}{i:Nat}{w:BitVec 64}(h:i<ws.length):(CE ws++ex).set i (wv w)=CE (ws.set i w)++ex:=by
 rw [List.set_append_left _ _ (by rw [EX]; exact h)]
 congr 1
 apply List.ext_getElem?
 intro j
 have key:∀ (ws:List (BitVec 64)) (j:Nat),(CE ws)[j]? = (ws[j]?).map wv:=by
  intro ws j
  cases hj:ws[j]? with
  | none =>
   rw [List.getElem?_eq_none_iff] at hj
   simp only [Option.map_none]
   rw [List.getElem?_eq_none_iff,EX]; exact hj
  | some w=>have:=EY (ex:=[]) hj; rwa [List.append_nil] at this
 rw [key,List.getElem?_set,List.getElem?_set,key,EX]
 split
 ·simp
 ·rfl
def Fg (ws:List (BitVec 64))(k:Nat):Bool:=(ws.getD (k / 64) 0#64).getLsbD (k % 64)
theorem Px {ws:List (BitVec 64)}{i:Nat}{w:BitVec 64}(h:ws[i]? = some w){k:Nat}(hk:k / 64=i):Fg ws k=w.getLsbD (k % 64):=by
 unfold Fg; rw [hk,List.getD_eq_getElem?_getD,h]; rfl
theorem R1 (w:BitVec 64)(r:Nat):(decide ((((w >>> r) &&& 1#64).toNat:Int)=0)) = !w.getLsbD r:=by
 have e:((w >>> r) &&& 1#64).toNat=(w.getLsbD r).toNat:=by
  rw [BitVec.toNat_and,BitVec.toNat_ushiftRight,show (1#64:BitVec 64).toNat=1 from rfl,Nat.and_one_is_mod,Nat.shiftRight_eq_div_pow]
  show _=(w.toNat.testBit r).toNat
  rw [Nat.testBit_eq_decide_div_mod_eq]
  rcases Nat.mod_two_eq_zero_or_one (w.toNat / 2 ^ r) with h | h <;> simp [h]
 rw [e]
 cases w.getLsbD r <;> simp

abbrev W9 (p n:Nat)(v:Value)(ws:List (BitVec 64)):List AK:=[B5 p 396 [.int .i64 (n:Nat),v],own 215 1 v ws.length (CE ws)]
def Wf (n:Nat)(ws:List (BitVec 64))(S:Nat→Bool):Prop:=ws.length=(n+63) / 64∧n≤1048576∧(∀ k,Fg ws k=S k)∧∀ k,n≤k→S k=false
def EJ (p n:Nat)(S:Nat→Bool):AK:=exA fun x : {x:Value×List (BitVec 64) // Wf n x.2 S}=>W9 p n x.1.1 x.1.2
theorem Hr {p n:Nat}{S:Nat→Bool}{v:Value}{ws:List (BitVec 64)}{L:List AK}(h:Wf n ws S):Ent (B5 p 396 [.int .i64 (n:Nat),v]::own 215 1 v ws.length (CE ws)::L) (EJ p n S::L) :=
 Fd (F:=fun x : {x:Value×List (BitVec 64) // Wf n x.2 S}=>W9 p n x.1.1 x.1.2) ⟨(v,ws),h⟩ AG
theorem FY {b cap:Nat}{ws:List (BitVec 64)}{ex:List Value}{L:List AK}(h1:ws.length≤cap)(h2:cap≤maxLen)(h4:ex.length=(cap-ws.length)*1) :
  Ent (B5 b 215 (CE ws++ex)::L) (own 215 1 (.slice (some ⟨b,0,none⟩) ws.length cap) ws.length (CE ws)::L):=DB (by rw [EX,Nat.mul_one]) h4 h1 h2

theorem T6 (p n:Nat)(v:Value):Spec prog 215 [.pointer (some ⟨p,0,none⟩)] [B5 p 396 [.int .i64 (n:Nat),v]] (fun r L=>r=.int .i64 (n:Nat)∧L=[B5 p 396 [.int .i64 (n:Nat),v]]):=by
 refine Spec.of 9 func215 rfl rfl rfl ?_
 refine Ad (Au [0] rfl rfl (Aj (Ad (Ah rfl (Af (Bm rfl rfl) (AI [0,4] rfl (Dw rfl (Ar (Ai (Ad (Ah rfl (Af (Al rfl) (Af (Ae rfl) (AM (Ak rfl rfl) (Au [2] rfl rfl (Av ?_))))))))))))))))
 exact Aw _ (.tmp rfl .nil) ⟨rfl,rfl⟩ AG
theorem A0C(p n:Nat)(v:Value)(ws:List (BitVec 64))(k:Int)(hl:ws.length=(n+63) / 64)(hn:n≤1048576) :
  Spec prog 205 [.pointer (some ⟨p,0,none⟩),.int .i64 k] (W9 p n v ws) (fun r L=>r=.bool (decide (0≤k)&&(decide (k<n)&&Fg ws k.toNat))∧L=W9 p n v ws):=by
 refine Spec.of 28 func205 rfl rfl rfl ?_
 refine Ad (Au [0,1] rfl rfl (Ad (Ah rfl (Af (Cs rfl rfl) (Ah rfl ?_)))))
 refine B9 7 rfl (fun h7=>?_) (fun h7=>?_)
 ·refine AS rfl rfl (Ah rfl (AS rfl rfl (Ah rfl (AS rfl rfl ?_))))
  refine AE (AF (T6 p n v) rfl rfl AG) ?_
  rintro v1 L1 ⟨rfl,rfl⟩
  refine As (AS rfl rfl (Af (Be rfl rfl) (Af (Bc rfl rfl) (Ah rfl ?_))))
  refine B9 13 rfl (fun h13=>?_) (fun h13=>?_)
  ·have h7':=of_decide_eq_true h7
   have h13':=of_decide_eq_true h13
   obtain ⟨m,rfl⟩:∃ m:Nat,k=m:=⟨k.toNat,by omega⟩
   have hmi:m / 64<ws.length:=by omega
   obtain ⟨w,hw⟩:∃ w,ws[m / 64]? = some w:=⟨_,List.getElem?_eq_getElem hmi⟩
   refine Tz JU (fun h0 l0 _=>by omega) (fun b cap ex hv h1 h2 h3 h4=>?_)
   subst hv
   refine AS rfl rfl (Ah rfl (AS rfl rfl (Af (Al rfl) (AS rfl rfl (Af (Ae rfl) (AS rfl rfl (AM (Ak rfl rfl) (AS rfl rfl (Ah rfl (AS rfl rfl (Af (EO ((m / 64:Nat):Int) rfl rfl AC AC AC AC) (AS rfl rfl (Af (AA (m / 64) rfl rfl AC AC AC) (AS rfl rfl (AM (Ak rfl (EY hw)) (AS rfl rfl (Ah rfl (AS rfl rfl (Af (Ip ((m % 64:Nat):Int) rfl rfl AC AC AC) (AS rfl rfl (Af (Gt (a:=w) (m % 64) rfl rfl AC) (AS rfl rfl (Af (PR (b:=1#64) rfl rfl) (AS rfl rfl (Af (Bx rfl rfl) (Af (Bc rfl rfl) (Au [4] rfl rfl (Av ?_))))))))))))))))))))))))))))
   exact B6 (W9 p n _ ws) (.tmp rfl .nil) ⟨by simp only [HK,h7,h13,Bool.true_and,Int.toNat_natCast]; rw [R1 w _,Bool.not_not,Px hw rfl],rfl⟩
    ((Split.ent' (K:=[B5 b 215 (CE ws++ex),B5 p 396 [.int .i64 (n:Nat),.slice (some ⟨b,0,none⟩) ws.length cap]]) AG).trans ((FY h1 h2 h4).trans Ent.swap))
  ·refine B1 rfl rfl rfl (B1 rfl rfl rfl (B1 rfl rfl rfl (B1 rfl rfl rfl (B1 rfl rfl rfl (B1 rfl rfl rfl (B1 rfl rfl rfl (B1 rfl rfl rfl (B1 rfl rfl rfl (B1 rfl rfl rfl (B1 rfl rfl rfl (B1 rfl rfl rfl (B1 rfl rfl rfl (Af (B0 rfl rfl) (Au [4] rfl rfl (Av ?_)))))))))))))))
   exact Aw (W9 p n v ws) (.tmp rfl .nil) ⟨by simp [HK, *],rfl⟩ AG
 ·refine B1 rfl rfl rfl (B1 rfl rfl rfl (B1 rfl rfl rfl (B1 rfl rfl rfl (Af (B0 rfl rfl) (Ah rfl (B1 rfl rfl rfl (B1 rfl rfl rfl (B1 rfl rfl rfl (B1 rfl rfl rfl (B1 rfl rfl rfl (B1 rfl rfl rfl (B1 rfl rfl rfl (B1 rfl rfl rfl (B1 rfl rfl rfl (B1 rfl rfl rfl (B1 rfl rfl rfl (B1 rfl rfl rfl (B1 rfl rfl rfl (Af (B0 rfl rfl) (Au [4] rfl rfl (Av ?_)))))))))))))))))))))
  exact Aw (W9 p n v ws) (.tmp rfl .nil) ⟨by simp [HK, *],rfl⟩ AG
def Ij (k:Int):Nat:=(min (max k 0) 1048576).toNat
theorem A0D(k:Int):Spec prog 202 [.int .i64 k] [] (fun r L=>∃ p,r=.pointer (some ⟨p,0,none⟩)∧L=[EJ p (Ij k) (fun _=>false)]):=by
 have hc:min (max k 0) 1048576=((Ij k:Nat):Int):=by unfold Ij; omega
 have hle:Ij k≤1048576:=by unfold Ij; omega
 generalize Ij k=n at hc hle
 refine Spec.of 13 func202 rfl rfl rfl ?_
 refine Ad (Au [0] rfl rfl (Ad (Ah rfl (Af (Ea rfl rfl) (Af (DE rfl rfl) (B2 rfl (Bi [0] rfl ?_)))))))
 rw [hc]
 refine Dj (Ad (Ah rfl (Ah rfl (Af (Fy rfl rfl AC AC) (Af (EO (((n+63) / 64:Nat):Int) rfl rfl AC AC AC AC) ?_)))))
 refine AE (FK ((n+63) / 64) rfl rfl rfl AC (by simp only [maxLen]; omega)) ?_
 rintro b
 skip
 refine Af (Bz (qs:=[(0,_),(1,_)]) rfl) (AE (Bp rfl rfl) (fun b12=>?_))
 refine Au [2] rfl rfl (Av ?_)
 refine B6 [EJ b12 n (fun _=>false)] (.tmp rfl .nil) ⟨b12,rfl,rfl⟩ ?_
 have hw:CE (List.replicate ((n+63) / 64) 0#64)=List.replicate ((n+63) / 64) (Value.int .u64 0):=by
  apply List.ext_getElem?
  intro j
  rcases Nat.lt_or_ge j ((n+63) / 64) with h | h
  ·have:=EY (ws:=List.replicate ((n+63) / 64) 0#64) (ex:=[]) (i:=j) (w:=0#64) (by simp [h])
   rw [List.append_nil] at this
   rw [this]; simp [h]
  ·rw [List.getElem?_eq_none (by rw [EX,List.length_replicate]; exact h),List.getElem?_eq_none (by rw [List.length_replicate]; exact h)]
 rw [← hw]
 have hwf:Wf n (List.replicate ((n+63) / 64) 0#64) (fun _=>false):=⟨by simp,hle,fun k=>by
  unfold Fg
  rw [List.getD_eq_getElem?_getD]
  rcases Nat.lt_or_ge (k / 64) ((n+63) / 64) with h | h
  ·simp [h]
  ·simp [Nat.not_lt.2 h],fun _ _=>rfl⟩
 have hcl:=FY (b:=b) (cap:=(n+63) / 64) (ws:=List.replicate ((n+63) / 64) 0#64) (ex:=[]) (L:=[B5 b12 396 [.int .i64 (n:Nat),.slice (some ⟨b,0,none⟩) ((n+63) / 64) ((n+63) / 64)]]) (by simp) (by simp only [maxLen]; omega) (by simp)
 rw [List.append_nil,List.length_replicate] at hcl
 have hmc:=Hr (p:=b12) (v:=.slice (some ⟨b,0,none⟩) ((n+63) / 64) ((n+63) / 64)) (L:=[]) hwf
 rw [List.length_replicate] at hmc
 exact (Split.ent' (K:=[B5 b 215 (CE (List.replicate ((n+63) / 64) 0#64)),B5 b12 396 [.int .i64 (n:Nat),.slice (some ⟨b,0,none⟩) ((n+63) / 64) ((n+63) / 64)]]) AG).trans (hcl.trans (Ent.swap.trans hmc))

theorem A0a(r i:Nat)(hi:i<64):((1#64:BitVec 64) <<< r).getLsbD i=decide (i=r):=by
 rw [BitVec.getLsbD_shiftLeft]
 by_cases h:i=r
 ·subst h; simp [hi]
 ·by_cases h2:i<r
  ·simp [h2,h]
  ·have:i-r≠0:=by omega
   simp [h2,h,this]
theorem A0b{ws:List (BitVec 64)}{i:Nat}(w:BitVec 64)(hi:i<ws.length)(j:Nat):Fg (ws.set i w) j=if j / 64=i then w.getLsbD (j % 64) else Fg ws j:=by
 unfold Fg
 rw [List.getD_eq_getElem?_getD,List.getElem?_set]
 split
 ·rename_i h; subst h; simp
 ·rename_i h; rw [if_neg (Ne.symm h),List.getD_eq_getElem?_getD]
theorem A0c{ws:List (BitVec 64)}{m:Nat}{w:BitVec 64}(hw:ws[m / 64]? = some w)(j:Nat):Fg (ws.set (m / 64) (w ||| (1#64 <<< (m % 64)))) j=(Fg ws j||decide (j=m)):=by
 have hi:m / 64<ws.length:=(List.getElem?_eq_some_iff.1 hw).1
 rw [A0b _ hi]
 split
 ·rename_i h
  rw [BitVec.getLsbD_or,A0a _ _ (Nat.mod_lt _ (by decide)),Px hw h]
  congr 1
  by_cases e:j=m
  ·subst e; simp
  ·have:j % 64≠m % 64:=by omega
   simp [e,this]
 ·rename_i h
  have:j≠m:=fun e=>h (by rw [e])
  simp [this]
theorem A1O(p n:Nat)(v:Value)(ws:List (BitVec 64))(k:Int)(hl:ws.length=(n+63) / 64)(hn:n≤1048576) :
  Spec prog 204 [.pointer (some ⟨p,0,none⟩),.int .i64 k] (W9 p n v ws) (fun r L=>r=.bool (decide (0≤k)&&(decide (k<n)&&!Fg ws k.toNat))∧∃ ws',ws'.length=ws.length∧(∀ j,Fg ws' j=(Fg ws j||(decide (0≤k∧k<n)&&decide (j=k.toNat))))∧L=W9 p n v ws'):=by
 refine Spec.of 31 func204 rfl rfl rfl ?_
 refine Ad (Au [0,1] rfl rfl (Aj (Ad (Ah rfl (Af (Be rfl rfl) (Ah rfl ?_))))))
 refine B9 7 rfl (fun h7=>?_) (fun h7=>?_)
 ·refine B1 rfl rfl rfl (B1 rfl rfl rfl (B1 rfl rfl rfl (B1 rfl rfl rfl (Af (Bc rfl rfl) (Ah rfl (B1 rfl rfl rfl (B1 rfl rfl rfl (B1 rfl rfl rfl (Af (Bc rfl rfl) (AI [0,1,17] rfl ?_))))))))))
  refine Aq rfl (fun h17=>?_) (fun h17=>by cases h17)
  refine Ad (Au [4] rfl rfl (Av (AZ ?_)))
  have h7':=of_decide_eq_true h7
  exact Aw (W9 p n v ws) (.tmp rfl .nil) ⟨by simp [HK,Int.not_le.2 h7'],ws,rfl,fun j=>by simp [Int.not_le.2 h7'],rfl⟩ AG
 ·refine AS rfl rfl (Ah rfl (AS rfl rfl (Ah rfl (AS rfl rfl ?_))))
  refine AE (AF (T6 p n v) rfl rfl AG) ?_
  rintro v1 L1 ⟨rfl,rfl⟩
  refine As (AS rfl rfl (Af (Cs rfl rfl) (Af (B0 rfl rfl) (Ah rfl ?_))))
  refine B9 13 rfl (fun h13=>?_) (fun h13=>?_)
  ·refine B1 rfl rfl rfl (B1 rfl rfl rfl (B1 rfl rfl rfl (Af (Bc rfl rfl) (AI [0,1,17] rfl ?_))))
   refine Aq rfl (fun h17=>?_) (fun h17=>by cases h17)
   refine Ad (Au [4] rfl rfl (Av (AZ ?_)))
   have h13':=of_decide_eq_true h13
   exact Aw (W9 p n v ws) (.tmp rfl .nil) ⟨by simp [HK,Int.not_lt.2 h13'],ws,rfl,fun j=>by simp [Int.not_lt.2 h13'],rfl⟩ AG
  ·refine AS rfl rfl (Ah rfl (AS rfl rfl (Ah rfl (AS rfl rfl ?_))))
   refine AE (AF (A0C p n v ws k hl hn) rfl rfl AG) ?_
   rintro v1 L1 ⟨rfl,rfl⟩
   refine As (Af (B0 rfl rfl) (AI [0,1,17] rfl ?_))
   refine Aq rfl (fun h17=>?_) (fun h17=>?_)
   ·refine Ad (Au [4] rfl rfl (Av (AZ ?_)))
    have h7':=of_decide_eq_false h7
    have h13':=of_decide_eq_false h13
    have h17':Fg ws k.toNat=true:=by simp only [Bool.and_eq_true] at h17; exact h17.2.2
    exact Aw (W9 p n v ws) (.tmp rfl .nil) ⟨by simp [HK,h17'],ws,rfl,fun j=>by
     by_cases e:j=k.toNat
     ·subst e; simp [h17']
     ·simp [e],rfl⟩ AG
   ·refine Ar (Ai (Aj ?_))
    have h7':=of_decide_eq_false h7
    have h13':=of_decide_eq_false h13
    obtain ⟨m,rfl⟩:∃ m:Nat,k=m:=⟨k.toNat,by omega⟩
    have hmi:m / 64<ws.length:=by omega
    obtain ⟨w,hw⟩:∃ w,ws[m / 64]? = some w:=⟨_,List.getElem?_eq_getElem hmi⟩
    refine FB (A:=own 215 1 v ws.length (CE ws)) JU ?_
    refine L6 (fun h0 l0 _=>by omega) (fun b cap ex hv h1 h2 h3 h4=>?_)
    subst hv
    refine Bb [3,7] _ [] (by simp only [List.append_nil]; exact Ent.refl _) AP ?_
    refine AD 0 rfl (AH rfl) (AD 1 rfl (Al rfl) (AD 2 rfl (Ae rfl) (Bl 3 rfl (Ak rfl rfl) rfl (AD 4 rfl (AH rfl) (AD 5 rfl (EO ((m / 64:Nat):Int) rfl rfl AC AC AC AC) (AD 6 rfl (AA (m / 64) rfl rfl AC AC AC) (Bl 7 rfl (Ak rfl (EY hw)) rfl (AD 8 rfl (AH rfl) (AD 9 rfl (Ip ((m % 64:Nat):Int) rfl rfl AC AC AC) (AD 10 rfl (PT (a:=1#64) (m % 64) rfl rfl AC) (AD 11 rfl (Ze (a:=w) rfl rfl) (AD 12 rfl (AA (m / 64) rfl rfl AC AC AC) ?_))))))))))))
    refine Cx 13 rfl AP AP (CB rfl rfl rfl (by rw [List.length_append,EX]; omega)) ?_
    refine Nn _ .nil (Bv AP (Ai (Aj ?_)))
    refine AX (Split.ent' (K:=[B5 b 215 ((CE ws++ex).set (m / 64) (wv (w ||| (1#64 <<< (m % 64))))),B5 p 396 [.int .i64 (n:Nat),.slice (some ⟨b,0,none⟩) ws.length cap]]) AG) ?_
    rw [T5 hmi]
    refine Am (Au [4] rfl rfl (Av ?_))
    have hm17:Fg ws m=false:=by
     have h:(decide ((0:Int)≤m)&&(decide ((m:Int)<n)&&Fg ws (m:Int).toNat))=false:=h17
     rw [decide_eq_true AC,decide_eq_true AC,Bool.true_and,Bool.true_and,Int.toNat_natCast] at h; exact h
    have hls:(ws.set (m / 64) (w ||| (1#64 <<< (m % 64)))).length=ws.length:=List.length_set
    refine B6 (W9 p n (.slice (some ⟨b,0,none⟩) ws.length cap) (ws.set (m / 64) (w ||| (1#64 <<< (m % 64))))) (.tmp rfl .nil) ⟨?_,_,hls,fun j=>?_,rfl⟩ ?_
    ·rw [Int.toNat_natCast,decide_eq_true (show (0:Int)≤m by omega),decide_eq_true (show (m:Int)<n by omega),hm17]; rfl
    ·rw [A0c hw,Int.toNat_natCast,decide_eq_true (show (0:Int)≤m∧(m:Int)<n by omega),Bool.true_and]
    ·have hc:=FY (b:=b) (cap:=cap) (ws:=ws.set (m / 64) (w ||| (1#64 <<< (m % 64)))) (ex:=ex) (L:=[B5 p 396 [.int .i64 (n:Nat),.slice (some ⟨b,0,none⟩) ws.length cap]]) AC h2 (by rw [hls]; exact h4)
     rw [hls] at hc
     show Ent _ [B5 p 396 [.int .i64 (n:Nat),.slice (some ⟨b,0,none⟩) ws.length cap],own 215 1 (.slice (some ⟨b,0,none⟩) ws.length cap) (ws.set (m / 64) (w ||| (1#64 <<< (m % 64)))).length (CE (ws.set (m / 64) (w ||| (1#64 <<< (m % 64)))))]
     rw [hls]
     exact hc.trans Ent.swap


abbrev opr (p n:Nat)(v:Value)(ws:List (BitVec 64))(μ:PH):List AK:=[B5 p 396 [.int .i64 (n:Nat),v],own 215 1 v ws.length (CE ws),ro μ]
def Yv (S:Nat→Bool)(k r:Int):Prop:=(r = -1∧∀ j:Nat,k≤j→S j=false)∨∃ j:Nat,r=j∧k≤j∧S j=true∧∀ i:Nat,k≤i→i<j→S i=false
theorem A16{ws:List (BitVec 64)}{k:Nat}(h:64*ws.length≤k):Fg ws k=false:=by
 unfold Fg
 rw [List.getD_eq_getElem?_getD,List.getElem?_eq_none AC]
 simp
theorem A2d{w:BitVec 64}(h:(!decide ((w.toNat:Int)=0))=true):w≠0#64:=fun e=>by subst e; simp at h
theorem A2e{w:BitVec 64}(h:(!decide ((w.toNat:Int)=0))=false):w=0#64:=by
 have:=of_decide_eq_true (A0q h)
 exact BitVec.eq_of_toNat_eq (by simpa using this)

set_option maxHeartbeats 1000000 in
theorem Yw (μ:PH)(p n:Nat)(v:Value)(ws:List (BitVec 64))(k:Int)(hT:RowAt μ 2 0 tabV)(hl:ws.length=(n+63) / 64)(hn:n≤1048576)(hS:∀ j,n≤j→Fg ws j=false) :
  Spec prog 282 [.pointer (some ⟨p,0,none⟩),.int .i64 k] (opr p n v ws μ) (fun r L=>∃ x,r=.int .i64 x∧Yv (Fg ws) k x∧L=opr p n v ws μ):=by
 obtain ⟨m,hm⟩:∃ m:Nat,max k 0=m:=⟨(max k 0).toNat,by omega⟩
 refine Spec.of 52 func282 rfl rfl rfl ?_
 refine Ad (Au [0,1] rfl rfl (Ad (Ah rfl (Af (Ea rfl rfl) (B2 rfl (Bi [0,1] rfl ?_))))))
 rw [hm]
 refine Dj (Aj (Ad (Ah rfl (Ah rfl ?_))))
 refine AE (AF (T6 p n v) rfl rfl AG) ?_
 rintro v1 L1 ⟨rfl,rfl⟩
 refine As (Af (Cs rfl rfl) (AI [0,1,12] rfl ?_))
 refine Aq rfl (fun h12=>?_) (fun h12=>?_)
 ·refine Ad (Au [4] rfl rfl (Av (AZ ?_)))
  have h12':=of_decide_eq_true h12
  exact Aw (opr p n v ws μ) (.tmp rfl .nil) ⟨-1,rfl,.inl ⟨rfl,fun j hj=>hS j AC⟩,rfl⟩ AG
 ·refine Ar (Ai (Aj ?_))
  have h12':=of_decide_eq_false h12
  have hmi:m / 64<ws.length:=by omega
  obtain ⟨w0,hw0⟩:∃ w,ws[m / 64]? = some w:=⟨_,List.getElem?_eq_getElem hmi⟩
  refine FB (A:=own 215 1 v ws.length (CE ws)) JU ?_
  refine L6 (fun h0 l0 _=>by omega) (fun b cap ex hv h1 h2 h3 h4=>?_)
  subst hv
  refine Bb [5,9] _ [] (by simp only [List.append_nil]; exact Ent.refl _) AP ?_
  refine AD 0 rfl (AH rfl) (AD 1 rfl (EO ((m / 64:Nat):Int) rfl rfl AC AC AC AC) (AD 2 rfl (AH rfl) (AD 3 rfl (Al rfl) (AD 4 rfl (Ae rfl) (Bl 5 rfl (Ak rfl rfl) rfl (AD 6 rfl (AH rfl) (AD 7 rfl (EO ((m / 64:Nat):Int) rfl rfl AC AC AC AC) (AD 8 rfl (AA (m / 64) rfl rfl AC AC AC) (Bl 9 rfl (Ak rfl (EY hw0)) rfl (AD 10 rfl (AH rfl) (AD 11 rfl (Ip ((m % 64:Nat):Int) rfl rfl AC AC AC) (AD 12 rfl (Gt (a:=w0) (m % 64) rfl rfl AC) (AD 13 rfl (AH rfl) (AD 14 rfl (Ip ((m % 64:Nat):Int) rfl rfl AC AC AC) (AD 15 rfl (PT (a:=w0 >>> (m % 64)) (m % 64) rfl rfl AC) (AD 16 rfl (Bf rfl) (AD 17 rfl (Bf rfl) (BZ [0,5,6] rfl (De AP (Ai (AB ?_)))))))))))))))))))))
  refine B4 (ι:=Nat×BitVec 64) (fun x env L=>env=[(0,.pointer (some ⟨p,0,none⟩)),(5,.int .i64 (x.1:Nat)),(6,wv x.2)]∧L=[B5 b 215 (CE ws++ex),B5 p 396 [.int .i64 (n:Nat),.slice (some ⟨b,0,none⟩) ws.length cap],ro μ] ∧
   m / 64≤x.1∧x.1<ws.length∧(∀ j,m≤j→j<64*x.1→Fg ws j=false)∧(∀ r,r<64→x.2.getLsbD r=(Fg ws (64*x.1+r)&&decide (m≤64*x.1+r)))) (fun x=>ws.length-x.1) (m / 64,(w0 >>> (m % 64)) <<< (m % 64)) ⟨rfl,rfl,Nat.le_refl _,hmi,fun j h1 h2=>by simp only at h2; omega,fun r hr=>?_⟩ ?_
  ·show ((w0 >>> (m % 64)) <<< (m % 64)).getLsbD r=_
   rw [BitVec.getLsbD_shiftLeft,BitVec.getLsbD_ushiftRight,Px hw0 (k:=64*(m / 64)+r) AC]
   have e1:(64*(m / 64)+r) % 64=r:=by omega
   rw [e1]
   by_cases hrs:r<m % 64
   ·have:¬ m≤64*(m / 64)+r:=by omega
    simp [hrs,this]
   ·have:m≤64*(m / 64)+r:=by omega
    have e2:m % 64+(r-m % 64)=r:=by omega
    simp [hrs,this,hr,e2]
  rintro ⟨i,w⟩ env L ⟨rfl,rfl,him,hi,hlo,hbits⟩
  simp only [] at him hi hlo hbits
  dsimp only
  refine Aj (AB (Aj (Ad (Ah rfl (Af (Bx rfl rfl) (AI [0,5,6,37] rfl ?_))))))
  refine Aq rfl (fun h37=>?_) (fun h37=>?_)
  ·have hw:=A2d h37
   obtain ⟨hc1,hc2,hc3⟩:=PU hw
   refine Ad (Ah rfl (Af (Fz ((64*i:Nat):Int) rfl rfl AC AC AC) (Ah rfl ?_)))
   refine AE (AF (A09 μ w hT hw) rfl rfl AG) ?_
   rintro v1 L1 ⟨rfl,rfl⟩
   refine As (Af (AQ ((64*i+ctz w:Nat):Int) rfl rfl AC AC AC) (Au [4] rfl rfl (Av (AZ (Bg (AZ (AZ (Bg ?_))))))))
   have hb:=hbits _ hc1
   rw [hc2] at hb
   have hb1:=(Bool.and_eq_true_iff.1 hb.symm)
   have hb2:=of_decide_eq_true hb1.2
   refine B6 (opr p n _ ws μ) (.tmp rfl .nil) ⟨_,rfl,.inr ⟨64*i+ctz w,rfl,by omega,hb1.1,fun j h1 h2=>?_⟩,rfl⟩
    ((Split.ent' (K:=[B5 b 215 (CE ws++ex),B5 p 396 [.int .i64 (n:Nat),.slice (some ⟨b,0,none⟩) ws.length cap],ro μ]) AG).trans ((FY h1 h2 h4).trans Ent.swap))
   rcases Nat.lt_or_ge j (64*i) with h | h
   ·exact hlo j AC h
   ·have hj:=hbits (j-64*i) AC
    rw [hc3 _ AC,show 64*i+(j-64*i)=j by omega,decide_eq_true (show m≤j by omega),Bool.and_true] at hj
    exact hj.symm
  ·have hw:=A2e h37
   have hlo2:∀ j,m≤j→j<64*(i+1)→Fg ws j=false:=fun j h1 h2=>by
    rcases Nat.lt_or_ge j (64*i) with h | h
    ·exact hlo j h1 h
    ·have hj:=hbits (j-64*i) AC
     rw [hw,show 64*i+(j-64*i)=j by omega,decide_eq_true h1,Bool.and_true] at hj
     rw [← hj]; simp
   refine Ar (Ai (Ad (Ah rfl (Af (AQ ((i+1:Nat):Int) rfl rfl AC AC AC) (Au [0,5] rfl rfl (Ad (Ah rfl (Ah rfl (Af (Al rfl) (Af (Ae rfl) (AM (Ak rfl rfl) (Af (BD rfl) (Af (Bo rfl rfl) (AI [0,5,51] rfl ?_))))))))))))))
   refine Aq rfl (fun h51=>?_) (fun h51=>?_)
   ·refine Ad (Au [4] rfl rfl (Av (Bg (AZ (AZ (Bg ?_))))))
    have h51':=of_decide_eq_true h51
    exact B6 (opr p n _ ws μ) (.tmp rfl .nil) ⟨_,rfl,.inl ⟨rfl,fun j hj=>by
      rcases Nat.lt_or_ge j (64*(i+1)) with h | h
      ·exact hlo2 j AC h
      ·exact A16 AC⟩,rfl⟩
     ((Split.ent' (K:=[B5 b 215 (CE ws++ex),B5 p 396 [.int .i64 (n:Nat),.slice (some ⟨b,0,none⟩) ws.length cap],ro μ]) AG).trans ((FY h1 h2 h4).trans Ent.swap))
   ·have h51':=of_decide_eq_false h51
    have hi1:i+1<ws.length:=by omega
    obtain ⟨w1,hw1⟩:∃ w,ws[i+1]? = some w:=⟨_,List.getElem?_eq_getElem hi1⟩
    refine Ar (AV (Ai (Am (Ah rfl (Af (Al rfl) (Af (Ae rfl) (AM (Ak rfl rfl) (Ah rfl (Af (AA (i+1) rfl rfl AC AC AC) (AM (Ak rfl (EY hw1)) (B2 rfl (Bi [0,5,6] rfl (AJ ?_)))))))))))))
    refine Ai ⟨(i+1,w1),⟨rfl,rfl,by show m / 64≤i+1; omega,hi1,hlo2,fun r hr=>?_⟩,by show ws.length-(i+1)<ws.length-i; omega⟩
    show w1.getLsbD r=(Fg ws (64*(i+1)+r)&&decide (m≤64*(i+1)+r))
    rw [Px hw1 (k:=64*(i+1)+r) AC,show (64*(i+1)+r) % 64=r by omega]
    have hmle:m≤64*(i+1)+r:=by
     rcases Nat.lt_or_ge (64*(i+1)+r) m with h | h
     ·exact absurd h AC
     ·exact h
    rw [decide_eq_true hmle,Bool.and_true]


def Og (l:List Nat):List Int:=l.map fun k:Nat=>(k:Int)
def BW (j:Nat)(S:Nat→Bool):List Int:=Og ((List.range j).filter S)
theorem Hs {S:Nat→Bool}{k:Nat}:∀ {j:Nat},k≤j→(∀ i,k≤i→i<j→S i=false)→BW j S=BW k S
 | 0,h,_=>by
   have:k=0:=by omega
   subst this; rfl
 | j+1,h,hS=>by
  rcases Nat.lt_or_ge j k with h1 | h1
  ·have:k=j+1:=by omega
   subst this; rfl
  ·have e:BW (j+1) S=BW j S:=by
    unfold BW
    rw [List.range_succ,List.filter_append]
    simp [hS j h1 AC]
   rw [e]
   exact Hs h1 (fun i a b=>hS i a AC)
theorem Ht {S:Nat→Bool}{j:Nat}(h:S j=true):BW (j+1) S=BW j S++[(j:Int)]:=by
 unfold BW Og
 rw [List.range_succ,List.filter_append]
 simp [h]
theorem Oh (j:Nat)(S:Nat→Bool):(BW j S).length≤j:=by
 unfold BW Og
 rw [List.length_map]
 exact Nat.le_trans (List.length_filter_le _ _) (by simp)

set_option maxHeartbeats 1000000 in
theorem A17(μ:PH)(p n:Nat)(v:Value)(ws:List (BitVec 64))(hT:RowAt μ 2 0 tabV)(hl:ws.length=(n+63) / 64)(hn:n≤1048576)(hS:∀ j,n≤j→Fg ws j=false) :
  Spec prog 201 [.pointer (some ⟨p,0,none⟩)] (opr p n v ws μ) (fun r L=>L=[own 3 1 r (BW n (Fg ws)).length ((BW n (Fg ws)).flatMap (Bw .i64)),B5 p 396 [.int .i64 (n:Nat),v],own 215 1 v ws.length (CE ws),ro μ]):=by
 have inv:∀ (k:Nat) (x:Int),k≤n→Yv (Fg ws) (k:Int) x→(x = -1∧BW k (Fg ws)=BW n (Fg ws))∨∃ j:Nat,x=j∧k≤j∧j<n∧Fg ws j=true∧BW k (Fg ws)=BW j (Fg ws):=by
  rintro k x hk (⟨rfl,h⟩ | ⟨j,rfl,h1,h2,h3⟩)
  ·exact .inl ⟨rfl,(Hs hk (fun i a _=>h i AC)).symm⟩
  ·refine .inr ⟨j,rfl,by omega,?_,h2,(Hs AC (fun i a b=>h3 i AC b)).symm⟩
   rcases Nat.lt_or_ge j n with h4 | h4
   ·exact h4
   ·rw [hS j h4] at h2; cases h2
 refine Spec.of 18 func201 rfl rfl rfl ?_
 refine Ad (Au [0] rfl rfl (Ad (B2 rfl (Bi [0,3] rfl (C9 (own_nil_ent (e:=3) (n:=1)) (Dj (Aj (Ad (Ah rfl ?_)))))))))
 refine AE (AF (Yw μ p n v ws 0 hT hl hn hS) rfl rfl AG) ?_
 rintro v1 L1 ⟨x,rfl,hx,rfl⟩
 refine As (B2 rfl (Bi [0,3,4] rfl ?_))
 refine C9 (Split.ent' (K:=[own 3 1 (.slice none 0 0) 0 [],B5 p 396 [.int .i64 (n:Nat),v],own 215 1 v ws.length (CE ws),ro μ]) AG) ?_
 refine Dj (AB ?_)
 refine B4 (ι:=Value×Int×Nat) (fun k env L=>env=[(0,.pointer (some ⟨p,0,none⟩)),(3,k.1),(4,.int .i64 k.2.1)]∧L=[own 3 1 k.1 (BW k.2.2 (Fg ws)).length ((BW k.2.2 (Fg ws)).flatMap (Bw .i64)),B5 p 396 [.int .i64 (n:Nat),v],own 215 1 v ws.length (CE ws),ro μ] ∧
  ((k.2.1 = -1∧k.2.2=n)∨(k.2.1=k.2.2∧k.2.2<n∧Fg ws k.2.2=true))) (fun k=>if k.2.1<0 then 0 else n+1-k.2.2) (.slice none 0 0,x,if x<0 then n else x.toNat) ⟨rfl,?_,?_⟩ ?_
 ·rcases inv 0 x (Nat.zero_le _) hx with ⟨rfl,h⟩ | ⟨j,rfl,_,_,_,h⟩
  ·show [own 3 1 (.slice none 0 0) 0 [],_,_,_]=[own 3 1 (.slice none 0 0) (BW n (Fg ws)).length ((BW n (Fg ws)).flatMap (Bw .i64)),_,_,_]
   rw [← h]; rfl
  ·have hj:¬ ((j:Int)<0):=by omega
   simp only [hj,if_false,Int.toNat_natCast]
   rw [← h]; rfl
 ·rcases inv 0 x (Nat.zero_le _) hx with ⟨rfl,h⟩ | ⟨j,rfl,_,h2,h3,h⟩
  ·exact .inl ⟨rfl,rfl⟩
  ·have hj:¬ ((j:Int)<0):=by omega
   simp only [hj,if_false,Int.toNat_natCast]
   exact .inr ⟨trivial,h2,h3⟩
 rintro ⟨v3,x,j⟩ env L ⟨rfl,rfl,hx⟩
 simp only [] at hx
 dsimp only
 refine Aj (Ad (Ah rfl (Af (Cs rfl rfl) (AI [0,3,4,8] rfl ?_))))
 refine Aq rfl (fun h8=>?_) (fun h8=>?_)
 ·have h8':=of_decide_eq_true h8
  obtain ⟨rfl,hjn,hj⟩:x=(j:Int)∧j<n∧Fg ws j=true:=by
   rcases hx with ⟨h,_⟩ | h
   ·omega
   ·exact h
  have hle:=Oh j (Fg ws)
  refine Ar (Ai (Aj (AB (Am (Ah rfl (Ah rfl (AE (Bs (qs:=[(0,_)]) rfl rfl rfl) (fun b15=>?_))))))))
  refine AE (Bj (l:=(BW j (Fg ws)).length) (m:=1) rfl rfl AG (by simp only [maxLen]; omega) AC) ?_
  rintro v' hv'
  skip
  refine B2 rfl (Bi [0,3,4] rfl ?_)
  have e1:(BW j (Fg ws)).length+1=(BW (j+1) (Fg ws)).length:=by rw [Ht hj,List.length_append]; rfl
  have e2:(BW j (Fg ws)).flatMap (Bw .i64)++[.int .i64 (j:Nat)]=(BW (j+1) (Fg ws)).flatMap (Bw .i64):=by rw [Ht hj,List.flatMap_append]; rfl
  rw [e1,e2]
  refine AJ (AV (Ai (Am (Ah rfl (Ah rfl (Af (AQ ((j+1:Nat):Int) rfl rfl AC AC AC) ?_))))))
  refine AE (AF (Yw μ p n v ws ((j+1:Nat):Int) hT hl hn hS) rfl rfl AG) ?_
  rintro v1 L1 ⟨x,rfl,hx2,rfl⟩
  refine As (B2 rfl (Bi [0,3,4] rfl ?_))
  refine C9 (Split.ent' (K:=[own 3 1 v' (BW (j+1) (Fg ws)).length ((BW (j+1) (Fg ws)).flatMap (Bw .i64)),B5 p 396 [.int .i64 (n:Nat),v],own 215 1 v ws.length (CE ws),ro μ]) AG) ?_
  refine AJ ?_
  rcases inv (j+1) x hjn hx2 with ⟨rfl,h⟩ | ⟨i,rfl,h0,h2,h3,h⟩
  ·rw [h]
   exact Ai ⟨(v',-1,n),⟨rfl,rfl,.inl ⟨rfl,rfl⟩⟩,by
    show (if (-1:Int)<0 then 0 else n+1-n)<(if (j:Int)<0 then 0 else n+1-j)
    rw [if_pos (by decide),if_neg AC]; omega⟩
  ·rw [h]
   exact Ai ⟨(v',(i:Int),i),⟨rfl,rfl,.inr ⟨rfl,h2,h3⟩⟩,by
    show (if (i:Int)<0 then 0 else n+1-i)<(if (j:Int)<0 then 0 else n+1-j)
    rw [if_neg AC,if_neg AC]; omega⟩
 ·have h8':=of_decide_eq_false h8
  obtain ⟨rfl,rfl⟩:x = -1∧j=n:=by
   rcases hx with h | ⟨h,_⟩
   ·exact h
   ·omega
  refine B3 (AU (AU (AY rfl (Ai (Ad (Ah rfl (Au [2] rfl rfl (Av ?_))))))))
  exact Aw [own 3 1 v3 (BW j (Fg ws)).length ((BW j (Fg ws)).flatMap (Bw .i64)),B5 p 396 [.int .i64 (j:Nat),v],own 215 1 v ws.length (CE ws),ro μ] (.tmp rfl .nil) rfl AG

theorem Kq {f:FuncId}{args:List Value}{pre:List AK}{post:Value→List AK→Prop}{p n:Nat}{S:Nat→Bool}(h:∀ v ws,Wf n ws S→Spec prog f args (B5 p 396 [.int .i64 (n:Nat),v]::own 215 1 v ws.length (CE ws)::pre) post):Spec prog f args (EJ p n S::pre) post :=
 Spec.exA' fun x=>h x.1.1 x.1.2 x.2
theorem A1a{n:Nat}{ws:List (BitVec 64)}{S:Nat→Bool}(hw:Wf n ws S)(k:Int):(decide (0≤k)&&(decide (k<n)&&Fg ws k.toNat))=(decide (0≤k)&&S k.toNat):=by
 rw [hw.2.2.1]
 by_cases h0:0≤k
 ·by_cases h:k<n
  ·simp [h]
  ·rw [hw.2.2.2 k.toNat AC]; simp
 ·simp [h0]
theorem A1P(p n:Nat)(S:Nat→Bool)(k:Int):Spec prog 205 [.pointer (some ⟨p,0,none⟩),.int .i64 k] [EJ p n S] (fun r L=>r=.bool (decide (0≤k)&&S k.toNat)∧L=[EJ p n S]):=by
 refine Kq fun v ws hw=>?_
 refine Spec.ent3 (A0C p n v ws k hw.1 hw.2.1) ?_
 rintro r L ⟨rfl,rfl⟩
 exact ⟨_,Hr hw,by rw [A1a hw],rfl⟩
theorem A1Q(p n:Nat)(S:Nat→Bool)(k:Int):Spec prog 204 [.pointer (some ⟨p,0,none⟩),.int .i64 k] [EJ p n S] (fun r L=>r=.bool (decide (0≤k)&&(decide (k<n)&&!S k.toNat))∧L=[EJ p n (fun j=>S j||(decide (0≤k∧k<n)&&decide (j=k.toNat)))]):=by
 refine Kq fun v ws hw=>?_
 refine Spec.ent3 (A1O p n v ws k hw.1 hw.2.1) ?_
 rintro r L ⟨rfl,ws',h1,h2,rfl⟩
 refine ⟨_,Hr (ws:=ws') ⟨by rw [h1]; exact hw.1,hw.2.1,fun j=>by rw [h2,hw.2.2.1],fun j hj=>?_⟩,by rw [hw.2.2.1],rfl⟩
 rw [hw.2.2.2 j hj,Bool.false_or]
 by_cases h:0≤k∧k<n
 ·rw [decide_eq_false (show ¬ j=k.toNat by omega),Bool.and_false]
 ·simp [h]
theorem A1b(μ:PH)(p n:Nat)(S:Nat→Bool)(hT:RowAt μ 2 0 tabV):Spec prog 201 [.pointer (some ⟨p,0,none⟩)] [EJ p n S,ro μ] (fun r L=>L=[own 3 1 r (BW n S).length ((BW n S).flatMap (Bw .i64)),EJ p n S,ro μ]):=by
 refine Kq fun v ws hw=>?_
 have hS:Fg ws=S:=funext hw.2.2.1
 refine Spec.ent3 (A17 μ p n v ws hT hw.1 hw.2.1 (fun j hj=>by rw [hS]; exact hw.2.2.2 j hj)) ?_
 rintro r L rfl
 rw [hS]
 exact ⟨_,Ent.cons (Hr hw),rfl⟩

end SX
namespace SX.Wq
open Go Go.Proofs SX
abbrev WI:Type:=Int
abbrev wiV (x:WI):Value:=.int .i64 x
def wiZ:WI:=0
def ltW (a b:WI):Bool:=decide (b<a)
theorem ltW_ord:Hp.Ord ltW:=⟨fun a b h=>by
 have h' : @LT.lt Int _ b a:=of_decide_eq_true h
 exact decide_eq_false (show ¬ @LT.lt Int _ a b by omega),fun a b c h1 h2=>by
 have h1':¬ @LT.lt Int _ a b:=of_decide_eq_false h1
 have h2':¬ @LT.lt Int _ b c:=of_decide_eq_false h2
 exact decide_eq_false (show ¬ @LT.lt Int _ a c by omega)⟩
end SX.Wq
namespace SX.Wq
open Go Go.Proofs SX

abbrev aW:=Hp.ahd ltW
def wcs (e:WI×Nat):List Value:=[wiV e.1,.int .u64 (e.2:Nat)]
theorem wcs_len(e:WI×Nat):(wcs e).length=2:=rfl
def wents (es:List (WI×Nat)):List Value:=es.flatMap wcs
theorem wents_len(es:List (WI×Nat)):(wents es).length=es.length*2:=by unfold wents; rw [Cp wcs_len]
theorem wents_snoc(es:List (WI×Nat))(x:WI)(n:Nat):wents es++[wiV x,.int .u64 (n:Nat)]=wents (es++[(x,n)]):=by simp [wents,wcs]

def wraw (q:Nat)(es:List (WI×Nat))(CP:Nat):AK:=exA (fun v:Value=>[B5 q 387 [v,.int .u64 (CP:Nat)],own 389 2 v es.length (wents es)])
theorem wraw_close{q g cap CP:Nat}{es:List (WI×Nat)}{ex:List Value}{L:List AK}(h1:es.length≤cap)(h2:cap≤maxLen)(h4:ex.length=(cap-es.length)*2) :
  Ent (B5 g 389 (wents es++ex)::B5 q 387 [.slice (some ⟨g,0,none⟩) es.length cap,.int .u64 (CP:Nat)]::L) (wraw q es CP::L) :=
 (DB (wents_len es) h4 h1 h2).trans (Fd (F:=fun v=>[B5 q 387 [v,.int .u64 (CP:Nat)],own 389 2 v es.length (wents es)]) (.slice (some ⟨g,0,none⟩) es.length cap) AG)
theorem wraw_nil{q CP:Nat}{L:List AK}:Ent (B5 q 387 [.slice none 0 0,.int .u64 (CP:Nat)]::L) (wraw q [] CP::L) :=
 Ent.imp fun m hm=>⟨.slice none 0 0,m,fun _=>none,hm,⟨fun _=>none,fun _=>none,OG _ _ _,trivial,by simp,by simp,by simp⟩,by simp,fun _ _ h=>h,by simp⟩

end SX.Wq
namespace SX.Wq
open Go Go.Proofs SX

def bestTo (es:List (WI×Nat))(i:Nat):Nat→Nat
 | 0=>i
 | 1=>Hp.better aW es (2*i+1) i
 | _=>Hp.best aW es i
theorem bestTo_lt{es:List (WI×Nat)}{i:Nat}(hi:i<es.length):∀ j,bestTo es i j<es.length:=by
 have hb:∀ k m,m<es.length→Hp.better aW es k m<es.length:=fun k m hm=>by
  rcases Hp.better_cases (ah:=aW) es k m with ⟨e,_⟩ | ⟨e,a,b,ha,_⟩
  ·rw [e]; exact hm
  ·rw [e]; exact (List.getElem?_eq_some_iff.1 ha).1
 intro j
 match j with
 | 0=>exact hi
 | 1=>exact hb _ _ hi
 | j+2=>exact hb _ _ (hb _ _ hi)
theorem bestTo_succ{es:List (WI×Nat)}{i j:Nat}(hj:j<2):bestTo es i (j+1)=Hp.better aW es (2*i+1+j) (bestTo es i j):=by
 match j,hj with
 | 0,_=>rfl
 | 1,_=>rfl
theorem bestTo_end{es:List (WI×Nat)}{i j:Nat}(h:2≤j∨es.length≤2*i+1+j):bestTo es i j=Hp.best aW es i:=by
 have hn:∀ k m,es.length≤k→Hp.better aW es k m=m:=fun k m hk=>by
  have:es[k]? = none:=List.getElem?_eq_none_iff.2 hk
  simp [Hp.better,this]
 match j with
 | 0 =>
  have h':es.length≤2*i+1:=by omega
  show i=Hp.better aW es (2*i+2) (Hp.better aW es (2*i+1) i)
  rw [hn _ _ h',hn _ _ AC]
 | 1 =>
  have h':es.length≤2*i+2:=by omega
  show Hp.better aW es (2*i+1) i=Hp.better aW es (2*i+2) (Hp.better aW es (2*i+1) i)
  rw [hn _ _ h']
 | j+2=>rfl
theorem better_of{es:List (WI×Nat)}{k m:Nat}{a b:WI×Nat}(ha:es[k]? = some a)(hb:es[m]? = some b):Hp.better aW es k m=if aW a b then k else m:=by simp [Hp.better,ha,hb]

end SX.Wq
namespace SX.Wq
open Go Go.Proofs SX

theorem wraw_fold{q CP:Nat}{v:Value}{es:List (WI×Nat)}{L:List AK}:Ent (B5 q 387 [v,.int .u64 (CP:Nat)]::own 389 2 v es.length (wents es)::L) (wraw q es CP::L) :=
 Fd (F:=fun v=>[B5 q 387 [v,.int .u64 (CP:Nat)],own 389 2 v es.length (wents es)]) v AG
def wzcs:List Value:=[wiV wiZ,.int .u64 0]
theorem wents_app(a b:List (WI×Nat)):wents (a++b)=wents a++wents b:=by unfold wents; exact List.flatMap_append
theorem wents_over(es:List (WI×Nat))(ex:List Value)(i:Nat)(e:WI×Nat)(h:i<es.length):F2 (wents es++ex) (wcs e) (i*2)=wents (es.set i e)++ex:=EQ wcs_len es ex i e h
theorem wover_cut(es:List (WI×Nat))(ex zs:List Value)(hz:zs.length=2)(hne:es≠[]):F2 (wents es++ex) zs ((es.length-1)*2)=wents es.dropLast++(zs++ex):=by
 have e:=List.dropLast_concat_getLast hne
 have hl:(es.length-1)*2=(wents es.dropLast).length:=by rw [wents_len,List.length_dropLast]
 have h1:wents es=wents es.dropLast++wents [es.getLast hne]:=by rw [← wents_app,e]
 have h2:(wents [es.getLast hne]).length=2:=by rw [wents_len]; rfl
 generalize wents [es.getLast hne]=u at h1 h2
 rw [hl,h1]
 unfold F2
 rw [hz,List.append_assoc (wents es.dropLast) u ex,List.take_left,List.drop_append]
 rw [show (wents es.dropLast).length+2-(wents es.dropLast).length=2 by omega,List.drop_append,h2]
 rw [List.drop_eq_nil_of_le (by omega:(wents es.dropLast).length≤_),List.drop_eq_nil_of_le (by omega:u.length≤_)]
 simp

end SX.Wq
namespace SX.Wq
open Go Go.Proofs SX

theorem aW_trans(a b c:WI×Nat)(h1:aW a b=true)(h2:aW b c=true):aW a c=true:=Hp.ahd_trans ltW_ord a b c h1 h2

def wa (q:Nat)(S:List (WI×Nat))(CP:Nat):AK:=exA (fun es : {es:List (WI×Nat) // Hp.Rep aW es S∧∀ y∈S,y.2<CP}=>[wraw q es.1 CP])
theorem wa_close{q CP:Nat}{es S:List (WI×Nat)}{L:List AK}(h:Hp.Rep aW es S)(h2:∀ y∈S,y.2<CP):Ent (wraw q es CP::L) (wa q S CP::L) :=
 Fd (F:=fun es : {es:List (WI×Nat) // Hp.Rep aW es S∧∀ y∈S,y.2<CP}=>[wraw q es.1 CP]) ⟨es,h,h2⟩ AG
end SX.Wq
namespace SX.Wq
open Go Go.Proofs SX

theorem ins_fst{x nx:Nat}:∀ {S:List (WI×Nat)} {Q:List Nat},S.map (·.1)=Q.map (fun k:Nat=>(k:Int))→x∉Q→(Hp.ins aW ((x:Int),nx) S).map (·.1)=(Ft x Q).map (fun k:Nat=>(k:Int))
 | [],[],_,_=>rfl
 | [],_::_,h,_=>by simp at h
 | _::_,[],h,_=>by simp at h
 | s::S,q::Q,h,hx=>by
  rw [List.map_cons,List.map_cons,List.cons.injEq] at h
  obtain ⟨h1,h2⟩:=h
  have hne:x≠q:=fun e=>hx (by rw [e]; exact List.mem_cons_self ..)
  have hA:aW ((x:Int),nx) s=decide (q<x):=by
   unfold aW Hp.ahd ltW
   rw [h1,Bool.eq_iff_iff]
   simp only [Bool.or_eq_true,Bool.and_eq_true,Bool.not_eq_true',decide_eq_true_eq,decide_eq_false_iff_not]
   show (@LT.lt Int _ q x∨_)↔_
   have e1:(@LT.lt Int _ q x)↔q<x:=by omega
   have e2:(@LT.lt Int _ x q)↔x<q:=by omega
   constructor
   ·rintro (h | ⟨h,_⟩)
    ·exact e1.1 h
    ·have h':¬ @LT.lt Int _ (x:Int) (q:Int):=h
     omega
   ·exact fun h=>.inl (e1.2 h)
  unfold Hp.ins Ft
  rw [hA]
  by_cases hq:q<x
  ·rw [if_pos (decide_eq_true hq),if_pos hq,List.map_cons,List.map_cons,h1,h2]; rfl
  ·rw [if_neg (by rw [decide_eq_false hq]; simp),if_neg hq,List.map_cons,List.map_cons,h1,ins_fst h2 (fun hm=>hx (List.mem_cons_of_mem _ hm))]
def cq (q:Nat)(Q:List Nat)(nx:Nat):AK:=exA (fun S : {S:List (WI×Nat) // S.map (·.1)=Q.map (fun k:Nat=>(k:Int))}=>[wa q S.1 nx])
theorem cq_close{q nx:Nat}{S:List (WI×Nat)}{Q:List Nat}{L:List AK}(h:S.map (·.1)=Q.map (fun k:Nat=>(k:Int))):Ent (wa q S nx::L) (cq q Q nx::L) :=
 Fd (F:=fun S : {S:List (WI×Nat) // S.map (·.1)=Q.map (fun k:Nat=>(k:Int))}=>[wa q S.1 nx]) ⟨S,h⟩ AG
theorem len_fst{S:List (WI×Nat)}{Q:List Nat}(h:S.map (·.1)=Q.map (fun k:Nat=>(k:Int))):S.length=Q.length:=by have:=congrArg List.length h; rwa [List.length_map,List.length_map] at this
end SX.Wq
namespace SX
open Go Go.Proofs Go.Proofs.Tryz

def Uc (gs:List Int)(c:Int):Int:=if 0≤c then gs.getD c.toNat 1024 else 1024

structure Src where
 t:TypeId
 v:Value
 d:Nat
 hd:d≤7
 g:List (List Int)
 hg:E5 g
 hn:g.length≤65536
 σ:Type
 A:σ→PH→AK
 mono:∀ {s μ μ'},Le μ μ'→Ent [A s μ] [A s μ']
 ok:σ→Nat→Prop
 step:σ→Nat→σ
 μ0:PH
 commits : ∀ s μ, InvS prog d t v "Commits" [] [A s μ] (fun r L => r = .int .i64 (g.length : Nat) ∧ L = [A s μ])
 parents : ∀ s μ (c : Nat), Le μ0 μ → c < g.length → ok s c → InvS prog d t v "Parents" [.int .i64 (c : Nat)] [A s μ, ro μ] (fun r L => ∃ μ', Le μ μ' ∧ Row μ' r 1 (Ch g c).length ((Ch g c).flatMap (Bw .i64)) ∧ L = [A (step s c) μ', ro μ'])
abbrev Src.n(X:Src):Nat:=X.g.length
abbrev Src.sv(X:Src):Value:=.iface X.t X.v
theorem Src.up{X:Src}{s:X.σ}{μ μ':PH}{L R:List AK}(h:Le μ μ')(hL:Split L [X.A s μ] R):Ent L (X.A s μ'::R):=hL.ent.trans (Ent.app (X.mono h))
theorem A0E(p n:Nat)(S:Nat→Bool)(k:Int):Spec prog 204 [.pointer (some ⟨p,0,none⟩),.int .i64 k] [EJ p n S] (fun r L=>r=.bool (A0S n S k)∧L=[EJ p n (A0R n S k)]):=A1Q p n S k
theorem Wa {n:Nat}(h:n≤65536):Ij (n:Int)=n:=by unfold Ij; omega
theorem WkOk.start(n:Nat):WkOk n (fun _=>false,[]):=⟨.nil,fun _ h=>(by cases h),fun _ h=>(by cases h)⟩
theorem T7 (n:Nat):HA n (fun _=>false)=0:=by unfold HA; rw [List.filter_eq_nil_iff.2 (fun _ _ h=>by cases h)]; rfl
instance:TIface prog 304:=⟨⟨_,underlying304⟩⟩

def Src.at_(X:Src)(s0:X.σ)(μ:PH)(ys:List Nat):AK:=exA fun m : {m:PH // Le μ m}=>[X.A (ys.foldl X.step s0) m.1,ro m.1]

def Gl (n:Nat)(ls:List (List Int)):Int:=if (ls.all fun l=>l.all (LX n))=true then 0 else 9



def Src.fine(X:Src)(s0:X.σ):Prop:=∀ (ys:List Nat) (c:Nat),ys.Nodup→c∉ys→(∀ y∈ys,y<X.g.length)→c<X.g.length→X.ok (ys.foldl X.step s0) c
theorem R2 {l:List Nat}(h:EL l):l.Nodup:=h.imp fun h e=>by omega
theorem Src.fine.down{X:Src}{s0:X.σ}(h:X.fine s0)(xs:List Int):∀ pre x post,Qs X.g xs=pre++x::post→X.ok (pre.foldl X.step s0) x:=fun pre x post e=>by
 obtain ⟨h1,h2,_⟩:=Sp X.hg xs
 rw [e] at h1 h2
 have hn:=R2 h1
 rw [List.nodup_append] at hn
 exact h pre x hn.1 (fun hx=>hn.2.2 x hx x (List.mem_cons_self ..) rfl) (fun y hy=>h2 y (List.mem_append_left _ hy)) (h2 x (List.mem_append_right _ (List.mem_cons_self ..)))

theorem A1R(p n:Nat)(S:Nat→Bool)(k:Nat):Spec prog 205 [.pointer (some ⟨p,0,none⟩),.int .i64 (k:Nat)] [EJ p n S] (fun r L=>r=.bool (S k)∧L=[EJ p n S]):=by
 have h:=A1P p n S (k:Int)
 rw [decide_eq_true (show (0:Int)≤(k:Int) by omega),Int.toNat_natCast,Bool.true_and] at h
 exact h
def Fc (g:List (List Int))(xs ys:List Int):Int:=Gl g.length [xs,ys]
def Py (n:Nat)(zs:List Nat):Prop:=zs.Nodup∧∀ y∈zs,y<n
theorem IJ {n:Nat}{ls:List (List Int)}(h:Gl n ls=0){l:List Int}(hl:l∈ls):∀ p∈l,0≤p∧p<n:=by
 unfold Gl at h
 split at h
 ·rename_i ha
  intro p hp
  have:=List.all_eq_true.1 (List.all_eq_true.1 ha l hl) p hp
  simpa [LX] using this
 ·cases h
end SX
namespace SX.Bq
open Go Go.Proofs SX
abbrev WI:Type:=Int
abbrev wiV (x:WI):Value:=.int .i64 x
def wiZ:WI:=0
def ltW (a b:WI):Bool:=decide (b<a)
theorem ltW_ord:Hp.Ord ltW:=⟨fun a b h=>by
 have h' : @LT.lt Int _ b a:=of_decide_eq_true h
 exact decide_eq_false (show ¬ @LT.lt Int _ a b by omega),fun a b c h1 h2=>by
 have h1':¬ @LT.lt Int _ a b:=of_decide_eq_false h1
 have h2':¬ @LT.lt Int _ b c:=of_decide_eq_false h2
 exact decide_eq_false (show ¬ @LT.lt Int _ a c by omega)⟩
theorem R3 (a b:WI):Spec Tryz.prog 420 [wiV a,wiV b] [] (fun v L=>v=.bool (ltW a b)∧L=[]):=by
 refine Spec.of 8 Tryz.func420 rfl rfl rfl ?_
 refine Ad (Au [0,1] rfl rfl (Ad (Ah rfl (Ah rfl (Af (BO rfl rfl) (Au [4] rfl rfl (Av ?_)))))))
 exact Aw [] (.tmp rfl .nil) ⟨rfl,rfl⟩ AG
end SX.Bq
namespace SX.Bq
open Go Go.Proofs SX

abbrev aW:=Hp.ahd ltW
def wcs (e:WI×Nat):List Value:=[wiV e.1,.int .u64 (e.2:Nat)]
theorem wcs_len(e:WI×Nat):(wcs e).length=2:=rfl
def wents (es:List (WI×Nat)):List Value:=es.flatMap wcs
theorem wents_len(es:List (WI×Nat)):(wents es).length=es.length*2:=by unfold wents; rw [Cp wcs_len]
theorem wents_snoc(es:List (WI×Nat))(x:WI)(n:Nat):wents es++[wiV x,.int .u64 (n:Nat)]=wents (es++[(x,n)]):=by simp [wents,wcs]

theorem Ud (a b:WI)(n1 n2:Nat):Spec Tryz.prog 377 [.agg #[wiV a,.int .u64 (n1:Nat)],.agg #[wiV b,.int .u64 (n2:Nat)]] []
  (fun v L=>v=.bool (aW (a,n1) (b,n2))∧L=[]):=by
 refine Spec.of 25 Tryz.func377 rfl rfl rfl ?_
 refine Ad (AE (Bp rfl rfl) (fun b2=>?_))
 refine AE (Bp rfl rfl) fun b3=>?_
 refine Au [2,3] rfl rfl (Aj (Ad (Af (Ae rfl) (AM (Ak rfl rfl) (Af (Gq rfl) (Af (Ae rfl) (AM (Ak rfl rfl) ?_)))))))
 refine AE (WK rfl (R3 _ _) rfl AG) ?_
 rintro v L1 ⟨rfl,rfl⟩
 refine As (AI [2,3,10] rfl ?_)
 refine Aq rfl (fun h10=>?_) (fun h10=>?_)
 ·refine Ad (Au [4] rfl rfl (Av (AZ ?_)))
  exact Aw [] (.tmp rfl .nil) ⟨by simp [HK,h10,Hp.ahd],rfl⟩ AG
 ·refine Ar (Ai (Ad (Af (Ae rfl) (AM (Ak rfl rfl) (Af (Gq rfl) (Af (Ae rfl) (AM (Ak rfl rfl) ?_)))))))
  refine AE (WK rfl (R3 _ _) rfl AG) ?_
  rintro v L1 ⟨rfl,rfl⟩
  refine As (Af (Cd rfl) (Ah rfl ?_))
  refine B9 18 rfl (fun h18=>?_) (fun h18=>?_)
  ·refine AS rfl rfl (Af (Ae rfl) (AS rfl rfl (AM (Ak rfl rfl) (AS rfl rfl (Af (Ae rfl) (AS rfl rfl (AM (Ak rfl rfl) (AS rfl rfl (Af (Be rfl rfl) (Af (Bc rfl rfl) (Au [4] rfl rfl (Av ?_))))))))))))
   exact Aw [] (.tmp rfl .nil) ⟨by simp [HK,h10,h18,Hp.ahd],rfl⟩ AG
  ·refine B1 rfl rfl rfl (B1 rfl rfl rfl (B1 rfl rfl rfl (B1 rfl rfl rfl (B1 rfl rfl rfl (Af (B0 rfl rfl) (Au [4] rfl rfl (Av ?_)))))))
   exact Aw [] (.tmp rfl .nil) ⟨by simp [HK,h10,h18,Hp.ahd],rfl⟩ AG

def wraw (q:Nat)(es:List (WI×Nat))(CP:Nat):AK:=exA (fun v:Value=>[B5 q 461 [v,.int .u64 (CP:Nat)],own 498 2 v es.length (wents es)])
theorem wraw_close{q g cap CP:Nat}{es:List (WI×Nat)}{ex:List Value}{L:List AK}(h1:es.length≤cap)(h2:cap≤maxLen)(h4:ex.length=(cap-es.length)*2) :
  Ent (B5 g 498 (wents es++ex)::B5 q 461 [.slice (some ⟨g,0,none⟩) es.length cap,.int .u64 (CP:Nat)]::L) (wraw q es CP::L) :=
 (DB (wents_len es) h4 h1 h2).trans (Fd (F:=fun v=>[B5 q 461 [v,.int .u64 (CP:Nat)],own 498 2 v es.length (wents es)]) (.slice (some ⟨g,0,none⟩) es.length cap) AG)
theorem wraw_nil{q CP:Nat}{L:List AK}:Ent (B5 q 461 [.slice none 0 0,.int .u64 (CP:Nat)]::L) (wraw q [] CP::L) :=
 Ent.imp fun m hm=>⟨.slice none 0 0,m,fun _=>none,hm,⟨fun _=>none,fun _=>none,OG _ _ _,trivial,by simp,by simp,by simp⟩,by simp,fun _ _ h=>h,by simp⟩

set_option maxHeartbeats 1000000 in
theorem A1c(q:Nat)(es:List (WI×Nat))(CP:Nat)(x:WI)(hb1:es.length≤1099511627776)(hb2:CP≤18446744073709551614) :
  Spec Tryz.prog 346 [.pointer (some ⟨q,0,none⟩),wiV x] [wraw q es CP] (fun v L=>v=.tuple #[]∧L=[wraw q (Hp.up aW es.length (es++[(x,CP)]) es.length) (CP+1)]):=by
 refine Spec.of 84 Tryz.func346 rfl rfl rfl ?_
 refine J6 fun v=>?_
 refine L8 (Aj (Ad (Ah rfl (Af (Bm rfl rfl) (AI [0,1,7] rfl (Dw rfl (Ar (Ai (Aj ?_)))))))))
 refine Bb [4,9] _ [] (by simp only [List.append_nil]; exact Ent.refl _) AP ?_
 refine AD 0 rfl (AH rfl) (AD 1 rfl (AH rfl) (AD 2 rfl (Al rfl) (AD 3 rfl (Ae rfl) (Bl 4 rfl (Ak rfl rfl) rfl (AD 5 rfl (AH rfl) (AD 6 rfl (AH rfl) (AD 7 rfl (Al rfl) (AD 8 rfl (Ae rfl) (Bl 9 rfl (Ak rfl rfl) rfl (AD 10 rfl (Bz (qs:=[(0,_),(1,_)]) rfl) (CQ 11 rfl AP (Bs (qs:=[(0,_)]) rfl rfl rfl) (fun b19=>?_))))))))))))
 refine ⟨_,Split.ent AG,?_⟩
 refine BX 12 rfl AP AP (Bj (l:=es.length) (m:=1) rfl rfl AG (by simp only [maxLen]; omega) AC) ?_
 rintro v' hv'
 obtain ⟨g,cap,rfl⟩:=hv' (by decide)
 rw [wents_snoc]
 refine AD 13 rfl (Al rfl) (AD 14 rfl (Ae rfl) (Cy 15 rfl AP AP (Ba rfl rfl rfl) (BZ [0] rfl (Bv AP (Ai (Ad (Ah rfl (Af (Al rfl) (Af (Ae rfl) (AM (Ak rfl rfl) (Af (RA ((CP+1:Nat):Int) rfl rfl AC AC AC) (Af (Al rfl) (Af (Ae rfl) (Bh (Ba rfl rfl rfl) (AI [0] rfl (Ad (Ah rfl (Af (Al rfl) (Af (Ae rfl) (AM (Ak rfl rfl) (Af (BD rfl) (Af (BH (es.length:Int) rfl rfl AC AC AC) (B2 rfl (Bi [0,4] rfl ?_))))))))))))))))))))))))
 refine Tz JU (fun h _ _=>by cases h) (fun hb cap' ex hv h1 h2 h3 h4=>?_)
 cases hv
 have hlen:(es++[(x,CP)]).length=es.length+1:=by simp
 refine Dj (AB ?_)
 refine B4 (ι:=Nat×List (WI×Nat)) (fun k env L=>env=[(0,.pointer (some ⟨q,0,none⟩)),(4,.int .i64 (k.1:Nat))] ∧
  L=[B5 g 498 (wents k.2++ex),B5 q 461 [.slice (some ⟨g,0,none⟩) (es.length+1) cap,.int .u64 ((CP+1:Nat):Int)]] ∧
  k.2.length=es.length+1∧k.1≤es.length∧Hp.up aW k.1 k.2 k.1=Hp.up aW es.length (es++[(x,CP)]) es.length) (fun k=>k.1) (es.length,es++[(x,CP)]) ⟨rfl,rfl,hlen,Nat.le_refl _,rfl⟩ ?_
 rintro ⟨i,fs⟩ env L ⟨rfl,rfl,hl,hi,hup⟩
 simp only [] at hl hi hup
 dsimp only
 refine Aj (Ad (Ah rfl (Af (BO rfl rfl) (AI [0,4,37] rfl ?_))))
 refine Aq rfl (fun h37=>?_) (fun h37=>?_)
 ·have h37':0<i:=by simpa using h37
  obtain ⟨ei,hei⟩:∃ e,fs[i]? = some e:=⟨_,List.getElem?_eq_getElem AC⟩
  obtain ⟨ep,hep⟩:∃ e,fs[(i-1) / 2]? = some e:=⟨_,List.getElem?_eq_getElem AC⟩
  refine Ar (Ai (AB (Ad (Ah rfl (Af (Io rfl rfl AC AC) (Af (EO (((i-1) / 2:Nat):Int) rfl rfl AC AC AC AC) (Au [0,4,5] rfl rfl (Aj (Aj ?_)))))))))
  refine Bb [3,6,10,13] _ [] (by simp only [List.append_nil]; exact Ent.refl _) AP ?_
  refine AD 0 rfl (AH rfl) (AD 1 rfl (Al rfl) (AD 2 rfl (Ae rfl) (Bl 3 rfl (Ak rfl rfl) rfl (AD 4 rfl (AH rfl) ?_))))
  refine AD 5 rfl (AA (i*2) rfl rfl AC AC (by simp)) ?_
  refine Bl 6 rfl (DN (vs:=wcs ei) rfl (by rfl) (Cz wcs_len fs ex i ei hei)) rfl ?_
  refine AD 7 rfl (AH rfl) (AD 8 rfl (Al rfl) (AD 9 rfl (Ae rfl) (Bl 10 rfl (Ak rfl rfl) rfl (AD 11 rfl (AH rfl) (AD 12 rfl (AA ((i-1) / 2*2) rfl rfl AC AC AC) ?_)))))
  refine Bl 13 rfl (DN (vs:=wcs ep) rfl (by rfl) (Cz wcs_len fs ex ((i-1) / 2) ep hep)) rfl ?_
  refine BX 14 rfl AP AP (AF (Ud _ _ _ _) rfl rfl AG) ?_
  rintro v L1 ⟨rfl,rfl⟩
  refine C5 (AD 15 rfl (Cd rfl) (BZ [0,4,5,56] rfl (Bv AP (Ai ?_))))
  refine Aq rfl (fun h56=>?_) (fun h56=>?_)
  ·have hT:Hp.up aW es.length (es++[(x,CP)]) es.length=fs:=by
    rw [← hup]; exact Hp.up_stop hei hep (A1B h56)
   refine Av (AZ (Bg (AZ (Bg ?_))))
   rw [hT]
   have hl':fs.length=es.length+1:=hl
   rw [← hl'] at h1 h4 ⊢
   exact B6 [wraw q fs (CP+1)] .nil ⟨rfl,rfl⟩ ((Split.ent' (K:=[B5 g 498 (wents fs++ex),B5 q 461 [.slice (some ⟨g,0,none⟩) fs.length cap,.int .u64 ((CP+1:Nat):Int)]]) AG).trans (wraw_close h1 h2 h4))
  ·have hel:(wents fs).length=(es.length+1)*2:=by rw [wents_len,hl]
   refine Ar (Ai (Aj ?_))
   refine Bb [3,8,13,16,20,23] _ [] (by simp only [List.append_nil]; exact Ent.refl _) AP ?_
   refine AD 0 rfl (AH rfl) (AD 1 rfl (Al rfl) (AD 2 rfl (Ae rfl) (Bl 3 rfl (Ak rfl rfl) rfl (AD 4 rfl (AH rfl) (AD 5 rfl (AH rfl) (AD 6 rfl (Al rfl) (AD 7 rfl (Ae rfl) (Bl 8 rfl (Ak rfl rfl) rfl (AD 9 rfl (AH rfl) (AD 10 rfl (AH rfl) (AD 11 rfl (Al rfl) (AD 12 rfl (Ae rfl) (Bl 13 rfl (Ak rfl rfl) rfl (AD 14 rfl (AH rfl) (AD 15 rfl (AA ((i-1) / 2*2) rfl rfl AC AC AC) ?_)))))))))))))))
   refine Bl 16 rfl (DN (vs:=wcs ep) rfl (by rfl) (Cz wcs_len fs ex ((i-1) / 2) ep hep)) rfl ?_
   refine AD 17 rfl (AH rfl) (AD 18 rfl (Al rfl) (AD 19 rfl (Ae rfl) (Bl 20 rfl (Ak rfl rfl) rfl (AD 21 rfl (AH rfl) (AD 22 rfl (AA (i*2) rfl rfl AC AC AC) ?_)))))
   refine Bl 23 rfl (DN (vs:=wcs ei) rfl (by rfl) (Cz wcs_len fs ex i ei hei)) rfl ?_
   refine AD 24 rfl (AA (i*2) rfl rfl AC AC AC) ?_
   refine Cx 25 rfl AP AP (DO (vs:=wcs ep) rfl rfl (EQ wcs_len fs ex i ep AC) (by rw [List.length_append,← wents,hel,wcs_len]; omega) rfl rfl) ?_
   refine AD 26 rfl (AA ((i-1) / 2*2) rfl rfl AC AC AC) ?_
   refine Cy 27 rfl AP AP (DO (vs:=wcs ei) rfl rfl (EQ wcs_len (fs.set i ep) ex ((i-1) / 2) ei (by simp; omega)) (by rw [List.length_append,Cp wcs_len,wcs_len,List.length_set]; omega) rfl rfl) ?_
   refine BZ [0,5] rfl (Bv AP (Ai (Am (Ah rfl (B2 rfl (Bi [0,4] rfl (AJ (AV ?_))))))))
   refine Ai ⟨((i-1) / 2,(fs.set i ep).set ((i-1) / 2) ei),⟨rfl,rfl,by simp [hl],by show (i-1) / 2≤es.length; omega,?_⟩,by show (i-1) / 2<i; omega⟩
   rw [← hup,Hp.up_step h37' hei hep (A0q h56)]
 ·obtain rfl:i=0:=by simp at h37; omega
  have hT:Hp.up aW es.length (es++[(x,CP)]) es.length=fs:=by rw [← hup]; rfl
  refine B3 (AU (AU (AY rfl ?_)))
  rw [hT]
  have hl':fs.length=es.length+1:=hl
  rw [← hl'] at h1 h4 ⊢
  exact B6 [wraw q fs (CP+1)] .nil ⟨rfl,rfl⟩ ((Split.ent' (K:=[B5 g 498 (wents fs++ex),B5 q 461 [.slice (some ⟨g,0,none⟩) fs.length cap,.int .u64 ((CP+1:Nat):Int)]]) AG).trans (wraw_close h1 h2 h4))
end SX.Bq
namespace SX.Bq
open Go Go.Proofs SX

def bestTo (es:List (WI×Nat))(i:Nat):Nat→Nat
 | 0=>i
 | 1=>Hp.better aW es (2*i+1) i
 | _=>Hp.best aW es i
theorem bestTo_lt{es:List (WI×Nat)}{i:Nat}(hi:i<es.length):∀ j,bestTo es i j<es.length:=by
 have hb:∀ k m,m<es.length→Hp.better aW es k m<es.length:=fun k m hm=>by
  rcases Hp.better_cases (ah:=aW) es k m with ⟨e,_⟩ | ⟨e,a,b,ha,_⟩
  ·rw [e]; exact hm
  ·rw [e]; exact (List.getElem?_eq_some_iff.1 ha).1
 intro j
 match j with
 | 0=>exact hi
 | 1=>exact hb _ _ hi
 | j+2=>exact hb _ _ (hb _ _ hi)
theorem bestTo_succ{es:List (WI×Nat)}{i j:Nat}(hj:j<2):bestTo es i (j+1)=Hp.better aW es (2*i+1+j) (bestTo es i j):=by
 match j,hj with
 | 0,_=>rfl
 | 1,_=>rfl
theorem bestTo_end{es:List (WI×Nat)}{i j:Nat}(h:2≤j∨es.length≤2*i+1+j):bestTo es i j=Hp.best aW es i:=by
 have hn:∀ k m,es.length≤k→Hp.better aW es k m=m:=fun k m hk=>by
  have:es[k]? = none:=List.getElem?_eq_none_iff.2 hk
  simp [Hp.better,this]
 match j with
 | 0 =>
  have h':es.length≤2*i+1:=by omega
  show i=Hp.better aW es (2*i+2) (Hp.better aW es (2*i+1) i)
  rw [hn _ _ h',hn _ _ AC]
 | 1 =>
  have h':es.length≤2*i+2:=by omega
  show Hp.better aW es (2*i+1) i=Hp.better aW es (2*i+2) (Hp.better aW es (2*i+1) i)
  rw [hn _ _ h']
 | j+2=>rfl
theorem better_of{es:List (WI×Nat)}{k m:Nat}{a b:WI×Nat}(ha:es[k]? = some a)(hb:es[m]? = some b):Hp.better aW es k m=if aW a b then k else m:=by simp [Hp.better,ha,hb]

set_option maxHeartbeats 2000000 in
theorem A1d(q g cap:Nat)(nx:Value)(es:List (WI×Nat))(ex:List Value)(hb1:es.length≤1099511627776) :
  Spec Tryz.prog 379 [.pointer (some ⟨q,0,none⟩)] [B5 q 461 [.slice (some ⟨g,0,none⟩) es.length cap,nx],B5 g 498 (wents es++ex)]
   (fun v L=>v=.tuple #[]∧L=[B5 q 461 [.slice (some ⟨g,0,none⟩) es.length cap,nx],B5 g 498 (wents (Hp.down aW es.length es 0)++ex)]):=by
 refine Spec.of 71 Tryz.func379 rfl rfl rfl ?_
 refine Ad (Au [0,2] rfl rfl (AB ?_))
 refine B4 (ι:=Nat×List (WI×Nat)) (fun k env L=>env=[(0,.pointer (some ⟨q,0,none⟩)),(2,.int .i64 (k.1:Nat))] ∧
   L=[B5 q 461 [.slice (some ⟨g,0,none⟩) es.length cap,nx],B5 g 498 (wents k.2++ex)] ∧
   k.2.length=es.length∧(k.1<es.length∨k.1=0)∧Hp.down aW es.length k.2 k.1=Hp.down aW es.length es 0) (fun k=>es.length-k.1) (0,es) ⟨rfl,rfl,rfl,.inr rfl,rfl⟩ ?_
 rintro ⟨i,fs⟩ env L ⟨rfl,rfl,hl,hi,hdn⟩
 simp only [] at hl hi hdn
 dsimp only
 refine AB (Ad (Ah rfl (Au [0,2,3] rfl rfl ?_)))
 refine Co (fun env L=>env=[(0,.pointer (some ⟨q,0,none⟩)),(2,.int .i64 (i:Nat)),(3,.int .i64 (Hp.best aW fs i:Nat))]∧L=[B5 q 461 [.slice (some ⟨g,0,none⟩) es.length cap,nx],B5 g 498 (wents fs++ex)]) ?_ ?_
 ·refine Ad (Ah rfl (Af (JY rfl rfl AC AC) (Af (AQ ((2*i+1+0:Nat):Int) rfl rfl AC AC AC) (Au [0,2,3,4] rfl rfl (AB ?_)))))
  refine B4 (ι:=Nat) (fun j env L=>env=[(0,.pointer (some ⟨q,0,none⟩)),(2,.int .i64 (i:Nat)),(3,.int .i64 (bestTo fs i j:Nat)),(4,.int .i64 ((2*i+1+j:Nat):Int))]∧j≤2 ∧
    L=[B5 q 461 [.slice (some ⟨g,0,none⟩) es.length cap,nx],B5 g 498 (wents fs++ex)]) (fun j=>2-j) 0 ⟨rfl,by omega,rfl⟩ ?_
  rintro j env L ⟨rfl,hj,rfl⟩
  refine Aj (Ad (Ah rfl (Ah rfl (Af (JY rfl rfl AC AC) (Af (Fy rfl rfl AC AC) (Af (H3 rfl rfl) (Ah rfl ?_)))))))
  refine B9 14 rfl (fun h14=>?_) (fun h14=>?_)
  ·have h14':j<2:=by simp at h14; omega
   refine AS rfl rfl (Ah rfl (AS rfl rfl (Ah rfl (AS rfl rfl (Af (Al rfl) (AS rfl rfl (Af (Ae rfl) (AS rfl rfl (AM (Ak rfl rfl) (AS rfl rfl (Af (BD rfl) (AS rfl rfl (Af (Be rfl rfl) (Af (Bc rfl rfl) (AI [0,2,3,4,22] rfl ?_)))))))))))))))
   refine Aq rfl (fun h22=>?_) (fun h22=>?_)
   ·have h22':2*i+1+j<es.length:=by simp at h22; omega
    have hil:i<fs.length:=by omega
    obtain ⟨ek,hek⟩:∃ e,fs[2*i+1+j]? = some e:=⟨_,List.getElem?_eq_getElem AC⟩
    have hfl:=bestTo_lt hil j
    obtain ⟨ef,hef⟩:∃ e,fs[bestTo fs i j]? = some e:=⟨_,List.getElem?_eq_getElem hfl⟩
    have hsucc:=bestTo_succ (es:=fs) (i:=i) h14'
    rw [better_of hek hef] at hsucc
    refine Ar (Ai (Aj (AB (Aj ?_))))
    refine Bb [3,6,10,13] _ [] (by simp only [List.append_nil]; exact Ent.refl _) AP ?_
    refine AD 0 rfl (AH rfl) (AD 1 rfl (Al rfl) (AD 2 rfl (Ae rfl) (Bl 3 rfl (Ak rfl rfl) rfl (AD 4 rfl (AH rfl) (AD 5 rfl (AA ((2*i+1+j)*2) rfl rfl AC AC AC) ?_)))))
    refine Bl 6 rfl (DN (vs:=wcs ek) rfl (by rfl) (Cz wcs_len fs ex _ ek hek)) rfl ?_
    refine AD 7 rfl (AH rfl) (AD 8 rfl (Al rfl) (AD 9 rfl (Ae rfl) (Bl 10 rfl (Ak rfl rfl) rfl (AD 11 rfl (AH rfl) (AD 12 rfl (AA (bestTo fs i j*2) rfl rfl AC AC AC) ?_)))))
    refine Bl 13 rfl (DN (vs:=wcs ef) rfl (by rfl) (Cz wcs_len fs ex _ ef hef)) rfl ?_
    refine BX 14 rfl AP AP (AF (Ud _ _ _ _) rfl rfl AG) ?_
    rintro v L1 ⟨rfl,rfl⟩
    refine C5 (BZ [0,2,3,4,39] rfl (Bv AP (Ai ?_)))
    refine Aq rfl (fun h39=>?_) (fun h39=>?_)
    ·rw [if_pos h39] at hsucc
     refine Am (Ah rfl (B2 rfl (Bi [0,2,3,4] rfl (AJ (AV (Ai (Am (Ah rfl (Af (AQ ((2*i+1+(j+1):Nat):Int) rfl rfl AC AC AC) (B2 rfl (Bi [0,2,3,4] rfl (AJ ?_))))))))))))
     refine Ai ⟨j+1,⟨?_,by omega,rfl⟩,by omega⟩
     rw [hsucc]
    ·rw [if_neg (by simp [h39])] at hsucc
     refine Ar (AV (Ai (Am (Ah rfl (Af (AQ ((2*i+1+(j+1):Nat):Int) rfl rfl AC AC AC) (B2 rfl (Bi [0,2,3,4] rfl (AJ ?_))))))))
     refine Ai ⟨j+1,⟨?_,by omega,rfl⟩,by omega⟩
     rw [hsucc]
   ·have hbe:=bestTo_end (es:=fs) (i:=i) (j:=j) (.inr (by simp at h22; omega))
    refine B7 _ (Ju 0 rfl (Ju 2 rfl (Ju 3 rfl .nil))) (B3 (AU (AU (AY rfl ?_))))
    refine Ai ⟨?_,rfl⟩
    rw [hbe]
  ·refine B1 rfl rfl rfl (B1 rfl rfl rfl (B1 rfl rfl rfl (B1 rfl rfl rfl (B1 rfl rfl rfl (B1 rfl rfl rfl (B1 rfl rfl rfl (Af (B0 rfl rfl) (AI [0,2,3,4,22] rfl ?_))))))))
   refine Aq rfl (fun h22=>by cases h22) (fun h22=>?_)
   have hbe:=bestTo_end (es:=fs) (i:=i) (j:=j) (.inl (by simp at h14; omega))
   refine B7 _ (Ju 0 rfl (Ju 2 rfl (Ju 3 rfl .nil))) (B3 (AU (AU (AY rfl ?_))))
   refine Ai ⟨?_,rfl⟩
   rw [hbe]
 rintro env L ⟨rfl,rfl⟩
 refine Aj (Ad (Ah rfl (Ah rfl (Af (Bo rfl rfl) (AI [0,2,3,43] rfl ?_)))))
 refine Aq rfl (fun h43=>?_) (fun h43=>?_)
 ·have hbi:Hp.best aW fs i=i:=by simp at h43; omega
  refine Av (AZ (Bg (AZ (Bg ?_))))
  rw [← hdn,Hp.down_stop hbi]
  exact Aw _ .nil ⟨rfl,rfl⟩ AG
 ·have hbi:Hp.best aW fs i≠i:=by simp at h43; omega
  have hgt:=Hp.best_gt hbi
  obtain ⟨ei,hei⟩:∃ e,fs[i]? = some e:=⟨_,List.getElem?_eq_getElem AC⟩
  obtain ⟨ep,hep⟩:∃ e,fs[Hp.best aW fs i]? = some e:=⟨_,List.getElem?_eq_getElem hgt.2⟩
  rw [Hp.down_step AC hbi hei hep] at hdn
  generalize Hp.best aW fs i=p at *
  have hel:(wents fs).length=es.length*2:=by rw [wents_len,hl]
  refine Ar (Ai (Aj ?_))
  refine Bb [3,8,13,16,20,23] _ [] (by simp only [List.append_nil]; exact Ent.refl _) AP ?_
  refine AD 0 rfl (AH rfl) (AD 1 rfl (Al rfl) (AD 2 rfl (Ae rfl) (Bl 3 rfl (Ak rfl rfl) rfl (AD 4 rfl (AH rfl) (AD 5 rfl (AH rfl) (AD 6 rfl (Al rfl) (AD 7 rfl (Ae rfl) (Bl 8 rfl (Ak rfl rfl) rfl (AD 9 rfl (AH rfl) (AD 10 rfl (AH rfl) (AD 11 rfl (Al rfl) (AD 12 rfl (Ae rfl) (Bl 13 rfl (Ak rfl rfl) rfl (AD 14 rfl (AH rfl) (AD 15 rfl (AA (p*2) rfl rfl AC AC AC) ?_)))))))))))))))
  refine Bl 16 rfl (DN (vs:=wcs ep) rfl (by rfl) (Cz wcs_len fs ex p ep hep)) rfl ?_
  refine AD 17 rfl (AH rfl) (AD 18 rfl (Al rfl) (AD 19 rfl (Ae rfl) (Bl 20 rfl (Ak rfl rfl) rfl (AD 21 rfl (AH rfl) (AD 22 rfl (AA (i*2) rfl rfl AC AC AC) ?_)))))
  refine Bl 23 rfl (DN (vs:=wcs ei) rfl (by rfl) (Cz wcs_len fs ex i ei hei)) rfl ?_
  refine AD 24 rfl (AA (i*2) rfl rfl AC AC AC) ?_
  refine Cx 25 rfl AP AP (DO (vs:=wcs ep) rfl rfl (EQ wcs_len fs ex i ep AC) (by rw [List.length_append,← wents,hel,wcs_len]; omega) rfl rfl) ?_
  refine AD 26 rfl (AA (p*2) rfl rfl AC AC AC) ?_
  refine Cy 27 rfl AP AP (DO (vs:=wcs ei) rfl rfl (EQ wcs_len (fs.set i ep) ex p ei (by simp; omega)) (by rw [List.length_append,Cp wcs_len,wcs_len,List.length_set]; omega) rfl rfl) ?_
  refine BZ [0,3] rfl (Bv AP (Ai (Am (Ah rfl (B2 rfl (Bi [0,2] rfl (AJ (AV ?_))))))))
  exact Ai ⟨(p,(fs.set i ep).set p ei),⟨rfl,rfl,by simp [hl],.inl (by show p<es.length; omega),hdn⟩,by show es.length-p<es.length-i; omega⟩
end SX.Bq
namespace SX.Bq
open Go Go.Proofs SX

theorem wraw_fold{q CP:Nat}{v:Value}{es:List (WI×Nat)}{L:List AK}:Ent (B5 q 461 [v,.int .u64 (CP:Nat)]::own 498 2 v es.length (wents es)::L) (wraw q es CP::L) :=
 Fd (F:=fun v=>[B5 q 461 [v,.int .u64 (CP:Nat)],own 498 2 v es.length (wents es)]) v AG
theorem A1S(q:Nat)(es:List (WI×Nat))(CP:Nat):Spec Tryz.prog 391 [.pointer (some ⟨q,0,none⟩)] [wraw q es CP] (fun v L=>v=.int .i64 es.length∧L=[wraw q es CP]):=by
 refine Spec.of 10 Tryz.func391 rfl rfl rfl ?_
 refine J6 fun v=>?_
 refine L8 ?_
 refine FB (A:=own 498 2 v es.length (wents es)) JU ?_
 refine Er (fun m h=>CL h) fun ⟨A,cap,hv⟩=>?_
 subst hv
 refine Ad (Au [0] rfl rfl (Aj (Ad (Ah rfl (Af (Bm rfl rfl) (AI [0,4] rfl (Dw rfl (Ar (Ai (Ad (Ah rfl (Af (Al rfl) (Af (Ae rfl) (AM (Ak rfl rfl) (Af (BD rfl) (Au [2] rfl rfl (Av ?_)))))))))))))))))
 exact B6 [wraw q es CP] (.tmp rfl .nil) ⟨rfl,rfl⟩ ((Split.ent' (K:=[B5 q 461 [.slice A es.length cap,.int .u64 (CP:Nat)],own 498 2 (.slice A es.length cap) es.length (wents es)]) AG).trans wraw_fold)
theorem A1e(q CP:Nat)(e:WI×Nat)(es:List (WI×Nat)):Spec Tryz.prog 378 [.pointer (some ⟨q,0,none⟩)] [wraw q (e::es) CP] (fun v L=>v=.tuple #[wiV e.1,.bool true]∧L=[wraw q (e::es) CP]):=by
 refine Spec.of 16 Tryz.func378 rfl rfl rfl ?_
 refine Ad (B2 rfl (Au [0] rfl rfl (Aj (Ad (Ah rfl ?_)))))
 refine AE (AF (A1S q (e::es) CP) rfl rfl AG) ?_
 rintro v L1 ⟨rfl,rfl⟩
 refine As (Af (Bo rfl rfl) (AI [0,7] rfl ?_))
 refine Aq rfl (fun h7=>by simp at h7; omega) (fun h7=>?_)
 refine Ar (Ai (Aj ?_))
 refine J6 fun v=>?_
 refine L8 ?_
 refine FB (A:=own 498 2 v (e::es).length (wents (e::es))) JU ?_
 refine L6 (fun h h0 h1=>by simp at h0) (fun g cap ex hv o1 o2 o3 o4=>?_)
 subst v
 refine Am (Ah rfl (Af (Al rfl) (Af (Ae rfl) (AM (Ak rfl rfl) ?_))))
 refine Af (AA 0 rfl rfl AC (by simp) rfl) ?_
 refine Af (Ae rfl) (AM (Ak (v:=wiV e.1) rfl rfl) (B2 rfl (Au [2,3] rfl rfl (Av ?_))))
 exact B6 [wraw q (e::es) CP] (.tmp rfl (.tmp rfl .nil)) ⟨rfl,rfl⟩ ((Split.ent' (K:=[B5 g 498 (wents (e::es)++ex),B5 q 461 [.slice (some ⟨g,0,none⟩) (e::es).length cap,.int .u64 (CP:Nat)]]) AG).trans (wraw_close o1 o2 o4))

def wzcs:List Value:=[wiV wiZ,.int .u64 0]
theorem wents_app(a b:List (WI×Nat)):wents (a++b)=wents a++wents b:=by unfold wents; exact List.flatMap_append
theorem wents_over(es:List (WI×Nat))(ex:List Value)(i:Nat)(e:WI×Nat)(h:i<es.length):F2 (wents es++ex) (wcs e) (i*2)=wents (es.set i e)++ex:=EQ wcs_len es ex i e h
theorem wover_cut(es:List (WI×Nat))(ex zs:List Value)(hz:zs.length=2)(hne:es≠[]):F2 (wents es++ex) zs ((es.length-1)*2)=wents es.dropLast++(zs++ex):=by
 have e:=List.dropLast_concat_getLast hne
 have hl:(es.length-1)*2=(wents es.dropLast).length:=by rw [wents_len,List.length_dropLast]
 have h1:wents es=wents es.dropLast++wents [es.getLast hne]:=by rw [← wents_app,e]
 have h2:(wents [es.getLast hne]).length=2:=by rw [wents_len]; rfl
 generalize wents [es.getLast hne]=u at h1 h2
 rw [hl,h1]
 unfold F2
 rw [hz,List.append_assoc (wents es.dropLast) u ex,List.take_left,List.drop_append]
 rw [show (wents es.dropLast).length+2-(wents es.dropLast).length=2 by omega,List.drop_append,h2]
 rw [List.drop_eq_nil_of_le (by omega:(wents es.dropLast).length≤_),List.drop_eq_nil_of_le (by omega:u.length≤_)]
 simp

set_option maxHeartbeats 1000000 in
theorem A1T(q CP:Nat)(e:WI×Nat)(es:List (WI×Nat))(hb1:(e::es).length≤1099511627776):Spec Tryz.prog 347 [.pointer (some ⟨q,0,none⟩)] [wraw q (e::es) CP]
  (fun v L=>v=.tuple #[wiV e.1,.bool true]∧L=[wraw q (Hp.pop aW (e::es)) CP]):=by
 refine Spec.of 52 Tryz.func347 rfl rfl rfl ?_
 refine Ad (B2 rfl (Au [0] rfl rfl (Ad (Ah rfl ?_))))
 refine AE (AF (A1e q CP e es) rfl rfl AG) ?_
 rintro v L1 ⟨rfl,rfl⟩
 refine As (Ah rfl (Af (Ax rfl) (Af (Ax rfl) (B2 rfl (Au [0,4,5] rfl rfl (Aj (Ad (Ah rfl (Af (Cd rfl) (AI [0,4,13] rfl (Dw rfl (Ar (Ai (Aj ?_))))))))))))))
 obtain ⟨fs,hfs⟩:∃ fs,fs=e::es:=⟨_,rfl⟩
 have hne:fs≠[]:=by rw [hfs]; simp
 rw [← hfs] at hb1 ⊢
 have hpos:0<fs.length:=List.length_pos_iff.2 hne
 refine FB (A:=wraw q fs CP) JU ?_
 refine J6 fun v=>?_
 refine L8 ?_
 refine FB (A:=own 498 2 v fs.length (wents fs)) JU ?_
 refine L6 (fun h h0 h1=>by omega) (fun g cap ex hv o1 o2 o3 o4=>?_)
 subst v
 refine Am (Ah rfl (Af (Al rfl) (Af (Ae rfl) (AM (Ak rfl rfl) (Af (BD rfl) (Af (BH ((fs.length-1:Nat):Int) rfl rfl AC AC AC) (Au [0,4,6] rfl rfl (Aj ?_))))))))
 have hel:(wents fs).length=fs.length*2:=wents_len fs
 obtain ⟨l,hlast⟩:∃ l,fs[fs.length-1]? = some l:=⟨_,List.getElem?_eq_getElem AC⟩
 refine Bb [3,7,10] _ [] (by simp only [List.append_nil]; exact Ent.refl _) AP ?_
 refine AD 0 rfl (AH rfl) (AD 1 rfl (Al rfl) (AD 2 rfl (Ae rfl) (Bl 3 rfl (Ak rfl rfl) rfl (AD 4 rfl (AH rfl) (AD 5 rfl (Al rfl) (AD 6 rfl (Ae rfl) (Bl 7 rfl (Ak rfl rfl) rfl (AD 8 rfl (AH rfl) (AD 9 rfl (AA ((fs.length-1)*2) rfl rfl AC AC AC) ?_)))))))))
 refine Bl 10 rfl (DN (vs:=wcs l) rfl (by rfl) (Cz wcs_len fs ex _ l hlast)) rfl ?_
 refine AD 11 rfl (AA (0*2) rfl rfl AC AC AC) ?_
 refine Cx 12 rfl AP AP (DO (vs:=wcs l) rfl rfl (wents_over fs ex 0 l hpos) (by rw [List.length_append,wents_len,wcs_len]; omega) rfl rfl) ?_
 refine BZ [0,4,6] rfl (Bv AP (Ai (Aj ?_)))
 have hl2:(fs.set 0 l).length=fs.length:=List.length_set
 have hne2:fs.set 0 l≠[]:=by intro h; rw [h] at hl2; simp at hl2; omega
 refine Am (Ah rfl (Af (Al rfl) (Af (Ae rfl) (AM (Ak rfl rfl) (Ah rfl (Af (Bz (qs:=[]) rfl) ?_))))))
 refine Af (AA (((fs.set 0 l).length-1)*2) rfl rfl AC AC (by rw [hl2]; omega)) ?_
 refine Bh (DO (vs:=wzcs) rfl rfl (wover_cut (fs.set 0 l) ex wzcs rfl hne2) (by rw [List.length_append,wents_len,hl2]; show _+2≤_; omega) rfl rfl) ?_
 refine AI [0,4,6] rfl (Ad (Ah rfl (Ah rfl (Af (Al rfl) (Af (Ae rfl) (AM (Ak rfl rfl) (Ah rfl (Af (DL (fs.length-1) rfl rfl rfl AC) (Af (Al rfl) (Af (Ae rfl) (Bh (Ba rfl rfl rfl) (AI [0,4] rfl (Ad (Ah rfl ?_))))))))))))))
 have hl3:(fs.set 0 l).dropLast.length=fs.length-1:=by rw [List.length_dropLast,hl2]
 rw [← hl3]
 refine AE (AF (A1d q g cap _ (fs.set 0 l).dropLast (wzcs++ex) AC) rfl rfl AG) ?_
 rintro v L1 ⟨rfl,rfl⟩
 refine As (AI [4] rfl (Ad (Ah rfl (B2 rfl (Au [2,3] rfl rfl (Av ?_))))))
 have hp:Hp.pop aW fs=Hp.down aW (fs.set 0 l).dropLast.length (fs.set 0 l).dropLast 0:=by
  have hgl:fs.getLast? = some l:=by rw [List.getLast?_eq_getElem?]; exact hlast
  unfold Hp.pop
  rw [hgl]
  exact Hp.down_enough _ _ _ _ AC AC
 have hpl:(Hp.pop aW fs).length=(fs.set 0 l).dropLast.length:=by rw [hp,Hp.down_length]
 rw [← hp,← hpl]
 exact B6 [wraw q (Hp.pop aW fs) CP] (.tmp rfl (.tmp rfl .nil)) ⟨rfl,rfl⟩
  ((
  Split.ent' (K:=[B5 g 498 (wents (Hp.pop aW fs)++(wzcs++ex)),B5 q 461 [.slice (some ⟨g,0,none⟩) (Hp.pop aW fs).length cap,.int .u64 (CP:Nat)]]) AG).trans
  (wraw_close AC o2 (by rw [List.length_append,o4,hpl,hl3]; show 2+_=_; omega)))
end SX.Bq
namespace SX.Bq
open Go Go.Proofs SX

theorem aW_trans(a b c:WI×Nat)(h1:aW a b=true)(h2:aW b c=true):aW a c=true:=Hp.ahd_trans ltW_ord a b c h1 h2

def wa (q:Nat)(S:List (WI×Nat))(CP:Nat):AK:=exA (fun es : {es:List (WI×Nat) // Hp.Rep aW es S∧∀ y∈S,y.2<CP}=>[wraw q es.1 CP])
theorem wa_close{q CP:Nat}{es S:List (WI×Nat)}{L:List AK}(h:Hp.Rep aW es S)(h2:∀ y∈S,y.2<CP):Ent (wraw q es CP::L) (wa q S CP::L) :=
 Fd (F:=fun es : {es:List (WI×Nat) // Hp.Rep aW es S∧∀ y∈S,y.2<CP}=>[wraw q es.1 CP]) ⟨es,h,h2⟩ AG
theorem A1f(q:Nat)(S:List (WI×Nat))(CP:Nat)(x:WI)(hb1:S.length≤1099511627776)(hb2:CP≤18446744073709551614) :
  Spec Tryz.prog 346 [.pointer (some ⟨q,0,none⟩),wiV x] [wa q S CP] (fun v L=>v=.tuple #[]∧L=[wa q (Hp.ins aW (x,CP) S) (CP+1)]):=by
 refine Spec.exA' fun ⟨es,hr,hn⟩=>?_
 refine Spec.ent2 (A1c q es CP x (by rw [hr.length]; exact hb1) hb2) (wa_close ?_ ?_)
 ·refine hr.push (Hp.ahd_ord ltW_ord) aW_trans fun y hy h=>Hp.ahd_total (by have:=hn y hy; simp only; omega) h
 ·intro y hy
  rcases Hp.mem_ins.1 hy with rfl | hy
  ·simp
  ·have:=hn y hy; omega
theorem A1U(q CP:Nat)(s:WI×Nat)(S:List (WI×Nat))(hb:(s::S).length≤1099511627776):Spec Tryz.prog 347 [.pointer (some ⟨q,0,none⟩)] [wa q (s::S) CP] (fun v L=>v=.tuple #[wiV s.1,.bool true]∧L=[wa q S CP]):=by
 refine Spec.exA' fun ⟨es,hr,hn⟩=>?_
 cases es with
 | nil=>have:=hr.length; simp at this
 | cons e es =>
  have hz:e=s:=hr.head (Hp.ahd_ord ltW_ord) rfl
  subst hz
  exact Spec.ent2 (A1T q CP e es (by rw [hr.length]; exact hb)) (wa_close (hr.pop (Hp.ahd_ord ltW_ord)) fun y hy=>hn y (List.mem_cons_of_mem _ hy))
theorem A1V:Spec Tryz.prog 285 [.slice none 0 0] [] (fun v L=>∃ q,v=.pointer (some ⟨q,0,none⟩)∧L=[wa q [] 0]):=by
 refine Spec.of 19 Tryz.func285 rfl rfl rfl ?_
 refine Ad (Au [0] rfl rfl (Ad (Af (Bz (qs:=[]) rfl) (AE (Bp rfl rfl) (fun b7=>?_)))))
 refine Au [0,3] rfl rfl (Aj (Aj (AX (wraw_nil (CP:=0)) ?_)))
 refine AX (wa_close Hp.Rep.nil (by simp)) ?_
 refine Am (Ah rfl (Af (BD rfl) (Ah rfl (AI [3,8,9,10] rfl (AB ?_)))))
 refine B4 (ι:=Unit) (fun _ env L=>env=[(3,_),(8,_),(9,.int .i64 0),(10,.int .i64 0)]∧L=[wa _ [] 0]) (fun _=>0) () ⟨rfl,rfl⟩ ?_
 rintro _ env L ⟨rfl,rfl⟩
 refine Ad (Af (Be rfl rfl) (AI [3,8,9,10,11] rfl (Aj (Dw rfl (B3 (AU (AU (AY rfl (Ai (Ad (Ah rfl (Au [2] rfl rfl (Av ?_)))))))))))))
 exact Aw _ (.tmp rfl .nil) ⟨_,rfl,rfl⟩ AG
end SX.Bq
namespace SX.Bq
open Go Go.Proofs SX

theorem ins_fst{x nx:Nat}:∀ {S:List (WI×Nat)} {Q:List Nat},S.map (·.1)=Q.map (fun k:Nat=>(k:Int))→x∉Q→(Hp.ins aW ((x:Int),nx) S).map (·.1)=(Ft x Q).map (fun k:Nat=>(k:Int))
 | [],[],_,_=>rfl
 | [],_::_,h,_=>by simp at h
 | _::_,[],h,_=>by simp at h
 | s::S,q::Q,h,hx=>by
  rw [List.map_cons,List.map_cons,List.cons.injEq] at h
  obtain ⟨h1,h2⟩:=h
  have hne:x≠q:=fun e=>hx (by rw [e]; exact List.mem_cons_self ..)
  have hA:aW ((x:Int),nx) s=decide (q<x):=by
   unfold aW Hp.ahd ltW
   rw [h1,Bool.eq_iff_iff]
   simp only [Bool.or_eq_true,Bool.and_eq_true,Bool.not_eq_true',decide_eq_true_eq,decide_eq_false_iff_not]
   show (@LT.lt Int _ q x∨_)↔_
   have e1:(@LT.lt Int _ q x)↔q<x:=by omega
   have e2:(@LT.lt Int _ x q)↔x<q:=by omega
   constructor
   ·rintro (h | ⟨h,_⟩)
    ·exact e1.1 h
    ·have h':¬ @LT.lt Int _ (x:Int) (q:Int):=h
     omega
   ·exact fun h=>.inl (e1.2 h)
  unfold Hp.ins Ft
  rw [hA]
  by_cases hq:q<x
  ·rw [if_pos (decide_eq_true hq),if_pos hq,List.map_cons,List.map_cons,h1,h2]; rfl
  ·rw [if_neg (by rw [decide_eq_false hq]; simp),if_neg hq,List.map_cons,List.map_cons,h1,ins_fst h2 (fun hm=>hx (List.mem_cons_of_mem _ hm))]
def cq (q:Nat)(Q:List Nat)(nx:Nat):AK:=exA (fun S : {S:List (WI×Nat) // S.map (·.1)=Q.map (fun k:Nat=>(k:Int))}=>[wa q S.1 nx])
theorem cq_close{q nx:Nat}{S:List (WI×Nat)}{Q:List Nat}{L:List AK}(h:S.map (·.1)=Q.map (fun k:Nat=>(k:Int))):Ent (wa q S nx::L) (cq q Q nx::L) :=
 Fd (F:=fun S : {S:List (WI×Nat) // S.map (·.1)=Q.map (fun k:Nat=>(k:Int))}=>[wa q S.1 nx]) ⟨S,h⟩ AG
theorem len_fst{S:List (WI×Nat)}{Q:List Nat}(h:S.map (·.1)=Q.map (fun k:Nat=>(k:Int))):S.length=Q.length:=by have:=congrArg List.length h; rwa [List.length_map,List.length_map] at this
theorem push_q(q:Nat)(Q:List Nat)(nx x:Nat)(hx:x∉Q)(hb1:Q.length≤1099511627776)(hb2:nx≤18446744073709551614) :
  Spec Tryz.prog 346 [.pointer (some ⟨q,0,none⟩),.int .i64 (x:Nat)] [cq q Q nx] (fun v L=>v=.tuple #[]∧L=[cq q (Ft x Q) (nx+1)]):=by
 refine Spec.exA' fun ⟨S,hS⟩=>?_
 exact Spec.ent2 (A1f q S nx (x:Int) (by rw [len_fst hS]; exact hb1) hb2) (cq_close (ins_fst hS hx))
theorem pop_q(q nx c:Nat)(Q:List Nat)(hb:(c::Q).length≤1099511627776):Spec Tryz.prog 347 [.pointer (some ⟨q,0,none⟩)] [cq q (c::Q) nx] (fun v L=>v=.tuple #[.int .i64 (c:Nat),.bool true]∧L=[cq q Q nx]):=by
 refine Spec.exA' fun ⟨S,hS⟩=>?_
 cases S with
 | nil=>simp at hS
 | cons s S =>
  rw [List.map_cons,List.map_cons,List.cons.injEq] at hS
  have h:=A1U q nx s S (by have:=len_fst hS.2; simp only [List.length_cons] at hb ⊢; omega)
  rw [hS.1] at h
  exact Spec.ent2 h (cq_close hS.2)
theorem new_q:Spec Tryz.prog 285 [.slice none 0 0] [] (fun v L=>∃ q,v=.pointer (some ⟨q,0,none⟩)∧L=[cq q [] 0]) :=
 Spec.ent3 A1V fun v L ⟨q,hv,hL⟩=>⟨_,by rw [hL]; exact cq_close rfl,q,hv,rfl⟩
end SX.Bq
namespace SX
open Go Go.Proofs Go.Proofs.Tryz

theorem Wb {P:Program}{env:CA}{t u:TypeId}{x y:Operand}(a b:Nat)(hx:AO env x=some (.int .i64 (a:Nat)))(hy:AO env y=some (.int .i64 (b:Nat)))(ha:a<4611686018427387904)(hb:b<4611686018427387904):Pu P env (.binOp .or t x y u) (.int .i64 ((a ||| b:Nat):Int)):=fun ρ hρ _ _ _ _ _ w=>by
 have hg:∀ X Y,eqGuard .or t X Y (.int .i64 (a:Nat)) (.int .i64 (b:Nat))=pure ():=fun _ _=>by simp [eqGuard]
 have hle:a ||| b<4611686018427387904:=Nat.or_lt_two_pow (n:=62) ha hb
 have hb':(binOp .or t (.int .i64 (a:Nat)) (.int .i64 (b:Nat)):Sem Value)=pure (.int .i64 ((a ||| b:Nat):Int)):=by
  have e:(binOp .or t (.int .i64 (a:Nat)) (.int .i64 (b:Nat)):Sem Value)=Op.intBits .or .i64 a b:=by simp [binOp]
  rw [e]
  show (let a':BitVec 64:=BitVec.ofInt 64 a; let b':BitVec 64:=BitVec.ofInt 64 b; pure (.int .i64 (IntKind.i64.wrap (a' ||| b').toNat)):Sem Value)=_
  have e1:(BitVec.ofInt 64 (a:Int)).toNat=a:=by rw [BitVec.ofInt_natCast,BitVec.toNat_ofNat]; exact Nat.mod_eq_of_lt AC
  have e2:(BitVec.ofInt 64 (b:Int)).toNat=b:=by rw [BitVec.ofInt_natCast,BitVec.toNat_ofNat]; exact Nat.mod_eq_of_lt AC
  simp only [BitVec.toNat_or,e1,e2]
  rw [Es AC AC]
 simp only [execOp,hρ x _ hx,hρ y _ hy,Sem.run_bind,hg,hb',Sem.run_pure,Result.andThen_ok]
theorem Ls {P:Program}{env:CA}{t u:TypeId}{x y:Operand}{a b:Nat}(ha:isV a)(hb:b<8)(hx:AO env x=some (.int .i64 (a:Nat)))(hy:AO env y=some (.int .i64 (b:Nat))):Pu P env (.binOp .or t x y u) (.int .i64 ((a ||| b:Nat):Int)) :=
 Wb a b hx hy (by have:=ha.lt; omega) AC
theorem Ik {P:Program}{env:CA}{t u:TypeId}{x y:Operand}{a:Nat}(b:Nat)(ha:isV a)(hb:b<8)(hx:AO env x=some (.int .i64 (a:Nat)))(hy:AO env y=some (.int .i64 (b:Nat))):Pu P env (.binOp .and t x y u) (.int .i64 ((a &&& b:Nat):Int)) :=
 RI a b hx hy (by have:=ha.lt; omega) AC
theorem A1g{a:Nat}(ha:isV a):decide (((a &&& 4:Nat):Int)=0)=decide (a<4):=by rcases ha with rfl | rfl | rfl | rfl | rfl <;> decide
theorem A0d{a:Nat}(ha:isV a)(h:a<4):decide (((a &&& 3:Nat):Int)=3)=decide (a=3):=by rcases ha with rfl | rfl | rfl | rfl | rfl <;> first | decide | omega
theorem Lt {P:Program}{env:CA}{t u:TypeId}{x y:Operand}{a:Nat}(ha:isV a)(hx:AO env x=some (.int .i64 ((a &&& 4:Nat):Int)))(hy:AO env y=some (.int .i64 0)):Pu P env (.binOp .eql t x y u) (.bool (decide (a<4))):=by
 rw [← A1g ha]; exact Bo hx hy
theorem Yx {P:Program}{env:CA}{t u:TypeId}{x y:Operand}{a:Nat}(ha:isV a)(h:a<4)(hx:AO env x=some (.int .i64 ((a &&& 3:Nat):Int)))(hy:AO env y=some (.int .i64 3)):Pu P env (.binOp .eql t x y u) (.bool (decide (a=3))):=by
 rw [← A0d ha h]; exact Bo hx hy

def Hu (P:Nat→Nat)(l:BM Int):Prop:=∀ c:Nat,C7 l (c:Int)=if P c=0 then none else some (.int .i64 (P c:Nat))
def T8 (b:Nat)(P:Nat→Nat):AK:=exA fun k : {k:BM Int×Nat // Hu P k.1}=>[BI b LK k.1.1 k.1.2]
theorem Kr {b:Nat}{P:Nat→Nat}{l:BM Int}{c:Nat}{L:List AK}(h:Hu P l):Ent (BI b LK l c::L) (T8 b P::L) :=
 Fd (F:=fun k : {k:BM Int×Nat // Hu P k.1}=>[BI b LK k.1.1 k.1.2]) ⟨(l,c),h⟩ AG
theorem MY {P:Nat→Nat}{l:BM Int}(h:Hu P l)(c:Nat):(C7 l (c:Int)).getD (Value.int .i64 0)=Value.int .i64 (P c:Nat)∧(C7 l (c:Int)).isSome=decide (P c≠0):=by
 rw [h]
 by_cases e:P c=0
 ·rw [if_pos e,e]; exact ⟨rfl,rfl⟩
 ·rw [if_neg e]; exact ⟨rfl,(decide_eq_true e).symm⟩
theorem Yy {s:PS}{l:BM Int}(h:Hu s.1 l)(c k:Nat){v:Nat}(hne:s.1 c ||| v≠0):Hu (CS s c v).1 (upd l k (c:Int) (.int .i64 ((s.1 c ||| v:Nat):Int))):=fun j=>by
 rw [It,h]
 show _=if (if j=c then s.1 j ||| v else s.1 j)=0 then none else some (Value.int .i64 ((if j=c then s.1 j ||| v else s.1 j:Nat):Int))
 by_cases e:j=c
 ·subst e
  rw [if_pos rfl,if_pos rfl,if_neg hne]
 ·rw [if_neg (fun h=>e AC),if_neg e]
theorem Yz:Hu (fun _=>0) []:=fun _=>rfl
theorem YA {env:CA}{L:List AK}{b k:Nat}{P:Nat→Nat}{l:BM Int}{m x:Operand}[InM b L LK l k](h:Hu P l)(c:Nat)(hx:AO env m=some (.map (some b)))(hy:AO env x=some (.int .i64 (c:Nat))):Rd prog env L (.lookup 269 m x true) (.tuple #[.int .i64 (P c:Nat),.bool (decide (P c≠0))]):=by
 have:=Nq (P:=prog) (t:=269) (kv:=LK) (L:=L) (l:=l) (c:=k) (b:=b) (c:Int) hx hy
 rwa [(MY h c).1,(MY h c).2] at this
theorem A0e{env:CA}{L:List AK}{b k:Nat}{P:Nat→Nat}{l:BM Int}{m x:Operand}[InM b L LK l k](h:Hu P l)(c:Nat)(hx:AO env m=some (.map (some b)))(hy:AO env x=some (.int .i64 (c:Nat))):Rd prog env L (.lookup 269 m x false) (.int .i64 (P c:Nat)):=by
 have:=PX (P:=prog) (t:=269) (kv:=LK) (L:=L) (l:=l) (c:=k) (b:=b) (c:Int) hx hy
 rwa [(MY h c).1] at this
abbrev Oi (p:Nat)(sv:Value)(n mb q F:Nat):AK:=B5 p 404 [sv,.int .i64 (n:Nat),.map (some mb),.pointer (some ⟨q,0,none⟩),.int .i64 (F:Nat)]
def D5 (n:Nat)(P:Nat→Nat):Nat:=HA n fun k=>decide (P k≠0)
theorem Wc {n:Nat}{s:PS}{c v:Nat}(hc:c<n)(hne:s.1 c ||| v≠0):D5 n (CS s c v).1=if s.1 c=0 then D5 n s.1+1 else D5 n s.1:=by
 have e:(fun k=>decide ((CS s c v).1 k≠0))=fun j=>decide (s.1 j≠0)||decide (j=c):=funext fun j=>by
  show decide ((if j=c then s.1 j ||| v else s.1 j)≠0)=_
  by_cases e:j=c
  ·subst e; rw [if_pos rfl,decide_eq_true hne]; simp
  ·rw [if_neg e,decide_eq_false e,Bool.or_false]
 unfold D5
 rw [e]
 by_cases h0:s.1 c=0
 ·rw [if_pos h0,NQ (by simpa using h0) hc]
 ·rw [if_neg h0]
  congr 1
  funext j
  by_cases e:j=c
  ·subst e; rw [decide_eq_true h0]; simp
  ·rw [decide_eq_false e,Bool.or_false]
theorem YB {s:PS}{c v:Nat}(h:s.1 c=0):(CS s c v).2=Ft c s.2:=if_pos h
theorem YC {s:PS}{c v:Nat}(h:s.1 c≠0):(CS s c v).2=s.2:=if_neg h
theorem A1W{a v:Nat}(h:v≠0):a ||| v≠0:=by
 have:v≤a ||| v:=Nat.right_le_or
 omega
set_option maxHeartbeats 2000000 in
theorem Ks (p n m mb q:Nat)(sv:Value)(s:PS)(c v:Nat)(hn:n≤65536)(hI:PI n m s)(hm:m≤n)(hc:c<m)(hv:isV v)(h0:v≠0) :
  Spec prog 286 [.pointer (some ⟨p,0,none⟩),.int .i64 (c:Nat),.int .i64 (v:Nat)] [Oi p sv n mb q (G5 s),T8 mb s.1,Bq.cq q s.2 (D5 n s.1)]
   (fun r L=>r=.tuple #[]∧L=[Oi p sv n mb q (G5 (CS s c v)),T8 mb (CS s c v).1,Bq.cq q (CS s c v).2 (D5 n (CS s c v).1)]):=by
 have hne:=A1W (a:=s.1 c) h0
 have hql:=Iz hI.falls hI.lt
 have hsl:=Xv n fun k=>decide (s.1 k≠0)
 have hse:=Wc (v:=v) (show c<n by omega) hne
 obtain ⟨f1,f2,f3⟩:=Zy hI hc hv
 have hfl:=Xz hI
 have hva:=hI.val c
 have hvo:=hva.or hv
 have hww:Mo s c=(decide (s.1 c≠0)&&decide (s.1 c<4)):=rfl
 have hii:pIs s c v=decide (s.1 c ||| v<4):=rfl
 refine Spec.pre ?_ Ent.swap
 refine Spec.exA' fun ⟨⟨l,k⟩,hl⟩=>?_
 simp only [List.cons_append,List.nil_append]
 dsimp only at hl ⊢
 refine Spec.ent3 (post:=fun r L=>∃ k',r=.tuple #[]∧L=[BI mb LK (upd l k (c:Int) (.int .i64 ((s.1 c ||| v:Nat):Int))) k',Oi p sv n mb q (G5 (CS s c v)),Bq.cq q (CS s c v).2 (D5 n (CS s c v).1)]) ?_
  (fun r L ⟨k',h1,h2⟩=>⟨_,by rw [h2]; exact (Kr (Yy hl c k hne)).trans Ent.swap,h1,rfl⟩)
 refine Spec.of 80 func286 rfl rfl rfl ?_
 refine Aj (Ad (Ah rfl (Af (Be rfl rfl) (Ah rfl ?_))))
 refine B9 12 rfl (fun h12=>by exfalso; have:=of_decide_eq_true h12; omega) (fun h12=>?_)
 refine AS rfl rfl (Ah rfl (AS rfl rfl (Ah rfl (AS rfl rfl (Af (Al rfl) (AS rfl rfl (Af (Ae rfl) (AS rfl rfl (AM (Ak rfl rfl) (AS rfl rfl (Af (Cs rfl rfl) (Af (B0 rfl rfl) (AI [0,1,2,19] rfl ?_)))))))))))))
 refine Aq rfl (fun h19=>by exfalso; have:=of_decide_eq_true h19; omega) (fun h19=>?_)
 refine Ar (Ai (Ad (Ah rfl (Af (Al rfl) (Af (Ae rfl) (AM (Ak rfl rfl) (Ah rfl (AM (YA hl c rfl rfl) (Ah rfl (Af (Ax rfl) (Af (Ax rfl) (B2 rfl (Au [0,1,2,6,7] rfl rfl (Ad (Ah rfl (Af (Al rfl) (Af (Ae rfl) (AM (Ak rfl rfl) (Ah rfl (Ah rfl (Ah rfl (Af (Ls hva hv.lt rfl rfl) ?_))))))))))))))))))))))
 refine Bh (LJ (kv:=LK) _ rfl rfl rfl AG) ?_
 refine AI [0,1,2,6,7] rfl (Aj (Ad (Ah rfl (Af (Cd rfl) (AI [0,1,2,6,7,38] rfl ?_)))))
 refine Aq rfl (fun h38=>?_) (fun h38=>?_)
 ·have hz:s.1 c=0:=by simpa using h38
  have hqn:c∉s.2:=fun hq=>(hI.seen c hc).2 hq hz
  have hw:Mo s c=false:=by rw [hww,hz]; rfl
  rw [if_pos hz] at hse
  refine Am (Ah rfl (Af (Al rfl) (Af (Ae rfl) (AM (Ak rfl rfl) (Ah rfl ?_)))))
  refine AE (AF (Bq.push_q q s.2 (D5 n s.1) c hqn AC (by unfold D5; omega)) rfl rfl AG) ?_
  rintro v44 L1 ⟨rfl,rfl⟩
  refine As ?_
  rw [← YB (v:=v) hz,← hse]
  refine AI [0,2,6,7] rfl (Ad (Ah rfl (Ah rfl ?_)))
  refine B9 46 rfl (fun h46=>by exfalso; have:=of_decide_eq_true h46; exact this hz) (fun h46=>?_)
  refine B1 rfl rfl rfl (B1 rfl rfl rfl (B1 rfl rfl rfl (Af (B0 rfl rfl) (Ah rfl (Ah rfl (Af (Ls hva hv.lt rfl rfl) ?_))))))
  refine Af (Ik 4 hvo (by decide) rfl rfl) ?_
  refine Af (Lt hvo rfl rfl) (B2 rfl (Au [0,8,9] rfl rfl (Ad (Ah rfl (Ah rfl ?_)))))
  refine B9 57 rfl (fun h57=>?_) (fun h57=>?_)
  ·refine AS rfl rfl (Ah rfl (AS rfl rfl (Af (Cd rfl) (Af (Bc rfl rfl) (AI [0,8,9,60] rfl ?_)))))
   refine Aq rfl (fun h60=>?_) (fun h60=>by cases h60)
   have e7:=f1 h57 hw
   refine Am (Ah rfl (Af (Al rfl) (Af (Ae rfl) (AM (Ak rfl rfl) (Af (AQ ((G5 (CS s c v):Nat):Int) rfl rfl AC AC AC) (Af (Al rfl) (Af (Ae rfl) (Bh (Ba rfl rfl rfl) (C3 _ .nil (AJ ?_))))))))))
   exact CK [BI mb LK (upd l k (c:Int) (.int .i64 ((s.1 c ||| v:Nat):Int))) _,Oi p sv n mb q (G5 (CS s c v)),Bq.cq q (CS s c v).2 (D5 n (CS s c v).1)] .nil ⟨_,rfl,rfl⟩ AG
  ·refine B1 rfl rfl rfl (B1 rfl rfl rfl (Af (B0 rfl rfl) (AI [0,8,9,60] rfl ?_)))
   refine Aq rfl (fun h60=>by cases h60) (fun h60=>?_)
   refine Ad (Ah rfl (Ah rfl ?_))
   refine B9 69 rfl (fun h69=>by cases h69) (fun h69=>?_)
   refine B1 rfl rfl rfl (B1 rfl rfl rfl (Af (B0 rfl rfl) (AI [0,72] rfl ?_)))
   refine Aq rfl (fun h72=>by cases h72) (fun h72=>?_)
   refine Ar ?_
   rw [← f3 (h57.trans hw.symm)]
   exact CK [BI mb LK (upd l k (c:Int) (.int .i64 ((s.1 c ||| v:Nat):Int))) _,Oi p sv n mb q (G5 (CS s c v)),Bq.cq q (CS s c v).2 (D5 n (CS s c v).1)] .nil ⟨_,rfl,rfl⟩ AG
 ·have hz:s.1 c≠0:=by simpa using h38
  have hw:Mo s c=decide (s.1 c<4):=by rw [hww,decide_eq_true hz,Bool.true_and]
  rw [if_neg hz] at hse
  rw [← YC (v:=v) hz,← hse]
  refine Ar (Ai (Ad (Ah rfl (Ah rfl ?_))))
  refine B9 46 rfl (fun h46=>?_) (fun h46=>by exfalso; have:=of_decide_eq_false h46; exact this hz)
  refine AS rfl rfl (Ah rfl (AS rfl rfl ?_))
  refine Af (Ik 4 hva (by decide) rfl rfl) ?_
  refine AS rfl rfl (Af (Lt hva rfl rfl) (Af (Bc rfl rfl) (Ah rfl (Ah rfl (Af (Ls hva hv.lt rfl rfl) ?_)))))
  refine Af (Ik 4 hvo (by decide) rfl rfl) ?_
  refine Af (Lt hvo rfl rfl) (B2 rfl (Au [0,8,9] rfl rfl (Ad (Ah rfl (Ah rfl ?_)))))
  refine B9 57 rfl (fun h57=>?_) (fun h57=>?_)
  ·refine AS rfl rfl (Ah rfl (AS rfl rfl (Af (Cd rfl) (Af (Bc rfl rfl) (AI [0,8,9,60] rfl ?_)))))
   refine Aq rfl (fun h60=>?_) (fun h60=>?_)
   ·have e7:=f1 h57 (by rw [hw]; simpa using h60)
    refine Am (Ah rfl (Af (Al rfl) (Af (Ae rfl) (AM (Ak rfl rfl) (Af (AQ ((G5 (CS s c v):Nat):Int) rfl rfl AC AC AC) (Af (Al rfl) (Af (Ae rfl) (Bh (Ba rfl rfl rfl) (C3 _ .nil (AJ ?_))))))))))
    exact CK [BI mb LK (upd l k (c:Int) (.int .i64 ((s.1 c ||| v:Nat):Int))) _,Oi p sv n mb q (G5 (CS s c v)),Bq.cq q (CS s c v).2 (D5 n (CS s c v).1)] .nil ⟨_,rfl,rfl⟩ AG
   ·refine Ad (Ah rfl (Ah rfl ?_))
    refine B9 69 rfl (fun h69=>?_) (fun h69=>by rw [h69] at h60; cases h60)
    refine AS rfl rfl (Ah rfl (AS rfl rfl (Af (Cd rfl) (Af (Bc rfl rfl) (AI [0,72] rfl ?_)))))
    refine Aq rfl (fun h72=>by rw [h57] at h72; cases h72) (fun h72=>?_)
    refine Ar ?_
    rw [← f3 (h57.trans (hw.trans h69).symm)]
    exact CK [BI mb LK (upd l k (c:Int) (.int .i64 ((s.1 c ||| v:Nat):Int))) _,Oi p sv n mb q (G5 (CS s c v)),Bq.cq q (CS s c v).2 (D5 n (CS s c v).1)] .nil ⟨_,rfl,rfl⟩ AG
  ·refine B1 rfl rfl rfl (B1 rfl rfl rfl (Af (B0 rfl rfl) (AI [0,8,9,60] rfl ?_)))
   refine Aq rfl (fun h60=>by cases h60) (fun h60=>?_)
   refine Ad (Ah rfl (Ah rfl ?_))
   refine B9 69 rfl (fun h69=>?_) (fun h69=>?_)
   ·refine AS rfl rfl (Ah rfl (AS rfl rfl (Af (Cd rfl) (Af (Bc rfl rfl) (AI [0,72] rfl ?_)))))
    refine Aq rfl (fun h72=>?_) (fun h72=>by rw [h57] at h72; cases h72)
    have e9:=f2 h57 (hw.trans h69)
    refine Am (Ah rfl (Af (Al rfl) (Af (Ae rfl) (AM (Ak rfl rfl) (Af (BH ((G5 (CS s c v):Nat):Int) rfl rfl AC AC AC) (Af (Al rfl) (Af (Ae rfl) (Bh (Ba rfl rfl rfl) (C3 _ .nil (AJ ?_))))))))))
    exact CK [BI mb LK (upd l k (c:Int) (.int .i64 ((s.1 c ||| v:Nat):Int))) _,Oi p sv n mb q (G5 (CS s c v)),Bq.cq q (CS s c v).2 (D5 n (CS s c v).1)] .nil ⟨_,rfl,rfl⟩ AG
   ·refine B1 rfl rfl rfl (B1 rfl rfl rfl (Af (B0 rfl rfl) (AI [0,72] rfl ?_)))
    refine Aq rfl (fun h72=>by cases h72) (fun h72=>?_)
    refine Ar ?_
    rw [← f3 (h57.trans (hw.trans h69).symm)]
    exact CK [BI mb LK (upd l k (c:Int) (.int .i64 ((s.1 c ||| v:Nat):Int))) _,Oi p sv n mb q (G5 (CS s c v)),Bq.cq q (CS s c v).2 (D5 n (CS s c v).1)] .nil ⟨_,rfl,rfl⟩ AG

def Gm (g:List (List Int))(l r:List Int):List Int:=BW g.length (Db g (HB g l r) g.length)
abbrev stS (l r:List Int):PS:=addRow 2 (addRow 1 (fun _=>0,[]) l) r
theorem YD {n c:Nat}(hc:c<n)(D:Nat→Bool):A0R n D (c:Int)=fun j=>D j||decide (j=c):=by
 funext j
 unfold A0R
 rw [Int.toNat_natCast,decide_eq_true (show (0:Int)≤(c:Int)∧(c:Int)<n by omega),Bool.true_and]
set_option maxHeartbeats 4000000 in
theorem T9 (X:Src)(s0:X.σ)(μ:PH)(p mb q:Nat)(l r:List Int)(hT:RowAt μ 2 0 tabV)(h0:Le X.μ0 μ)(hf:X.fine s0)(hl:∀ p∈l,0≤p∧p<X.g.length)(hr:∀ p∈r,0≤p∧p<X.g.length) :
  Spec prog 287 [.pointer (some ⟨p,0,none⟩)] [Oi p X.sv X.n mb q (G5 (stS l r)),T8 mb (stS l r).1,Bq.cq q (stS l r).2 (D5 X.n (stS l r).1),X.A s0 μ,ro μ]
   (fun v L=>∃ zs μ',Py X.n zs∧Le μ μ'∧L=[own 3 1 v (Gm X.g l r).length ((Gm X.g l r).flatMap (Bw .i64)),X.A (zs.foldl X.step s0) μ',ro μ']):=by
 have hn:=X.hn
 have hXn:X.n=X.g.length:=rfl
 have hw0:PW X.g l r X.g.length (stS l r) (fun _=>false):=PW.start hl hr
 generalize stS l r=st0 at *
 refine Spec.of 85 func287 rfl rfl rfl ?_
 refine Ad (Au [0] rfl rfl (Ad (Ah rfl (Af (Al rfl) (Af (Ae rfl) (AM (Ak rfl rfl) ?_))))))
 refine AE (AF (A0D (X.n:Nat)) rfl rfl AG) ?_
 rintro v15 L1 ⟨p3,rfl,rfl⟩
 refine As (Au [0,3] rfl rfl (Ad (Ah rfl (Af (Al rfl) (Af (Ae rfl) (AM (Ak rfl rfl) ?_))))))
 refine AE (AF (A0D (X.n:Nat)) rfl rfl AG) ?_
 rintro v20 L1 ⟨p4,rfl,rfl⟩
 refine As (B2 rfl (Bi [0,3,4] rfl ?_))
 rw [Wa hn]
 refine Dj (Aj (AB (B7 _ (Ju 0 rfl (Ju 3 rfl (Ju 4 rfl .nil))) ?_)))
 refine AX (Split.ent' (K:=[Oi p X.sv X.n mb q (G5 st0),T8 mb st0.1,Bq.cq q st0.2 (D5 X.n st0.1),EJ p3 X.n (fun _=>false),EJ p4 X.n (fun _=>false),X.A s0 μ,ro μ]) AG) ?_
 refine B4 (ι:=Nat×PS×(Nat→Bool)×(Nat→Bool)×List Nat×PH) (fun k env L=>Sub env [(0,.pointer (some ⟨p,0,none⟩)),(3,.pointer (some ⟨p3,0,none⟩)),(4,.pointer (some ⟨p4,0,none⟩))]
  ∧ L=[Oi p X.sv X.n mb q (G5 k.2.1),T8 mb k.2.1.1,Bq.cq q k.2.1.2 (D5 X.n k.2.1.1),EJ p3 X.n k.2.2.1,EJ p4 X.n k.2.2.2.1,X.A (k.2.2.2.2.1.foldl X.step s0) k.2.2.2.2.2,ro k.2.2.2.2.2]
  ∧ PW X.g l r k.1 k.2.1 k.2.2.1∧(∀ j,j<k.1→k.2.2.2.1 j=false)∧Py X.n k.2.2.2.2.1∧(∀ y∈k.2.2.2.2.1,k.1≤y)∧Le μ k.2.2.2.2.2) (fun k=>k.1) (X.g.length,st0,fun _=>false,fun _=>false,[],μ) ⟨⟨rfl,rfl,rfl,trivial⟩,rfl,hw0,fun _ _=>rfl,⟨List.nodup_nil,fun y hy=>by cases hy⟩,fun y hy=>(by cases hy),Le.refl _⟩ ?_
 rintro ⟨m,⟨P,Q0⟩,F,D,ys,μ1⟩ env L ⟨hsub0,rfl,hW,hD,hask,hys,hle⟩
 dsimp only at hW hD hask hys hle ⊢
 refine B7 _ hsub0 (Aj (Ad (Ah rfl (Af (Al rfl) (Af (Ae rfl) (AM (Ak rfl rfl) (Af (BO rfl rfl) (AI [0,3,4,25] rfl ?_))))))))
 refine Aq rfl (fun h25=>?_) (fun h25=>?_)
 ·have hpos:0<G5 (P,Q0):=by have:=of_decide_eq_true h25; omega
  obtain ⟨c,Q,hQ⟩:=Zz hpos
  dsimp only at hQ
  subst hQ
  obtain ⟨hI1,hPc,hcm,hW1⟩:=hW.step X.hg
  have hml:=hW.le
  have hcn:c<X.g.length:=by omega
  have hV:isV (P c):=hW.pi.val c
  have hql:(c::Q).length≤m:=Iz hW.pi.falls hW.pi.lt
  have hpop:=ZA (P:=P) (c:=c) (Q:=Q)
  have hfb:=Xz hI1
  have hnw:A0S X.n D (c:Int)=true:=by
   unfold A0S
   rw [Int.toNat_natCast,hD c hcm,decide_eq_true (show (0:Int)≤c by omega),decide_eq_true (show (c:Int)<X.n by omega)]; rfl
  refine Ar (Ai (AB (Ad (Ah rfl (Af (Al rfl) (Af (Ae rfl) (AM (Ak rfl rfl) ?_)))))))
  refine AE (AF (Bq.pop_q q (D5 X.n P) c Q AC) rfl rfl AG) ?_
  rintro v31 L1 ⟨rfl,rfl⟩
  refine As (Ah rfl (Af (Ax rfl) (Af (Ax rfl) (B2 rfl (Au [0,3,4,5] rfl rfl (Ad (Ah rfl (Au [0,3,4,7] rfl rfl (Aj ?_)))))))))
  refine AX (Split.ent' (K:=[T8 mb P,Oi p X.sv X.n mb q (G5 (P,c::Q)),Bq.cq q Q (D5 X.n P),EJ p3 X.n F,EJ p4 X.n D,X.A (ys.foldl X.step s0) μ1,ro μ1]) AG) ?_
  refine J6 fun ⟨⟨ents,clk⟩,hents⟩=>?_
  simp only [List.cons_append,List.nil_append]
  dsimp only at hents ⊢
  refine Am (Ah rfl (Af (Al rfl) (Af (Ae rfl) (AM (Ak rfl rfl) (Ah rfl (AM (A0e hents c rfl rfl) (B2 rfl (Bi [0,3,4,7,8] rfl (C9 (Kr hents) (Dj (Aj (Ad (Ah rfl (Ah rfl ?_))))))))))))))
  refine AE (AF (A0E p4 X.n D (c:Nat)) rfl rfl AG) ?_
  rintro v43 L1 ⟨rfl,rfl⟩
  refine As ?_
  rw [hnw,YD (show c<X.n from hcn)]
  refine Af (Cd rfl) (AI [0,3,4,7,8,44] rfl (Dw rfl (Ar (Ai ?_))))
  refine Co (fun env L=>Sub env [(0,.pointer (some ⟨p,0,none⟩)),(3,.pointer (some ⟨p3,0,none⟩)),(4,.pointer (some ⟨p4,0,none⟩)),(7,.int .i64 (c:Nat)),(8,.int .i64 (IP (P c):Nat))]∧Ent L [Oi p X.sv X.n mb q (G5 (P,Q)),T8 mb P,Bq.cq q Q (D5 X.n P),EJ p3 X.n (fun k=>F k||(decide (P c=3)&&decide (k=c))),EJ p4 X.n (fun j=>D j||decide (j=c)),X.A (ys.foldl X.step s0) μ1,ro μ1]) ?_ ?_
  ·refine Ad (Ah rfl ?_)
   refine Af (Ik 4 hV (by decide) rfl rfl) ?_
   refine Af (Lt hV rfl rfl) (AI [0,3,4,7,8,47] rfl ?_)
   refine Aq rfl (fun h47=>?_) (fun h47=>?_)
   ·have h47':P c<4:=of_decide_eq_true h47
    rw [if_pos h47'] at hpop
    refine Ad (Ah rfl (Af (Al rfl) (Af (Ae rfl) (AM (Ak rfl rfl) (Af (BH ((G5 (P,Q):Nat):Int) rfl rfl AC AC AC) (Af (Al rfl) (Af (Ae rfl) (Bh (Ba rfl rfl rfl) (AI [0,3,4,7,8] rfl (Ad (Ah rfl ?_)))))))))))
    refine Af (Ik 3 hV (by decide) rfl rfl) ?_
    refine Af (Yx hV h47' rfl rfl) (AI [0,3,4,7,8,57] rfl ?_)
    refine Aq rfl (fun h57=>?_) (fun h57=>?_)
    ·have h57':P c=3:=of_decide_eq_true h57
     refine Ad (Ah rfl (Ah rfl ?_))
     refine AE (AF (A0E p3 X.n F (c:Nat)) rfl rfl AG) ?_
     rintro v60 L1 ⟨rfl,rfl⟩
     refine As (AI [0,3,4,7,8] rfl (Am (Ah rfl ?_)))
     refine Af (Ls hV (by decide) rfl rfl) ?_
     refine B2 rfl (Bi [0,3,4,7,8] rfl (AJ ?_))
     refine Ai ⟨⟨rfl,rfl,rfl,rfl,by rw [h57']; rfl,trivial⟩,?_⟩
     rw [YD (show c<X.n from hcn),show (fun k=>F k||(decide (P c=3)&&decide (k=c)))=fun k=>F k||decide (k=c) by rw [h57']; rfl]
     exact Split.ent' AG
    ·have h57':¬ P c=3:=of_decide_eq_false h57
     refine Ar ?_
     refine Ai ⟨⟨rfl,rfl,rfl,rfl,by unfold IP; rw [if_neg h57']; rfl,trivial⟩,?_⟩
     rw [show (fun k=>F k||(decide (P c=3)&&decide (k=c)))=F by funext k; rw [decide_eq_false h57']; simp]
     exact Split.ent' AG
   ·have h47':¬ P c<4:=of_decide_eq_false h47
    rw [if_neg h47',Nat.add_zero] at hpop
    have h57':¬ P c=3:=by omega
    refine Ar ?_
    refine Ai ⟨⟨rfl,rfl,rfl,rfl,by unfold IP; rw [if_neg h57']; rfl,trivial⟩,?_⟩
    rw [hpop,show (fun k=>F k||(decide (P c=3)&&decide (k=c)))=F by funext k; rw [decide_eq_false h57']; simp]
    exact Split.ent' AG
  rintro env L ⟨hsub,hL8⟩
  refine B7 _ hsub (AX hL8 ?_)
  have hcy:c∉ys:=fun h=>by have:=hys c h; omega
  have hvo:isV (IP (P c)):=hV.out
  have hvn:=TQ hPc
  generalize hv:IP (P c)=v at *
  generalize hF':(fun k=>F k||(decide (P c=3)&&decide (k=c)))=F' at *
  have hD':∀ j,j<c→(fun j=>D j||decide (j=c)) j=false:=fun j hj=>by
   show (D j||decide (j=c))=false
   rw [hD j AC,decide_eq_false AC]; rfl
  generalize (fun j=>D j||decide (j=c))=D' at *
  refine Ad (Ah rfl (Af (Al rfl) (Af (Ae rfl) (AM (Ak rfl rfl) (Ah rfl ?_)))))
  refine AE (DD rfl X.hd (X.parents (ys.foldl X.step s0) μ1 c (h0.trans hle) hcn (hf ys c hask.1 hcy (fun y hy=>hask.2 y hy) hcn)) rfl AG) ?_
  rintro v68 L1 ⟨μ3,hμ3,hrw,rfl⟩
  refine As (Af (AW hrw rfl) (Ah rfl (AI [0,3,4,8,68,69,70] rfl (AB (B7 _ (Ju 0 rfl (Ju 3 rfl (Ju 4 rfl (Ju 8 rfl (Ju 68 rfl (Ju 69 rfl (Ju 70 rfl .nil))))))) ?_)))))
  refine AX (Split.ent' (K:=[Oi p X.sv X.n mb q (G5 (P,Q)),T8 mb P,Bq.cq q Q (D5 X.n P),EJ p3 X.n F',EJ p4 X.n D',X.A (X.step (ys.foldl X.step s0) c) μ3,ro μ3]) AG) ?_
  refine B4 (ι:=Nat) (fun i env L=>env=[(0,.pointer (some ⟨p,0,none⟩)),(3,.pointer (some ⟨p3,0,none⟩)),(4,.pointer (some ⟨p4,0,none⟩)),(8,.int .i64 (v:Nat)),(68,v68),(69,.int .i64 ((Ch X.g c).length:Nat)),(70,.int .i64 (i:Nat))]
   ∧ L=[Oi p X.sv X.n mb q (G5 (addRow v (P,Q) ((Ch X.g c).take i))),T8 mb (addRow v (P,Q) ((Ch X.g c).take i)).1,Bq.cq q (addRow v (P,Q) ((Ch X.g c).take i)).2 (D5 X.n (addRow v (P,Q) ((Ch X.g c).take i)).1),EJ p3 X.n F',EJ p4 X.n D',X.A (X.step (ys.foldl X.step s0) c) μ3,ro μ3]∧i≤(Ch X.g c).length) (fun i=>(Ch X.g c).length-i) 0 ⟨rfl,rfl,Nat.zero_le _⟩ ?_
  rintro i env L ⟨rfl,rfl,hi⟩
  refine Aj ?_
  have hrs:=hrw.small
  have hrg:∀ u∈Ch X.g c,0≤u∧u<c:=fun u hu=>⟨(Dl X.hg hu).1,(Dl X.hg hu).2.1⟩
  refine Am (Af (Be rfl rfl) (AI [0,3,4,8,68,69,70,71] rfl (Aj ?_)))
  refine Aq rfl (fun h71=>?_) (fun h71=>?_)
  ·have h71':i<(Ch X.g c).length:=by have:=of_decide_eq_true h71; omega
   obtain ⟨u,hu⟩:∃ u,(Ch X.g c)[i]? = some u:=⟨_,List.getElem?_eq_getElem h71'⟩
   obtain ⟨pb,po,pc,hpv,hpc⟩:=hrw.at_ hu
   have hur:=hrg u (List.mem_of_getElem? hu)
   obtain ⟨u,rfl⟩:∃ k:Nat,u=k:=⟨u.toNat,by omega⟩
   have hsu:=I1 (v:=v) (s:=(P,Q)) hu
   rw [Int.toNat_natCast] at hsu
   obtain ⟨hIi,_⟩:=PI.addRow (v:=v) (show c≤X.g.length by omega) hvo hvn hI1 (l:=(Ch X.g c).take i) (fun w hw=>hrg w (List.mem_of_mem_take hw))
   have hDu:=hD' u AC
   generalize addRow v (P,Q) ((Ch X.g c).take i)=si at *
   refine Ar (Ai (Aj (AB (Ad ?_))))
   refine Af (AA (po+i*1) (congrArg some hpv) rfl AC AC (by rw [Int.toNat_natCast])) ?_
   refine AM (BJ rfl hpc) (Au [0,3,4,8,10,68,69,70] rfl rfl (Ad (Ah rfl (Ah rfl ?_))))
   refine AE (AF (A1R p4 X.n D' u) rfl rfl AG) ?_
   rintro v76 L1 ⟨rfl,rfl⟩
   refine As ?_
   rw [hDu]
   refine Af (Cd rfl) (AI [0,3,4,8,10,68,69,70,77] rfl (Tv rfl (Am (Ah rfl (Ah rfl (Ah rfl ?_))))))
   refine AE (AF (Ks p X.n c mb q X.sv si u v hn hIi AC AC hvo hvn) rfl rfl AG) ?_
   rintro v81 L1 ⟨rfl,rfl⟩
   refine As (Bi [0,3,4,8,68,69,70] rfl (AJ (AV (Ai (Am (Af (AQ ((i+1:Nat):Int) rfl rfl AC AC AC) (Ah rfl (Bi [0,3,4,8,68,69,70] rfl ?_))))))))
   refine C9 (Split.ent' (K:=[Oi p X.sv X.n mb q (G5 (CS si u v)),T8 mb (CS si u v).1,Bq.cq q (CS si u v).2 (D5 X.n (CS si u v).1),EJ p3 X.n F',EJ p4 X.n D',X.A (X.step (ys.foldl X.step s0) c) μ3,ro μ3]) AG) ?_
   refine AJ ?_
   exact Ai ⟨i+1,⟨rfl,by rw [hsu],h71'⟩,by omega⟩
  ·have h71':=of_decide_eq_false h71
   obtain rfl:i=(Ch X.g c).length:=by omega
   rw [List.take_length]
   refine B3 (AU (AU (AY rfl (AV ?_))))
   refine Ai ⟨(c,addRow v (P,Q) (Ch X.g c),F',D',ys++[c],μ3),⟨⟨rfl,rfl,rfl,trivial⟩,?_,hW1,hD',⟨?_,?_⟩,?_,hle.trans hμ3⟩,hcm⟩
   ·rw [List.foldl_append]; rfl
   ·rw [List.nodup_append]
    exact ⟨hask.1,by simp,fun a ha b hb e=>by obtain rfl:=List.mem_singleton.1 hb; subst e; exact hcy ha⟩
   ·intro y hy
    rcases List.mem_append.1 hy with hy | hy
    ·exact hask.2 y hy
    ·obtain rfl:=List.mem_singleton.1 hy; exact hcn
   ·intro y hy
    rcases List.mem_append.1 hy with hy | hy
    ·have:=hys y hy; show c≤y; omega
    ·obtain rfl:=List.mem_singleton.1 hy; exact Nat.le_refl _
 ·have hz:G5 (P,Q0)=0:=by have:=of_decide_eq_false h25; omega
  have hFe:F=Db X.g (HB X.g l r) X.g.length:=funext (hW.done X.hg hz)
  subst hFe
  refine B3 (AU (AU (AY rfl (Ai (Ad (Ah rfl ?_))))))
  refine AE (AF (A1b μ1 p3 X.n (Db X.g (HB X.g l r) X.g.length) (hT.le hle)) rfl rfl AG) ?_
  rintro v84 L1 rfl
  refine As ?_
  rw [show BW X.n (Db X.g (HB X.g l r) X.g.length)=Gm X.g l r from rfl]
  refine Au [2] rfl rfl (Av ?_)
  exact Aw [own 3 1 v84 (Gm X.g l r).length ((Gm X.g l r).flatMap (Bw .i64)),X.A (ys.foldl X.step s0) μ1,ro μ1] (.tmp rfl .nil) ⟨ys,μ1,hask,hle,rfl⟩ AG

theorem J3 (X:Src)(s:X.σ)(μ:PH):Spec prog 214 [X.sv] [X.A s μ] (fun r L=>r=.int .i64 (X.n:Nat)∧L=[X.A s μ]):=by
 have hn:=X.hn
 refine Spec.of 7 func214 rfl rfl rfl ?_
 refine Ad (Au [0] rfl rfl (Ad (Ah rfl ?_)))
 refine AE (DD rfl X.hd (X.commits s μ) rfl AG) ?_
 rintro v4 L1 ⟨rfl,rfl⟩
 refine As (Af (Ea rfl rfl) (Af (DE rfl rfl) (Au [2] rfl rfl (Av ?_))))
 exact Aw [X.A s μ] (.tmp rfl .nil) ⟨by show Value.int .i64 _=_; rw [show min (max (X.g.length:Int) 0) 65536=(X.g.length:Int) by omega],rfl⟩ AG
set_option maxHeartbeats 1000000 in
theorem R4 (X:Src)(s:X.σ)(μ:PH)(lv:Value)(G:List (Value×List Int))(hG:Graph μ lv G):Spec prog 208 [X.sv,lv] [X.A s μ,ro μ] (fun r L=>r=.int .i64 (Gl X.n (C6 G))∧L=[X.A s μ,ro μ]):=by
 have hsm:=hG.1.small
 refine Spec.of 33 func208 rfl rfl rfl ?_
 refine Ad (Au [0,1] rfl rfl (Aj (Ad (Ah rfl (Af (Hh rfl rfl) (AI [0,1,10] rfl (Dw rfl (Ar (Ai (Aj (Ad (Ah rfl (Af (AW hG.1 rfl) (Ah rfl (AI [0,11,12,13] rfl (AB ?_))))))))))))))))
 refine B4 (ι:=Nat) (fun i env L=>env=[(0,X.sv),(11,lv),(12,.int .i64 (G.length:Nat)),(13,.int .i64 (i:Nat))]∧L=[X.A s μ,ro μ]∧i≤G.length∧((C6 G).take i).all (fun l=>l.all (LX X.n))=true) (fun i=>G.length-i) 0 ⟨rfl,rfl,Nat.zero_le _,rfl⟩ ?_
 rintro i env L ⟨rfl,rfl,hi,hall⟩
 refine Ad (Af (Be rfl rfl) (AI [0,11,12,13,14] rfl (Aj ?_)))
 refine Aq rfl (fun h14=>?_) (fun h14=>?_)
 ·have h14':i<G.length:=by have:=of_decide_eq_true h14; omega
  obtain ⟨gb,off,cap,x,hv,hx,hxc,hxr,hnx⟩:=Ys hG h14'
  have hsx:=hxr.small
  refine Ar (Ai (Aj (AB (Ad ?_))))
  refine Af (AA (off+i*1) (congrArg some hv) rfl AC AC (by rw [Int.toNat_natCast])) ?_
  refine AM (BJ rfl hxc) (Au [0,6,11,12,13] rfl rfl (Ad (Ah rfl (Af (AW hxr rfl) (Ah rfl (AI [0,11,12,13,17,18,19] rfl (AB ?_)))))))
  refine B4 (ι:=Nat) (fun j env L=>env=[(0,X.sv),(11,lv),(12,.int .i64 (G.length:Nat)),(13,.int .i64 (i:Nat)),(17,x.1),(18,.int .i64 (x.2.length:Nat)),(19,.int .i64 (j:Nat))]∧L=[X.A s μ,ro μ]∧j≤x.2.length∧(x.2.take j).all (LX X.n)=true) (fun j=>x.2.length-j) 0 ⟨rfl,rfl,Nat.zero_le _,rfl⟩ ?_
  rintro j env L ⟨rfl,rfl,hj,hin⟩
  refine Ad (Af (Be rfl rfl) (AI [0,11,12,13,17,18,19,20] rfl (Aj ?_)))
  refine Aq rfl (fun h20=>?_) (fun h20=>?_)
  ·have h20':j<x.2.length:=by have:=of_decide_eq_true h20; omega
   obtain ⟨c,hc⟩:∃ c,x.2[j]? = some c:=⟨_,List.getElem?_eq_getElem h20'⟩
   obtain ⟨pb,po,pc,hpv,hpc⟩:=hxr.at_ hc
   have hbad:LX X.n c=false→(C6 G).all (fun l=>l.all (LX X.n))=false:=fun h=>by
    rw [List.all_eq_false]
    refine ⟨x.2,List.mem_of_getElem? hnx,?_⟩
    rw [List.all_eq_true]
    intro h2
    rw [h2 c (List.mem_of_getElem? hc)] at h; cases h
   refine Ar (Ai (Aj (AB (Ad ?_))))
   refine Af (AA (po+j*1) (congrArg some hpv) rfl AC AC (by rw [Int.toNat_natCast])) ?_
   refine AM (BJ rfl hpc) (Au [0,8,11,12,13,17,18,19] rfl rfl (Ad (Ah rfl (Af (Be rfl rfl) (Ah rfl ?_)))))
   refine B9 25 rfl (fun h25=>?_) (fun h25=>?_)
   ·refine B1 rfl rfl rfl (B1 rfl rfl rfl (B1 rfl rfl rfl (B1 rfl rfl rfl (Af (Bc rfl rfl) (AI [0,11,12,13,17,18,19,30] rfl ?_)))))
    refine Aq rfl (fun h30=>?_) (fun h30=>by cases h30)
    refine Ad (Au [4] rfl rfl (Av (Bg (AZ (AZ (Bg (Bg (AZ (AZ (Bg (AZ ?_)))))))))))
    have h25':=of_decide_eq_true h25
    refine Aw [X.A s μ,ro μ] (.tmp rfl .nil) ⟨?_,rfl⟩ AG
    unfold Gl
    rw [if_neg (by rw [hbad (by unfold LX; rw [decide_eq_false AC]; rfl)]; exact Bool.false_ne_true)]; rfl
   ·refine AS rfl rfl (Ah rfl (AS rfl rfl (Ah rfl (AS rfl rfl ?_))))
    refine AE (AF (J3 X s μ) rfl rfl AG) ?_
    rintro v28 L1 ⟨rfl,rfl⟩
    refine As (AS rfl rfl (Af (Cs rfl rfl) (Af (B0 rfl rfl) (AI [0,11,12,13,17,18,19,30] rfl ?_))))
    refine Aq rfl (fun h30=>?_) (fun h30=>?_)
    ·refine Ad (Au [4] rfl rfl (Av (Bg (AZ (AZ (Bg (Bg (AZ (AZ (Bg (AZ ?_)))))))))))
     have h30':=of_decide_eq_true h30
     refine Aw [X.A s μ,ro μ] (.tmp rfl .nil) ⟨?_,rfl⟩ AG
     unfold Gl
     rw [if_neg (by rw [hbad (by unfold LX; rw [decide_eq_false (p:=c<(X.n:Int)) AC,Bool.and_false])]; exact Bool.false_ne_true)]; rfl
    ·refine Ar (AV (Ai (Am (Af (AQ ((j+1:Nat):Int) rfl rfl AC AC AC) (Ah rfl (Bi [0,11,12,13,17,18,19] rfl (AJ ?_)))))))
     have h25':=of_decide_eq_false h25
     have h30':=of_decide_eq_false h30
     refine Ai ⟨j+1,⟨rfl,rfl,h20',?_⟩,by omega⟩
     rw [List.take_add_one,hc,List.all_append,hin]
     show (true&&([c].all _))=true
     simp only [List.all_cons,List.all_nil,Bool.and_true,Bool.true_and]
     unfold LX
     rw [decide_eq_true (show 0≤c by omega),decide_eq_true (show c<(X.n:Int) by omega)]; rfl
  ·have h20':=of_decide_eq_false h20
   obtain rfl:j=x.2.length:=by omega
   rw [List.take_length] at hin
   refine B3 (AU (AU (AY rfl (AV (Ai (Am (Af (AQ ((i+1:Nat):Int) rfl rfl AC AC AC) (Ah rfl (Bi [0,11,12,13] rfl (AJ ?_))))))))))
   refine Ai ⟨i+1,⟨rfl,rfl,h14',?_⟩,by omega⟩
   rw [List.take_add_one,hnx,List.all_append,hall]
   show (true&&([x.2].all _))=true
   simp only [List.all_cons,List.all_nil,Bool.and_true,Bool.true_and]
   exact hin
 ·have h14':=of_decide_eq_false h14
  obtain rfl:i=G.length:=by omega
  refine B3 (AU (AU (AY rfl (Ai (Ad (Au [4] rfl rfl (Av ?_)))))))
  refine Aw [X.A s μ,ro μ] (.tmp rfl .nil) ⟨?_,rfl⟩ AG
  rw [List.take_of_length_le (by rw [List.length_map]; exact Nat.le_refl _)] at hall
  unfold Gl
  rw [if_pos hall]; rfl
def C0 (g:List (List Int))(xs ys:List Int):List Int:=if Fc g xs ys=0 then Gm g xs ys else []
set_option maxHeartbeats 4000000 in
theorem Ta (X:Src)(s0:X.σ)(μ:PH)(v u:Value)(xs ys:List Int)(hT:RowAt μ 2 0 tabV)(hv:Row μ v 1 xs.length (xs.flatMap (Bw .i64)))(hu:Row μ u 1 ys.length (ys.flatMap (Bw .i64)))(h0:Le X.μ0 μ)(hf:X.fine s0) :
  Spec prog 207 [X.sv,v,u] [X.A s0 μ,ro μ] (fun r L=>∃ lv zs μ',Py X.n zs∧Le μ μ'∧r=.tuple #[lv,.int .i64 (Fc X.g xs ys)]∧L=[own 3 1 lv (C0 X.g xs ys).length ((C0 X.g xs ys).flatMap (Bw .i64)),X.A (zs.foldl X.step s0) μ',ro μ']):=by
 have hn:=X.hn
 have hXn:X.n=X.g.length:=rfl
 have hvs:=hv.small
 have hus:=hu.small
 obtain ⟨A1,c1,rfl⟩:=hv.sl
 obtain ⟨A2,c2,rfl⟩:=hu.sl
 refine Spec.of 51 func207 rfl rfl rfl ?_
 refine Ad (B2 rfl (Au [0,1,2] rfl rfl (Aj (Ad (Ah rfl (Ah rfl (Ah rfl (AE (Bs (qs:=[(0,_),(1,_)]) rfl rfl rfl) (fun b17=>?_)))))))))
 refine ER (b:=b17) (μ:=μ) AG fun μ1 h1 k1=>?_
 refine C9 (X.up (s:=s0) h1 AG) ?_
 have hG:Graph μ1 (.slice (some ⟨b17,0,none⟩) 2 2) [(.slice A1 xs.length c1,xs),(.slice A2 ys.length c2,ys)]:=⟨Ed k1 (by rfl) (by decide),fun x hx=>by
  rcases List.mem_cons.1 hx with rfl | hx
  ·exact hv.le h1
  ·obtain rfl:=List.mem_singleton.1 hx; exact hu.le h1⟩
 refine AE (AF (R4 X s0 μ1 _ _ hG) rfl rfl AG) ?_
 rintro v18 L1 ⟨rfl,rfl⟩
 refine As ?_
 rw [show Gl X.n (C6 [(Value.slice A1 xs.length c1,xs),(Value.slice A2 ys.length c2,ys)])=Fc X.g xs ys from rfl]
 refine Au [0,1,2,8] rfl rfl (Ad (Ah rfl (Af (Bx rfl rfl) (AI [0,1,2,8,20] rfl ?_))))
 refine Aq rfl (fun h20=>?_) (fun h20=>?_)
 ·have he:Fc X.g xs ys≠0:=by simpa using h20
  refine Ad (Ah rfl (B2 rfl (Au [6,7] rfl rfl (Av (AZ ?_)))))
  refine B6 [own 3 1 (.slice none 0 0) (C0 X.g xs ys).length ((C0 X.g xs ys).flatMap (Bw .i64)),X.A s0 μ1,ro μ1] (.tmp rfl (.tmp rfl .nil)) ⟨_,[],μ1,⟨List.nodup_nil,fun y hy=>by cases hy⟩,h1,rfl,rfl⟩ ?_
  rw [C0,if_neg he]
  exact (Split.ent' (K:=[X.A s0 μ1,ro μ1]) AG).trans own_nil_ent
 ·have he:Fc X.g xs ys=0:=by simpa using h20
  have hx:∀ p∈xs,0≤p∧p<X.g.length:=IJ he (by simp)
  have hy:∀ p∈ys,0≤p∧p<X.g.length:=IJ he (by simp)
  refine Ar (Ai (Ad (Ah rfl (Ah rfl ?_))))
  refine AE (AF (J3 X s0 μ1) rfl rfl AG) ?_
  rintro v24 L1 ⟨rfl,rfl⟩
  refine As (AE (ET (kv:=LK)) (fun b25=>?_))
  refine AE (AF Bq.new_q rfl rfl AG) ?_
  rintro v26 L1 ⟨q,rfl,rfl⟩
  refine As (Af (Bz (qs:=[(0,_),(1,_),(2,_),(3,_)]) rfl) (AE (Bp rfl rfl) (fun b28=>?_)))
  refine B2 rfl (Bi [1,2,9] rfl ?_)
  refine C9 (Split.ent' (K:=[BI b25 LK [] 0,B5 b28 404 [X.sv,.int .i64 (X.n:Nat),.map (some b25),.pointer (some ⟨q,0,none⟩),.int .i64 0],Bq.cq q [] 0,X.A s0 μ1,ro μ1]) AG) ?_
  refine C9 (Kr Yz) ?_
  have hs0:D5 X.n (fun _=>0)=0:=by unfold D5; exact T7 _
  refine Dj (Aj (Ad (Ah rfl (Af (BD rfl) (Ah rfl (AI [2,9,29,30,31] rfl (AB ?_)))))))
  have key:∀ i,PI X.n X.n (addRow 1 (fun _=>0,[]) (xs.take i)):=fun i=>(PI.addRow (v:=1) (Nat.le_refl X.n) (by unfold isV; decide) (by decide) (PI.start X.n) (fun p hp=>hx p (List.mem_of_mem_take hp))).1
  refine AX (L':=[Oi b28 X.sv X.n b25 q (G5 (addRow 1 (fun _=>0,[]) (xs.take 0))),T8 b25 (addRow 1 (fun _=>0,[]) (xs.take 0)).1,Bq.cq q (addRow 1 (fun _=>0,[]) (xs.take 0)).2 (D5 X.n (addRow 1 (fun _=>0,[]) (xs.take 0)).1),X.A s0 μ1,ro μ1]) (by
   show Ent _ [B5 b28 404 [X.sv,.int .i64 (X.n:Nat),.map (some b25),.pointer (some ⟨q,0,none⟩),.int .i64 0],T8 b25 (fun _=>0),Bq.cq q [] (D5 X.n (fun _=>0)),X.A s0 μ1,ro μ1]
   rw [hs0]; exact Split.ent' AG) ?_
  refine B4 (ι:=Nat) (fun i env L=>env=[(2,.slice A2 ys.length c2),(9,.pointer (some ⟨b28,0,none⟩)),(29,.slice A1 xs.length c1),(30,.int .i64 (xs.length:Nat)),(31,.int .i64 (i:Nat))]
   ∧ L=[Oi b28 X.sv X.n b25 q (G5 (addRow 1 (fun _=>0,[]) (xs.take i))),T8 b25 (addRow 1 (fun _=>0,[]) (xs.take i)).1,Bq.cq q (addRow 1 (fun _=>0,[]) (xs.take i)).2 (D5 X.n (addRow 1 (fun _=>0,[]) (xs.take i)).1),X.A s0 μ1,ro μ1]∧i≤xs.length) (fun i=>xs.length-i) 0 ⟨rfl,rfl,Nat.zero_le _⟩ ?_
  rintro i env L ⟨rfl,rfl,hi⟩
  refine Ad (Af (Be rfl rfl) (AI [2,9,29,30,31,32] rfl (Aj ?_)))
  refine Aq rfl (fun h32=>?_) (fun h32=>?_)
  ·have h32':i<xs.length:=by have:=of_decide_eq_true h32; omega
   obtain ⟨c,hc⟩:∃ c,xs[i]? = some c:=⟨_,List.getElem?_eq_getElem h32'⟩
   obtain ⟨pb,po,pc,hpv,hpc⟩:=(hv.le h1).at_ hc
   have hcr:=hx c (List.mem_of_getElem? hc)
   obtain ⟨c,rfl⟩:∃ k:Nat,c=k:=⟨c.toNat,by omega⟩
   have hsu:=I1 (v:=1) (s:=(fun _=>0,[])) hc
   rw [Int.toNat_natCast] at hsu
   have hki:=key i
   generalize addRow 1 (fun _=>0,[]) (xs.take i)=si at *
   refine Ar (Ai (Aj (AB (Ad ?_))))
   refine Af (AA (po+i*1) (congrArg some hpv) rfl AC AC (by rw [Int.toNat_natCast])) ?_
   refine AM (BJ rfl hpc) (Au [2,9,11,29,30,31] rfl rfl (Am (Ah rfl (Ah rfl ?_))))
   refine AE (AF (Ks b28 X.n X.n b25 q X.sv si c 1 hn hki (Nat.le_refl _) AC (by unfold isV; decide) (by decide)) rfl rfl AG) ?_
   rintro v37 L1 ⟨rfl,rfl⟩
   refine As (Bi [2,9,29,30,31] rfl (AJ (AV (Ai (Am (Af (AQ ((i+1:Nat):Int) rfl rfl AC AC AC) (Ah rfl (Bi [2,9,29,30,31] rfl (AJ ?_)))))))))
   exact Ai ⟨i+1,⟨rfl,by rw [hsu],h32'⟩,by omega⟩
  ·have h32':=of_decide_eq_false h32
   obtain rfl:i=xs.length:=by omega
   have hk1:=key xs.length
   rw [List.take_length] at *
   refine B3 (AU (AU (AY rfl (Ai (Aj (Ad (Ah rfl (Af (AW hu rfl) (Ah rfl (AI [9,39,40,41] rfl (AB ?_)))))))))))
   have key2:∀ i,PI X.n X.n (addRow 2 (addRow 1 (fun _=>0,[]) xs) (ys.take i)):=fun i=>(PI.addRow (v:=2) (Nat.le_refl X.n) (by unfold isV; decide) (by decide) hk1 (fun p hp=>hy p (List.mem_of_mem_take hp))).1
   refine B7 _ (Ju 9 rfl (Ju 39 rfl (Ju 40 rfl (Ju 41 rfl .nil)))) ?_
   refine B4 (ι:=Nat) (fun i env L=>env=[(9,.pointer (some ⟨b28,0,none⟩)),(39,.slice A2 ys.length c2),(40,.int .i64 (ys.length:Nat)),(41,.int .i64 (i:Nat))]
    ∧ L=[Oi b28 X.sv X.n b25 q (G5 (addRow 2 (addRow 1 (fun _=>0,[]) xs) (ys.take i))),T8 b25 (addRow 2 (addRow 1 (fun _=>0,[]) xs) (ys.take i)).1,Bq.cq q (addRow 2 (addRow 1 (fun _=>0,[]) xs) (ys.take i)).2 (D5 X.n (addRow 2 (addRow 1 (fun _=>0,[]) xs) (ys.take i)).1),X.A s0 μ1,ro μ1]∧i≤ys.length) (fun i=>ys.length-i) 0 ⟨rfl,rfl,Nat.zero_le _⟩ ?_
   rintro i env L ⟨rfl,rfl,hi⟩
   refine Ad (Af (Be rfl rfl) (AI [9,39,40,41,42] rfl (Aj ?_)))
   refine Aq rfl (fun h42=>?_) (fun h42=>?_)
   ·have h42':i<ys.length:=by have:=of_decide_eq_true h42; omega
    obtain ⟨c,hc⟩:∃ c,ys[i]? = some c:=⟨_,List.getElem?_eq_getElem h42'⟩
    obtain ⟨pb,po,pc,hpv,hpc⟩:=(hu.le h1).at_ hc
    have hcr:=hy c (List.mem_of_getElem? hc)
    obtain ⟨c,rfl⟩:∃ k:Nat,c=k:=⟨c.toNat,by omega⟩
    have hsu:=I1 (v:=2) (s:=addRow 1 (fun _=>0,[]) xs) hc
    rw [Int.toNat_natCast] at hsu
    have hki:=key2 i
    generalize addRow 2 (addRow 1 (fun _=>0,[]) xs) (ys.take i)=si at *
    refine Ar (Ai (Aj (AB (Ad ?_))))
    refine Af (AA (po+i*1) (congrArg some hpv) rfl AC AC (by rw [Int.toNat_natCast])) ?_
    refine AM (BJ rfl hpc) (Au [9,13,39,40,41] rfl rfl (Am (Ah rfl (Ah rfl ?_))))
    refine AE (AF (Ks b28 X.n X.n b25 q X.sv si c 2 hn hki (Nat.le_refl _) AC (by unfold isV; decide) (by decide)) rfl rfl AG) ?_
    rintro v47 L1 ⟨rfl,rfl⟩
    refine As (Bi [9,39,40,41] rfl (AJ (AV (Ai (Am (Af (AQ ((i+1:Nat):Int) rfl rfl AC AC AC) (Ah rfl (Bi [9,39,40,41] rfl (AJ ?_)))))))))
    exact Ai ⟨i+1,⟨rfl,by rw [hsu],h42'⟩,by omega⟩
   ·have h42':=of_decide_eq_false h42
    obtain rfl:i=ys.length:=by omega
    rw [List.take_length]
    refine B3 (AU (AU (AY rfl (Ai (Ad (Ah rfl ?_))))))
    refine AE (AF (T9 X s0 μ1 b28 b25 q xs ys (hT.le h1) (h0.trans h1) hf hx hy) rfl rfl AG) ?_
    rintro v50 L1 ⟨zs,μ2,hzs,h2,rfl⟩
    refine As ?_
    rw [show Gm X.g xs ys=C0 X.g xs ys from (if_pos he).symm]
    refine B2 rfl (Au [6,7] rfl rfl (Av ?_))
    exact Aw [own 3 1 v50 (C0 X.g xs ys).length ((C0 X.g xs ys).flatMap (Bw .i64)),X.A (zs.foldl X.step s0) μ2,ro μ2] (.tmp rfl (.tmp rfl .nil)) ⟨_,zs,μ2,hzs,h1.trans h2,by rw [he]; rfl,rfl⟩ AG
structure VWt where
 pw:Nat
 ps:Nat
 px:Nat
 q:Nat
 W:SW
 lv:Value
 gv:Value
 l:List Lk
 V:List GV
structure VWt.Ok (X:VWt) (μ:PH):Prop where
 w:X.W.Ok μ
 s:SOk X.W
 x:∃ m c d,XS μ m c X.W d X.lv X.gv X.l X.V
theorem VWt.Ok.le{X:VWt}{μ μ':PH}(h:X.Ok μ)(k:Le μ μ'):X.Ok μ':=⟨h.w.le k,h.s,by obtain ⟨m,c,d,hx⟩:=h.x; exact ⟨m,c,d,hx.le k⟩⟩
abbrev VWt.L(X:VWt):List AK:=[B5 X.pw 102 [pv X.ps,pv X.px],xB X.px X.q X.lv X.gv,CT X.ps X.W,DY X.W,DJ X.W]
abbrev VWt.LR(X:VWt)(μ:PH):List AK:=[B5 X.pw 102 [pv X.ps,pv X.px],xB X.px X.q X.lv X.gv,CT X.ps X.W,DY X.W,DJ X.W,ro μ]
def VWt.A (X:VWt):AK:=exA fun _:Unit=>X.L
theorem VWt.close{X:VWt}{L:List AK}:Ent (B5 X.pw 102 [pv X.ps,pv X.px]::xB X.px X.q X.lv X.gv::CT X.ps X.W::DY X.W::DJ X.W::L) (X.A::L):=DZ (F:=fun _:Unit=>X.L) ()
abbrev VWt.gs(X:VWt):List Int:=Zn (BK X.l) (C8 X.W.pl.2)
abbrev VWt.g(X:VWt):List (List Int):=X.W.pl.2.map (·.1)
theorem IK (X:VWt)(μ:PH)(h:X.W.Ok μ):Spec prog 18 [pv X.pw] X.L (fun r L=>r=.int .i64 (X.W.pl.2.length:Nat)∧L=X.L):=by
 have hpl:=JN X.W
 refine Spec.of 10 func18 rfl rfl rfl ?_
 refine Ad (Au [0] rfl rfl (Aj (Ad (Ah rfl (Af (Bm rfl rfl) (AI [0,4] rfl (Dw rfl (Ar (Ai (Ad (Ah rfl (Af (Al rfl) (Af (Ae rfl) (AM (Ak rfl rfl) ?_))))))))))))))
 refine AE (AF (FG X.ps X.W μ h) rfl rfl AG) ?_
 rintro v9 L1 ⟨rfl,rfl⟩
 refine As (Au [2] rfl rfl (Av ?_))
 exact Aw X.L (.tmp rfl .nil) ⟨by rw [hpl]; rfl,rfl⟩ AG
theorem Kt (X:VWt)(μ:PH)(h:X.Ok μ):Spec prog 10 [pv X.pw] (X.LR μ) (fun r L=>r=.int .i64 (BK X.l:Nat)∧L=X.LR μ):=by
 obtain ⟨m,c,d,hx⟩:=h.x
 obtain ⟨-,ht⟩:=hx.tot
 have hl:=h.s.gc.len
 refine Spec.of 13 func10 rfl rfl rfl ?_
 refine Ad (Au [0] rfl rfl (Aj (Ad (Ah rfl (Af (Bm rfl rfl) (AI [0,4] rfl (Dw rfl (Ar (Ai (Ad (Ah rfl (Af (Al rfl) (Af (Ae rfl) (AM (Ak rfl rfl) ?_))))))))))))))
 refine AE (AF (GU X.px X.q X.lv X.gv [ro μ] X.l (.row hx.ix.lr) AC) rfl rfl AG) ?_
 rintro v9 L1 ⟨rfl,rfl⟩
 refine As (Ah rfl ?_)
 refine AE (AF (IK X μ h.w) rfl rfl AG) ?_
 rintro v11 L1 ⟨rfl,rfl⟩
 refine As (Af (DE rfl rfl) (Au [2] rfl rfl (Av ?_)))
 refine Aw (X.LR μ) (.tmp rfl .nil) ⟨?_,rfl⟩ AG
 show Value.int .i64 _=Value.int .i64 _
 congr 1
 omega
theorem A1X{C:List Cm}{n k:Nat}{x:Int}(h:(C8 C)[n]? = some x):Uc (Zn k (C8 C)) (n:Nat)=if n<k then x else 1024:=by
 unfold Uc
 rw [if_pos AC,Int.toNat_natCast,List.getD_eq_getElem?_getD,Zo h]; rfl
theorem Ue (X:VWt)(μ:PH)(h:X.Ok μ)(n:Nat)(cm:Cm)(hn:X.W.pl.2[n]? = some cm):Spec prog 225 [pv X.pw,.int .i64 (n:Nat)] (X.LR μ) (fun r L=>∃ A c0 st bt,r=.tuple #[.agg #[.slice A cm.1.length c0,.int .i64 cm.2,.int .i64 (Uc X.gs (n:Nat)),.int .i64 st,.string bt],.bool true]∧L=own 3 1 (.slice A cm.1.length c0) cm.1.length (cm.1.flatMap (Bw .i64))::X.LR μ):=by
 obtain ⟨m,c,d,hx⟩:=h.x
 obtain ⟨-,ht⟩:=hx.tot
 have hl:=h.s.gc.len
 have hlt:=(List.getElem?_eq_some_iff.1 hn).1
 obtain ⟨gx,hgx⟩:∃ x,(C8 X.W.pl.2)[n]? = some x:=⟨_,List.getElem?_eq_getElem (by rw [h.s.gc.glen]; exact hlt)⟩
 have hgn:=A1X (k:=BK X.l) hgx
 have hrw:=hx.rw
 have hcom:=Ii X.ps X.W μ h.w h.s.cl n
 rw [JM hn] at hcom
 refine Spec.of 45 func225 rfl rfl rfl ?_
 refine Ad ?_
 refine AE (Bd) fun b4=>?_
 refine Au [0,1,4] rfl rfl (Aj (AB (Ad (Ah rfl (Af (Be rfl rfl) (Ah rfl ?_))))))
 refine B9 11 rfl (fun h11=>by have:=of_decide_eq_true h11; omega) (fun h11=>?_)
 refine AS rfl rfl (Ah rfl (AS rfl rfl (Ah rfl (AS rfl rfl ?_))))
 refine AE (AF (IK X μ h.w) rfl rfl AG) ?_
 rintro v14 L1 ⟨rfl,rfl⟩
 refine As (AS rfl rfl (Af (Cs rfl rfl) (Af (B0 rfl rfl) (Au [0,1,4,8] rfl rfl ?_))))
 refine Aq rfl (fun h8=>by have:=of_decide_eq_true h8; omega) (fun h8=>?_)
 refine Ad (Ah rfl (Ah rfl ?_))
 refine AE (AF (Kt X μ h) rfl rfl AG) ?_
 rintro v21 L1 ⟨rfl,rfl⟩
 refine As (Af (Be rfl rfl) (Au [0,1,4,18] rfl rfl ?_))
 refine Aq rfl (fun h18=>?_) (fun h18=>?_)
 ·have h18':n<BK X.l:=by have:=of_decide_eq_true h18; omega
  rw [if_pos h18'] at hgn
  refine Ad (Ah rfl (Af (Al rfl) (Af (Ae rfl) (AM (Ak rfl rfl) (Ah rfl ?_)))))
  refine AE (AF (W8 μ m c X.px X.q d X.l X.V X.lv X.gv hx.xd hx.ix AC n h18' (fun R hR=>(h.s.gc.row n _ (hrw.row n R hR).1).2.1)) rfl rfl AG) ?_
  rintro v28 L1 ⟨A,c0,R,hR,rfl,rfl⟩
  refine As ?_
  obtain ⟨k1,k2⟩:=hrw.row n R hR
  rw [hn] at k1
  rw [hgx] at k2
  obtain rfl:=Option.some.inj k1
  obtain rfl:=Option.some.inj k2
  refine Af (Ax rfl) (Af (Ax rfl) ?_)
  refine Bh (B8 rfl rfl rfl rfl) ?_
  refine Au [4,5] rfl rfl (Av (Bg (AZ ?_)))
  exact Aw (own 3 1 (.slice A R.ps.length c0) R.ps.length (R.ps.flatMap (Bw .i64))::X.LR μ) (.cell rfl (BT rfl) (.tmp rfl .nil)) ⟨A,c0,R.st,str R.bt,by rw [hgn]; rfl,rfl⟩ AG
 ·have h18':¬ n<BK X.l:=by have:=of_decide_eq_false h18; omega
  rw [if_neg h18'] at hgn
  refine Ar (AV (Ai (Ad (Ah rfl (Af (Al rfl) (Af (Ae rfl) (AM (Ak rfl rfl) (Ah rfl ?_))))))))
  refine AE (AF hcom rfl rfl AG) ?_
  rintro v37 L1 ⟨A,c0,rfl,rfl⟩
  refine As (Ah rfl (Af (Ax rfl) (Af (Ax rfl) ?_)))
  refine AE (Bd) fun b6=>?_
  refine Bh (B8 rfl rfl rfl rfl) ?_
  refine Au [4,6] rfl rfl (Ad (Af (Ae rfl) (AM (Ak rfl rfl) (Af (Ae rfl) (AM (Ak rfl rfl) ?_)))))
  refine Af (Bz (qs:=[(0,_),(1,_),(2,_)]) rfl) ?_
  refine Bh (B8 rfl rfl rfl rfl) ?_
  refine Au [4,5] rfl rfl (Av ?_)
  exact Aw (own 3 1 (.slice A cm.1.length c0) cm.1.length (cm.1.flatMap (Bw .i64))::X.LR μ) (.cell rfl (BT rfl) (.tmp rfl .nil)) ⟨A,c0,0,⟨#[]⟩,by rw [hgn]; rfl,rfl⟩ AG
theorem Wd (X:VWt)(μ:PH)(h:X.Ok μ)(n:Nat)(cm:Cm)(hn:X.W.pl.2[n]? = some cm):Spec prog 130 [pv X.pw,.int .i64 (n:Nat)] (X.LR μ) (fun r L=>∃ μ',Le μ μ'∧Row μ' r 1 cm.1.length (cm.1.flatMap (Bw .i64))∧L=X.LR μ'):=by
 refine Spec.of 15 func130 rfl rfl rfl ?_
 refine Ad (Au [0,1] rfl rfl (Ad (Ah rfl (Ah rfl ?_))))
 refine AE (AF (Ue X μ h n cm hn) rfl rfl AG) ?_
 rintro v10 L1 ⟨A,c0,st,bt,rfl,rfl⟩
 refine As ?_
 refine C4 (v:=.slice A cm.1.length c0) (μ:=μ) AG fun μ1 k1 hr=>?_
 refine Ah rfl (Af (Ax rfl) (Af (Ax rfl) (AE (Bd) (fun b5=>?_))))
 refine Bh (B8 rfl rfl rfl rfl) (Au [5] rfl rfl (Ad (Af (Ae rfl) (AM (Ak rfl rfl) (Au [4] rfl rfl (Av ?_))))))
 exact Aw (X.LR μ1) (.tmp rfl .nil) ⟨μ1,k1,hr,rfl⟩ AG
def A0f (X:VWt)(μ:PH)(h:X.Ok μ):Src where
 t:=38
 v:=pv X.pw
 d:=0
 hd:=Nat.zero_le _
 g:=X.g
 hg:=K6 h.s.gc.more
 hn:=by have:=h.s.gc.len; rw [List.length_map]; omega
 σ:=Unit
 A:=fun _ _=>X.A
 mono:=fun _=>Ent.refl _
 ok:=fun _ _=>True
 step:=fun _ _=>()
 μ0:=μ
 commits:=fun _ μ'=>InvS.of (by
  refine Spec.exA' fun _=>?_
  exact Spec.ent3 (show Spec prog 18 [pv X.pw] X.L _ from IK X μ h.w) fun r L ⟨e1,e2⟩=>⟨[X.A],by rw [e2]; exact VWt.close,by rw [e1,List.length_map],rfl⟩)
 parents:=fun _ μ' c k hc _=>InvS.of (by
  have hc':c<X.W.pl.2.length:=by rwa [List.length_map] at hc
  obtain ⟨cm,hcm⟩:∃ cm,X.W.pl.2[c]? = some cm:=⟨_,List.getElem?_eq_getElem hc'⟩
  have e:Ch X.g c=cm.1:=by
   unfold Ch
   rw [List.getD_eq_getElem?_getD,List.getElem?_map,hcm]; rfl
  rw [e]
  refine Spec.exA' fun _=>?_
  exact Spec.ent3 (show Spec prog 130 [pv X.pw,.int .i64 (c:Nat)] (X.LR μ') _ from Wd X μ' (h.le k) c cm hcm) fun r L ⟨μ2,k2,hr,e2⟩=>⟨[X.A,ro μ2],by rw [e2]; exact VWt.close,μ2,k2,hr,rfl⟩)
theorem We (X:VWt)(μ:PH)(h:X.Ok μ)(s:(A0f X μ h).σ):(A0f X μ h).fine s:=fun _ _ _ _ _ _=>trivial
abbrev Cap (A:Option Addr)(l c:Nat):Prop:=l≤c∧c≤maxLen∧(A=none→c=0)∧∀ a,A=some a→∃ b,a=⟨b,0,none⟩
theorem YE {e n:Nat}{A:Option Addr}{l c k:Nat}{xs:List Value}{m:PH}{L:List AK}(h:Sat (own e n (.slice A k c) l xs::L) m):Cap A l c:=by
 obtain ⟨A',c',e,h1⟩:=GE h
 cases e; exact h1
theorem Lks.own{A:Option Addr}{c:Nat}{l:List Lk}{L L':List AK}(t:Take (own 161 3 (.slice A l.length c) l.length (l.flatMap GN)) L L')(hc:Cap A l.length c):Lks L (.slice A l.length c) l:=by
 obtain ⟨h1,h2,h3,h4⟩:=hc
 refine ⟨A,c,rfl,by simp only [maxLen] at h2; omega,fun h0=>?_⟩
 cases A with
 | none=>have:=h3 rfl; omega
 | some a =>
  obtain ⟨b,rfl⟩:=h4 a rfl
  exact ⟨b,0,rfl,fun j x hx=>TN t rfl fun j' v' hv=>by rw [Nat.zero_add]; exact P7 (f:=GN) (n:=3) (fun _=>rfl) hx j' v' hv⟩

end SX
namespace SX
open Go Go.Proofs Go.Conc.Locks
abbrev muK:MuLink:={ lock:=64,unlock:=66,ilock:=113,iunlock:=118,lockSlow:=191,unlockSlow:=194,disable:=187,enable:=189,acquire:=190,relMerge:=192,cas32:=188,add32:=193,tMutex:=50,tIMutex:=48,tPMutex:=218,tPIMutex:=296,tPI32:=298,tUP:=300,tNoCopy:=46,tU32:=41}
theorem A0F:MuLib Tryz.prog muK where
 f_lock:=by kernel_rfl
 f_unlock:=by kernel_rfl
 f_ilock:=by kernel_rfl
 f_iunlock:=by kernel_rfl
 f_disable:=by kernel_rfl
 f_enable:=by kernel_rfl
 f_acquire:=by kernel_rfl
 f_relMerge:=by kernel_rfl
 f_cas32:=by kernel_rfl
 f_add32:=by kernel_rfl
 underlying_tIMutex:=by kernel_rfl
 runUnderlying_tIMutex:=I2 AP
 sizeOf_tIMutex:=Gc AP
 isAgg_tIMutex:=Gd AP
 zeroValue_tIMutex:=Ge AP
 underlying_tMutex:=by kernel_rfl
 runUnderlying_tMutex:=I2 AP
 sizeOf_tMutex:=Gc AP
 isAgg_tMutex:=Gd AP
 zeroValue_tMutex:=Ge AP
 underlying_tPMutex:=by kernel_rfl
 runUnderlying_tPMutex:=I2 AP
 sizeOf_tPMutex:=Gc AP
 isAgg_tPMutex:=Gd AP
 zeroValue_tPMutex:=Ge AP
 underlying_tPIMutex:=by kernel_rfl
 runUnderlying_tPIMutex:=I2 AP
 sizeOf_tPIMutex:=Gc AP
 isAgg_tPIMutex:=Gd AP
 zeroValue_tPIMutex:=Ge AP
 underlying_tPI32:=by kernel_rfl
 runUnderlying_tPI32:=I2 AP
 sizeOf_tPI32:=Gc AP
 isAgg_tPI32:=Gd AP
 zeroValue_tPI32:=Ge AP
 underlying_tUP:=by kernel_rfl
 runUnderlying_tUP:=I2 AP
 sizeOf_tUP:=Gc AP
 isAgg_tUP:=Gd AP
 zeroValue_tUP:=Ge AP
 underlying_tNoCopy:=by kernel_rfl
 runUnderlying_tNoCopy:=I2 AP
 sizeOf_tNoCopy:=Gc AP
 isAgg_tNoCopy:=Gd AP
 zeroValue_tNoCopy:=Ge AP
 underlying_t21:=by kernel_rfl
 runUnderlying_t21:=I2 AP
 sizeOf_t21:=Gc AP
 isAgg_t21:=Gd AP
 zeroValue_t21:=Ge AP
 room_tIMutex:=by kernel_rfl
abbrev Rx (pw q ps px be bu:Nat)(lk:Int)(pa:Nat):List Value:=[pv pw,pv q,pv ps,pv px,.int .i64 3,.int .i64 10,.int .i64 2,.int .u32 7,.bool false,pv be,pv bu,.int .i32 lk,.int .u32 0,pv pa]
theorem MZ (sv pw q ps px be bu pa:Nat):Spec Tryz.prog 64 [.pointer (some ⟨sv,11,none⟩)] [B5 sv 53 (Rx pw q ps px be bu 0 pa)] (fun r L=>r=.tuple #[]∧L=[B5 sv 53 (Rx pw q ps px be bu 1 pa)]):=ZB A0F 11 rfl
theorem JP (sv pw q ps px be bu pa:Nat):Spec Tryz.prog 66 [.pointer (some ⟨sv,11,none⟩)] [B5 sv 53 (Rx pw q ps px be bu 1 pa)] (fun r L=>r=.tuple #[]∧L=[B5 sv 53 (Rx pw q ps px be bu 0 pa)]):=V4 A0F 11 rfl
theorem Ku (sv pw q ps px be bu:Nat)(lk:Int)(pa:Nat):Spec Tryz.prog 35 [pv sv] [B5 sv 53 (Rx pw q ps px be bu lk pa)] (fun r L=>r=.int .i64 0∧L=[B5 sv 53 (Rx pw q ps px be bu lk pa)]):=by
 refine Spec.of 11 Tryz.func35 rfl rfl rfl ?_
 refine Ad (Au [0] rfl rfl (Aj (AB (Ad (Ah rfl (Af (Bm rfl rfl) (Au [0,3] rfl rfl (Dw rfl (Ad (Ah rfl (Af (Al rfl) (Af (Ae rfl) (AM (Ak rfl rfl) (Au [6] rfl rfl (Dw rfl (Ar (AV (Ai (Ad (Au [2] rfl rfl (Av ?_)))))))))))))))))))))
 exact Aw [B5 sv 53 (Rx pw q ps px be bu lk pa)] (.tmp rfl .nil) ⟨rfl,rfl⟩ AG
end SX
namespace SX
open Go Go.Proofs Go.Proofs.Tryz
theorem N0 {e b n l:Nat}{xs:List Value}{L:List AK}(h:xs.length=l*n)(hl:l≤maxLen):Ent (B5 b e xs::L) (own e n (.slice (some ⟨b,0,none⟩) l l) l xs::L):=Ent.imp fun m hm=>⟨h,.inr ⟨b,l,xs.toArray,rfl,hm,Nat.le_refl _,hl,by simp [h],by simp [← h]⟩⟩
theorem Oj {P:Program}{env:CA}{s t:TypeId}{ks k:IntKind}[hs:TInt P s ks][ht:TInt P t .u64]{x:Operand}{n:Int}(hx:AO env x=some (.int k n)):Pu P env (.convert s t x) (.int .u64 ((I3 n:Nat):Int)):=by
 have e:IntKind.u64.wrap n=((I3 n:Nat):Int):=by
  unfold I3
  simp [IntKind.wrap,IntKind.bits,IntKind.signed]
  omega
 intro ρ hρ _ _ _ _ _ w
 simp [execOp,hρ x _ hx,convert,run_underlying hs.und,run_underlying ht.und,Conv.intToInt,e]
theorem Ol (p n:Nat)(bs:List UInt8)(hn:n<18446744073709551616)(hb:bs.length≤1073741824):Spec prog 110 [pv p,.int .u64 (n:Nat)] [Ep p bs] (fun r L=>r=.tuple #[]∧L=[Ep p (bs++Br 8 n)]):=by
 refine Spec.of 7 func110 rfl rfl rfl ?_
 refine Am (Ah rfl (Ah rfl ?_))
 refine AE (AF (Gf p n 8 bs (by decide) hn hb) rfl rfl AG) ?_
 rintro v6 L1 ⟨rfl,rfl⟩
 refine As (C3 _ .nil (AJ ?_))
 exact Aw [Ep p (bs++Br 8 n)] .nil ⟨rfl,rfl⟩ AG
abbrev Uf (q:Qn)(iv:Value):List Value:=[.int .i64 q.k,.int .i64 q.a,.int .i64 q.b,.int .i64 q.lim,iv,.string ⟨#[]⟩]
theorem Kv:∀ l:List Int,(l.flatMap EM).length=8*l.length
 | []=>rfl
 | x::l=>by rw [List.flatMap_cons,List.length_append,GH,Kv l,List.length_cons]; omega
set_option maxHeartbeats 4000000 in
theorem YF (μ:PH)(q:Qn)(hq:q.Ok)(A:Option Addr)(ci:Nat)(hi:Row μ (.slice A q.ids.length ci) 1 q.ids.length (q.ids.flatMap (Bw .i64))):Spec prog 63 [.agg (Uf q (.slice A q.ids.length ci)).toArray] [ro μ] (fun r L=>∃ μ',Le μ μ'∧r=.string (Mq q)∧L=[ro μ']):=by
 have hln:=hq.ln
 have hal:q.all.length=q.ids.length+4:=rfl
 have hcl:q.all.flatMap (Bw .i64)=[.int .i64 q.k,.int .i64 q.a,.int .i64 q.b,.int .i64 q.lim]++q.ids.flatMap (Bw .i64):=rfl
 refine Spec.of 41 func63 rfl rfl rfl ?_
 refine Ad (AE (Bp rfl rfl) (fun b1=>?_))
 refine Au [1] rfl rfl (Ad ?_)
 refine AE (AF Dn rfl rfl AG) ?_
 rintro v6 L1 ⟨p6,rfl,rfl⟩
 refine As (Au [1,3] rfl rfl (Aj (Ad (Af (Ae rfl) (AM (Ak rfl rfl) (Af (Ae rfl) (AM (Ak rfl rfl) (Af (Ae rfl) (AM (Ak rfl rfl) (Af (Ae rfl) (AM (Ak rfl rfl) (AE (Bs (qs:=[(0,_),(1,_),(2,_),(3,_)]) rfl rfl rfl) (fun b15=>?_)))))))))))))
 refine Af (Ae rfl) (AM (Ak rfl rfl) ?_)
 refine C9 (N0 (n:=1) (l:=4) rfl (by decide)) ?_
 refine AE (D9 (v:=.slice (some ⟨b15,0,none⟩) 4 4) (e:=3) (n:=1) (l:=4) (xs:=[.int .i64 q.k,.int .i64 q.a,.int .i64 q.b,.int .i64 q.lim]) hi rfl rfl AG (Mc (fun _=>rfl) _) (by simp only [maxLen]; omega) AC) ?_
 rintro v18 -
 rw [← hcl,show 4+q.ids.length=q.all.length by omega]
 refine C4 (v:=v18) (μ:=μ) AG fun μ1 k1 hr=>?_
 refine Af (AW hr rfl) (Ah rfl (AI [1,3,18,19,20] rfl (AB ?_)))
 refine B4 (ι:=Nat) (fun i env L=>Sub env [(1,pv b1),(3,pv p6),(18,v18),(19,.int .i64 (q.all.length:Nat)),(20,.int .i64 (i:Nat))]∧Ent L [Ep p6 ((q.all.take i).flatMap EM),B5 b1 65 (Uf q (.slice A q.ids.length ci)),ro μ1]∧i≤q.all.length) (fun i=>q.all.length-i) 0 ⟨⟨rfl,rfl,rfl,rfl,rfl,trivial⟩,by show Ent _ [Ep p6 [],B5 b1 65 (Uf q (.slice A q.ids.length ci)),ro μ1]; exact Split.ent' AG,Nat.zero_le _⟩ ?_
 rintro i env L ⟨hsub,hE,hi⟩
 refine B7 _ hsub (AX hE ?_)
 clear hsub hE env L
 refine Ad (Af (Be rfl rfl) (AI [1,3,18,19,20,21] rfl (Aj ?_)))
 refine Aq rfl (fun h21=>?_) (fun h21=>?_)
 ·have h21':i<q.all.length:=by have:=of_decide_eq_true h21; omega
  obtain ⟨x,hx⟩:∃ x,q.all[i]? = some x:=⟨_,List.getElem?_eq_getElem h21'⟩
  obtain ⟨gb,off,cap,hv,_,_,hra⟩:=hr.pos AC
  have hcell:=(hra.elem (f:=Bw .i64) (n:=1) (fun _=>rfl) hx).cell
  have hwl:=Kv (q.all.take i)
  have htl:(q.all.take i).length=i:=by rw [List.length_take]; omega
  refine Ar (Ai (Aj (AB (Ad ?_))))
  refine Af (AA (off+i*1) (congrArg some hv) rfl AC AC (by rw [Int.toNat_natCast])) ?_
  refine AM (BJ rfl hcell) (Au [1,3,5,18,19,20] rfl rfl (Am (Ah rfl (Ah rfl (Af (Oj rfl) ?_)))))
  refine AE (AF (Ol p6 (I3 x) ((q.all.take i).flatMap EM) (Mp x) AC) rfl rfl AG) ?_
  rintro v27 L1 ⟨rfl,rfl⟩
  refine As (Bi [1,3,18,19,20] rfl (AJ (AV (Ai (Am (Af (AQ ((i+1:Nat):Int) rfl rfl AC AC AC) (Ah rfl (Bi [1,3,18,19,20] rfl (AJ ?_)))))))))
  refine Ai ⟨i+1,⟨⟨rfl,rfl,rfl,rfl,rfl,trivial⟩,?_,h21'⟩,by omega⟩
  rw [Ca hx,List.flatMap_append,show [x].flatMap EM=Br 8 (I3 x) from List.append_nil _]
  exact Split.ent' AG
 ·have h21':=of_decide_eq_false h21
  obtain rfl:i=q.all.length:=by omega
  have hwl:=Kv q.all
  rw [List.take_length]
  refine B3 (AU (AU (AY rfl (Ai (Ad (Ah rfl (Af (Ae rfl) (AM (Ak rfl rfl) ?_))))))))
  refine AE (AF (EV p6 (q.all.flatMap EM) [] AC (by decide)) rfl rfl AG) ?_
  rintro v32 L1 ⟨rfl,rfl⟩
  rw [List.append_nil]
  refine As (AI [1,3] rfl (Ad (Ah rfl (Af (Ae rfl) (AM (Ak rfl rfl) (Af (D8 rfl) (Af (Oj rfl) ?_)))))))
  refine AE (AF (Ol p6 0 (q.all.flatMap EM) (by decide) AC) rfl rfl AG) ?_
  rintro v38 L1 ⟨rfl,rfl⟩
  refine As (AI [3] rfl (Ad (Ah rfl ?_)))
  refine AE (AF (DX p6 (q.all.flatMap EM++Br 8 0) (fun h=>by have:=congrArg List.length h; rw [List.length_append,hwl,List.length_nil] at this; omega)) rfl rfl AG) ?_
  rintro v40 L1 ⟨rfl,rfl⟩
  refine As (Au [2] rfl rfl (Av ?_))
  exact Aw [ro μ1] (.tmp rfl .nil) ⟨μ1,k1,rfl,rfl⟩ AG
structure AnW where
 e:Int
 y:Bool
 n:Int
 ids:List Int
 tr:List En
structure AnOk (μ:PH) (a:An) (x:AnW):Prop where
 he:a.e=x.e
 hy:a.y=x.y
 hn:a.n=x.n
 hi:Row μ (TK a.i) 1 x.ids.length (x.ids.flatMap (Bw .i64))
 ht:Row μ (TK a.t) 2 x.tr.length (Ci x.tr)
 li:x.ids.length≤1048576
 lt:x.tr.length≤1048576
theorem AnOk.le{μ μ':PH}{a:An}{x:AnW}(h:AnOk μ a x)(k:Le μ μ'):AnOk μ' a x:=⟨h.he,h.hy,h.hn,h.hi.le k,h.ht.le k,h.li,h.lt⟩
abbrev anV (x:AnW)(i t:Option Addr×Nat):Value:=.agg #[.int .i64 x.e,.bool x.y,.int .i64 x.n,.slice i.1 x.ids.length i.2,.slice t.1 x.tr.length t.2]
abbrev anL (x:AnW)(i t:Option Addr×Nat)(L:List AK):List AK:=own 3 1 (.slice i.1 x.ids.length i.2) x.ids.length (x.ids.flatMap (Bw .i64))::own 111 2 (.slice t.1 x.tr.length t.2) x.tr.length (Ci x.tr)::L
theorem YG (μ:PH)(a:An)(x:AnW)(h:AnOk μ a x):Spec prog 69 [.agg (Lg a).toArray] [ro μ] (fun r L=>∃ i t,r=anV x i t∧L=anL x i t [ro μ]):=by
 obtain ⟨he,hy,hn,hi,ht,li,lt⟩:=h
 obtain ⟨an,ay,ae,ai,atr⟩:=a
 obtain ⟨xe,xy,xn,ids,tr⟩:=x
 dsimp only at he hy hn hi ht li lt
 subst he hy hn
 refine Spec.of 12 func69 rfl rfl rfl ?_
 refine Ad ?_
 refine AE (Bp rfl rfl) fun b1=>?_
 refine AE (Bd) fun b2=>?_
 refine AI [1,2] rfl (Aj ?_)
 refine Bb [1,4] ([B5 b1 62 (Lg ⟨an,ay,ae,ai,atr⟩)]) ([B5 b2 62 (Lg an0),ro μ]) (Split.ent AG) AP ?_
 refine AD 0 rfl (Ae rfl) (Bl 1 rfl (Ak rfl rfl) rfl (AD 3 rfl (Ae rfl) (Bl 4 rfl (Ak rfl rfl) rfl ?_)))
 refine CQ 2 rfl AP (AF (Fb μ _ ids hi li) rfl rfl AG) ?_
 rintro v5 L1 ⟨A5,c5,rfl,rfl⟩
 refine ⟨_,BU (Split.ent AG),?_⟩
 refine AD 6 rfl (Ae rfl) ?_
 refine BX 5 rfl AP AP (AF (Ib μ _ tr ht lt) rfl rfl AG) ?_
 rintro v8 L1 ⟨A8,c8,rfl,rfl⟩
 refine C5 ?_
 refine Cy 7 rfl AP AP (Ba rfl rfl rfl) ?_
 refine AD 8 rfl (Ae rfl) ?_
 refine Cy 9 rfl AP AP (Ba rfl rfl rfl) ?_
 refine BZ [1,2] rfl ?_
 refine Bv AP ?_
 refine Ai (Ad ?_)
 refine AM (Cn rfl rfl) ?_
 refine Bh (B8 rfl rfl rfl rfl) ?_
 refine AI [2] rfl (Av ?_)
 exact Aw (anL ⟨ae,ay,an,ids,tr⟩ (A5,c5) (A8,c8) [ro μ]) (.cell rfl (BT rfl) .nil) ⟨(A5,c5),(A8,c8),rfl,rfl⟩ AG
def CaOk (f:Qn→AnW)(μ:PH)(l:List Nd):Prop:=∀ y∈l,∃ q,q.Ok∧y.k=Mq q∧AnOk μ y.a (f q)
theorem CaOk.le{f:Qn→AnW}{μ μ':PH}{l:List Nd}(h:CaOk f μ l)(k:Le μ μ'):CaOk f μ' l:=fun y hy=>by
 obtain ⟨q,h1,h2,h3⟩:=h y hy
 exact ⟨q,h1,h2,h3.le k⟩
theorem YH (f:Qn→AnW)(μ:PH)(p:Nat)(l:List Nd)(h:CaOk f μ l)(q:Qn)(hq:q.Ok):Spec prog 65 [pv p,.string (Mq q)] [Eg p 64 l] (fun r L=>∃ a b l',((b=true∧AnOk μ a (f q))∨(b=false∧∀ y∈l',y.k≠Mq q))∧CaOk f μ l'∧r=.tuple #[.agg (Lg a).toArray,.bool b]∧L=[Eg p 64 l']):=by
 by_cases hx:∃ x∈l,x.k=Mq q
 ·obtain ⟨x,hx,hk⟩:=hx
  rw [← hk]
  refine (ZQ p 64 l x hx).mono fun r L ⟨l',h1,h2,h3⟩=>⟨x.a,true,l',.inl ⟨rfl,?_⟩,fun y hy=>h y (h1 y hy),h2,h3⟩
  obtain ⟨q',e1,e2,e3⟩:=h x hx
  rw [XB hq e1 (hk.symm.trans e2)]
  exact e3
 ·have hn:∀ y∈l,y.k≠Mq q:=fun y hy e=>hx ⟨y,hy,e⟩
  exact (A0Z p 64 l (Mq q) hn).mono fun r L ⟨h1,h2⟩=>⟨an0,false,l,.inr ⟨rfl,hn⟩,h,h1,h2⟩
set_option maxHeartbeats 4000000 in
theorem R5 (f:Qn→AnW)(μ:PH)(sv pw q0 ps px be bu pa:Nat)(l:List Nd)(VA:AK)(h:CaOk f μ l)(q:Qn)(hq:q.Ok)(A:Option Addr)(ci:Nat)(hi:Row μ (.slice A q.ids.length ci) 1 q.ids.length (q.ids.flatMap (Bw .i64)))
  (hlook:∀ μ',Le μ μ'→Spec prog 67 [pv pw,.agg (Uf q (.slice A q.ids.length ci)).toArray] [VA,ro μ'] (fun r L=>∃ μ'' a,Le μ' μ''∧AnOk μ'' a (f q)∧r=.agg (Lg a).toArray∧L=[VA,ro μ''])) :
  Spec prog 36 [pv sv,.agg (Uf q (.slice A q.ids.length ci)).toArray] [B5 sv 53 (Rx pw q0 ps px be bu 0 pa),Eg pa 64 l,VA,ro μ] (fun r L=>∃ μ' l' i t,Le μ μ'∧CaOk f μ' l'∧r=anV (f q) i t∧L=anL (f q) i t [B5 sv 53 (Rx pw q0 ps px be bu 0 pa),Eg pa 64 l',VA,ro μ']):=by
 refine Spec.of 52 func36 rfl rfl rfl ?_
 refine Ad (AE (Bp rfl rfl) (fun b3=>?_))
 refine AE (Bd) fun b4=>?_
 refine AI [0,3,4] rfl (Ad (AM (BL (vs:=Uf q (.slice A q.ids.length ci)) rfl rfl rfl) ?_))
 refine AE (AF (YF μ q hq A ci hi) rfl rfl AG) ?_
 rintro v9 L1 ⟨μ1,k1,rfl,rfl⟩
 refine As (Au [0,3,4,5] rfl rfl (Ad (Ah rfl (Af (Al rfl) (Af (Ae rfl) ?_)))))
 refine AE (AF (MZ sv pw q0 ps px be bu pa) rfl rfl AG) ?_
 rintro v13 L1 ⟨rfl,rfl⟩
 refine As (AI [0,3,4,5] rfl (Ad (Ah rfl (Af (Al rfl) (Af (Ae rfl) (AM (Ak rfl rfl) (Ah rfl ?_)))))))
 refine AE (AF (YH f μ1 pa l (h.le k1) q hq) rfl rfl AG) ?_
 rintro v20 L1 ⟨a,bb,l1,hab,hca,rfl,rfl⟩
 refine As (Ah rfl (Af (Ax rfl) (Af (Ax rfl) (AE (Bd) (fun b6=>?_)))))
 refine Bh (B8 rfl rfl rfl rfl) (Au [0,3,4,5,6,7] rfl rfl (Ad (Ah rfl (Af (Al rfl) (Af (Ae rfl) ?_)))))
 refine AE (AF (JP sv pw q0 ps px be bu pa) rfl rfl AG) ?_
 rintro v26 L1 ⟨rfl,rfl⟩
 refine As (AI [0,3,4,5,6,7] rfl ?_)
 refine Co (fun env L=>∃ (b4 b6:Nat) (μ2:PH) (a:An) (l2:List Nd),Sub env [(4,pv b4),(6,pv b6)]∧Ent L [B5 b6 62 (Lg a),B5 b4 62 (Lg an0),B5 sv 53 (Rx pw q0 ps px be bu 0 pa),Eg pa 64 l2,VA,ro μ2]∧Le μ μ2∧AnOk μ2 a (f q)∧CaOk f μ2 l2) ?_ ?_
 ·refine Ad (Ah rfl (Af (Cd rfl) (AI [0,3,4,5,6,28] rfl ?_)))
  refine Aq rfl (fun h28=>?_) (fun h28=>?_)
  ·obtain ⟨rfl,hno⟩:bb=false∧∀ y∈l1,y.k≠Mq q:=by
    rcases hab with ⟨rfl,_⟩ | h
    ·cases h28
    ·exact h
   refine Aj ?_
   refine Bb [3,4] ([B5 sv 53 (Rx pw q0 ps px be bu 0 pa),B5 b3 65 (Uf q (.slice A q.ids.length ci))]) ([B5 b6 62 (Lg a),Eg pa 64 l1,ro μ1,B5 b4 62 (Lg an0),VA]) (Split.ent AG) AP ?_
   refine AD 0 rfl (AH rfl) (AD 1 rfl (Al rfl) (AD 2 rfl (Ae rfl) (Bl 3 rfl (Ak rfl rfl) rfl (Bl 4 rfl (BL (vs:=Uf q (.slice A q.ids.length ci)) rfl rfl rfl) rfl ?_))))
   refine BX 5 rfl AP AP (AF (hlook μ1 k1) rfl rfl AG) ?_
   rintro v34 L1 ⟨μ2,a2,k2,hok,rfl,rfl⟩
   refine C5 (Cy 6 rfl AP AP (B8 rfl rfl rfl rfl) (BZ [0,4,5,6] rfl (Bv AP (Ai (Ad (Ah rfl (Af (Al rfl) (Af (Ae rfl) ?_))))))))
   refine AE (AF (MZ sv pw q0 ps px be bu pa) rfl rfl AG) ?_
   rintro v38 L1 ⟨rfl,rfl⟩
   refine As (AI [0,4,5,6] rfl (Aj ?_))
   refine Bb [3,5] _ [] (by simp only [List.append_nil]; exact Ent.refl _) AP ?_
   refine AD 0 rfl (AH rfl) (AD 1 rfl (Al rfl) (AD 2 rfl (Ae rfl) (Bl 3 rfl (Ak rfl rfl) rfl (AD 4 rfl (AH rfl) (Bl 5 rfl (BL (vs:=Lg a2) rfl rfl rfl) rfl ?_)))))
   refine BX 6 rfl AP AP (AF (Vv pa 64 l1 (Mq q) a2 hno) rfl rfl AG) ?_
   rintro v45 L1 ⟨l2,hl2,rfl⟩
   refine C5 (BZ [0,4,6] rfl (Bv AP (Ai (Am (Ah rfl (Af (Al rfl) (Af (Ae rfl) ?_)))))))
   refine AE (AF (JP sv pw q0 ps px be bu pa) rfl rfl AG) ?_
   rintro v49 L1 ⟨rfl,rfl⟩
   refine As (Bi [4,6] rfl (AJ ?_))
   refine Ai ⟨b4,b6,μ2,a2,l2,⟨rfl,rfl,trivial⟩,Split.ent' AG,k1.trans k2,hok,fun y hy=>?_⟩
   rcases hl2 y hy with h1 | ⟨h1,h2⟩
   ·obtain ⟨q',e1,e2,e3⟩:=hca y h1
    exact ⟨q',e1,e2,e3.le k2⟩
   ·exact ⟨q,hq,h1,by rw [h2]; exact hok⟩
  ·obtain ⟨rfl,hyes⟩:bb=true∧AnOk μ1 a (f q):=by
    rcases hab with h | ⟨rfl,_⟩
    ·exact h
    ·cases h28
   refine Ar ?_
   exact Ai ⟨b4,b6,μ1,a,l1,⟨rfl,rfl,trivial⟩,Split.ent' AG,k1,hyes,hca⟩
 rintro env L ⟨b4,b6,μ2,a2,l2,hsub,hE,k2,hok,hca2⟩
 refine B7 _ hsub (AX hE ?_)
 clear hsub hE env L
 refine Ad (AM (BL (vs:=Lg a2) rfl rfl rfl) ?_)
 refine AE (AF (YG μ2 a2 (f q) hok) rfl rfl AG) ?_
 rintro v51 L1 ⟨i,t,rfl,rfl⟩
 refine As (Bh (B8 rfl rfl rfl rfl) (AI [4] rfl (Av ?_)))
 exact Aw (anL (f q) i t [B5 sv 53 (Rx pw q0 ps px be bu 0 pa),Eg pa 64 l2,VA,ro μ2]) (.cell rfl (BT rfl) .nil) ⟨μ2,l2,i,t,k2,hca2,rfl,rfl⟩ AG
theorem YI (f:Qn→AnW)(μ:PH)(sv pw q0 ps px be bu pa:Nat)(l:List Nd)(VA:AK)(h:CaOk f μ l)(q:Qn)(hq:q.Ok)(A:Option Addr)(ci:Nat)(hi:Row μ (.slice A q.ids.length ci) 1 q.ids.length (q.ids.flatMap (Bw .i64)))
  (hlook:∀ μ',Le μ μ'→Spec prog 67 [pv pw,.agg (Uf q (.slice A q.ids.length ci)).toArray] [VA,ro μ'] (fun r L=>∃ μ'' a,Le μ' μ''∧AnOk μ'' a (f q)∧r=.agg (Lg a).toArray∧L=[VA,ro μ''])) :
  Spec prog 13 [pv sv,.agg (Uf q (.slice A q.ids.length ci)).toArray] [B5 sv 53 (Rx pw q0 ps px be bu 0 pa),Eg pa 64 l,VA,ro μ] (fun r L=>∃ μ' l' i t,Le μ μ'∧CaOk f μ' l'∧r=anV (f q) i t∧L=anL (f q) i t [B5 sv 53 (Rx pw q0 ps px be bu 0 pa),Eg pa 64 l',VA,ro μ']):=by
 refine Spec.of 15 func13 rfl rfl rfl ?_
 refine Ad (AE (Bp rfl rfl) (fun b3=>?_))
 refine AE (Bd) fun b4=>?_
 refine AI [0,3,4] rfl (Aj (Ad (Ah rfl ?_)))
 refine AE (AF (Ku sv pw q0 ps px be bu 0 pa) rfl rfl AG) ?_
 rintro v7 L1 ⟨rfl,rfl⟩
 refine As (Au [0,3,4,5] rfl rfl (Ad (Ah rfl (Af (Bx rfl rfl) (AI [0,3,4,5,9] rfl (Dw rfl (Ar (Ai (Ad (Ah rfl (AM (BL (vs:=Uf q (.slice A q.ids.length ci)) rfl rfl rfl) ?_)))))))))))
 refine AE (AF (R5 f μ sv pw q0 ps px be bu pa l VA h q hq A ci hi hlook) rfl rfl AG) ?_
 rintro v14 L1 ⟨μ1,l1,i,t,k1,hca,rfl,rfl⟩
 refine As (Bh (B8 rfl rfl rfl rfl) (AI [4] rfl (Av ?_)))
 exact Aw (anL (f q) i t [B5 sv 53 (Rx pw q0 ps px be bu 0 pa),Eg pa 64 l1,VA,ro μ1]) (.cell rfl (BT rfl) .nil) ⟨μ1,l1,i,t,k1,hca,rfl,rfl⟩ AG
section
variable {g:List (List Int)} (hg:E5 g) {n a b:Nat} (hn:n≤g.length) (ha:a<n) (hb:b<n)
include hg hn ha
end
theorem YJ (n:Nat)(S:Nat→Bool):(BW n S).length≤n:=by
 unfold BW Og
 rw [List.length_map]
 exact Nat.le_trans (List.length_filter_le _ _) (by rw [List.length_range]; exact Nat.le_refl _)
section
variable (X:VWt) (μ:PH) (h:X.Ok μ)
include h
end
theorem Wg (t:List En)(i:Nat):Ci (t.take i)=(Ci t).take (i*2):=by
 induction t generalizing i with
 | nil=>simp [Ci]
 | cons e t ih =>
  cases i with
  | zero=>simp [Ci]
  | succ i =>
   rw [List.take_succ_cons,Nat.succ_mul]
   show Je e++Ci (t.take i)=_
   rw [ih]; rfl
def Om (l:List En):List En:=l.foldl (fun t e=>Ha t e.1 e.2) []
theorem Tb {l:List En}{i:Nat}{e:En}(h:l[i]? = some e):Om (l.take (i+1))=Ha (Om (l.take i)) e.1 e.2:=by
 unfold Om
 rw [List.take_add_one,h,List.foldl_append]; rfl
set_option maxHeartbeats 1000000 in
theorem Wh (μ:PH)(v:Value)(l:List En)(h:Row μ v 2 l.length (Ci l))(hsz:l.length≤1048576)(hps:∀ e∈l,e.1.size≤255) :
  Spec prog 54 [v] [ro μ] (fun r L=>∃ μ' tv,r=.tuple #[tv,.int .i64 0]∧Le μ μ'∧Row μ' tv 2 (NA l).length (Ci (NA l))∧L=[ro μ']):=by
 refine Spec.of 32 func54 rfl rfl rfl ?_
 refine Ad (B2 rfl (Au [0] rfl rfl (Ad (Au [0,4] rfl rfl (Aj (Ad (Au [0,4,5] rfl rfl (AB ?_))))))))
 refine B4 (ι:=Nat×PH×Value) (fun k env L=>Sub env [(0,v),(4,k.2.2),(5,.int .i64 (k.1:Nat))]∧L=[ro k.2.1]∧k.1≤l.length∧Le μ k.2.1∧Row k.2.1 k.2.2 2 (Om (l.take k.1)).length (Ci (Om (l.take k.1)))) (fun k=>l.length-k.1) (0,μ,.slice none 0 0) ⟨⟨rfl,rfl,rfl,trivial⟩,rfl,Nat.zero_le _,Le.refl _,Row.nil _ _⟩ ?_
 rintro ⟨i,μ1,tv⟩ env L ⟨hsub,rfl,hi,hle,hrow⟩
 simp only [] at hi hle hrow hsub
 refine B7 _ hsub ?_
 clear hsub env
 dsimp only
 have h1:=h.le hle
 refine Aj (Ad (Ah rfl (Ah rfl (Af (AW h1 rfl) (Af (Be rfl rfl) (AI [0,4,5,9] rfl ?_))))))
 refine Aq rfl (fun h9=>?_) (fun h9=>?_)
 ·have h9':i<l.length:=by have:=of_decide_eq_true h9; omega
  obtain ⟨e,he⟩:∃ e,l[i]? = some e:=⟨_,List.getElem?_eq_getElem h9'⟩
  obtain ⟨gb,off,cap,hv,hra,hc0,hc1⟩:=Dc h1 he
  have hes:=hps e (List.mem_of_getElem? he)
  have htl:(Om (l.take i)).length≤i:=by have:=NB (l.take i); rw [List.length_take] at this; exact Nat.le_trans this (Nat.min_le_left _ _)
  refine Ar (Ai (Aj (AB (Aj (Ad (Ah rfl (Ah rfl ?_)))))))
  refine Af (AA (off+i*2) (congrArg some hv) rfl AC AC (by rw [Int.toNat_natCast])) ?_
  refine Af (Bk rfl) (AM (BJ rfl hc0) (Af (D8 rfl) (Af (BO rfl rfl) (AI [0,4,5,18] rfl ?_))))
  refine Aq rfl (fun h18=>by have:=of_decide_eq_true h18; omega) (fun h18=>?_)
  refine Ar (Ai ?_)
  refine Bb [5,10] _ [] (by simp only [List.append_nil]; exact Ent.refl _) AP ?_
  refine AD 0 rfl (AH rfl) (AD 1 rfl (AH rfl) (AD 2 rfl (AH rfl) ?_))
  refine AD 3 rfl (AA (off+i*2) (congrArg some hv) rfl AC AC (by rw [Int.toNat_natCast])) ?_
  refine AD 4 rfl (Bk rfl) (Bl 5 rfl (BJ rfl hc0) rfl (AD 6 rfl (AH rfl) (AD 7 rfl (AH rfl) ?_)))
  refine AD 8 rfl (AA (off+i*2) (congrArg some hv) rfl AC AC (by rw [Int.toNat_natCast])) ?_
  refine AD 9 rfl (Bk rfl) (Bl 10 rfl (BJ rfl hc1) rfl ?_)
  refine BX 11 rfl AP AP (AF (XY μ1 tv _ e.1 e.2 hrow AC AC) rfl rfl AG) ?_
  rintro v30 L1 rfl
  refine C5 (AD 12 rfl (Bf rfl) (BZ [0,4,5] rfl (Bv AP (AV (Ai ?_)))))
  refine BA (v:=v30) (μ:=μ1) AG fun μ2 h2 hrow2=>?_
  rw [← Tb he] at hrow2
  refine Am (Ah rfl (Af (AQ ((i+1:Nat):Int) rfl rfl AC AC AC) (B2 rfl (Bi [0,4,5] rfl (AJ ?_)))))
  exact Ai ⟨(i+1,μ2,v30),⟨⟨rfl,rfl,rfl,trivial⟩,rfl,h9',hle.trans h2,hrow2⟩,by show l.length-(i+1)<l.length-i; omega⟩
 ·have h9':=of_decide_eq_false h9
  obtain rfl:i=l.length:=by omega
  rw [List.take_length] at hrow
  refine B3 (AU (AU (AY rfl (Ai (Ad (Ah rfl (B2 rfl (Au [2,3] rfl rfl (Av ?_)))))))))
  exact Aw [ro μ1] (.tmp rfl (.tmp rfl .nil)) ⟨μ1,tv,rfl,hle,hrow,rfl⟩ AG
end SX
