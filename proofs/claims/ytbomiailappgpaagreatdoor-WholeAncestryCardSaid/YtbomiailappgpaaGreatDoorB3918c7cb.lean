/- A part of the proof: walks of the program's functions, and the rules by which they go. -/
import Derived.Test.YtbomiailappgpaaGreatDoorB9edb4f6b
import Derived.Test.YtbomiailappgpaaGreatDoorB47b6cacc
import Derived.Test.YtbomiailappgpaaGreatDoorRows
import Derived.ProofKit
import Derived.LaidMore
import Derived.LaidLaws
import Derived.OpenShut
import Derived.Stop.Joined
namespace SX
open Go Go.Proofs Go.Proofs.Tryz
structure BTab (μ:PH) (v:Value) (N:Nat) (g:List (List Int)) (vs:List Value):Prop where
 row:Row μ v 1 vs.length vs
 at_:∀ (i:Nat) (x:Value),vs[i]? = some x→Row μ x 1 N (Ko N (up g i))
theorem RF {n k:Nat}(f:Nat→Bool)(v:Bool):(Ko n f).set k (.bool v)=Ko n fun b=>if b=k then v else f b:=by
 apply List.ext_getElem?
 intro j
 by_cases hj:j<n
 ·rw [GS _ hj]
  by_cases e:k=j
  ·subst e; rw [List.getElem?_set_self (by rw [F5]; exact hj),if_pos rfl]
  ·rw [List.getElem?_set_ne e,GS _ hj,if_neg (fun h=>e h.symm)]
 ·rw [List.getElem?_eq_none (by rw [List.length_set,F5]; omega),List.getElem?_eq_none (by rw [F5]; omega)]
theorem RG {μ:PH}{x:Value}{N k:Nat}{f:Nat→Bool}(h:Row μ x 1 N (Ko N f))(hk:k<N):∃ b o c,x=.slice (some ⟨b,o,none⟩) N c∧CellAt μ b (o+k*1) (.bool (f k)):=by
 obtain ⟨b,o,c,hv,_,_,hr⟩:=h.pos Ax
 exact ⟨b,o,c,hv,by rw [Nat.mul_one]; exact hr k _ (GS f hk)⟩
def ZA (g:List (List Int))(a:Nat)(ps:List Int)(b:Nat):Bool:=decide (b=a)||ps.any fun p=>up g p.toNat b
theorem Zs {g:List (List Int)}{a:Nat}{ps:List Int}{j:Nat}{p:Int}(h:ps[j]? = some p)(b:Nat):ZA g a (ps.take (j+1)) b=(ZA g a (ps.take j) b||up g p.toNat b):=by
 unfold ZA
 rw [BE h,List.any_append,List.any_cons,List.any_nil,Bool.or_false,Bool.or_assoc]
set_option maxHeartbeats 8000000 in
theorem RH (μ:PH)(v:Value)(G:List (Value×List Int))(hG:Graph μ v G)(hg:Fo (EI G))(hl:G.length≤16)(hps:∀ x∈G,x.2.length≤16):Spec prog 12 [v] [ro μ] (fun r L=>∃ μ' vs,Le μ μ'∧vs.length=G.length∧BTab μ' r G.length (EI G) vs∧L=[ro μ']):=by
 refine Spec.of 58 func12 rfl rfl rfl ?_
 refine A0 (As [0] rfl rfl (A0 (As [0,3] rfl rfl (Ae (A0 (Ad rfl (Ac (B2 hG.1 rfl) (Ad rfl (AE [0,3,10,11,12] rfl (Au (AP (own_nil_ent (e:=72) (n:=1)) ?_)))))))))))
 refine B0 (ι:=Nat×List Value×PH×(Option Addr×Nat)) (fun z env L=>Sub env [(0,v),(3,.slice z.2.2.2.1 z.1 z.2.2.2.2),(10,v),(11,.int .i64 (G.length:Nat)),(12,.int .i64 (z.1:Nat))]∧Ent L [own 72 1 (.slice z.2.2.2.1 z.1 z.2.2.2.2) z.1 z.2.1,ro z.2.2.1]∧z.1≤G.length∧Le μ z.2.2.1∧z.2.1.length=z.1∧(∀ (i:Nat) (x:Value),z.2.1[i]? = some x→Row z.2.2.1 x 1 G.length (Ko G.length (up (EI G) i)))) (fun z=>G.length-z.1) (0,[],μ,(none,0)) ⟨⟨rfl,rfl,rfl,rfl,rfl,trivial⟩,by show Ent _ [own 72 1 (.slice none 0 0) 0 [],ro μ]; exact Split.ent' AC,Nat.zero_le _,Le.refl _,rfl,fun i x hx=>(by cases hx)⟩ ?_
 rintro ⟨a,vs,μi,⟨A,ca⟩⟩ env L ⟨hsub,hE,ha,ki,hvl,hvs⟩
 dsimp only at hsub hE ha ki hvl hvs
 refine B3 _ hsub (AP hE ?_)
 clear hsub hE env L
 refine CG (fun m h=>Rw h) fun hcap=>?_
 refine A0 (Ac (Bb rfl rfl) (AE [0,3,10,11,12,13] rfl (Ae ?_)))
 refine Ak rfl (fun h13=>?_) (fun h13=>?_)
 ·have h13':a<G.length:=by have:=of_decide_eq_true h13; omega
  obtain ⟨x,hx⟩:∃ x,G[a]? = some x:=⟨_,List.getElem?_eq_getElem h13'⟩
  have hpr:=(hG.2 x (List.mem_of_getElem? hx)).le ki
  have hpl:=hps x (List.mem_of_getElem? hx)
  obtain ⟨gb,off,cap,hv,_,_,hr0⟩:=(hG.1.le ki).pos Ax
  have hcell:=(hr0.elem (f:=gcs) (n:=1) TT hx).cell
  have hrow:BU (EI G) a=x.2:=by
   unfold BU EI
   rw [List.getD_eq_getElem?_getD,List.getElem?_map,hx]; rfl
  have hgd:∀ p∈x.2,0≤p∧p<(a:Int):=fun p hp=>by
   obtain ⟨h0,h1,_⟩:=CD (a:=a) hg (p:=p) (by rw [hrow]; exact hp)
   exact ⟨h0,h1⟩
  have hfin:∀ b,up (EI G) a b=ZA (EI G) a x.2 b:=fun b=>by rw [up_step hg,hrow]; rfl
  obtain ⟨pvv,ps⟩:=x
  dsimp only at hpr hpl hrow hgd hfin hcell
  refine Am (Af (Ae (Au (A0 (Ad rfl ?_)))))
  refine Ac (AB (off+a*1) (congrArg some hv) rfl Ax Ax (by rw [Int.toNat_natCast])) ?_
  refine AJ (C3 rfl hcell) (AX rfl (As [0,3,4,5,10,11,12] rfl rfl (A0 (Ad rfl (Ac (B2 hG.1 rfl) ?_)))))
  refine Aw (K5 G.length rfl rfl rfl Ax (by simp only [maxLen]; omega)) ?_
  rintro b19
  skip
  refine As [0,3,4,5,6,10,11,12] rfl rfl (A0 (Ad rfl (Ad rfl ?_)))
  refine Ac (AB a rfl rfl Ax Ax (by rw [Int.toNat_natCast]; omega)) ?_
  refine B5 (Eb rfl rfl rfl (by rw [List.length_replicate]; omega)) ?_
  refine AE [0,3,5,6,10,11,12] rfl (Ae (Ae ?_))
  have e0:(List.replicate G.length (Value.bool false)).set a (.bool true)=Ko G.length (ZA (EI G) a []):=by
   rw [Uw,RF]
   refine M8 fun b hb=>?_
   unfold ZA
   by_cases e:b=a
   ·rw [if_pos e,decide_eq_true e]; rfl
   ·rw [if_neg e,decide_eq_false e]; rfl
  rw [e0]
  refine Al (Ad rfl (Ac (B2 hpr rfl) (Ad rfl (AE [0,3,6,10,11,12,23,24,25] rfl (Au ?_)))))
  refine B0 (ι:=Nat) (fun j env L=>Sub env [(0,v),(3,.slice A a ca),(6,.slice (some ⟨b19,0,none⟩) G.length G.length),(10,v),(11,.int .i64 (G.length:Nat)),(12,.int .i64 (a:Nat)),(23,pvv),(24,.int .i64 (ps.length:Nat)),(25,.int .i64 (j:Nat))]∧Ent L [B1 b19 4 (Ko G.length (ZA (EI G) a (ps.take j))),own 72 1 (.slice A a ca) a vs,ro μi]∧j≤ps.length) (fun j=>ps.length-j) 0 ⟨⟨rfl,rfl,rfl,rfl,rfl,rfl,rfl,rfl,rfl,trivial⟩,by rw [List.take_zero]; exact Split.ent' AC,Nat.zero_le _⟩ ?_
  rintro j env L ⟨hsub,hE,hj⟩
  refine B3 _ hsub (AP hE ?_)
  clear hsub hE env L
  refine A0 (Ac (Bb rfl rfl) (AE [0,3,6,10,11,12,23,24,25,26] rfl (Ae ?_)))
  refine Ak rfl (fun h26=>?_) (fun h26=>?_)
  ·have h26':j<ps.length:=by have:=of_decide_eq_true h26; omega
   obtain ⟨p,hp⟩:∃ p,ps[j]? = some p:=⟨_,List.getElem?_eq_getElem h26'⟩
   obtain ⟨p0,p1⟩:=hgd p (List.mem_of_getElem? hp)
   obtain ⟨pn,rfl⟩:∃ k:Nat,p=(k:Int):=⟨p.toNat,by omega⟩
   have hF:=fun b=>Zs (g:=EI G) (a:=a) hp b
   obtain ⟨pb,po,pcap,hpv,_,_,hpr0⟩:=hpr.pos Ax
   have hpc:=(hpr0.elem (f:=Bj .i64) (n:=1) (fun _=>rfl) hp).cell
   obtain ⟨xv,hxv⟩:∃ u,vs[pn]? = some u:=⟨_,List.getElem?_eq_getElem Ax⟩
   have hxr:=hvs pn xv hxv
   obtain ⟨rb,hA⟩:∃ rb,A=some ⟨rb,0,none⟩:=by
    obtain ⟨c1,c2,c3,c4⟩:=hcap
    cases A with
    | none=>have:=c3 rfl; omega
    | some w=>obtain ⟨b,rfl⟩:=c4 w rfl; exact ⟨b,rfl⟩
   rw [Int.toNat_natCast] at hF
   generalize hF1:ZA (EI G) a (ps.take (j+1))=F1 at *
   generalize ZA (EI G) a (ps.take j)=F0 at *
   refine Am (Af (Ae (Au (A0 ?_))))
   refine Ac (AB (po+j*1) (congrArg some hpv) rfl Ax Ax (by rw [Int.toNat_natCast])) ?_
   refine AJ (C3 rfl hpc) (As [0,3,6,8,10,11,12,23,24,25] rfl rfl (A0 (Ad rfl (Ac (BI rfl) (Ad rfl (AE [0,3,6,8,10,11,12,23,24,25,30,31] rfl (Au ?_)))))))
   refine B0 (ι:=Nat) (fun k env L=>Sub env [(0,v),(3,.slice A a ca),(6,.slice (some ⟨b19,0,none⟩) G.length G.length),(8,.int .i64 (pn:Nat)),(10,v),(11,.int .i64 (G.length:Nat)),(12,.int .i64 (a:Nat)),(23,pvv),(24,.int .i64 (ps.length:Nat)),(25,.int .i64 (j:Nat)),(30,.int .i64 (G.length:Nat)),(31,.int .i64 (k:Nat))]∧Ent L [B1 b19 4 (Ko G.length fun b=>if b<k then F1 b else F0 b),own 72 1 (.slice A a ca) a vs,ro μi]∧k≤G.length) (fun k=>G.length-k) 0 ⟨⟨rfl,rfl,rfl,rfl,rfl,rfl,rfl,rfl,rfl,rfl,rfl,rfl,trivial⟩,by rw [show (fun b=>if b<0 then F1 b else F0 b)=F0 from funext fun b=>if_neg (Nat.not_lt_zero b)]; exact Split.ent' AC,Nat.zero_le _⟩ ?_
   rintro k env L ⟨hsub,hE,hk⟩
   refine B3 _ hsub (AP hE ?_)
   clear hsub hE env L
   refine A0 (Ac (Bb rfl rfl) (AE [0,3,6,8,10,11,12,23,24,25,30,31,32] rfl (Ae ?_)))
   refine Ak rfl (fun h32=>?_) (fun h32=>?_)
   ·have h32':k<G.length:=by have:=of_decide_eq_true h32; omega
    have hgk:(Ko G.length fun b=>if b<k then F1 b else F0 b)[k]? = some (.bool (F0 k)):=by rw [GS _ h32',if_neg (Nat.lt_irrefl k)]
    obtain ⟨xb,xo,xc,hxe,hxc⟩:=RG hxr h32'
    have hset:∀ w,w=F1 k→(Ko G.length fun b=>if b<k then F1 b else F0 b).set k (.bool w)=Ko G.length fun b=>if b<k+1 then F1 b else F0 b:=fun w hw=>by
     rw [RF]
     refine M8 fun b hb=>?_
     by_cases e:b=k
     ·rw [if_pos e,if_pos Ax,hw,e]
     ·rw [if_neg e]
      by_cases e2:b<k
      ·rw [if_pos e2,if_pos Ax]
      ·rw [if_neg e2,if_neg Ax]
    refine Am (Af (Ae (Au (A0 (Ad rfl (As [0,3,6,8,9,10,11,12,23,24,25,30,31] rfl rfl (Al (Ad rfl (Ad rfl (Ad rfl (Ad rfl ?_)))))))))))
    refine Ac (AB k rfl rfl Ax Ax (by rw [Int.toNat_natCast]; omega)) ?_
    refine AJ (Ag rfl hgk) (Ad rfl ?_)
    refine B7 40 rfl (fun h40=>?_) (fun h40=>?_)
    ·refine AI rfl rfl rfl (AI rfl rfl rfl (AI rfl rfl rfl (AI rfl rfl rfl (AI rfl rfl rfl (AI rfl rfl rfl (AI rfl rfl rfl (Ac (B4 rfl rfl) ?_)))))))
     refine Ac (AB k rfl rfl Ax Ax (by rw [Int.toNat_natCast]; omega)) ?_
     refine B5 (Eb rfl rfl rfl (by rw [F5]; omega)) ?_
     refine Be [0,3,6,8,10,11,12,23,24,25,30,31] rfl (AH (AR (Af (Al (Ac (AO ((k+1:Nat):Int) rfl rfl Ax Ax Ax) (Ad rfl (Be [0,3,6,8,10,11,12,23,24,25,30,31] rfl (AH ?_))))))))
     refine Af ⟨k+1,⟨⟨rfl,rfl,rfl,rfl,rfl,rfl,rfl,rfl,rfl,rfl,rfl,rfl,trivial⟩,?_,h32'⟩,by omega⟩
     rw [hset true (by rw [hF,h40]; rfl)]
     exact Split.ent' AC
    ·refine AQ rfl rfl (Ad rfl (AQ rfl rfl (Ad rfl (AQ rfl rfl ?_))))
     refine Ac (AB (b:=rb) pn (by rw [hA]; rfl) rfl Ax Ax (by rw [Int.toNat_natCast]; omega)) ?_
     refine AQ rfl rfl ?_
     refine AJ (PL (b:=rb) (c:=ca) rfl (by rw [hA]; exact K3) hxv) ?_
     refine AQ rfl rfl (Ad rfl (AQ rfl rfl ?_))
     refine Ac (AB (xo+k*1) (congrArg some hxe) rfl Ax Ax (by rw [Int.toNat_natCast])) ?_
     refine AQ rfl rfl (AJ (C3 rfl hxc) (Ac (AT rfl rfl) ?_))
     refine Ac (AB k rfl rfl Ax Ax (by rw [Int.toNat_natCast]; omega)) ?_
     refine B5 (Eb rfl rfl rfl (by rw [F5]; omega)) ?_
     refine Be [0,3,6,8,10,11,12,23,24,25,30,31] rfl (AH (AR (Af (Al (Ac (AO ((k+1:Nat):Int) rfl rfl Ax Ax Ax) (Ad rfl (Be [0,3,6,8,10,11,12,23,24,25,30,31] rfl (AH ?_))))))))
     refine Af ⟨k+1,⟨⟨rfl,rfl,rfl,rfl,rfl,rfl,rfl,rfl,rfl,rfl,rfl,rfl,trivial⟩,?_,h32'⟩,by omega⟩
     rw [hset _ (by rw [hF,h40]; rfl)]
     exact Split.ent' AC
   ·have h32':=of_decide_eq_false h32
    obtain rfl:k=G.length:=by omega
    rw [show (Ko G.length fun b=>if b<G.length then F1 b else F0 b)=Ko G.length F1 from M8 fun b hb=>if_pos hb]
    refine AY (AS (AS (AV rfl (AR (Af (Al (Ac (AO ((j+1:Nat):Int) rfl rfl Ax Ax Ax) (Ad rfl (Be [0,3,6,10,11,12,23,24,25] rfl (AH ?_))))))))))
    exact Af ⟨j+1,⟨⟨rfl,rfl,rfl,rfl,rfl,rfl,rfl,rfl,rfl,trivial⟩,by rw [hF1]; exact Split.ent' AC,h26'⟩,by omega⟩
  ·have h26':=of_decide_eq_false h26
   obtain rfl:j=ps.length:=by omega
   rw [List.take_length,show ZA (EI G) a ps=up (EI G) a from funext fun b=>(hfin b).symm]
   refine AY (AS (AS (AV rfl (Af ?_))))
   refine AP (I2 (n:=1) (l:=G.length) (by rw [F5,Nat.mul_one]) (by simp only [maxLen]; omega)) ?_
   refine BC (v:=.slice (some ⟨b19,0,none⟩) G.length G.length) (μ:=μi) AC fun μ2 k2 hr=>?_
   refine Al (Ad rfl (Ad rfl (Aw (Bg (qs:=[(0,_)]) rfl rfl rfl) (fun b54=>?_))))
   refine Aw (B9 (l:=a) (m:=1) rfl rfl AC (by simp only [maxLen]; omega) Ax) ?_
   rintro v55 -
   refine Cv (fun m h=>Bz h) fun ⟨A55,c55,hv55⟩=>?_
   subst hv55
   refine AX rfl (Be [0,3,10,11,12] rfl (AH (AR (Af (Al (Ac (AO ((a+1:Nat):Int) rfl rfl Ax Ax Ax) (Ad rfl (Be [0,3,10,11,12] rfl (AH ?_)))))))))
   refine Af ⟨(a+1,vs++[.slice (some ⟨b19,0,none⟩) G.length G.length],μ2,(A55,c55)),⟨⟨rfl,rfl,rfl,rfl,rfl,trivial⟩,Split.ent' AC,h13',ki.trans k2,by dsimp only; rw [List.length_append,hvl]; rfl,fun i x hx=>?_⟩,by show G.length-(a+1)<G.length-a; omega⟩
   dsimp only at hx ⊢
   by_cases hi:i<vs.length
   ·rw [List.getElem?_append_left hi] at hx
    exact (hvs i x hx).le k2
   ·have hl2:=(List.getElem?_eq_some_iff.1 hx).1
    rw [List.length_append,List.length_singleton] at hl2
    have hi2:vs.length≤i:=by omega
    have hi3:i-vs.length=0:=by omega
    rw [List.getElem?_append_right hi2,hi3] at hx
    obtain rfl:=Option.some.inj hx
    rw [show i=a by omega]
    exact hr
 ·have h13':=of_decide_eq_false h13
  obtain rfl:a=G.length:=by omega
  refine BC (v:=.slice A G.length ca) (μ:=μi) AC fun μ2 k2 hr2=>?_
  refine AY (AS (AS (AV rfl (Af (A0 (Ad rfl (As [2] rfl rfl (Ar ?_))))))))
  exact Aq [ro μ2] (.tmp rfl .nil) ⟨μ2,vs,ki.trans k2,hvl,⟨by rw [hvl]; exact hr2,fun i x hx=>(hvs i x hx).le k2⟩,rfl⟩ AC
theorem Lf {μ:PH}{v:Value}{N:Nat}{g:List (List Int)}{vs:List Value}(h:BTab μ v N g vs){a c:Nat}(ha:a<vs.length)(hc:c<N):∃ vb vo cap xa xb xo xc,v=.slice (some ⟨vb,vo,none⟩) vs.length cap∧CellAt μ vb (vo+a*1) xa∧xa=.slice (some ⟨xb,xo,none⟩) N xc∧CellAt μ xb (xo+c*1) (.bool (up g a c)):=by
 obtain ⟨x,hx⟩:∃ x,vs[a]? = some x:=⟨_,List.getElem?_eq_getElem ha⟩
 obtain ⟨vb,vo,cap,hv,_,_,hr⟩:=h.row.pos Ax
 obtain ⟨xb,xo,xc,hxe,hcell⟩:=RG (h.at_ a x hx) hc
 exact ⟨vb,vo,cap,x,xb,xo,xc,hv,by rw [Nat.mul_one]; exact hr a x hx,hxe,hcell⟩
def Zt (g:List (List Int))(a b c d:Nat):Bool:=!((List.range d).any fun d=>decide (d≠c)&&((up g a d&&up g b d)&&up g d c))
theorem Hv (g:List (List Int))(a b c d:Nat):Zt g a b c (d+1)=(Zt g a b c d&&!(decide (d≠c)&&((up g a d&&up g b d)&&up g d c))):=by
 unfold Zt
 rw [List.range_succ,List.any_append,List.any_cons,List.any_nil,Bool.or_false,Bool.not_or]
theorem NU (n:Nat)(S:Nat→Bool):Bu (n+1) S=Bu n S++(if S n=true then [(n:Int)] else []):=by
 unfold Bu P2
 rw [List.range_succ,List.filter_append,List.map_append]
 congr 1
 by_cases h:S n=true
 ·rw [if_pos h,List.filter_cons_of_pos h]; rfl
 ·rw [if_neg h,List.filter_cons_of_neg h]; rfl
set_option maxHeartbeats 8000000 in
theorem TJ (μ:PH)(v:Value)(N:Nat)(g:List (List Int))(vs:List Value)(h:BTab μ v N g vs)(hvN:vs.length≤N)(hN:N≤16)(a b:Nat)(ha:a<vs.length)(hb:b<vs.length) :
  Spec prog 22 [v,.int .i64 (a:Nat),.int .i64 (b:Nat)] [ro μ] (fun r L=>L=[own 3 1 r (Bu vs.length (DS g vs.length a b)).length ((Bu vs.length (DS g vs.length a b)).flatMap (Bj .i64)),ro μ]):=by
 have hle:∀ c,(Bu c (DS g vs.length a b)).length≤c:=fun c=>by
  unfold Bu P2
  rw [List.length_map]
  exact Nat.le_trans (List.length_filter_le _ _) (by rw [List.length_range]; exact Nat.le_refl _)
 refine Spec.of 81 func22 rfl rfl rfl ?_
 refine A0 (As [0,1,2] rfl rfl (A0 (As [0,1,2,7] rfl rfl (Ae (A0 (Ad rfl (Ac (B2 h.row rfl) (Ad rfl (AE [0,1,2,7,12,13] rfl (Au (AP (own_nil_ent (e:=3) (n:=1)) ?_)))))))))))
 refine B0 (ι:=Nat×Value) (fun z env L=>Sub env [(0,v),(1,.int .i64 (a:Nat)),(2,.int .i64 (b:Nat)),(7,z.2),(12,.int .i64 (vs.length:Nat)),(13,.int .i64 (z.1:Nat))]∧Ent L [own 3 1 z.2 (Bu z.1 (DS g vs.length a b)).length ((Bu z.1 (DS g vs.length a b)).flatMap (Bj .i64)),ro μ]∧z.1≤vs.length) (fun z=>vs.length-z.1) (0,.slice none 0 0) ⟨⟨rfl,rfl,rfl,rfl,rfl,rfl,trivial⟩,by show Ent _ [own 3 1 (.slice none 0 0) 0 [],ro μ]; exact Split.ent' AC,Nat.zero_le _⟩ ?_
 rintro ⟨c,lv⟩ env L ⟨hsub,hE,hc⟩
 dsimp only at hsub hE hc
 refine B3 _ hsub (AP hE ?_)
 clear hsub hE env L
 refine A0 (Ac (Bb rfl rfl) (AE [0,1,2,7,12,13,14] rfl (Ae ?_)))
 refine Ak rfl (fun h14=>?_) (fun h14=>?_)
 ·have h14':c<vs.length:=by have:=of_decide_eq_true h14; omega
  obtain ⟨vb,vo,cap,xa,xb,xo,xc,hv,hva,hxa,hcell⟩:=Lf h ha (show c<N by omega)
  obtain ⟨vb',vo',cap',ya,yb,yo,yc,hv',hvb,hyb,hcelb⟩:=Lf h hb (show c<N by omega)
  have hsu:=NU c (DS g vs.length a b)
  have hlc:=hle c
  refine Am (Af (Ae (Au (A0 (Ad rfl (As [0,1,2,7,8,12,13] rfl rfl (Ae ?_)))))))
  refine Cb (fun env L=>∃ w:Bool,Sub env [(0,v),(1,.int .i64 (a:Nat)),(2,.int .i64 (b:Nat)),(7,lv),(8,.int .i64 (c:Nat)),(12,.int .i64 (vs.length:Nat)),(13,.int .i64 (c:Nat)),(33,.bool w)]∧Ent L [own 3 1 lv (Bu c (DS g vs.length a b)).length ((Bu c (DS g vs.length a b)).flatMap (Bj .i64)),ro μ]∧w = !(up g a c&&up g b c)) ?_ ?_
  ·refine Al (Ad rfl (Ad rfl ?_))
   refine Ac (AB (vo+a*1) (congrArg some hv) rfl Ax Ax (by rw [Int.toNat_natCast])) ?_
   refine AJ (C3 rfl hva) (Ad rfl ?_)
   refine Ac (AB (xo+c*1) (congrArg some hxa) rfl Ax Ax (by rw [Int.toNat_natCast])) ?_
   refine AJ (C3 rfl hcell) (Ac (BO rfl) (Ad rfl ?_))
   refine B7 24 rfl (fun h24=>?_) (fun h24=>?_)
   ·have h24':up g a c=false:=by simpa using h24
    refine AI rfl rfl rfl (AI rfl rfl rfl (AI rfl rfl rfl (AI rfl rfl rfl (AI rfl rfl rfl (AI rfl rfl rfl (AI rfl rfl rfl (AI rfl rfl rfl (Ac (B4 rfl rfl) (Be [0,1,2,7,8,12,13,33] rfl (AH ?_))))))))))
    exact Af ⟨true,⟨rfl,rfl,rfl,rfl,rfl,rfl,rfl,rfl,trivial⟩,Split.ent' AC,by rw [h24']; rfl⟩
   ·have h24':up g a c=true:=by simpa using h24
    refine AQ rfl rfl (Ad rfl (AQ rfl rfl (Ad rfl (AQ rfl rfl ?_))))
    refine Ac (AB (vo'+b*1) (congrArg some hv') rfl Ax Ax (by rw [Int.toNat_natCast])) ?_
    refine AQ rfl rfl (AJ (C3 rfl hvb) (AQ rfl rfl (Ad rfl (AQ rfl rfl ?_))))
    refine Ac (AB (yo+c*1) (congrArg some hyb) rfl Ax Ax (by rw [Int.toNat_natCast])) ?_
    refine AQ rfl rfl (AJ (C3 rfl hcelb) (AQ rfl rfl (Ac (BO rfl) (Ac (AT rfl rfl) (Be [0,1,2,7,8,12,13,33] rfl (AH ?_))))))
    exact Af ⟨!(up g b c),⟨rfl,rfl,rfl,rfl,rfl,rfl,rfl,rfl,trivial⟩,Split.ent' AC,by rw [h24']; rfl⟩
  rintro env L ⟨w,hsub,hE,hw⟩
  refine B3 _ hsub (AP hE ?_)
  clear hsub hE env L
  refine Ak rfl (fun h33=>?_) (fun h33=>?_)
  ·have hno:DS g vs.length a b c=false:=by
    have hw':(up g a c&&up g b c)=false:=by
     rw [h33] at hw
     cases hx:(up g a c&&up g b c) with
     | false=>rfl
     | true=>rw [hx] at hw; cases hw
    unfold DS
    rw [hw']; rfl
   refine AY (AS (AV rfl (Af (Al (Ac (AO ((c+1:Nat):Int) rfl rfl Ax Ax Ax) (Ad rfl (Be [0,1,2,7,12,13] rfl (AH ?_))))))))
   refine Af ⟨(c+1,lv),⟨⟨rfl,rfl,rfl,rfl,rfl,rfl,trivial⟩,?_,h14'⟩,by show vs.length-(c+1)<vs.length-c; omega⟩
   dsimp only
   rw [hsu,if_neg (by rw [hno]; decide),List.append_nil]
   exact Split.ent' AC
  ·have hw':(up g a c&&up g b c)=true:=by
    rw [h33] at hw
    cases hx:(up g a c&&up g b c) with
    | true=>rfl
    | false=>rw [hx] at hw; cases hw
   refine Am (Af (A0 (As [0,1,2,7,8,9,12,13] rfl rfl (Ae (A0 (Ad rfl (Ac (B2 h.row rfl) (Ad rfl (AE [0,1,2,7,8,9,12,13,35,36] rfl (Au ?_))))))))))
   refine B0 (ι:=Nat×Bool) (fun z env L=>Sub env [(0,v),(1,.int .i64 (a:Nat)),(2,.int .i64 (b:Nat)),(7,lv),(8,.int .i64 (c:Nat)),(9,.bool z.2),(12,.int .i64 (vs.length:Nat)),(13,.int .i64 (c:Nat)),(35,.int .i64 (vs.length:Nat)),(36,.int .i64 (z.1:Nat))]∧Ent L [own 3 1 lv (Bu c (DS g vs.length a b)).length ((Bu c (DS g vs.length a b)).flatMap (Bj .i64)),ro μ]∧z.1≤vs.length∧z.2=Zt g a b c z.1) (fun z=>vs.length-z.1) (0,true) ⟨⟨rfl,rfl,rfl,rfl,rfl,rfl,rfl,rfl,rfl,rfl,trivial⟩,Split.ent' AC,Nat.zero_le _,rfl⟩ ?_
   rintro ⟨d,tt⟩ env L ⟨hsub,hE,hd,ht⟩
   dsimp only at hsub hE hd ht
   refine B3 _ hsub (AP hE ?_)
   clear hsub hE env L
   refine A0 (Ac (Bb rfl rfl) (AE [0,1,2,7,8,9,12,13,35,36,37] rfl (Ae ?_)))
   refine Ak rfl (fun h37=>?_) (fun h37=>?_)
   ·have h37':d<vs.length:=by have:=of_decide_eq_true h37; omega
    obtain ⟨vb1,vo1,cap1,xa1,xb1,xo1,xc1,hv1,hva1,hxa1,hcell1⟩:=Lf h ha (show d<N by omega)
    obtain ⟨vb2,vo2,cap2,xa2,xb2,xo2,xc2,hv2,hva2,hxa2,hcell2⟩:=Lf h hb (show d<N by omega)
    obtain ⟨vb3,vo3,cap3,xa3,xb3,xo3,xc3,hv3,hva3,hxa3,hcell3⟩:=Lf h h37' (show c<N by omega)
    refine Am (Af ?_)
    refine Cb (fun env L=>∃ w:Bool,Sub env [(0,v),(1,.int .i64 (a:Nat)),(2,.int .i64 (b:Nat)),(7,lv),(8,.int .i64 (c:Nat)),(9,.bool w),(12,.int .i64 (vs.length:Nat)),(13,.int .i64 (c:Nat)),(35,.int .i64 (vs.length:Nat)),(36,.int .i64 (d:Nat))]∧Ent L [own 3 1 lv (Bu c (DS g vs.length a b)).length ((Bu c (DS g vs.length a b)).flatMap (Bj .i64)),ro μ]∧w=Zt g a b c (d+1)) ?_ ?_
    ·refine Au (A0 (Ad rfl (As [0,1,2,7,8,9,10,12,13,35,36] rfl rfl (Al (Ad rfl (Ad rfl ?_))))))
     refine B7 40 rfl (fun h40=>?_) (fun h40=>?_)
     ·refine AQ rfl rfl (Ad rfl (AQ rfl rfl (Ad rfl (AQ rfl rfl (Ac (Bm rfl rfl) (AQ rfl rfl (Ad rfl ?_)))))))
      refine B7 44 rfl (fun h44=>?_) (fun h44=>?_)
      ·have hne:d≠c:=by
        intro e
        rw [e] at h44
        simp at h44
       refine AQ rfl rfl (Ad rfl (AQ rfl rfl (Ad rfl (AQ rfl rfl ?_))))
       refine Ac (AB (vo1+a*1) (congrArg some hv1) rfl Ax Ax (by rw [Int.toNat_natCast])) ?_
       refine AQ rfl rfl (AJ (C3 rfl hva1) (AQ rfl rfl (Ad rfl (AQ rfl rfl ?_))))
       refine Ac (AB (xo1+d*1) (congrArg some hxa1) rfl Ax Ax (by rw [Int.toNat_natCast])) ?_
       refine AQ rfl rfl (AJ (C3 rfl hcell1) (AQ rfl rfl (Ac (B4 rfl rfl) (AQ rfl rfl (Ad rfl ?_)))))
       refine B7 53 rfl (fun h53=>?_) (fun h53=>?_)
       ·refine AQ rfl rfl (Ad rfl (AQ rfl rfl (Ad rfl (AQ rfl rfl ?_))))
        refine Ac (AB (vo2+b*1) (congrArg some hv2) rfl Ax Ax (by rw [Int.toNat_natCast])) ?_
        refine AQ rfl rfl (AJ (C3 rfl hva2) (AQ rfl rfl (Ad rfl (AQ rfl rfl ?_))))
        refine Ac (AB (xo2+d*1) (congrArg some hxa2) rfl Ax Ax (by rw [Int.toNat_natCast])) ?_
        refine AQ rfl rfl (AJ (C3 rfl hcell2) (AQ rfl rfl (Ac (B4 rfl rfl) (AQ rfl rfl (Ad rfl ?_)))))
        refine B7 62 rfl (fun h62=>?_) (fun h62=>?_)
        ·refine AQ rfl rfl (Ad rfl (AQ rfl rfl (Ad rfl (AQ rfl rfl ?_))))
         refine Ac (AB (vo3+d*1) (congrArg some hv3) rfl Ax Ax (by rw [Int.toNat_natCast])) ?_
         refine AQ rfl rfl (AJ (C3 rfl hva3) (AQ rfl rfl (Ad rfl (AQ rfl rfl ?_))))
         refine Ac (AB (xo3+c*1) (congrArg some hxa3) rfl Ax Ax (by rw [Int.toNat_natCast])) ?_
         refine AQ rfl rfl (AJ (C3 rfl hcell3) (AQ rfl rfl (Ac (B4 rfl rfl) (AQ rfl rfl (Ac (BO rfl) (Ac (B4 rfl rfl) (AX rfl (Be [0,1,2,7,8,9,12,13,35,36] rfl (AH (AR ?_))))))))))
         exact Af ⟨!(up g d c),⟨rfl,rfl,rfl,rfl,rfl,rfl,rfl,rfl,rfl,rfl,trivial⟩,Split.ent' AC,by rw [Hv,← ht,h40,h53,h62,decide_eq_true hne]; rfl⟩
        ·refine AI rfl rfl rfl (AI rfl rfl rfl (AI rfl rfl rfl (AI rfl rfl rfl (AI rfl rfl rfl (AI rfl rfl rfl (AI rfl rfl rfl (AQ rfl rfl (Ac (AT rfl rfl) (AQ rfl rfl (Ac (BO rfl) (Ac (B4 rfl rfl) (AX rfl (Be [0,1,2,7,8,9,12,13,35,36] rfl (AH (AR ?_)))))))))))))))
         exact Af ⟨!false,⟨rfl,rfl,rfl,rfl,rfl,rfl,rfl,rfl,rfl,rfl,trivial⟩,Split.ent' AC,by rw [Hv,← ht,h40,h53,h62,decide_eq_true hne]; rfl⟩
       ·refine AI rfl rfl rfl (AI rfl rfl rfl (AI rfl rfl rfl (AI rfl rfl rfl (AI rfl rfl rfl (AI rfl rfl rfl (AI rfl rfl rfl (AQ rfl rfl (Ac (AT rfl rfl) (AQ rfl rfl (Ad rfl ?_))))))))))
        refine B7 62 rfl (fun h62=>by cases h62) (fun h62=>?_)
        refine AI rfl rfl rfl (AI rfl rfl rfl (AI rfl rfl rfl (AI rfl rfl rfl (AI rfl rfl rfl (AI rfl rfl rfl (AI rfl rfl rfl (AQ rfl rfl (Ac (AT rfl rfl) (AQ rfl rfl (Ac (BO rfl) (Ac (B4 rfl rfl) (AX rfl (Be [0,1,2,7,8,9,12,13,35,36] rfl (AH (AR ?_)))))))))))))))
        exact Af ⟨!false,⟨rfl,rfl,rfl,rfl,rfl,rfl,rfl,rfl,rfl,rfl,trivial⟩,Split.ent' AC,by rw [Hv,← ht,h40,h53,decide_eq_true hne]; rfl⟩
      ·have hne:d=c:=by
        have h44':(d:Int)=(c:Int):=by simpa using h44
        omega
       refine AI rfl rfl rfl (AI rfl rfl rfl (AI rfl rfl rfl (AI rfl rfl rfl (AI rfl rfl rfl (AI rfl rfl rfl (AI rfl rfl rfl (AQ rfl rfl (Ac (AT rfl rfl) (AQ rfl rfl (Ad rfl ?_))))))))))
       refine B7 53 rfl (fun h53=>by cases h53) (fun h53=>?_)
       refine AI rfl rfl rfl (AI rfl rfl rfl (AI rfl rfl rfl (AI rfl rfl rfl (AI rfl rfl rfl (AI rfl rfl rfl (AI rfl rfl rfl (AQ rfl rfl (Ac (AT rfl rfl) (AQ rfl rfl (Ad rfl ?_))))))))))
       refine B7 62 rfl (fun h62=>by cases h62) (fun h62=>?_)
       refine AI rfl rfl rfl (AI rfl rfl rfl (AI rfl rfl rfl (AI rfl rfl rfl (AI rfl rfl rfl (AI rfl rfl rfl (AI rfl rfl rfl (AQ rfl rfl (Ac (AT rfl rfl) (AQ rfl rfl (Ac (BO rfl) (Ac (B4 rfl rfl) (AX rfl (Be [0,1,2,7,8,9,12,13,35,36] rfl (AH (AR ?_)))))))))))))))
       exact Af ⟨!false,⟨rfl,rfl,rfl,rfl,rfl,rfl,rfl,rfl,rfl,rfl,trivial⟩,Split.ent' AC,by rw [Hv,← ht,h40,decide_eq_false (fun e=>e hne)]; rfl⟩
     ·refine AI rfl rfl rfl (AI rfl rfl rfl (AI rfl rfl rfl (AI rfl rfl rfl (AI rfl rfl rfl (AI rfl rfl rfl (AI rfl rfl rfl (AI rfl rfl rfl (AI rfl rfl rfl (AI rfl rfl rfl (AI rfl rfl rfl (AI rfl rfl rfl (AI rfl rfl rfl (AI rfl rfl rfl (AI rfl rfl rfl (AI rfl rfl rfl (AI rfl rfl rfl (AI rfl rfl rfl (AI rfl rfl rfl (AI rfl rfl rfl (AI rfl rfl rfl (AI rfl rfl rfl (AI rfl rfl rfl (AI rfl rfl rfl (AI rfl rfl rfl (AI rfl rfl rfl (AI rfl rfl rfl (AI rfl rfl rfl (AI rfl rfl rfl (AI rfl rfl rfl (AI rfl rfl rfl (Ac (AT rfl rfl) (AX rfl (Be [0,1,2,7,8,9,12,13,35,36] rfl (AH (AR ?_)))))))))))))))))))))))))))))))))))
      exact Af ⟨false,⟨rfl,rfl,rfl,rfl,rfl,rfl,rfl,rfl,rfl,rfl,trivial⟩,Split.ent' AC,by rw [Hv,← ht,h40]; rfl⟩
    rintro env L ⟨w2,hsub,hE,hw2⟩
    refine B3 _ hsub (AP hE ?_)
    clear hsub hE env L
    refine Al (Ac (AO ((d+1:Nat):Int) rfl rfl Ax Ax Ax) (Ad rfl (Be [0,1,2,7,8,9,12,13,35,36] rfl (AH ?_))))
    exact Af ⟨(d+1,w2),⟨⟨rfl,rfl,rfl,rfl,rfl,rfl,rfl,rfl,rfl,rfl,trivial⟩,Split.ent' AC,h37',hw2⟩,by show vs.length-(d+1)<vs.length-d; omega⟩
   ·have h37':=of_decide_eq_false h37
    obtain rfl:d=vs.length:=by omega
    refine AY (AS (AS (AV rfl (Af (A0 (Ad rfl (AE [0,1,2,7,8,12,13,74] rfl ?_)))))))
    refine Ak rfl (fun h74=>?_) (fun h74=>?_)
    ·have hyes:DS g vs.length a b c=true:=by
      unfold DS
      rw [hw',Bool.true_and]
      exact ht.symm.trans h74
     refine Al (Ad rfl (Ad rfl (Aw (Bg (qs:=[(0,_)]) rfl rfl rfl) (fun b77=>?_))))
     refine Aw (B9 (l:=(Bu c (DS g vs.length a b)).length) (m:=1) rfl rfl AC (by simp only [maxLen]; omega) Ax) ?_
     rintro v78 -
     skip
     refine AX rfl (Be [0,1,2,7,12,13] rfl (AH (AR (Af (Al (Ac (AO ((c+1:Nat):Int) rfl rfl Ax Ax Ax) (Ad rfl (Be [0,1,2,7,12,13] rfl (AH ?_)))))))))
     refine Af ⟨(c+1,v78),⟨⟨rfl,rfl,rfl,rfl,rfl,rfl,trivial⟩,?_,h14'⟩,by show vs.length-(c+1)<vs.length-c; omega⟩
     dsimp only
     rw [hsu,if_pos hyes,List.length_append,List.flatMap_append]
     show Ent _ [own 3 1 v78 ((Bu c (DS g vs.length a b)).length+1) ((Bu c (DS g vs.length a b)).flatMap (Bj .i64)++[.int .i64 (c:Nat)]),ro μ]
     exact Split.ent' AC
    ·have hno:DS g vs.length a b c=false:=by
      unfold DS
      rw [hw',Bool.true_and]
      exact ht.symm.trans h74
     refine Am (AR (Af (Al (Ac (AO ((c+1:Nat):Int) rfl rfl Ax Ax Ax) (Ad rfl (Be [0,1,2,7,12,13] rfl (AH ?_)))))))
     refine Af ⟨(c+1,lv),⟨⟨rfl,rfl,rfl,rfl,rfl,rfl,trivial⟩,?_,h14'⟩,by show vs.length-(c+1)<vs.length-c; omega⟩
     dsimp only
     rw [hsu,if_neg (by rw [hno]; decide),List.append_nil]
     exact Split.ent' AC
 ·have h14':=of_decide_eq_false h14
  obtain rfl:c=vs.length:=by omega
  refine AY (AS (AS (AV rfl (Af (A0 (Ad rfl (As [6] rfl rfl (Ar ?_))))))))
  exact Aq [own 3 1 lv (Bu vs.length (DS g vs.length a b)).length ((Bu vs.length (DS g vs.length a b)).flatMap (Bj .i64)),ro μ] (.tmp rfl .nil) rfl AC
theorem SvW.Ok.le{S:SvW}{μ μ':PH}{m c B:Nat}(h:S.Ok μ m c B)(k:Le μ μ'):S.Ok μ' m c B:=⟨h.x.le k,h.w.le k,h.s,h.dead,h.log⟩
theorem SvW.Ok.up{S:SvW}{μ:PH}{m c B B':Nat}(h:S.Ok μ m c B)(k:B≤B'):S.Ok μ m c B':=⟨h.x,h.w,h.s,h.dead,by obtain ⟨b,h1,h2⟩:=h.log; exact ⟨b,h1,by omega⟩⟩
theorem TK {t:List En}(h:Jg t):Jg (Fe t):=by
 refine Vh _ _ (fun e he=>(by cases he)) fun e he=>?_
 obtain ⟨d,hd,rfl⟩:=List.mem_map.1 he
 exact h d (List.mem_of_mem_take hd)
theorem Zu (t:List En):Ti (Fe t):=fun e he=>by have:=(JZ t).short e he; omega
theorem Zv {c:Cm}(h:c.1.length≤16):(De c).length≤69:=by
 unfold De
 simp only [List.length_append,Br,KB]
 omega
set_option maxHeartbeats 4000000 in
theorem X5 (S:SvW)(μ:PH)(m c B n:Nat)(h:S.Ok μ m c B)(hc:c<14)(o:StA)(ho:o.Ok μ)(hn:n≤15)(hT:S.W.pl.1.length=n)(hC:S.W.pl.2.length=n)(hg:GC (S.W.pl.2++[(G3 n o.pl.ps,(n:Int))]))(hB:B+8000≤F7) :
  Spec prog 6 [pv S.sv,.agg (Ji o).toArray,.int .i64 (n:Nat)] (S.L μ) (fun r L=>r=.bool true∧SvQ S μ m c (B+8000) (S.W.pl.1++[Fe o.t],S.W.pl.2++[(G3 n o.pl.ps,(n:Int))]) L):=by
 have ho':=ho
 obtain ⟨htr,htu,hpr,hpb,-⟩:=ho
 have hef:=Zr (JZ o.t) (Lc o.t)
 have hps:=Gb n o.pl.ps
 have hx69:=Zv (c:=(G3 n o.pl.ps,(n:Int))) hps.2
 have hpar:=fun μ' (k:Le μ μ')=>Pb μ' o (ho'.le k) n Ax
 obtain ⟨At,ct,eA⟩:=htr.sl
 obtain ⟨Ap,cp,eP⟩:=hpr.sl
 have hcs:Ji o=[.slice At o.t.length ct,.slice Ap o.ps.length cp,.int .u8 o.ix,.int .u8 o.nm,.int .u16 o.at_]:=by unfold Ji; rw [eA,eP]
 rw [hcs] at hpar ⊢
 rw [eA] at htr
 refine Spec.of 45 func6 rfl rfl rfl ?_
 refine A0 (Aw (Bi rfl rfl) (fun b4=>?_))
 refine As [0,2,4] rfl rfl (A0 (Ad rfl (Ac (Ab rfl) (AJ (Ag rfl rfl) ?_))))
 refine Aw (AA (NT μ _ o.t htr) rfl rfl AC) ?_
 rintro v15 L1 ⟨μ1,k1,hrow,rfl⟩
 refine Aj ?_
 refine Aw (AA (Oa S μ1 m c B (h.le k1) hc v15 (Fe o.t) hrow (TK htu) (Zq (JZ o.t) (by have:=Lc o.t; omega)) (Lc o.t) (Zu o.t) Ax Ax) rfl rfl AC) ?_
 rintro v16 L1 ⟨rfl,hQ⟩
 obtain ⟨S1,μ2,k2,hS1,hpl1,hsv1,-,rfl⟩:=hQ
 refine Aj ?_
 rw [← hsv1]
 refine Ad rfl (Ac (Ai rfl) (Ac (Ai rfl) (AX rfl (As [0,2,4,7,8] rfl rfl (Ae ?_)))))
 have hp1:S1.W.pl.1=S.W.pl.1++[Fe o.t]:=by rw [hpl1]
 have hp2:S1.W.pl.2=S.W.pl.2:=by rw [hpl1]
 have hl1:S1.W.pl.1.length=n+1:=by rw [hp1,List.length_append,List.length_singleton,hT]
 refine Al (Ad rfl (AJ (BG (vs:=[.slice At o.t.length ct,.slice Ap o.ps.length cp,.int .u8 o.ix,.int .u8 o.nm,.int .u16 o.at_]) rfl rfl rfl) (Ad rfl ?_)))
 refine Aw (AA (hpar μ2 (k1.trans k2)) rfl rfl AC) ?_
 rintro v23 L1 rfl
 refine Aj ?_
 refine C5 (v:=v23) (μ:=μ2) AC fun μ3 k3 hr=>?_
 obtain ⟨A23,c23,rfl⟩:=hr.sl
 refine Ad rfl (Ac (Bo (qs:=[(0,_),(1,_)]) rfl) ?_)
 refine Aw (AA (Qi S1 μ3 m c (B+((EJ (Fe o.t)).length+9)) (hS1.le k3) hc _ (G3 n o.pl.ps,(n:Int)) hr (by rw [hp2]; exact hg) (X3 o.pl.ps Ax Ax) (by rw [hl1,hp2,hC]; exact X4 _) (by rw [hl1]; dsimp only; omega) Ax) rfl rfl AC) ?_
 rintro v26 L1 ⟨rfl,hQ⟩
 obtain ⟨S2,μ4,k4,hS2,hpl2,hsv2,hcl2,rfl⟩:=hQ
 refine Aj (Ad rfl (Ac (Ai rfl) (Ac (Ai rfl) (AX rfl (As [2,7,8,9,10] rfl rfl (A0 (Ad rfl (Ad rfl (Ac (Bp rfl rfl) (Ad rfl ?_))))))))))
 refine B7 32 rfl (fun h32=>?_) (fun h32=>by have:=of_decide_eq_false h32; omega)
 refine AQ rfl rfl (Ad rfl (AQ rfl rfl (Ad rfl (AQ rfl rfl (Ac (Bp rfl rfl) (Ac (B4 rfl rfl) (Ad rfl ?_)))))))
 refine B7 37 rfl (fun h37=>?_) (fun h37=>by have:=of_decide_eq_false h37; rw [hp2] at this; omega)
 refine AQ rfl rfl (Ad rfl (AQ rfl rfl (Ac (Bp rfl rfl) (Ac (B4 rfl rfl) (Ad rfl ?_)))))
 refine B7 41 rfl (fun h41=>?_) (fun h41=>by cases h41)
 refine AQ rfl rfl (Ad rfl (AQ rfl rfl (Ac (Bp rfl rfl) (Ac (B4 rfl rfl) (As [6] rfl rfl (Ar ?_))))))
 exact Aq (S2.L μ4) (.tmp rfl .nil) ⟨rfl,S2,μ4,(k1.trans k2).trans (k3.trans k4),hS2.up Ax,by rw [hpl2,hp1,hp2],hsv2.trans hsv1,hcl2,rfl⟩ AC
theorem NV {S:List StP}{i:Nat}{s:StP}(h:S[i]? = some s):(BV S)[i]? = some (G3 i s.ps):=by
 unfold BV
 rw [List.getElem?_map,IN h]; rfl
set_option maxHeartbeats 4000000 in
theorem TL (μ:PH)(v:Value)(xs:List StA)(hrow:Row μ v 5 xs.length (xs.flatMap Ji))(hok:∀ o∈xs,o.Ok μ)(hl:xs.length≤15):Spec prog 11 [v] [ro μ] (fun r L=>∃ μ' gv tv G,∃ T:List (Value×List En),Le μ μ'∧r=.tuple #[gv,tv]∧Graph μ' gv G∧EI G=BV (xs.map StA.pl)∧Row μ' tv 1 T.length (T.flatMap Zy)∧(∀ x∈T,Row μ' x.1 2 x.2.length (DC x.2))∧T.map (·.2)=F4 (xs.map StA.pl)∧L=[ro μ']):=by
 have hsm:=hrow.small
 refine Spec.of 30 func11 rfl rfl rfl ?_
 refine A0 (AX rfl (As [0] rfl rfl (A0 (As [0,4] rfl rfl (A0 (As [0,4,5] rfl rfl (Ae (A0 (Ad rfl (Ac (B2 hrow rfl) (Ad rfl (AE [4,5,8,9,10] rfl (Au (AP (own_nil_ent (e:=27) (n:=1)) (AP (own_nil_ent (e:=60) (n:=1)) ?_)))))))))))))))
 refine B0 (ι:=Nat×List (Value×List Int)×List (Value×List En)×PH×Value×Value) (fun z env L=>Sub env [(4,z.2.2.2.2.1),(5,z.2.2.2.2.2),(8,v),(9,.int .i64 (xs.length:Nat)),(10,.int .i64 (z.1:Nat))]∧Ent L [own 60 1 z.2.2.2.2.1 z.2.1.length (z.2.1.flatMap gcs),own 27 1 z.2.2.2.2.2 z.2.2.1.length (z.2.2.1.flatMap Zy),ro z.2.2.2.1]∧z.1≤xs.length∧Le μ z.2.2.2.1∧(∀ x∈z.2.1,Row z.2.2.2.1 x.1 1 x.2.length (x.2.flatMap (Bj .i64)))∧EI z.2.1=BV ((xs.map StA.pl).take z.1)∧(∀ x∈z.2.2.1,Row z.2.2.2.1 x.1 2 x.2.length (DC x.2))∧z.2.2.1.map (·.2)=F4 ((xs.map StA.pl).take z.1)) (fun z=>xs.length-z.1) (0,[],[],μ,.slice none 0 0,.slice none 0 0) ⟨⟨rfl,rfl,rfl,rfl,rfl,trivial⟩,by show Ent _ [own 60 1 (.slice none 0 0) 0 [],own 27 1 (.slice none 0 0) 0 [],ro μ]; exact Split.ent' AC,Nat.zero_le _,Le.refl _,fun x hx=>(by cases hx),rfl,fun x hx=>(by cases hx),rfl⟩ ?_
 rintro ⟨i,G,T,μi,gv,tv⟩ env L ⟨hsub,hE,hi,ki,hG,hGn,hT,hTn⟩
 dsimp only at hsub hE hi ki hG hGn hT hTn
 refine B3 _ hsub (AP hE ?_)
 clear hsub hE env L
 refine A0 (Ac (Bb rfl rfl) (AE [4,5,8,9,10,11] rfl (Ae ?_)))
 refine Ak rfl (fun h11=>?_) (fun h11=>?_)
 ·have h11':i<xs.length:=by have:=of_decide_eq_true h11; omega
  obtain ⟨o,ho⟩:∃ o,xs[i]? = some o:=⟨_,List.getElem?_eq_getElem h11'⟩
  have hoo:=hok o (List.mem_of_getElem? ho)
  obtain ⟨gb,off,cap,hv,_,_,hr0⟩:=(hrow.le ki).pos Ax
  have hra:=hr0.elem (f:=Ji) (n:=5) Ke ho
  have hpar:=fun μ' (k:Le μ μ')=>Pb μ' o (hoo.le k) i Ax
  obtain ⟨At,ct,eA⟩:=hoo.tr.sl
  obtain ⟨Ap,cp,eP⟩:=hoo.pr.sl
  have hcs:Ji o=[.slice At o.t.length ct,.slice Ap o.ps.length cp,.int .u8 o.ix,.int .u8 o.nm,.int .u16 o.at_]:=by unfold Ji; rw [eA,eP]
  have htr:=hoo.tr
  rw [eA] at htr
  rw [hcs] at hpar hra
  have hGl:G.length≤15:=by
   have:=congrArg List.length hGn
   rw [NP,List.length_map,List.length_take,List.length_map] at this
   omega
  have hTl:T.length≤15:=by
   have:=congrArg List.length hTn
   unfold F4 at this
   rw [List.length_map,List.length_map,List.length_take,List.length_map] at this
   omega
  have hpl:(xs.map StA.pl)[i]? = some o.pl:=by rw [List.getElem?_map,ho]; rfl
  refine Am (Af (Ae (Au (A0 (Ad rfl ?_)))))
  refine Ac (AB (off+i*5) (congrArg some hv) rfl Ax Ax (by rw [Int.toNat_natCast])) ?_
  refine AJ (CZ (vs:=[.slice At o.t.length ct,.slice Ap o.ps.length cp,.int .u8 o.ix,.int .u8 o.nm,.int .u16 o.at_]) rfl rfl hra) (Aw (AZ) (fun b7=>?_))
  refine AX rfl (B5 (AU rfl rfl rfl rfl) (AE [4,5,6,7,8,9,10] rfl (A0 (Ad rfl (AJ (BG (vs:=[.slice At o.t.length ct,.slice Ap o.ps.length cp,.int .u8 o.ix,.int .u8 o.nm,.int .u16 o.at_]) rfl rfl rfl) (Ad rfl ?_))))))
  refine Aw (AA (hpar μi ki) rfl rfl AC) ?_
  rintro v18 L1 rfl
  refine Aj ?_
  refine C5 (v:=v18) (μ:=μi) AC fun μ2 k2 hr=>?_
  obtain ⟨A18,c18,rfl⟩:=hr.sl
  refine Aw (Bg (qs:=[(0,_)]) rfl rfl rfl) fun b19=>?_
  refine Aw (B9 (l:=G.length) (m:=1) rfl rfl AC (by simp only [maxLen]; omega) Ax) ?_
  rintro v20 -
  skip
  refine As [4,5,7,8,9,10] rfl rfl (Al (Ad rfl (Ac (Ab rfl) (AJ (Ag rfl rfl) ?_))))
  refine Aw (AA (NT μ2 _ o.t (htr.le (ki.trans k2))) rfl rfl AC) ?_
  rintro v24 L1 ⟨μ3,k3,hrt,rfl⟩
  refine Aj ?_
  obtain ⟨A24,c24,rfl⟩:=hrt.sl
  refine Aw (Bg (qs:=[(0,_)]) rfl rfl rfl) fun b25=>?_
  refine Aw (B9 (l:=T.length) (m:=1) rfl rfl AC (by simp only [maxLen]; omega) Ax) ?_
  rintro v26 -
  skip
  refine AX rfl (Be [4,5,8,9,10] rfl (AH (AR (Af (Al (Ac (AO ((i+1:Nat):Int) rfl rfl Ax Ax Ax) (Ad rfl (Be [4,5,8,9,10] rfl (AH ?_)))))))))
  refine Af ⟨(i+1,G++[(.slice A18 (G3 i o.pl.ps).length c18,G3 i o.pl.ps)],T++[(.slice A24 (Fe o.t).length c24,Fe o.t)],μ3,v20,v26),⟨⟨rfl,rfl,rfl,rfl,rfl,trivial⟩,?_,h11',ki.trans (k2.trans k3),fun x hx=>?_,?_,fun x hx=>?_,?_⟩,by show xs.length-(i+1)<xs.length-i; omega⟩
  ·dsimp only
   rw [List.length_append,List.length_append,List.flatMap_append,List.flatMap_append]
   show Ent _ [own 60 1 v20 (G.length+1) (G.flatMap gcs++[.slice A18 (G3 i o.pl.ps).length c18]),own 27 1 v26 (T.length+1) (T.flatMap Zy++[.slice A24 (Fe o.t).length c24]),ro μ3]
   exact Split.ent' AC
  ·rcases List.mem_append.1 hx with hx | hx
   ·exact (hG x hx).le (k2.trans k3)
   ·rw [List.mem_singleton.1 hx]; exact hr.le k3
  ·dsimp only
   unfold EI
   rw [List.map_append,show G.map (·.2)=EI G from rfl,hGn,IP,IP,BE (NV hpl)]; rfl
  ·rcases List.mem_append.1 hx with hx | hx
   ·exact (hT x hx).le (k2.trans k3)
   ·rw [List.mem_singleton.1 hx]; exact hrt
  ·dsimp only
   rw [List.map_append,hTn,BE hpl]
   unfold F4
   rw [List.map_append]; rfl
 ·have h11':=of_decide_eq_false h11
  obtain rfl:i=xs.length:=by omega
  rw [show (xs.map StA.pl).take xs.length=xs.map StA.pl by rw [← List.length_map (f:=StA.pl),List.take_length]] at hGn hTn
  refine BC (v:=gv) (μ:=μi) AC fun μ2 k2 hr2=>?_
  refine BC (v:=tv) (μ:=μ2) AC fun μ3 k3 hr3=>?_
  refine AY (AS (AS (AV rfl (Af (A0 (Ad rfl (Ad rfl (AX rfl (As [2,3] rfl rfl (Ar ?_))))))))))
  exact Aq [ro μ3] (.tmp rfl (.tmp rfl .nil)) ⟨μ3,gv,tv,G,T,ki.trans (k2.trans k3),rfl,⟨hr2.le k3,fun x hx=>(hG x hx).le (k2.trans k3)⟩,hGn,hr3,fun x hx=>(hT x hx).le (k2.trans k3),hTn,rfl⟩ AC
theorem NW {β:Type}{f:β→List Value}{n:Nat}(hf:∀ e,(f e).length=n):∀ (es:List β) (k:Nat),(es.flatMap f).take (k*n)=(es.take k).flatMap f
 | [],k=>by rw [List.take_nil]; exact List.take_nil
 | e::es,0=>by rw [Nat.zero_mul]; rfl
 | e::es,k+1=>by
  rw [List.flatMap_cons,List.take_succ_cons,List.flatMap_cons,← NW hf es k,Nat.succ_mul,Nat.add_comm,List.take_append,hf,List.take_of_length_le (by rw [hf]; omega),show n+k*n-n=k*n by omega]
theorem BTab.le{μ μ':PH}{v:Value}{N:Nat}{g:List (List Int)}{vs:List Value}(h:BTab μ v N g vs)(k:Le μ μ'):BTab μ' v N g vs:=⟨h.row.le k,fun i x hx=>(h.at_ i x hx).le k⟩
section
variable (S:SvW) (s:Nat) (μ2:PH)
abbrev AL (cl:List Nd)(μ:PH):List AF:=[Hu s S.pw S.W.q S.ps S.px S.be S.bu S.pa,F6 S.pa 64 cl,S.vw.A,FSA S.W.q S.d,ro μ]
theorem A28(h:S.sv=s):Ent (S.L μ2) (AL S s S.cl μ2):=by
 subst h
 exact (Split.ent' (K:=[B1 S.pw 102 [pv S.ps,pv S.px],xB S.px S.W.q S.lv S.gv,Cy S.ps S.W,Df S.W,Dc S.W,Hu S.sv S.pw S.W.q S.ps S.px S.be S.bu S.pa,F6 S.pa 64 S.cl,FSA S.W.q S.d,ro μ2]) AC).trans ((VWt.close (X:=S.vw)).trans (Split.ent' AC))
theorem A0x(h:S.sv=s)(cl:List Nd):Ent (AL S s cl μ2) (SvW.L { S with cl:=cl} μ2):=by
 subst h
 refine (Split.ent' (K:=[S.vw.A,Hu S.sv S.pw S.W.q S.ps S.px S.be S.bu S.pa,F6 S.pa 64 cl,FSA S.W.q S.d,ro μ2]) AC).trans ?_
 refine QQ fun _=>?_
 show Ent [B1 S.pw 102 [pv S.ps,pv S.px],xB S.px S.W.q S.lv S.gv,Cy S.ps S.W,Df S.W,Dc S.W,Hu S.sv S.pw S.W.q S.ps S.px S.be S.bu S.pa,F6 S.pa 64 cl,FSA S.W.q S.d,ro μ2] _
 exact Split.ent' AC
def A29 (q:Qn)(e:Int)(y:Bool)(ids:List Int):Prop:=∀ μ' cl (A:Option Addr) (ci:Nat),Le μ2 μ'→CaOk (fA S.vw.g) μ' cl→Row μ' (.slice A q.ids.length ci) 1 q.ids.length (q.ids.flatMap (Bj .i64)) →
 Spec prog 13 [pv s,.agg (Qf q (.slice A q.ids.length ci)).toArray] [Hu s S.pw S.W.q S.ps S.px S.be S.bu S.pa,F6 S.pa 64 cl,S.vw.A,ro μ'] (fun r L=>∃ μ'' cl' A' c' A2 c2,Le μ' μ''∧CaOk (fA S.vw.g) μ'' cl'∧r=.agg #[.int .i64 e,.bool y,.int .i64 0,.slice A' ids.length c',.slice A2 0 c2]∧L=[own 3 1 (.slice A' ids.length c') ids.length (ids.flatMap (Bj .i64)),Hu s S.pw S.W.q S.ps S.px S.be S.bu S.pa,F6 S.pa 64 cl',S.vw.A,ro μ''])
theorem Je (h:S.sv=s)(hX:S.vw.Ok μ2)(hT:RowAt μ2 2 0 tabV){q:Qn}(hk:KQ q)(hq:q.Ok){e:Int}{y:Bool}{ids:List Int}(hf:fA S.vw.g q=⟨e,y,0,ids,[]⟩):A29 S s μ2 q e y ids:=fun μ' cl A ci k hc hi=>by
 subst h
 have h1:=X0 S μ' (hX.le k) (hT.le k) cl hc q hk hq A ci hi
 rw [hf] at h1
 refine Spec.ent3 h1 fun r L ⟨μ'',cl',i,t,a1,a2,a3,a4⟩=>⟨_,?_,μ'',cl',i.1,i.2,t.1,t.2,a1,a2,a3,rfl⟩
 rw [a4]
 show Ent [own 3 1 (.slice i.1 ids.length i.2) ids.length (ids.flatMap (Bj .i64)),own 111 2 (.slice t.1 0 t.2) 0 [],Hu S.sv S.pw S.W.q S.ps S.px S.be S.bu S.pa,F6 S.pa 64 cl',S.vw.A,ro μ''] _
 exact Split.ent' AC
end
theorem SvW.Ok.up22{S:SvW}{μ:PH}{m c B:Nat}(h:S.Ok μ m c B):S.Ok μ (m+22) (c+1) B:=⟨h.x.up,h.w,h.s,h.dead,h.log⟩
theorem LD (S:List StP)(k:Nat):F4 (S.take k)=(F4 S).take k:=by unfold F4; rw [List.map_take]
theorem TM (S:List StP):(F4 S).length=S.length:=by unfold F4; rw [List.length_map]
abbrev A2a (μ:PH)(r:Value)(L:List AF):Prop:=r=.bool true∧∃ μ' R,Le μ μ'∧L=ro μ'::R
set_option maxHeartbeats 40000000 in
theorem wa_spec(μ:PH)(hs:SynOk μ)(hT:RowAt μ 2 0 tabV)(v:Value)(xs0:List StA)(hrow0:Row μ v 5 xs0.length (xs0.flatMap Ji))(hok0:∀ o∈xs0,o.Ok μ):Spec prog 4 [v] [ro μ] (A2a μ):=by
 obtain ⟨w,hrow,hsl⟩:=Row.hi (P:=prog) (t:=22) hrow0 (min xs0.length 12) (Nat.min_le_left _ _)
 rw [NW Ke] at hrow
 obtain ⟨xs,hxs⟩:∃ xs,xs=xs0.take (min xs0.length 12):=⟨_,rfl⟩
 have hxl:xs.length=min xs0.length 12:=by rw [hxs,List.length_take]; omega
 have hok:∀ o∈xs,o.Ok μ:=fun o ho=>hok0 o (by rw [hxs] at ho; exact List.mem_of_mem_take ho)
 rw [← hxs,← hxl] at hrow
 have hN:xs.length≤12:=by omega
 obtain ⟨Pl,hPl⟩:∃ Pl,Pl=xs.map StA.pl:=⟨_,rfl⟩
 have hPn:Pl.length=xs.length:=by rw [hPl,List.length_map]
 have hg:Fo (BV Pl):=RD Ax
 have hgl:(BV Pl).length=xs.length:=by rw [NP,hPn]
 refine Spec.of 181 func4 rfl rfl rfl ?_
 refine A0 (As [0] rfl rfl (A0 (Ad rfl (Ad rfl (Ac (B2 hrow0 rfl) (Ac (Ep rfl rfl) (Ac (hsl _ _ _ .i64 _ rfl rfl Ax) (As [0] rfl rfl (A0 ?_)))))))))
 refine Aw (AA (Qj μ) rfl rfl AC) ?_
 rintro v26 L1 ⟨S0,μ1,k1,hS0,hp0,hc0,rfl,rfl⟩
 refine Aj (Ad rfl (Ac (Ai rfl) (Ac (Ai rfl) (AX rfl (As [0,4] rfl rfl (Ae (A0 (Ad rfl (Ac (Bd rfl rfl) (AE [0,4,30] rfl (Dz rfl (Am (Af (A0 (Ad rfl ?_)))))))))))))))
 refine Aw (AA (TL μ1 w xs (hrow.le k1) (fun o ho=>(hok o ho).le k1) Ax) rfl rfl AC) ?_
 rintro v33 L1 ⟨μ2,gv,tv0,G,T,k2,rfl,hG,hGn,-,-,-,rfl⟩
 refine Aj (Ad rfl (Ac (Ai rfl) (Ac (Ai rfl) (AX rfl (As [0,4,5] rfl rfl (Ae ?_))))))
 rw [← hPl] at hGn
 have hGl:G.length=xs.length:=by rw [← hgl,← hGn]; exact (List.length_map _).symm
 have hGp:∀ x∈G,x.2.length≤16:=fun x hx=>by
  obtain ⟨i,hi⟩:=List.getElem?_of_mem hx
  have hlt:=(List.getElem?_eq_some_iff.1 hi).1
  obtain ⟨sp,hsp⟩:∃ sp,Pl[i]? = some sp:=⟨_,List.getElem?_eq_getElem Ax⟩
  have h1:(EI G)[i]? = some x.2:=by unfold EI; rw [List.getElem?_map,hi]; rfl
  rw [hGn,NV hsp] at h1
  rw [← Option.some.inj h1]
  exact (Gb _ _).2
 refine Al (Ad rfl ?_)
 refine Aw (AA (RH μ2 gv G hG (by rw [hGn]; exact hg) Ax hGp) rfl rfl AC) ?_
 rintro tv L1 ⟨μ3,vs,k3,hvl,hB,rfl⟩
 refine Aj (As [0,4,7] rfl rfl (Ae (Ae ?_)))
 rw [hGn] at hB
 rw [hGl] at hB hvl
 clear hGp hGl hG hGn
 have k13:=(k1.trans k2).trans k3
 obtain ⟨s,hs0⟩:∃ s,S0.sv=s:=⟨_,rfl⟩
 rw [hs0]
 refine Al (Ad rfl (Ac (B2 hrow rfl) (Ad rfl (AE [4,7,38,39,40] rfl (Au ?_)))))
 refine B0 (ι:=Nat×SvW×PH) (fun z env L=>Sub env [(4,pv s),(7,tv),(38,w),(39,.int .i64 (xs.length:Nat)),(40,.int .i64 (z.1:Nat))]∧Ent L (z.2.1.L z.2.2)∧z.1≤xs.length∧Le μ3 z.2.2∧z.2.1.Ok z.2.2 (1+22*z.1) z.1 (8000*z.1)∧z.2.1.W.pl=(F4 (Pl.take z.1),IM (Pl.take z.1))∧z.2.1.sv=s) (fun z=>xs.length-z.1) (0,S0,μ3) ⟨⟨rfl,rfl,rfl,rfl,rfl,trivial⟩,by show Ent _ (S0.L μ3); rw [← hs0]; exact Split.ent' AC,Nat.zero_le _,Le.refl _,hS0.le (k2.trans k3),hp0,hs0⟩ ?_
 rintro ⟨i,S,μi⟩ env L ⟨hsub,hE,hi,ki,hS,hSp,hSs⟩
 dsimp only at hsub hE hi ki hS hSp hSs
 refine B3 _ hsub (AP hE ?_)
 clear hsub hE env L
 refine A0 (Ac (Bb rfl rfl) (AE [4,7,38,39,40,41] rfl (Ae ?_)))
 refine Ak rfl (fun h41=>?_) (fun h41=>?_)
 ·have h41':i<xs.length:=by have:=of_decide_eq_true h41; omega
  obtain ⟨o,ho⟩:∃ o,xs[i]? = some o:=⟨_,List.getElem?_eq_getElem h41'⟩
  have hoo:=(hok o (List.mem_of_getElem? ho)).le (k13.trans ki)
  have hpo:Pl[i]? = some o.pl:=by rw [hPl,List.getElem?_map,ho]; rfl
  have hTl:S.W.pl.1.length=i:=by rw [hSp]; dsimp only; rw [TM,List.length_take]; omega
  have hCl:S.W.pl.2.length=i:=by rw [hSp]; dsimp only; rw [EG,List.length_take]; omega
  have hC1:S.W.pl.2++[(G3 i o.pl.ps,(i:Int))]=IM (Pl.take (i+1)):=by rw [hSp]; dsimp only; rw [K0,K0,BE (IN hpo)]
  have hT1:S.W.pl.1++[Fe o.t]=F4 (Pl.take (i+1)):=by rw [hSp]; dsimp only; rw [LD,LD,BE (R:=F4 Pl) (r:=Fe o.t) (by unfold F4; rw [List.getElem?_map,hpo]; rfl)]
  obtain ⟨gb,off,cap,hv,_,_,hr0⟩:=(hrow.le (k13.trans ki)).pos Ax
  have hra:=hr0.elem (f:=Ji) (n:=5) Ke ho
  obtain ⟨At,ct,eA⟩:=hoo.tr.sl
  obtain ⟨Ap,cp,eP⟩:=hoo.pr.sl
  have hcs:Ji o=[.slice At o.t.length ct,.slice Ap o.ps.length cp,.int .u8 o.ix,.int .u8 o.nm,.int .u16 o.at_]:=by unfold Ji; rw [eA,eP]
  have hadd:=X5 S μi (1+22*i) i (8000*i) i hS Ax o hoo Ax hTl hCl (by rw [hC1]; exact RC (by rw [List.length_take]; omega)) (by simp only [F7]; omega)
  rw [hC1,hT1,hSs,hcs] at hadd
  rw [hcs] at hra
  refine Am (Af (Ae (Au (A0 (Ad rfl ?_)))))
  refine Ac (AB (off+i*5) (congrArg some hv) rfl Ax Ax (by rw [Int.toNat_natCast])) ?_
  refine AJ (CZ (vs:=[.slice At o.t.length ct,.slice Ap o.ps.length cp,.int .u8 o.ix,.int .u8 o.nm,.int .u16 o.at_]) rfl rfl hra) (Aw (AZ) (fun b9=>?_))
  refine AX rfl (B5 (AU rfl rfl rfl rfl) (AE [4,7,8,9,38,39,40] rfl (Ae (A0 (Ad rfl (AJ (BG (vs:=[.slice At o.t.length ct,.slice Ap o.ps.length cp,.int .u8 o.ix,.int .u8 o.nm,.int .u16 o.at_]) rfl rfl rfl) (Ad rfl ?_)))))))
  refine Aw (AA hadd rfl rfl AC) ?_
  rintro v48 L1 ⟨rfl,hQ⟩
  obtain ⟨S1,μa,ka,hS1,hp1,hs1,hc1,rfl⟩:=hQ
  rw [hSs] at hs1
  refine Aj (Ac (BO rfl) (AE [4,7,8,9,38,39,40,49] rfl (Dz rfl (Am (Af (A0 (As [4,7,8,9,10,38,39,40] rfl rfl ?_)))))))
  refine Cb (fun env L=>∃ S2 μb,Sub env [(4,pv s),(7,tv),(8,.int .i64 (i:Nat)),(10,.int .i64 0),(38,w),(39,.int .i64 (xs.length:Nat)),(40,.int .i64 (i:Nat))]∧Ent L (S2.L μb)∧Le μa μb∧SvW.Ok S2 μb (1+22*i+22) (i+1) (8000*i+8000)∧S2.W.pl=(F4 (Pl.take (i+1)),IM (Pl.take (i+1)))∧S2.sv=s∧S2.cl=[]) ?_ ?_
  ·refine Ae ?_
   have hcl1:1≤S1.W.pl.2.length:=by rw [hp1]; dsimp only; rw [EG,List.length_take]; omega
   have hsy:SynOk μa:=hs.le (k13.trans (ki.trans ka))
   have hupd:=WX S1 μa (1+22*i) i (8000*i+8000) hS1 hsy hcl1 Ax Ax
   have hcmp:=WY S1 μa (1+22*i) i (8000*i+8000) hS1 hsy hcl1 Ax Ax
   have hrel:=WZ S1 μa (1+22*i) i (8000*i+8000) hS1 Ax
   rw [hs1] at hupd hcmp hrel
   refine Al (Ac (Ab rfl) (AJ (Ag rfl rfl) ?_))
   refine Ac (RP rfl rfl (by decide)) ?_
   refine AE [4,7,8,10,38,39,40,52] rfl (Au (Ae (A0 (Ac (Bp rfl rfl) (As [4,7,8,10,38,39,40,52,53] rfl rfl ?_)))))
   refine Ak rfl (fun h53=>?_) (fun h53=>?_)
   ·have q53:=h53
    refine Am (Af ?_)
    refine Ak rfl (fun h53=>?_) (fun h53=>by rw [q53] at h53; cases h53)
    refine Al (Ad rfl ?_)
    refine Aw (AA hupd rfl rfl AC) ?_
    rintro v57 L1 ⟨rfl,hQ⟩
    obtain ⟨S2,μb,kb,hS2,hp2,hs2,hc2,rfl⟩:=hQ
    refine Aj (AX rfl (Be [4,7,8,10,38,39,40] rfl (AH (AR ?_))))
    exact Af ⟨S2,μb,⟨rfl,rfl,rfl,rfl,rfl,rfl,rfl,trivial⟩,Split.ent' AC,kb,hS2,hp2.trans hp1,hs2.trans hs1,hc2⟩
   ·refine Al (Ac (Bp rfl rfl) (As [4,7,8,10,38,39,40,52,53] rfl rfl ?_))
    refine Ak rfl (fun h53=>?_) (fun h53=>?_)
    ·refine Al (Ad rfl ?_)
     refine Aw (AA hupd rfl rfl AC) ?_
     rintro v57 L1 ⟨rfl,hQ⟩
     obtain ⟨S2,μb,kb,hS2,hp2,hs2,hc2,rfl⟩:=hQ
     refine Aj (AX rfl (Be [4,7,8,10,38,39,40] rfl (AH (AR ?_))))
     exact Af ⟨S2,μb,⟨rfl,rfl,rfl,rfl,rfl,rfl,rfl,trivial⟩,Split.ent' AC,kb,hS2,hp2.trans hp1,hs2.trans hs1,hc2⟩
    ·refine A0 (Ac (Bp rfl rfl) (As [4,7,8,10,38,39,40,52,58] rfl rfl ?_))
     refine Ak rfl (fun h58=>?_) (fun h58=>?_)
     ·refine Al (Ad rfl ?_)
      refine Aw (AA hcmp rfl rfl AC) ?_
      rintro v61 L1 ⟨rfl,hQ⟩
      obtain ⟨S2,μb,kb,hS2,hp2,hs2,hc2,rfl⟩:=hQ
      refine Aj (AX rfl (Be [4,7,8,10,38,39,40] rfl (AH (AR ?_))))
      exact Af ⟨S2,μb,⟨rfl,rfl,rfl,rfl,rfl,rfl,rfl,trivial⟩,Split.ent' AC,kb,hS2,hp2.trans hp1,hs2.trans hs1,hc2⟩
     ·refine A0 (Ac (Bp rfl rfl) (As [4,7,8,10,38,39,40,62] rfl rfl ?_))
      refine Ak rfl (fun h62=>?_) (fun h62=>?_)
      ·refine Al (Ad rfl ?_)
       refine Aw (AA hrel rfl rfl AC) ?_
       rintro v65 L1 ⟨rfl,hQ⟩
       obtain ⟨S2,μb,kb,hS2,hp2,hs2,hc2,rfl⟩:=hQ
       refine Aj (AX rfl (Be [4,7,8,10,38,39,40] rfl (AH (AR ?_))))
       exact Af ⟨S2,μb,⟨rfl,rfl,rfl,rfl,rfl,rfl,rfl,trivial⟩,Split.ent' AC,kb,hS2.up22,hp2.trans hp1,hs2.trans hs1,hc2⟩
      ·refine Am (AR ?_)
       exact Af ⟨S1,μa,⟨rfl,rfl,rfl,rfl,rfl,rfl,rfl,trivial⟩,Split.ent' AC,Le.refl _,hS1.up22,hp1,hs1,hc1⟩
  rintro env L ⟨S2,μb,hsub,hE,kb,hS2,hp2,hs2,hc2⟩
  refine B3 _ hsub (AP hE ?_)
  clear hsub hE env L hadd
  have kb3:=ki.trans (ka.trans kb)
  have hTb:RowAt μb 2 0 tabV:=hT.le (k13.trans kb3)
  have hX:=hS2.vok
  have hgg:S2.vw.g=(BV Pl).take (i+1):=by
   show S2.W.pl.2.map (·.1)=_
   rw [hp2,← IP]; rfl
  have hn1:i+1≤(BV Pl).length:=by omega
  refine AP (A28 S2 s μb hs2) ?_
  rw [hc2]
  refine Ae (A0 (Ad rfl (Ac (Bm rfl rfl) (AE [4,7,8,38,39,40,67] rfl (Dz rfl (Am (Af (Ae (A0 (Ad rfl (Ac (AO ((i+1:Nat):Int) rfl rfl Ax Ax Ax) (Ad rfl (AE [4,7,8,38,39,40,69,70] rfl (Au ?_))))))))))))))
  refine B0 (ι:=Nat×List Nd×PH) (fun z env L=>Sub env [(4,pv s),(7,tv),(8,.int .i64 (i:Nat)),(38,w),(39,.int .i64 (xs.length:Nat)),(40,.int .i64 (i:Nat)),(69,.int .i64 ((i+1:Nat):Int)),(70,.int .i64 (z.1:Nat))]∧Ent L (AL S2 s z.2.1 z.2.2)∧z.1≤i+1∧Le μb z.2.2∧CaOk (fA S2.vw.g) z.2.2 z.2.1) (fun z=>i+1-z.1) (0,[],μb) ⟨⟨rfl,rfl,rfl,rfl,rfl,rfl,rfl,rfl,trivial⟩,Ent.refl _,Nat.zero_le _,Le.refl _,fun y hy=>(by cases hy)⟩ ?_
  rintro ⟨a,cl,μc⟩ env L ⟨hsub,hE,ha,kc,hca⟩
  dsimp only at hsub hE ha kc hca
  refine B3 _ hsub (AP hE ?_)
  clear hsub hE env L
  refine A0 (Ac (Bb rfl rfl) (AE [4,7,8,38,39,40,69,70,71] rfl (Ae ?_)))
  refine Ak rfl (fun h71=>?_) (fun h71=>?_)
  ·have h71':a<i+1:=by have:=of_decide_eq_true h71; omega
   refine Am (Af (Ae (Au (A0 (Ad rfl (As [4,7,8,11,38,39,40,69,70] rfl rfl (A0 (As [4,7,8,11,12,38,39,40,69,70] rfl rfl (Ae (A0 (Ad rfl (Ac (AO ((i+1:Nat):Int) rfl rfl Ax Ax Ax) (Ad rfl (AE [4,7,8,11,12,38,39,40,69,70,74,75] rfl (Au (AP (own_nil_ent (e:=3) (n:=1)) ?_))))))))))))))))
   refine B0 (ι:=Nat×List Nd×PH×Value) (fun z env L=>Sub env [(4,pv s),(7,tv),(8,.int .i64 (i:Nat)),(11,.int .i64 (a:Nat)),(12,z.2.2.2),(38,w),(39,.int .i64 (xs.length:Nat)),(40,.int .i64 (i:Nat)),(69,.int .i64 ((i+1:Nat):Int)),(70,.int .i64 (a:Nat)),(74,.int .i64 ((i+1:Nat):Int)),(75,.int .i64 (z.1:Nat))]∧Ent L (own 3 1 z.2.2.2 (Bu z.1 (up (BV Pl) a)).length ((Bu z.1 (up (BV Pl) a)).flatMap (Bj .i64))::AL S2 s z.2.1 z.2.2.1)∧z.1≤i+1∧Le μc z.2.2.1∧CaOk (fA S2.vw.g) z.2.2.1 z.2.1) (fun z=>i+1-z.1) (0,cl,μc,.slice none 0 0) ⟨⟨rfl,rfl,rfl,rfl,rfl,rfl,rfl,rfl,rfl,rfl,rfl,rfl,trivial⟩,by show Ent _ (own 3 1 (.slice none 0 0) 0 []::AL S2 s cl μc); exact Split.ent' AC,Nat.zero_le _,Le.refl _,hca⟩ ?_
   rintro ⟨b,cl2,μd,wv⟩ env L ⟨hsub,hE,hb,kd,hcb⟩
   dsimp only at hsub hE hb kd hcb
   refine B3 _ hsub (AP hE ?_)
   clear hsub hE env L
   refine A0 (Ac (Bb rfl rfl) (AE [4,7,8,11,12,38,39,40,69,70,74,75,76] rfl (Ae ?_)))
   refine Ak rfl (fun h76=>?_) (fun h76=>?_)
   ·have h76':b<i+1:=by have:=of_decide_eq_true h76; omega
    have hq1:=Je S2 s μb hs2 hX hTb (KQ.anc b a) (qok (q:=⟨1,b,a,[],0⟩) (fun x hx=>by simp only [Qn.all,List.mem_cons,List.not_mem_nil,or_false] at hx; omega) (Nat.zero_le _)) (by rw [hgg]; exact A1w hg hn1 h71' h76')
    have hq2:=Je S2 s μb hs2 hX hTb (KQ.bases a b) (qok (q:=⟨4,a,b,[],0⟩) (fun x hx=>by simp only [Qn.all,List.mem_cons,List.not_mem_nil,or_false] at hx; omega) (Nat.zero_le _)) (by rw [hgg]; exact Zp hg hn1 h71' h76')
    have hwl:(Bu b (up (BV Pl) a)).length≤16:=by have:=IL b (up (BV Pl) a); omega
    have hws:=NU b (up (BV Pl) a)
    refine Am (Af (Ae (Au (A0 (Ad rfl (As [4,7,8,11,12,13,38,39,40,69,70,74,75] rfl rfl (A0 (Ad rfl (Ad rfl (Ad rfl (Ac (Bo (qs:=[(0,_),(1,_),(2,_)]) rfl) ?_)))))))))))
    refine Aw (AA (hq1 μd cl2 none 0 (kc.trans kd) hcb (Row.nil _ _)) rfl rfl AC) ?_
    rintro v82 L1 ⟨μe,cl3,A1,c1,A2,c2,ke,hcc,rfl,rfl⟩
    refine Aj (Aw (AZ) (fun b14=>?_))
    refine B5 (AU rfl rfl rfl rfl) (AE [4,7,8,11,12,13,14,38,39,40,69,70,74,75] rfl (A0 (Ad rfl (Ad rfl (Ad rfl (Ac (Bo (qs:=[(0,_),(1,_),(2,_)]) rfl) ?_))))))
    refine Aw (AA (hq2 μe cl3 none 0 (kc.trans (kd.trans ke)) hcc (Row.nil _ _)) rfl rfl AC) ?_
    rintro v87 L1 ⟨μf,cl4,A3,c3,A4,c4,kf,hcd,rfl,rfl⟩
    refine Aj (Aw (AZ) (fun b15=>?_))
    refine B5 (AU rfl rfl rfl rfl) (AE [4,7,8,11,12,13,14,15,38,39,40,69,70,74,75] rfl (Ae (Ae ?_)))
    refine AP (Split.ent' (K:=[B1 b15 62 [.int .i64 0,.bool false,.int .i64 0,.slice A3 (Bu (i+1) (DS (BV Pl) (i+1) a b)).length c3,.slice A4 0 c4],B1 b14 62 [.int .i64 0,.bool (up (BV Pl) a b),.int .i64 0,.slice A1 ([]:List Int).length c1,.slice A2 0 c2],ro μf,own 3 1 (.slice A3 (Bu (i+1) (DS (BV Pl) (i+1) a b)).length c3) (Bu (i+1) (DS (BV Pl) (i+1) a b)).length ((Bu (i+1) (DS (BV Pl) (i+1) a b)).flatMap (Bj .i64)),Hu s S2.pw S2.W.q S2.ps S2.px S2.be S2.bu S2.pa,F6 S2.pa 64 cl4,S2.vw.A,FSA S2.W.q S2.d,own 3 1 wv (Bu b (up (BV Pl) a)).length ((Bu b (up (BV Pl) a)).flatMap (Bj .i64))]) AC) ?_
    have kf3:=kb3.trans (kc.trans (kd.trans (ke.trans kf)))
    have hBf:=hB.le kf3
    obtain ⟨vb,vo,vcap,xa,xb,xo,xc,hvv,hva,hxa,hcell⟩:=Lf hBf (a:=a) (c:=b) Ax Ax
    obtain ⟨tv1,htr,hts⟩:=Row.hi (P:=prog) (t:=58) hBf.row (i+1) Ax
    obtain ⟨vs1,hvs1⟩:∃ vs1,vs1=vs.take (i+1):=⟨_,rfl⟩
    have hvl1:vs1.length=i+1:=by rw [hvs1,List.length_take]; omega
    rw [Nat.mul_one,← hvs1,← hvl1] at htr
    have hB1:BTab μf tv1 xs.length (BV Pl) vs1:=⟨htr,fun j x hx=>hBf.at_ j x (by
     rw [hvs1] at hx
     by_cases hj:j<i+1
     ·rwa [List.getElem?_take_of_lt hj] at hx
     ·rw [List.getElem?_take_eq_none Ax] at hx; cases hx)⟩
    have hbest:=TJ μf tv1 xs.length (BV Pl) vs1 hB1 Ax Ax a b Ax Ax
    rw [hvl1] at hbest
    have hl16:(Bu (i+1) (DS (BV Pl) (i+1) a b)).length≤16:=by have:=IL (i+1) (DS (BV Pl) (i+1) a b); omega
    refine Ba [1,5,10,14,17,22] ([B1 b15 62 [.int .i64 0,.bool false,.int .i64 0,.slice A3 (Bu (i+1) (DS (BV Pl) (i+1) a b)).length c3,.slice A4 0 c4],B1 b14 62 [.int .i64 0,.bool (up (BV Pl) a b),.int .i64 0,.slice A1 ([]:List Int).length c1,.slice A2 0 c2],ro μf]) ([own 3 1 (.slice A3 (Bu (i+1) (DS (BV Pl) (i+1) a b)).length c3) (Bu (i+1) (DS (BV Pl) (i+1) a b)).length ((Bu (i+1) (DS (BV Pl) (i+1) a b)).flatMap (Bj .i64)),Hu s S2.pw S2.W.q S2.ps S2.px S2.be S2.bu S2.pa,F6 S2.pa 64 cl4,S2.vw.A,FSA S2.W.q S2.d,own 3 1 wv (Bu b (up (BV Pl) a)).length ((Bu b (up (BV Pl) a)).flatMap (Bj .i64))]) (Split.ent AC) AK ?_
    refine AD 0 rfl (Ab rfl) (Bc 1 rfl (Ag rfl rfl) rfl (AD 2 rfl (Bm rfl rfl) (AD 3 rfl (AG rfl) ?_)))
    refine DH 91 rfl (fun h91=>by cases h91) (fun h91=>?_)
    refine Bh 4 rfl rfl rfl (Ab rfl) AK AK AK (CJ 5 rfl rfl rfl (Ag rfl rfl) rfl AK AK AK (Bh 6 rfl rfl rfl (Bm rfl rfl) AK AK AK (AD 7 rfl (AT rfl rfl) (AD 8 rfl (AG rfl) ?_))))
    refine DH 96 rfl (fun h96=>by cases h96) (fun h96=>?_)
    refine Bh 9 rfl rfl rfl (Ab rfl) AK AK AK (CJ 10 rfl rfl rfl (Ag rfl rfl) rfl AK AK AK (Bh 11 rfl rfl rfl (AG rfl) AK AK AK (Bh 12 rfl rfl rfl (AG rfl) AK AK AK ?_)))
    refine Bh 13 rfl rfl rfl (AB (vo+a*1) (congrArg some hvv) rfl Ax Ax (by rw [Int.toNat_natCast])) AK AK AK ?_
    refine CJ 14 rfl rfl rfl (C3 rfl hva) rfl AK AK AK (Bh 15 rfl rfl rfl (AG rfl) AK AK AK ?_)
    refine Bh 16 rfl rfl rfl (AB (xo+b*1) (congrArg some hxa) rfl Ax Ax (by rw [Int.toNat_natCast])) AK AK AK ?_
    refine CJ 17 rfl rfl rfl (C3 rfl hcell) rfl AK AK AK (Bh 18 rfl rfl rfl (S4 rfl rfl) AK AK AK (AD 19 rfl (AT rfl rfl) (AD 20 rfl (AG rfl) ?_)))
    refine DH 108 rfl (fun h108=>by simp at h108) (fun h108=>?_)
    refine Bh 21 rfl rfl rfl (Ab rfl) AK AK AK (CJ 22 rfl rfl rfl (Ag rfl rfl) rfl AK AK AK (Bh 23 rfl rfl rfl (AG rfl) AK AK AK (Bh 24 rfl rfl rfl (AG rfl) AK AK AK (Bh 25 rfl rfl rfl (AO ((i+1:Nat):Int) rfl rfl Ax Ax Ax) AK AK AK (Bh 26 rfl rfl rfl (hts _ _ _ .i64 _ rfl rfl rfl) AK AK AK (Bh 27 rfl rfl rfl (AG rfl) AK AK AK (Bh 28 rfl rfl rfl (AG rfl) AK AK AK (FG [29] AK rfl ?_))))))))
    refine E3 29 rfl (GOn.some rfl rfl) (AA hbest rfl rfl AC) ?_
    rintro v117 L1 rfl
    refine ⟨_,BL (Split.ent AC),?_⟩
    refine FG [30] AK rfl ?_
    refine Pk 30 rfl (GOn.some rfl rfl) AK (AA (RE _ v117 (Bu (i+1) (DS (BV Pl) (i+1) a b)) (Bu (i+1) (DS (BV Pl) (i+1) a b)) Ax Ax) rfl rfl AC) ?_
    rintro v118 L1 ⟨rfl,rfl⟩
    refine Cc (Bh 31 rfl rfl rfl (BO rfl) AK AK AK (AD 32 rfl (AT rfl rfl) (C0 [4,7,8,11,12,13,38,39,40,69,70,74,75,120] rfl (Bs AK (Af ?_)))))
    refine Ak rfl (fun h120=>by simp at h120) (fun h120=>?_)
    refine Am (Af (A0 (Ad rfl (Ad rfl ?_))))
    refine Ac (AB (vo+a*1) (congrArg some hvv) rfl Ax Ax (by rw [Int.toNat_natCast])) ?_
    refine AJ (C3 rfl hva) (Ad rfl ?_)
    refine Ac (AB (xo+b*1) (congrArg some hxa) rfl Ax Ax (by rw [Int.toNat_natCast])) ?_
    refine AJ (C3 rfl hcell) (AE [4,7,8,11,12,13,38,39,40,69,70,74,75,127] rfl ?_)
    refine Ak rfl (fun h127=>?_) (fun h127=>?_)
    ·refine Al (Ad rfl (Ad rfl (Aw (Bg (qs:=[(0,_)]) rfl rfl rfl) (fun b130=>?_))))
     refine Aw (B9 (l:=(Bu b (up (BV Pl) a)).length) (m:=1) rfl rfl AC (by simp only [maxLen]; omega) Ax) ?_
     rintro v131 -
     skip
     refine AX rfl (Be [4,7,8,11,12,38,39,40,69,70,74,75] rfl (AH (AR (Af (Al (Ac (AO ((b+1:Nat):Int) rfl rfl Ax Ax Ax) (Ad rfl (Be [4,7,8,11,12,38,39,40,69,70,74,75] rfl (AH ?_)))))))))
     refine Af ⟨(b+1,cl4,μf,v131),⟨⟨rfl,rfl,rfl,rfl,rfl,rfl,rfl,rfl,rfl,rfl,rfl,rfl,trivial⟩,?_,h76',kd.trans (ke.trans kf),hcd⟩,by show i+1-(b+1)<i+1-b; omega⟩
     dsimp only
     rw [hws,if_pos h127,List.length_append,List.flatMap_append]
     show Ent _ (own 3 1 v131 ((Bu b (up (BV Pl) a)).length+1) ((Bu b (up (BV Pl) a)).flatMap (Bj .i64)++[.int .i64 (b:Nat)])::AL S2 s cl4 μf)
     exact Split.ent' AC
    ·refine Am (AR (Af (Al (Ac (AO ((b+1:Nat):Int) rfl rfl Ax Ax Ax) (Ad rfl (Be [4,7,8,11,12,38,39,40,69,70,74,75] rfl (AH ?_)))))))
     refine Af ⟨(b+1,cl4,μf,wv),⟨⟨rfl,rfl,rfl,rfl,rfl,rfl,rfl,rfl,rfl,rfl,rfl,rfl,trivial⟩,?_,h76',kd.trans (ke.trans kf),hcd⟩,by show i+1-(b+1)<i+1-b; omega⟩
     dsimp only
     rw [hws,if_neg (by rw [h127]; decide),List.append_nil]
     exact Split.ent' AC
   ·have h76':=of_decide_eq_false h76
    obtain rfl:b=i+1:=by omega
    have hq3:=Je S2 s μb hs2 hX hTb (KQ.reach [(a:Int)]) (qok (q:=⟨2,0,0,[(a:Int)],0⟩) (fun x hx=>by simp only [Qn.all,List.mem_cons,List.not_mem_nil,or_false] at hx; omega) (show 1≤1000 by omega)) (by rw [hgg]; exact Zo hg hn1 h71')
    have hwl:(Bu (i+1) (up (BV Pl) a)).length≤16:=by have:=IL (i+1) (up (BV Pl) a); omega
    refine AY (AS (AS (AV rfl (Af (A0 (Ad rfl (Ad rfl (Aw (Bg (qs:=[(0,_)]) rfl rfl rfl) (fun b135=>?_)))))))))
    refine BK (I2 (n:=1) (l:=1) rfl (by decide)) ?_
    refine C5 (v:=.slice (some ⟨b135,0,none⟩) 1 1) (μ:=μd) AC fun μe ke hre=>?_
    refine Ac (Bo (qs:=[(0,_),(4,_)]) rfl) ?_
    refine Aw (AA (hq3 μe cl2 (some ⟨b135,0,none⟩) 1 (kc.trans (kd.trans ke)) (hcb.le ke) hre) rfl rfl AC) ?_
    rintro v137 L1 ⟨μf,cl4,A3,c3,A4,c4,kf,hcd,rfl,rfl⟩
    refine Aj (Aw (AZ) (fun b16=>?_))
    refine B5 (AU rfl rfl rfl rfl) (AE [4,7,8,12,16,38,39,40,69,70] rfl (A0 (Ac (Ab rfl) (AJ (Ag rfl rfl) (Ac (Bm rfl rfl) (Ad rfl ?_))))))
    refine B7 141 rfl (fun h141=>by cases h141) (fun h141=>?_)
    refine AQ rfl rfl (Ac (Ab rfl) (AQ rfl rfl (AJ (Ag rfl rfl) (AQ rfl rfl (Ad rfl (AQ rfl rfl ?_))))))
    refine Aw (AA (RE _ wv (Bu (i+1) (up (BV Pl) a)) (Bu (i+1) (up (BV Pl) a)) Ax Ax) rfl rfl AC) ?_
    rintro v145 L1 ⟨rfl,rfl⟩
    refine Aj (AQ rfl rfl (Ac (BO rfl) (Ac (AT rfl rfl) (AE [4,7,8,38,39,40,69,70,147] rfl ?_))))
    refine Ak rfl (fun h147=>by simp at h147) (fun h147=>?_)
    refine Am (AR (Af (Al (Ac (AO ((a+1:Nat):Int) rfl rfl Ax Ax Ax) (Ad rfl (Be [4,7,8,38,39,40,69,70] rfl (AH ?_)))))))
    exact Af ⟨(a+1,cl4,μf),⟨⟨rfl,rfl,rfl,rfl,rfl,rfl,rfl,rfl,trivial⟩,Split.ent' AC,h71',kc.trans (kd.trans (ke.trans kf)),hcd⟩,by show i+1-(a+1)<i+1-a; omega⟩
  ·have h71':=of_decide_eq_false h71
   refine AY (AS (AS (AV rfl (Af (A0 (Ad rfl (Ac (AO ((i+1:Nat):Int) rfl rfl Ax Ax Ax) (Ac (Bo (qs:=[(0,_),(1,_)]) rfl) (Ac (Bo (qs:=[(0,_),(2,_)]) rfl) (Ad rfl (Ac (AO ((i+1:Nat):Int) rfl rfl Ax Ax Ax) (Aw (Bg (qs:=[(0,_),(1,_)]) rfl rfl rfl) (fun b155=>?_)))))))))))))
   refine BK (I2 (n:=1) (l:=2) rfl (by decide)) ?_
   refine C5 (v:=.slice (some ⟨b155,0,none⟩) 2 2) (μ:=μc) AC fun μe ke hre=>?_
   refine Ac (Bo (qs:=[(0,_),(4,_)]) rfl) (Aw (Bg (qs:=[(0,_),(1,_),(2,_)]) rfl rfl rfl) (fun b157=>?_))
   refine Ac (BI rfl) (Ad rfl (AE [4,7,38,39,40,157,158,159] rfl (Au ?_)))
   obtain ⟨n1,n2,n3⟩:=A26 (BV Pl) (i+1) hn1
   rw [← hgg] at n1 n2 n3
   have hall:∀ j,j<3→∃ (q:Qn) (A:Option Addr) (ci:Nat),A29 S2 s μb q 9 false []∧Row μe (.slice A q.ids.length ci) 1 q.ids.length (q.ids.flatMap (Bj .i64))∧∀ k u,(Qf q (.slice A q.ids.length ci))[k]? = some u→([.int .i64 4,.int .i64 ((i+1:Nat):Int),.int .i64 0,.int .i64 0,.slice none 0 0,.string ⟨#[]⟩,.int .i64 1,.int .i64 0,.int .i64 (-1),.int .i64 0,.slice none 0 0,.string ⟨#[]⟩,.int .i64 2,.int .i64 0,.int .i64 0,.int .i64 0,.slice (some ⟨b155,0,none⟩) 2 2,.string ⟨#[]⟩]:List Value)[0+j*6+k]? = some u:=by
    intro j hj
    match j,hj with
    | 0,_=>exact ⟨⟨4,((i+1:Nat):Int),0,[],0⟩,none,0,Je S2 s μb hs2 hX hTb (KQ.bases _ _) (qok (fun x hx=>by simp only [Qn.all,List.mem_cons,List.not_mem_nil,or_false] at hx; omega) (Nat.zero_le _)) n1,Row.nil _ _,fun k u h=>by
     match k,h with
     | 0,h | 1,h | 2,h | 3,h | 4,h | 5,h=>exact h
     | k+6,h=>cases h⟩
    | 1,_=>exact ⟨⟨1,0,-1,[],0⟩,none,0,Je S2 s μb hs2 hX hTb (KQ.anc _ _) (qok (fun x hx=>by simp only [Qn.all,List.mem_cons,List.not_mem_nil,or_false] at hx; omega) (Nat.zero_le _)) n2,Row.nil _ _,fun k u h=>by
     match k,h with
     | 0,h | 1,h | 2,h | 3,h | 4,h | 5,h=>exact h
     | k+6,h=>cases h⟩
    | 2,_=>exact ⟨⟨2,0,0,[0,((i+1:Nat):Int)],0⟩,some ⟨b155,0,none⟩,2,Je S2 s μb hs2 hX hTb (KQ.reach [0,((i+1:Nat):Int)]) (qok (fun x hx=>by simp only [Qn.all,List.mem_cons,List.not_mem_nil,or_false] at hx; omega) (show 2≤1000 by omega)) n3,hre,fun k u h=>by
     match k,h with
     | 0,h | 1,h | 2,h | 3,h | 4,h | 5,h=>exact h
     | k+6,h=>cases h⟩
   refine B0 (ι:=Nat×List Nd×PH) (fun z env L=>Sub env [(4,pv s),(7,tv),(38,w),(39,.int .i64 (xs.length:Nat)),(40,.int .i64 (i:Nat)),(157,.slice (some ⟨b157,0,none⟩) 3 3),(158,.int .i64 3),(159,.int .i64 (z.1:Nat))]∧Ent L (B1 b157 65 [.int .i64 4,.int .i64 ((i+1:Nat):Int),.int .i64 0,.int .i64 0,.slice none 0 0,.string ⟨#[]⟩,.int .i64 1,.int .i64 0,.int .i64 (-1),.int .i64 0,.slice none 0 0,.string ⟨#[]⟩,.int .i64 2,.int .i64 0,.int .i64 0,.int .i64 0,.slice (some ⟨b155,0,none⟩) 2 2,.string ⟨#[]⟩]::AL S2 s z.2.1 z.2.2)∧z.1≤3∧Le μe z.2.2∧CaOk (fA S2.vw.g) z.2.2 z.2.1) (fun z=>3-z.1) (0,cl,μe) ⟨⟨rfl,rfl,rfl,rfl,rfl,rfl,rfl,rfl,trivial⟩,Split.ent' AC,Nat.zero_le _,Le.refl _,hca.le ke⟩ ?_
   rintro ⟨j,cl2,μd⟩ env L ⟨hsub,hE,hj,kd,hcb⟩
   dsimp only at hsub hE hj kd hcb
   refine B3 _ hsub (AP hE ?_)
   clear hsub hE env L
   refine A0 (Ac (Bb rfl rfl) (AE [4,7,38,39,40,157,158,159,160] rfl (Ae ?_)))
   refine Ak rfl (fun h160=>?_) (fun h160=>?_)
   ·have h160':j<3:=by have:=of_decide_eq_true h160; omega
    obtain ⟨q,A,ci,hq,hqr,hqc⟩:=hall j h160'
    refine Am (Af (Ae (Au (A0 ?_))))
    refine Ac (AB (0+j*6) rfl rfl Ax Ax (by rw [Int.toNat_natCast])) ?_
    refine AJ (Cw (vs:=Qf q (.slice A q.ids.length ci)) rfl rfl hqc) (Aw (AZ) (fun b18=>?_))
    refine B5 (AU rfl rfl rfl rfl) (AE [4,7,18,38,39,40,157,158,159] rfl (A0 (Ad rfl (AJ (BG (vs:=Qf q (.slice A q.ids.length ci)) rfl rfl rfl) ?_))))
    refine Aw (AA (hq μd cl2 A ci (kc.trans (ke.trans kd)) hcb (hqr.le kd)) rfl rfl AC) ?_
    rintro v165 L1 ⟨μf,cl4,A3,c3,A4,c4,kf,hcd,rfl,rfl⟩
    refine Aj (Aw (AZ) (fun b19=>?_))
    refine B5 (AU rfl rfl rfl rfl) (AE [4,7,19,38,39,40,157,158,159] rfl (A0 (Ac (Ab rfl) (AJ (Ag rfl rfl) (Ac (Bm rfl rfl) (Ad rfl ?_))))))
    refine B7 169 rfl (fun h169=>by cases h169) (fun h169=>?_)
    refine AQ rfl rfl (Ac (Ab rfl) (AQ rfl rfl (AJ (Ag rfl rfl) (AQ rfl rfl (Ac (BI rfl) (AQ rfl rfl (Ac (Bm rfl rfl) (Ac (AT rfl rfl) (Ad rfl ?_)))))))))
    refine B7 175 rfl (fun h175=>by cases h175) (fun h175=>?_)
    refine AQ rfl rfl (Ac (Ab rfl) (AQ rfl rfl (AJ (Ag rfl rfl) (Ac (AT rfl rfl) (AE [4,7,38,39,40,157,158,159,178] rfl (Dz rfl (Am (AR (Af (Al (Ac (AO ((j+1:Nat):Int) rfl rfl Ax Ax Ax) (Ad rfl (Be [4,7,38,39,40,157,158,159] rfl (AH ?_))))))))))))))
    exact Af ⟨(j+1,cl4,μf),⟨⟨rfl,rfl,rfl,rfl,rfl,rfl,rfl,rfl,trivial⟩,Split.ent' AC,h160',kd.trans kf,hcd⟩,by show 3-(j+1)<3-j; omega⟩
   ·refine AP ((Split.ent' (K:=AL S2 s cl2 μd) AC).trans (A0x S2 s μd hs2 cl2)) ?_
    refine AY (AS (AS (AV rfl (AR (Af (Al (Ac (AO ((i+1:Nat):Int) rfl rfl Ax Ax Ax) (Ad rfl (Be [4,7,38,39,40] rfl (AH ?_))))))))))
    exact Af ⟨(i+1,{ S2 with cl:=cl2},μd),⟨⟨rfl,rfl,rfl,rfl,rfl,trivial⟩,Ent.refl _,h41',kb3.trans (kc.trans (ke.trans kd)),⟨hS2.x.le (kc.trans (ke.trans kd)),hS2.w.le (kc.trans (ke.trans kd)),hS2.s,hS2.dead,hS2.log⟩,hp2,hs2⟩,by show xs.length-(i+1)<xs.length-i; omega⟩
 ·refine AY (AS (AS (AV rfl (Af (A0 (As [2] rfl rfl (Ar ?_)))))))
  exact Aq [ro μi] (.tmp rfl .nil) ⟨rfl,μi,[],k13.trans ki,rfl⟩ AC
end SX
namespace Go.Proofs.YtbomiailappgpaaGreatDoor
open Go.ChangeShapes Go.WideShapes Go.ChangeAt Go.RowKit
theorem Zw:ownKnob Tryz.prog.godebug=none:=by kernel_rfl
theorem gTab : Tryz.prog.globalNamed "math/bits.deBruijn64tab" = some 2 := by kernel_rfl
theorem tTab:(Tryz.prog.globals[2]?).map (·.type)=some 496:=by kernel_rfl
theorem gSyn : Tryz.prog.globalNamed "strconv.ErrSyntax" = some 0 := by kernel_rfl
theorem tSyn:(Tryz.prog.globals[0]?).map (·.type)=some 283:=by kernel_rfl
theorem A2n:∃ ms,Tryz.prog.underlying 283=some (.interface ms):=⟨_,Tryz.underlying283⟩
theorem A2b{H:Type}:(Rows.laid_math_bits_deBruijn64tab:DataW H)=.agg (Lib.deBruijn64tab.map fun n=>.lit (.int .u8 (n:Nat))):=rfl
theorem NX {P:Program}{w:World}:∀ {l:List (String×DataW Unit)} {ps:List MemPlace} {n:String} {d:DataW Unit},DataW.LaidVars P w l ps→(n,d)∈l →
  ∃ g t cs fuel p,P.globalNamed n=some g∧(P.globals[g]?).map (·.type)=some t∧w.var? P n=some cs∧DataW.trod (fun _=>()) P w 0 (fun _=>true) false fuel t cs.toList=some (d,p)
 | (n0,d0)::r,ps,n,d,h,hm=>by
  obtain ⟨g,t,cs,fuel,p,q,h1,h2,h3,h4,h5,_⟩:=h
  rcases List.mem_cons.1 hm with e | hm
  ·cases e
   exact ⟨g,t,cs,fuel,p,h1,h2,h3,h4⟩
  ·exact NX h5 hm
theorem A1x{W:World}(h:laidMetH Tryz.prog Rows.wholeAncestryRow.laid W):SX.SynOk (fun b=>W.heap[b]?):=by
 rw [MakeChecks.laidMetH_plain _ _ _ (by kernel_rfl)] at h
 obtain ⟨ps,hl,_,_⟩:=h
 obtain ⟨g0, t0, cs0, f0, p0, hg0, ht0, hv0, hd0⟩ := NX hl (n := "strconv.ErrSyntax") (d := Rows.laid_strconv_ErrSyntax) (List.Mem.tail _ (List.Mem.tail _ (List.Mem.tail _ (List.Mem.tail _ (List.Mem.head _)))))
 obtain rfl:=Option.some.inj (gSyn.symm.trans hg0)
 obtain rfl:=Option.some.inj (tSyn.symm.trans ht0)
 obtain ⟨ms,hms⟩:=A2n
 obtain ⟨_,u,v,e,_,_⟩:=iface_of_trod hms hd0
 have hc:=World.var?_cell hg0 hv0 0
 have hcs:cs0[0]? = some (.iface u v):=by
  have:=congrArg (·[0]?) e
  simpa using this
 rw [hcs] at hc
 exact ⟨_,(SX.spot_of_cell hc).2,.inr ⟨u,v,rfl⟩⟩
theorem A1y{W:World}(h:laidMetH Tryz.prog Rows.wholeAncestryRow.laid W):SX.RowAt (fun b=>W.heap[b]?) 2 0 SX.tabV:=by
 rw [MakeChecks.laidMetH_plain _ _ _ (by kernel_rfl)] at h
 obtain ⟨ps,hl,_,_⟩:=h
 obtain ⟨g0, t0, cs0, f0, p0, hg0, ht0, hv0, hd0⟩ := NX hl (n := "math/bits.deBruijn64tab") (d := Rows.laid_math_bits_deBruijn64tab) (List.Mem.tail _ (List.Mem.head _))
 obtain rfl:=Option.some.inj (gTab.symm.trans hg0)
 obtain rfl:=Option.some.inj (tTab.symm.trans ht0)
 obtain ⟨xs,m,rfl,hx,_,hn,hel⟩:=DataW.trod_array Tryz.underlying496 hd0
 simp only [Prod.mk.injEq] at hx
 have hx1:=hx.1
 rw [A2b] at hx1
 simp only [DataW.agg.injEq] at hx1
 have c5:Tryz.prog.cellsOf 5=1:=by kernel_rfl
 have hlen:Lib.deBruijn64tab.length=64:=rfl
 intro j u hj
 have hj64:j<64:=by
  have:=(List.getElem?_eq_some_iff.1 hj).1
  simpa [SX.tabV,hlen] using this
 obtain ⟨k,hk⟩:∃ k,Lib.deBruijn64tab[j]? = some k:=⟨_,List.getElem?_eq_getElem (by omega)⟩
 have hu:u=.int .u8 (k:Nat):=by
  unfold SX.tabV at hj
  rw [List.getElem?_map,hk] at hj
  exact (Option.some.inj hj).symm
 obtain ⟨y,hy⟩:∃ y,xs[j]? = some y:=⟨_,List.getElem?_eq_getElem (by omega)⟩
 have h1:=hel j hj64
 rw [hy,c5,Nat.mul_one] at h1
 obtain ⟨n,e1,e2,_⟩:=DataW.trod_int Tryz.underlying5 h1
 have e3:(xs.map (·.1))[j]? = some (.lit (.int .u8 n)):=by rw [List.getElem?_map,hy,e2]; rfl
 rw [← hx1,List.getElem?_map,hk] at e3
 have hnk:n=(k:Int):=by
  have:=Option.some.inj e3
  simpa using this.symm
 have hc:=World.var?_cell hg0 hv0 j
 have hcs:cs0[j]? = some (.int .u8 n):=by
  have:(cs0.toList.drop j)[0]? = some (.int .u8 n):=by
   have:=congrArg (·[0]?) e1
   simpa [List.getElem?_take] using this
  rw [List.getElem?_drop,Nat.add_zero] at this
  simpa using this
 rw [hcs] at hc
 rw [Nat.zero_add,hu,← hnk]
 exact (SX.spot_of_cell hc).2
theorem Zx (os:Os)(args:Array Value):laidMetH Tryz.prog Rows.wholeAncestryRow.laid ((World.doorLaid Tryz.prog 400 os).forCall (fun _ _=>0) ⟨#[],args,[]⟩).memory :=
 laidMetH_of_parts3 (fuel:=8) (laidMet_of_run' 8 (by kernel_rfl) (by kernel_rfl)) (by kernel_rfl) (by kernel_rfl)
theorem A2o:SX.StpT Tryz.prog 31 27 111 9 41 28 5 29 where
 ok:=⟨_,_,_,_,_,_,_,Tryz.underlying31,Tryz.underlying111,⟨rfl,rfl⟩,⟨rfl,rfl⟩,⟨rfl,rfl⟩,⟨rfl,rfl⟩,⟨rfl,rfl⟩,⟨rfl,rfl⟩,rfl,rfl⟩
 u8:=Tryz.underlying5
 u16:=Tryz.underlying29
 uT:=Tryz.underlying27
 uQ:=Tryz.underlying28
 us:=Tryz.underlying9
 uu:=Tryz.underlying41
 c:=⟨by kernel_rfl,by kernel_rfl,by kernel_rfl,by kernel_rfl,by kernel_rfl,by kernel_rfl,by kernel_rfl,by kernel_rfl⟩
end Go.Proofs.YtbomiailappgpaaGreatDoor
