/-
  sift.Least.
-/
import Derived.Test.YtpgcbmbnognieaaGreatPLFBed
import Derived.Test.YtpgcbmbnognieaaGreatPSiftGS
import Derived.Test.YtpgcbmbnognieaaGreatPSiftI
namespace Go.Proofs.YtpgcbmbnognieaaGreat
set_option maxRecDepth 1000000
set_option maxHeartbeats 8000000
set_option linter.unusedSimpArgs false
set_option linter.unusedVariables false
open Go.RowKit

def LeastAt (F Fo:Nat→Prop)(w wr:World)(bb lb:Nat)(la:Option Addr)(cap sb ob n:Nat)(fs:List (Int×List Bool))(r:Nat)(m:Int)(a:Option Addr):Prop:=
 ∃ (F1:Nat→Prop) (M1:St) (rs1:List (Int×Edge)) (p:List Int),Bed F1 Fo wr bb lb la cap sb ob M1 p fs rs1∧p.length=n∧(∀ j,F1 j→F j∨w.heap.size≤j)∧Upd (fun j=>F j∨Fo j) w wr ∧
  (r=0∧m=-1∨∃ r',r=r'+1∧m=(sizeO fs (leastTo (sizeO fs) n r'):Int)∧Away wr F1 Fo lb a (leastTo (sizeO fs) n r'))

theorem siftLeast_calls {F Fo:Nat→Prop}{w:World}{sb ob cap3:Nat}{a3:Option Addr}{M:St}{ps:List Int}{fs:List (Int×List Bool)}{rs:List (Int×Edge)}(hS:Sit F Fo w sb ob M ps)(hp:permB ps=true)(h5:ps.length≤5)(h4:fs.length≤4)(hroom:(fs.length:Int)*300<M.room)(hvast:M.room≤1000000)(hst:StandAll M ps fs rs)(hR:IsRoots w a3 rs)(hno:a3=none→cap3=0) :
  Calls Tryz.prog 35 #[.pointer (some ⟨sb,0,none⟩),.pointer (some ⟨ob,0,none⟩),.slice a3 fs.length cap3] w (SiftOut F Fo w sb ob fs (leastL (sizeO fs) ps.length)):=by
 have hft:=siftFit_calls hS.rep hS.ord
 rw [if_pos hS.n] at hft
 have hvr:=fun(W:World) (hW:Keeps w W)=>store_vars (hS.rep.keeps hW)
 have hmy:=fun(W:World) (hW:Keeps w W)=>siftMay_calls (hS.rep.keeps hW) a3 cap3 rs (hR.keeps hW) (by have:=hst.1;omega)
 have hmd:=fun(W:World) (hW:Keeps w W)=>siftMade_calls (hS.keeps hW) hp (by omega) h4 hroom hvast hst (hR.keeps hW) hno
 have hn:=hS.n
 rw [mayR_stand hst,hst.1] at hmy
 rw [hn] at hvr
 obtain⟨n,hnn⟩:∃ n,n=ps.length:=⟨_,rfl⟩
 rw [← hnn] at hvr h5 ⊢
 obtain⟨N,hN⟩:∃ N,N=fs.length:=⟨_,rfl⟩
 rw [← hN] at hmy hmd h4 ⊢
 have HFT:=Lib.hid hft
 have HVR:=Lib.hid hvr
 have HMY:=Lib.hid hmy
 have HMD:=Lib.hid hmd
 have HNN:=Lib.hid hnn
 have HN:=Lib.hid hN
 have g5:¬5<(n:Int):=by omega
 clear hft hvr hmy hmd hS hp hroom hvast hst hR hno hn hnn hN
 go_enter Tryz.func35,Tryz.ntmps35
 go_wp2_with (first
  | (go_at_call 92;refine HFT.out.mono ?_;rintro e w1 ⟨rfl,hk1⟩)
  | (go_at_call 67;refine(HVR.out _ (by(exact kp))).mono ?_;rintro e w2 ⟨rfl,rfl⟩)
  | (go_at_call 93;refine(HMY.out _ (by(exact kp))).mono ?_;rintro e w3 ⟨rfl,hk3⟩)
  | fail)
 have hk13:=hk1.trans hk3
 have HK:=Lib.hid hk13
 have HMD1:=Lib.hid (HMD.out w3 hk13)
 clear HMD HMY HVR HFT hk1 hk3 hk13
 refine HMD1.out.mono ?_
 rintro e w4 ⟨bb,lb,cap,la,rfl,hB4,hbb,hlb⟩
 clear HMD1
 obtain⟨F1,M1,rs1,hBd,hs1,hu1⟩:=hB4
 obtain⟨hs1,hu1⟩:=run_start hlb hs1 hu1
 have hpm:=ordPerm_calls hBd.sit.ord
 rw [← HNN.out] at hpm
 have hkw:Upd (fun j=>F j∨Fo j) w w4:=(HK.out.upd _).trans' hu1
 have hs3:=HK.out.size
 have HPM:=Lib.hid hpm
 have HBD:=Lib.hid (⟨hBd,(fun j hj=>by rcases hs1 j hj with q|q;exact .inl q;exact .inr (by omega):∀ j,F1 j→F j∨w.heap.size≤j),hkw⟩:_∧_∧_)
 clear hBd hs1 hu1 hpm hkw
 go_wp2_with fail
 refine HPM.out.mono ?_
 rintro e w5 ⟨a5,c5,rfl,hV5,hk5⟩
 obtain⟨hBd,hs1,hu1⟩:=HBD.out
 have hlw:w.heap.size≤lb:=by omega
 have hst:LeastAt F Fo w w5 bb lb la cap sb ob n fs 0 (-1) a5:=⟨F1,M1,rs1,ps,hBd.keeps hk5,HNN.out.symm,hs1,hu1.trans' (hk5.upd _),.inl ⟨rfl,rfl⟩⟩
 have HST:=Lib.hid hst
 clear hBd hs1 hu1 hst hV5 hk5 HBD HPM
 have hfp:=facN_pos n
 obtain⟨K,hK⟩:∃ K,K=facN n:=⟨_,rfl⟩
 have hK120:K≤120:=by
  rw [hK]
  have:n=0∨n=1∨n=2∨n=3∨n=4∨n=5:=by omega
  rcases this with rfl|rfl|rfl|rfl|rfl|rfl<;>decide
 rw [← hK] at hfp
 have HKF:=Lib.hid hK
 clear hK
 go_wp2_with fail
 go_loopg [12,13,14] K (fun gk s12 s13 s14 wr=>∃ (r:Nat) (m:Int) (a:Option Addr) (c:Nat),s12=.slice a n c∧s13=.int .i64 m∧s14=.int .i64 (r:Int)∧r+gk=K∧LeastAt F Fo w wr bb lb la cap sb ob n fs r m a)
 case atStart=>exact⟨0,-1,a5,c5,rfl,rfl,rfl,by omega,HST.out⟩
 case round=>
  obtain⟨r,m,a,c,rfl,rfl,rfl,hr,hL⟩:=hrel
  clear HST
  obtain⟨F1,M1,rs1,p,hBd,hpl,hs1,hu1,hor⟩:=hL
  by_cases hlt:r<K
  ·have HOF:=Lib.hid (permOf_calls n r h5 (by rw [← HKF.out];exact hlt) wr)
   have HBD:=Lib.hid (⟨hBd,hs1,hu1⟩:_∧_∧_)
   have HPL:=Lib.hid hpl
   have HOR:=Lib.hid hor
   clear hBd hs1 hu1 hpl hor
   go_wp2_with fail
   refine HOF.out.mono ?_
   rintro e w6 ⟨a6,c6,rfl,hown6,hk6⟩
   obtain⟨hBd,hs1,hu1⟩:=HBD.out
   have haw:=away_owns (F:=F1) (Fo:=Fo) (lb:=lb) hown6 (ofL_len n r).symm (fun k hk=>by
    rcases hk with q|q|q
    ·exact hBd.sit.rep.lt k q
    ·exact hBd.sit.ord.lt k q
    ·subst q;exact hBd.lts.2)
   have hpm:=bedPermute_bed (cap2:=c6) (hBd.keeps hk6) haw.1 (ofL_perm h5 (by rw [← HKF.out];exact hlt)) (HPL.out.trans (ofL_len n r).symm)
   rw [ofL_len] at hpm
   have HPM:=Lib.hid hpm
   have HAW:=Lib.hid haw
   have HK6:=Lib.hid hk6
   clear hBd hs1 hu1 hpm haw hown6 hk6 HOF
   go_wp2_with fail
   refine HPM.out.mono ?_
   rintro e w7 ⟨rfl,F2,M2,rs2,hB7,hs7,hu7⟩
   obtain⟨hBd,hs1,hu1⟩:=HBD.out
   obtain⟨hs2,hu2⟩:=run_next hs1 hu1 hlw HK6.out hs7 hu7
   have haw7:=HAW.out.step hs7 hu7
   have hold:∀ a xs,Away wr F1 Fo lb a xs→Away w7 F2 Fo lb a xs:=fun a xs h=>(h.keeps HK6.out).step hs7 hu7
   have hS5:=BedAt.size (BedAt.start hB7 (fun _=>False))
   have hln:=bedLen_calls (BedAt.start hB7 (fun _=>False))
   obtain⟨S,hSS⟩:∃ S,S=sizeO fs (ofL n r):=⟨_,rfl⟩
   rw [← hSS] at hln hS5
   have HLN:=Lib.hid hln
   have hnext:∀ (m':Int) (a':Option Addr) (r':Nat),r=r'→m'=(sizeO fs (leastTo (sizeO fs) n r'):Int)→Away w7 F2 Fo lb a' (leastTo (sizeO fs) n r')→LeastAt F Fo w w7 bb lb la cap sb ob n fs (r+1) m' a':=fun m' a' r' e1 e2 e3=>⟨F2,M2,rs2,ofL n r,hB7,ofL_len n r,hs2,hu2,.inr ⟨r',by rw [e1],e2,e3⟩⟩
   have HNX:=Lib.hid hnext
   have HAW7:=Lib.hid haw7
   have HOLD:=Lib.hid hold
   have HSS:=Lib.hid hSS
   clear hBd hs1 hu1 hs2 hu2 haw7 hold hln hnext hB7 hs7 hu7 HPM HAW HK6 HBD hSS
   rcases HOR.out with⟨h0,hm⟩|⟨r',h0,hm,hA⟩
   ·subst hm
    have HR0:=Lib.hid h0
    clear h0
    go_wp2_with (first|(go_at_call 44;refine(HLN.out _ (by(exact kp))).mono ?_;rintro e w8 ⟨rfl,rfl⟩)|fail)
    go_roundg (gk-1)
    case rel=>exact⟨r+1,S,a6,c6,rfl,rfl,by simp,by omega,HNX.out _ _ r rfl (by rw [HR0.out,HSS.out,HR0.out];rfl) (by have h:=HAW7.out;rw [HR0.out] at h ⊢;exact h)⟩
    case measure=>omega
   ·obtain⟨T,hT⟩:∃ T,T=sizeO fs (leastTo (sizeO fs) n r'):=⟨_,rfl⟩
    rw [← hT] at hm
    have hstep:leastTo (sizeO fs) n r=if S<T then ofL n r else leastTo (sizeO fs) n r':=by rw [h0,hT,HSS.out,h0];rfl
    have HSTEP:=Lib.hid hstep
    have HT:=Lib.hid hT
    have HA:=Lib.hid (HOLD.out _ _ hA)
    subst hm
    clear hA hT hstep h0
    by_cases hST:S<T
    ·go_wp2_with (first|(go_at_call 44;refine(HLN.out _ (by(exact kp))).mono ?_;rintro e w8 ⟨rfl,rfl⟩)|fail)
     go_roundg (gk-1)
     case rel=>
      have hq:=HSTEP.out
      rw [if_pos hST] at hq
      exact⟨r+1,S,a6,c6,rfl,rfl,by simp,by omega,HNX.out _ _ r rfl (by rw [hq,HSS.out]) (by rw [hq];exact HAW7.out)⟩
     case measure=>omega
    ·go_wp2_with (first|(go_at_call 44;refine(HLN.out _ (by(exact kp))).mono ?_;rintro e w8 ⟨rfl,rfl⟩)|fail)
     go_roundg (gk-1)
     case rel=>
      have hq:=HSTEP.out
      rw [if_neg hST] at hq
      exact⟨r+1,T,a,c,rfl,rfl,by simp,by omega,HNX.out _ _ r rfl (by rw [hq,HT.out]) (by rw [hq];exact HA.out)⟩
     case measure=>omega
  ·have hrK:r=K:=by omega
   obtain⟨r',h0,hA⟩:∃ r',K=r'+1∧Away wr F1 Fo lb a (leastTo (sizeO fs) n r'):=by
    rcases hor with⟨h0,-⟩|⟨r',h0,-,hA⟩
    ·omega
    ·exact⟨r',by omega,hA⟩
   have hofn:=permOf_none n h5 wr
   rw [← HKF.out] at hofn
   have hleast:leastL (sizeO fs) n=leastTo (sizeO fs) n r':=by unfold leastL;rw [← HKF.out,h0];rfl
   have hlp:=leastL_perm (sizeO fs) h5
   have hpm:=fun(W:World) (hW:Keeps wr W)=>bedPermute_bed (cap2:=c) (qs:=leastL (sizeO fs) n) (hBd.keeps hW) (by rw [hleast];exact hA.1.keeps hW) hlp.1 (hpl.trans hlp.2.symm)
   rw [hlp.2] at hpm
   have HOF:=Lib.hid hofn
   have HPM:=Lib.hid hpm
   have HBD:=Lib.hid (⟨hBd,hs1,hu1⟩:_∧_∧_)
   subst hrK
   clear hBd hs1 hu1 hpl hor hofn hleast hlp hpm hA h0
   go_wp2_with fail
   refine HOF.out.mono ?_
   rintro e w6 ⟨rfl,hk6⟩
   have HPM6:=Lib.hid (HPM.out w6 hk6)
   have HK6:=Lib.hid hk6
   clear hk6
   go_wp2_with fail
   refine HPM6.out.mono ?_
   rintro e w7 ⟨rfl,F2,M2,rs2,hB7,hs7,hu7⟩
   obtain⟨hBd,hs1,hu1⟩:=HBD.out
   obtain⟨hs2,hu2⟩:=run_next hs1 hu1 hlw HK6.out hs7 hu7
   have hed:=bed_end hB7 hs2 hu2
   have d3:=hB7.cells.c3
   rw [← HN.out] at hed
   have HED:=Lib.hid hed
   clear hBd hs1 hu1 hs2 hu2 hB7 hs7 hu7 hed HPM6 HPM HOF HBD HK6
   go_wp2_with fail
   go_region_held3 (fun w'=>w'.cell? ⟨bb,3,none⟩=some (.int .u8 0)) (go_keep) ((first
    | (go_at_call 97;refine(HED.out _ (by(exact kp))).mono ?_;rintro e' w8 ⟨⟨g8,rfl,ho8⟩,hk8⟩;have HO8:=Lib.hid ho8;have d3:=hk8.cell d3;clear ho8)))
   all_goals(try go_wp2_with fail)
   all_goals go_ret2
   all_goals exact HO8.out _ (by(exact kp))

def bit16 (i:Nat):Bool:=(bitB (i:Int) 0&&bitB (i:Int) 2)||(bitB (i:Int) 1&&bitB (i:Int) 3)

def part16 (d:Nat):List Bool:=(List.range 16).map (fun i=>if i<d then bit16 i else false)

def fs16:List (Int×List Bool):=[(1,part16 16)]

theorem part16_len (d:Nat):(part16 d).length=16:=by unfold part16;simp

theorem part16_set {d:Nat}(hd:d<16):(part16 d).set d (bit16 d)=part16 (d+1):=by
 apply List.ext_getElem?
 intro i
 by_cases hi:i<16
 ·by_cases he:d=i
  ·subst he
   rw [List.getElem?_set_self (by rw [part16_len];exact hd)]
   unfold part16
   rw [List.getElem?_map,List.getElem?_range hi]
   simp
  ·rw [List.getElem?_set_ne he]
   unfold part16
   rw [List.getElem?_map,List.getElem?_map,List.getElem?_range hi]
   simp only [Option.map_some]
   by_cases h1:i<d
   ·rw [if_pos h1,if_pos (by omega)]
   ·rw [if_neg h1,if_neg (by omega)]
 ·rw [List.getElem?_eq_none (by rw [List.length_set,part16_len];omega),List.getElem?_eq_none (by rw [part16_len];omega)]

theorem size16:sizeO fs16 [0,1,2,3]=6:=by kernel_rfl

theorem size16_all:((List.range 24).all fun k=>decide (4≤sizeO fs16 (ofL 4 k)))=true:=by kernel_rfl

theorem size16_one:((List.range 24).any fun k=>decide (sizeO fs16 (ofL 4 k)=4))=true:=by kernel_rfl

theorem size16_least:sizeO fs16 (leastL (sizeO fs16) 4)=4:=by
 obtain⟨k,h1,h2⟩:=leastTo_is (sizeO fs16) 4 23
 have ha:=List.all_eq_true.1 size16_all k (List.mem_range.2 (by omega))
 obtain⟨j,hj,hj2⟩:=List.any_eq_true.1 size16_one
 have hle:=leastTo_le (sizeO fs16) 4 23 j (by have:=List.mem_range.1 hj;omega)
 have e:leastL (sizeO fs16) 4=leastTo (sizeO fs16) 4 23:=rfl
 rw [e]
 rw [h2] at hle ⊢
 have h4:=of_decide_eq_true ha
 have h5:=of_decide_eq_true hj2
 omega

theorem bits_of {w:World}{base N c:Nat}{a:Option Addr}{rs:List (Int×Edge)}(h:w.ownsRow base 80 3 (.slice a N c) N (rs.flatMap rootCs))(hno:a=none):c=0:=by
 rcases h.2 with⟨e0,_⟩|⟨g',cap',cur,e0,_⟩
 ·cases e0;rfl
 ·cases e0;cases hno

theorem BedMid.go {Fo:Nat→Prop}{w wr:World}{sb ob c:Nat}{a:Option Addr}{room:Int}{ps:List Int}{fs:List (Int×List Bool)}{F:Nat→Prop}{M:St}{rs:List (Int×Edge)}(h:BedMid Fo w wr sb ob room ps fs fs.length (.slice a fs.length c) F M rs)(hp:permB ps=true)(h5:ps.length≤5)(h4:fs.length≤4)(hr0:(fs.length:Int)*300<room)(hr1:room≤1000000) :
  Sit F Fo wr sb ob M ps∧StandAll M ps fs rs∧M.room=room∧(∀ W,Upd (fun j=>F j∨Fo j) wr W→IsRoots W a rs)∧(a=none→c=0)∧rs.length=fs.length:=by
 have hst:=h.stand
 rw [List.take_length] at hst
 have hok:∀ r∈rs,(0≤r.1∧r.1≤255)∧r.2.ok:=fun r hr=>⟨by have:=(hst.leads r hr).1;omega,hst.oks r hr⟩
 refine⟨h.sit,hst,h.room,fun W hW i r hr=>?_,bits_of h.row,hst.1⟩
 have hne:fs.length≠0:=by have:=(List.getElem?_eq_some_iff.1 hr).1;have:=hst.1;omega
 obtain⟨g,rfl⟩:∃ g,a=some ⟨g,0,none⟩:=by
  rcases h.row.2 with⟨e0,hz⟩|⟨g',cap',cur,e0,_⟩
  ·omega
  ·cases e0;exact⟨g',rfl⟩
 obtain⟨n1,n2⟩:=h.apart g rfl
 exact((rowR_owns h.row hst.1.symm).keep hW (fun hh=>by rcases hh with q|q;exact n1 q;exact n2 q)).roots hok i r hr

theorem l27_alive (w:World):Calls Tryz.prog 31 #[] w fun e w'=>e=.returned (.bool true)∧Keeps w w':=by
 obtain⟨j0,hj,jz0,jz1,jz2⟩:=info_parts info_boolT
 go_enter Tryz.func31,Tryz.ntmps31
 go_wp2_with (first
  | (at_make;refine wpList_make_full _ rfl _ _ 40 rfl w.heap.size 4 j0 (.bool false) 1 Tryz.underlying40 hj jz0 jz1 .i64 .i64 16 16 16 rfl rfl rfl rfl (by rw [jz2];omega) (by unfold maxLen;omega) (Nat.le_refl _) ?_;intro w1 hown1 hg1)
  | fail)
 have hB1:=bools_made hown1
 have hk1:Keeps w w1:=⟨hg1.os,hg1.tape,hg1.output,hg1.size,fun i hi=>hg1.block i hi (by simp)⟩
 have HB1:=Lib.hid hB1
 have HK1:=Lib.hid hk1
 have lb1:=hB1.lt
 clear hown1 hg1 hB1 hk1
 obtain⟨B,hBB⟩:∃ B,B=w.heap.size:=⟨_,rfl⟩
 have hBw:w.heap.size≤B:=by omega
 rw [← hBB] at HB1 lb1 ⊢
 clear hBB
 go_loopg [2] 16 (fun gk s2 wr=>∃ d:Nat,s2=.int .i64 (d:Int)∧d+gk=16∧BoolsAt wr B (part16 d)∧Upd (fun j=>j=B) w1 wr)
 case atStart=>exact⟨0,rfl,rfl,HB1.out,Upd.refl _ _⟩
 case round=>
  obtain⟨d,rfl,hd,hB,hu⟩:=hrel
  have HB:=Lib.hid hB
  have HU:=Lib.hid hu
  have szr:=hu.size
  clear hu HB1
  by_cases hlt:d<16
  ·obtain⟨x,hx⟩:∃ x,(part16 d)[d]?=some x:=⟨_,List.getElem?_eq_getElem (by rw [part16_len];exact hlt)⟩
   have cx:=hB.cell hx
   have fx:=hB.frozen d
   have hv0:=fun(W:World)=>value_calls (d:Int) 0 W (by omega) (by omega) (by omega) (by omega)
   have hv1:=fun(W:World)=>value_calls (d:Int) 1 W (by omega) (by omega) (by omega) (by omega)
   have hv2:=fun(W:World)=>value_calls (d:Int) 2 W (by omega) (by omega) (by omega) (by omega)
   have hv3:=fun(W:World)=>value_calls (d:Int) 3 W (by omega) (by omega) (by omega) (by omega)
   have hbit:bit16 d=((bitB (d:Int) 0&&bitB (d:Int) 2)||(bitB (d:Int) 1&&bitB (d:Int) 3)):=rfl
   have hset:=hB.set d (bit16 d)
   rw [part16_set hlt] at hset
   obtain⟨V,hV⟩:∃ V,V=bit16 d:=⟨_,rfl⟩
   rw [← hV] at hbit hset
   have HSET:=Lib.hid hset
   obtain⟨b0,e0⟩:∃ b,b=bitB (d:Int) 0:=⟨_,rfl⟩
   obtain⟨b1,e1⟩:∃ b,b=bitB (d:Int) 1:=⟨_,rfl⟩
   obtain⟨b2,e2⟩:∃ b,b=bitB (d:Int) 2:=⟨_,rfl⟩
   obtain⟨b3,e3⟩:∃ b,b=bitB (d:Int) 3:=⟨_,rfl⟩
   rw [← e0] at hv0 hbit
   rw [← e1] at hv1 hbit
   rw [← e2] at hv2 hbit
   rw [← e3] at hv3 hbit
   clear e0 e1 e2 e3 hset hB hx hV
   have HV0:=Lib.hid hv0
   have HV1:=Lib.hid hv1
   have HV2:=Lib.hid hv2
   have HV3:=Lib.hid hv3
   clear hv0 hv1 hv2 hv3
   cases b0<;>cases b1<;>cases b2<;>cases b3<;>(simp only [Bool.and_true,Bool.and_false,Bool.or_true,Bool.or_false] at hbit;subst hbit;simp only [bitI] at HV0 HV1 HV2 HV3)
   all_goals
    go_wp2_with (first
     | (go_at_call 74;have qq:=HV0;clear qq;refine(HV0.out _).mono ?_;rintro e w' ⟨rfl,rfl⟩;clear HV0)
     | (go_at_call 74;have qq:=HV2;clear qq;refine(HV2.out _).mono ?_;rintro e w' ⟨rfl,rfl⟩;clear HV2)
     | (go_at_call 74;have qq:=HV1;clear qq;refine(HV1.out _).mono ?_;rintro e w' ⟨rfl,rfl⟩;clear HV1)
     | (go_at_call 74;refine(HV3.out _).mono ?_;rintro e w' ⟨rfl,rfl⟩)
     | fail)
    go_roundg (gk-1)
    case rel=>exact⟨d+1,by simp,by omega,HSET.out,updR2 (P:=fun j=>j=B) rfl HU.out _ _⟩
    case measure=>omega
  ·have hd16:d=16:=by omega
   subst hd16
   have hkr:Keeps w wr:=HK1.out.new HU.out (fun k hk=>by subst hk;exact hBw)
   have HKR:=Lib.hid hkr
   clear hkr HK1 HU
   obtain⟨wq,hwq⟩:∃ W,W=(wr.alloc (.cells #[.int .i64 0,.int .i64 1,.int .i64 2,.int .i64 3] 3)).alloc (.cells #[.int .u8 1,.slice (some ⟨B,0,none⟩) 16 16] 159):=⟨_,rfl⟩
   have hkq:Keeps wr wq:=by rw [hwq];exact((Keeps.refl _).alloc _).alloc _
   have hints:IntsAt wq (some ⟨wr.heap.size,0,none⟩) [0,1,2,3]:=fun i x hx=>by
    rw [hwq]
    refine⟨wr.heap.size,0,rfl,?_⟩
    have hi:=(List.getElem?_eq_some_iff.1 hx).1
    have h4:i=0∨i=1∨i=2∨i=3:=by simp at hi;omega
    rcases h4 with rfl|rfl|rfl|rfl<;>(simp at hx;subst hx;simp [go_sem])
   have htabs:IsTabs wq (some ⟨wr.heap.size+1,0,none⟩) (2 ^ [(0:Int),1,2,3].length) fs16:=fun i r hr=>by
    have hi:=(List.getElem?_eq_some_iff.1 hr).1
    have h0:i=0:=by simp [fs16] at hi;exact hi
    subst h0
    have hre:r=(1,part16 16):=by simp [fs16] at hr;exact hr.symm
    subst hre
    refine⟨⟨by decide,by decide⟩,part16_len 16,wr.heap.size+1,0,B,rfl,?_,?_,boolsKeep HB.out hkq⟩
    ·rw [hwq];simp [go_sem]
    ·rw [hwq];simp [go_sem]
   have hbd:=bed27_calls 500 (some ⟨wr.heap.size,0,none⟩) (some ⟨wr.heap.size+1,0,none⟩) 4 1 [0,1,2,3] fs16 wq hints (by decide) (by decide) htabs (by decide) (by decide) (by decide)
   have HBD:=Lib.hid hbd
   have HKQ:=Lib.hid (HKR.out.trans hkq)
   clear hints htabs hbd hkq HB HKR
   go_wp2_with fail
   rw [← hwq]
   clear hwq
   refine HBD.out.mono ?_
   rintro e w2 ⟨sb,ob,F,Fo,M,a,c,rs,rfl,hmid⟩
   obtain⟨hS,hst,hMr,hroots,hno,hrl⟩:=hmid.go (by decide) (by decide) (by decide) (by decide) (by decide)
   have hk2:=HKQ.out.trans hmid.keeps
   have hFk:∀ k,F k∨Fo k→wq.heap.size≤k:=hmid.lows
   have hs6:=(hst.size hS.rep (by decide) hS.n (by decide) (by have:=hS.rep.wf.full;rw [hMr] at this;omega)).1
   rw [size16] at hs6
   have hsz:=siftSize_small hS.rep a c rs (hroots w2 (Upd.refl _ _)) (by rw [hrl];decide) (mayR_stand hst) (by omega)
   rw [hs6,hrl] at hsz
   have hle:=fun(W:World) (hW:Keeps w2 W)=>siftLeast_calls (cap3:=c) (hS.keeps hW) (by decide) (by decide) (by decide) (by rw [hMr];decide) (by rw [hMr];decide) hst ((hroots w2 (Upd.refl _ _)).keeps hW) hno
   have HSZ:=Lib.hid hsz
   have HLE:=Lib.hid hle
   have HK2:=Lib.hid hk2
   have HFK:=Lib.hid hFk
   have hqs:=HKQ.out.size
   clear hS hst hMr hroots hno hrl hmid hk2 hFk hsz hle HBD
   go_wp2_with fail
   refine HSZ.out.mono ?_
   rintro e w3 ⟨rfl,hk3⟩
   have HLE3:=Lib.hid (HLE.out w3 hk3)
   have HK3:=Lib.hid hk3
   clear HLE HSZ hk3
   go_wp2_with fail
   refine HLE3.out.mono ?_
   rintro e w4 ⟨g,F',M',rs',rfl,hS',-,-,hlen',-,-,-,-,hU4⟩
   have hln:=fun(W:World) (hW:Keeps w4 W)=>store_len (hS'.rep.keeps hW)
   have e4:M'.len=4:=by rw [hlen'];exact_mod_cast size16_least
   rw [e4] at hln
   have HLN:=Lib.hid hln
   have hkf:Keeps w w4:=(HK2.out.trans HK3.out).new hU4 (fun k hk=>by have:=HFK.out k hk;omega)
   have HKF:=Lib.hid hkf
   clear hS' hlen' hU4 hln e4 hkf HLE3
   go_wp2_with (first|(go_at_call 44;refine(HLN.out _ (by(exact kp))).mono ?_;rintro e w5 ⟨rfl,rfl⟩)|fail)
   go_ret
   exact⟨rfl,HKF.out⟩

end Go.Proofs.YtpgcbmbnognieaaGreat
