/-
  nat.Cmp of a number that isn't less; nat.Sub of a number that isn't greater.
-/
import Derived.Test.YtpgcbmbnognieaaGreatPVBase
import Derived.Shelf.Spec.BitsCarry
namespace Go.Proofs.YtpgcbmbnognieaaGreat
set_option linter.unusedSimpArgs false
set_option linter.unusedVariables false
set_option maxHeartbeats 600000
open Go.RowKit

theorem valW_high {b:Nat} {us vs:List Int} {i:Nat} {x y:Int} (hu:WordsOk b us) (hv:WordsOk b vs) (hl:us.length=vs.length) (hx:us[i]?=some x) (hy:vs[i]?=some y) (hs:∀ j,i < j → us[j]?=vs[j]?) (hlt:x < y):valW b us < valW b vs:=by
 have hi:i < us.length:=(List.getElem?_eq_some_iff.1 hx).1
 have e1:us.drop (i + 1)=vs.drop (i + 1):=List.ext_getElem? (fun k=>by rw [List.getElem?_drop,List.getElem?_drop];exact hs _ (by omega))
 have s1:valW b us=valW b (us.take (i + 1)) + (b:Int) ^ (i + 1) * valW b (us.drop (i + 1)):=by
  conv=>lhs;rw [← List.take_append_drop (i + 1) us]
  rw [valW_append,List.length_take,Nat.min_eq_left (by omega)]
 have s2:valW b vs=valW b (vs.take (i + 1)) + (b:Int) ^ (i + 1) * valW b (vs.drop (i + 1)):=by
  conv=>lhs;rw [← List.take_append_drop (i + 1) vs]
  rw [valW_append,List.length_take,Nat.min_eq_left (by omega)]
 rw [s1,s2,e1,valW_succ b hx,valW_succ b hy]
 have h1:=valW_lt (hu.take i)
 have h2:=valW_nonneg (hv.take i)
 rw [List.length_take,Nat.min_eq_left (by omega)] at h1
 have h3:(b:Int) ^ i * (x + 1) ≤ (b:Int) ^ i * y:=Int.mul_le_mul_of_nonneg_left (by omega) (by have:=valW_nonneg (hu.take i);omega)
 rw [Int.mul_add,Int.mul_one] at h3
 omega

set_option maxRecDepth 100000 in
theorem ncmp_calls {lo lo' u v:Nat} {x y:Value} {w:World} (hx:NatV lo w u x) (hy:NatV lo' w v y) (hle:v ≤ u) (hu:(natW B64 u).length ≤ 64) (hv:(natW B64 v).length ≤ 64) :
  Calls Tryz.prog 279 #[x,y] w fun e w'=>(∃ c,e=.returned (.int .i64 c) ∧ 0 ≤ c ∧ c ≤ 1) ∧ Keeps w w':=by
 obtain ⟨us,hus⟩:∃ us,us=natW B64 u:=⟨_,rfl⟩
 obtain ⟨vs,hvs⟩:∃ vs,vs=natW B64 v:=⟨_,rfl⟩
 have hlen:vs.length ≤ us.length:=by
  rw [hus,hvs]
  exact natW_len b64_two (Nat.lt_of_le_of_lt hle (natW_lt b64_two (Nat.le_refl _)))
 have hno:us.length=vs.length → ∀ i p q,us[i]?=some p → vs[i]?=some q → (∀ j,i < j → us[j]?=vs[j]?) → ¬ p < q:=fun hl i p q hp hq hs hlt=>by
  have h1:=valW_high (b:=B64) (by rw [hus];exact natW_ok b64_two _) (by rw [hvs];exact natW_ok b64_two _) hl hp hq hs hlt
  rw [hus,hvs,valW_natW b64_two,valW_natW b64_two] at h1
  omega
 have hX:∀ W,Keeps w W → Calls Tryz.prog 69 #[x] W fun e w'=>∃ a c,e=.returned (.slice a us.length c) ∧ WordsAt w' a us ∧ Keeps W w':=fun W hW=>by
  rw [hus]
  refine (normV_calls (hx.keeps hW) (by omega)).mono ?_
  rintro e w1 ⟨z,rfl,h1,hk⟩
  obtain ⟨a1,c1,rfl,-,q1⟩:=natV_len h1
  exact ⟨a1,c1,rfl,q1,hk⟩
 have hY:∀ W,Keeps w W → Calls Tryz.prog 69 #[y] W fun e w'=>∃ a c,e=.returned (.slice a vs.length c) ∧ WordsAt w' a vs ∧ Keeps W w':=fun W hW=>by
  rw [hvs]
  refine (normV_calls (hy.keeps hW) (by omega)).mono ?_
  rintro e w1 ⟨z,rfl,h1,hk⟩
  obtain ⟨a1,c1,rfl,-,q1⟩:=natV_len h1
  exact ⟨a1,c1,rfl,q1,hk⟩
 rw [← hus] at hu
 clear hus hvs hx hy
 obtain ⟨n1,hn1⟩:∃ n,n=us.length:=⟨_,rfl⟩
 obtain ⟨n2,hn2⟩:∃ n,n=vs.length:=⟨_,rfl⟩
 rw [← hn1] at hX
 rw [← hn2] at hY
 rw [← hn1,← hn2] at hlen hno
 rw [← hn1] at hu
 have HN1:=Lib.hid hn1
 have HN2:=Lib.hid hn2
 have HX:=Lib.hid hX
 have HY:=Lib.hid hY
 have HNO:=Lib.hid hno
 clear hX hY hn1 hn2 hno hv hle
 rcases Nat.lt_or_ge n2 n1 with hlt | hge
 ·have g1:((n1:Int) == (n2:Int))=false:=by simp;omega
  have g2:¬ (n1:Int) < (n2:Int):=by omega
  go_enter Tryz.func279,Tryz.ntmps279
  go_wp2_with (first
   | (go_at_call 69;have qq:=HX;clear qq;refine (HX.out _ (by (exact kp))).mono ?_;rintro e w1 ⟨a1,c1,rfl,hw1,hk1⟩;clear HX)
   | (go_at_call 69;refine (HY.out _ (by (exact kp))).mono ?_;rintro e w2 ⟨a2,c2,rfl,hw2,hk2⟩)
   | fail)
  go_ret
  exact ⟨⟨1,rfl,by decide,by decide⟩,hk1.trans hk2⟩
 ·have hn:n1=n2:=by omega
  subst hn
  have hno:=HNO.out rfl
  have HN:=Lib.hid hno
  clear hno HNO hlen hge
  go_enter Tryz.func279,Tryz.ntmps279
  go_wp2_with (first
   | (go_at_call 69;have qq:=HX;clear qq;refine (HX.out _ (by (exact kp))).mono ?_;rintro e w1 ⟨a1,c1,rfl,hw1,hk1⟩;have HW1:=Lib.hid hw1;clear HX hw1)
   | (go_at_call 69;refine (HY.out _ (by (exact kp))).mono ?_;rintro e w2 ⟨a2,c2,rfl,hw2,hk2⟩;have HW2:=Lib.hid hw2;clear hw2)
   | fail)
  go_loopg [5] n1 (fun gk s5 wr=>s5=.int .i64 ((gk:Int) - 1) ∧ gk ≤ n1 ∧ (∀ j,gk ≤ j → us[j]?=vs[j]?) ∧ Keeps w2 wr)
  case atStart=>exact ⟨rfl,Nat.le_refl _,fun j hj=>by rw [List.getElem?_eq_none (by rw [← HN1.out];exact hj),List.getElem?_eq_none (by rw [← HN2.out];exact hj)],Keeps.refl _⟩
  case round=>
   obtain ⟨rfl,hg,hs,hk⟩:=hrel
   have HS:=Lib.hid hs
   clear hs
   by_cases hg0:gk=0
   ·subst hg0
    have q:¬ (0:Int) ≤ ((0:Nat):Int) - 1:=by omega
    go_wp2_with fail
    go_ret
    exact ⟨⟨0,rfl,by decide,by decide⟩,(hk1.trans hk2).trans hk⟩
   ·obtain ⟨j,rfl⟩:∃ j,gk=j + 1:=⟨gk - 1,by omega⟩
    rw [show ((j + 1:Nat):Int) - 1=(j:Int) from by omega]
    obtain ⟨p,b1,o1,hp,hp0,hp1,ha1,hcp⟩:=word_at (HW1.out.keeps (hk2.trans hk)) j (by rw [← HN1.out];omega)
    obtain ⟨q,b2,o2,hq,hq0,hq1,ha2,hcq⟩:=word_at (HW2.out.keeps hk) j (by rw [← HN2.out];omega)
    subst ha1
    subst ha2
    have hb1:=lt_of_cell hcp
    have hb2:=lt_of_cell hcq
    have hnlt:=HN.out j p q hp hq (fun k hk=>HS.out k (by omega))
    have g0:(0:Int) ≤ (j:Int):=by omega
    have HP:=Lib.hid hp
    have HQ:=Lib.hid hq
    clear hp hq hg0
    by_cases hgt:q < p
    ·go_wp2_with fail
     go_region
     go_wp2_with fail
     go_region
     go_wp2_with fail
     go_ret
     exact ⟨⟨1,rfl,by decide,by decide⟩,((hk1.trans hk2).trans hk).trans (by (exact kp))⟩
    ·have hpq:p=q:=by omega
     subst hpq
     go_wp2_with fail
     go_region
     go_wp2_with fail
     go_region
     go_wp2_with fail
     go_roundg j
     case rel=>exact ⟨rfl,by omega,fun k hk=>by
      by_cases hkj:k=j
      ·subst hkj;rw [HP.out,HQ.out]
      ·exact HS.out k (by omega),by (exact kp)⟩
     case measure=>omega

theorem sub64_hid (x y c:Int) (hx:0 ≤ x) (hy:0 ≤ y) (hy1:y < 2 ^ 64) (hc0:0 ≤ c) (hc:c ≤ 1):∃ s k:Int,(∀ w,(callFunc 280 #[.int .u64 x,.int .u64 y,.int .u64 c]).run Tryz.prog w=.ok (.value (.tuple #[.int .u64 s,.int .u64 k])) w) ∧ s=(x + B64 - y - c) % B64 ∧ k=(if x < y + c then 1 else 0):=by
 obtain ⟨X,rfl⟩:=Int.eq_ofNat_of_zero_le hx
 obtain ⟨Y,rfl⟩:=Int.eq_ofNat_of_zero_le hy
 obtain ⟨C,rfl⟩:=Int.eq_ofNat_of_zero_le hc0
 refine ⟨_,_,fun w=>?_,rfl,rfl⟩
 rw [run_callFunc_extern Tryz.func280 (by kernel_rfl) (by kernel_rfl) (by kernel_rfl) (e:=sub64Entry) (by kernel_rfl),run_sub64 X Y C (by omega)]
 have e1:(((X + 18446744073709551616 - Y - C) % 18446744073709551616:Nat):Int)=((X:Int) + B64 - Y - C) % B64:=by
  have:(B64:Int)=18446744073709551616:=rfl
  rw [this]
  omega
 have e2:((if X < Y + C then 1 else 0:Nat):Int)=if (X:Int) < Y + C then 1 else 0:=by split <;> split <;> omega
 rw [← e1,← e2]
 rfl

set_option maxRecDepth 100000 in
theorem nsub_zero {lo lo':Nat} {x y:Value} {w:World} (hx:NatV lo w 0 x) (hy:NatV lo' w 0 y) :
  Calls Tryz.prog 239 #[x,y] w fun e w'=>∃ z,e=.returned (.tuple #[z,.bool true]) ∧ NatV w.heap.size w' 0 z ∧ Keeps w w':=by
 have hl0:(natW B64 0).length=0:=by rw [natW_zero];rfl
 have hB:Calls Tryz.prog 241 #[x,y] w fun e w'=>∃ (x' y':Value) (a1:Option Addr) (c1:Nat) (a2:Option Addr) (c2:Nat),e=.returned (.tuple #[x',y',.bool true]) ∧ x'=.slice a1 0 c1 ∧ y'=.slice a2 0 c2 ∧ NatV w.heap.size w' 0 x' ∧ NatV w.heap.size w' 0 y' ∧ Keeps w w':=by
  refine (nboth_calls hx hy (by omega) (by omega)).mono ?_
  rintro e w1 ⟨x',y',rfl,h1,h2,hk⟩
  have h1':=h1
  have h2':=h2
  obtain ⟨a1,c1,rfl,hc1,q1⟩:=h1
  obtain ⟨a2,c2,rfl,-,q2⟩:=h2
  exact ⟨_,_,a1,c1,a2,c2,rfl,by rw [hl0],by rw [hl0],h1',h2',hk⟩
 have hC:∀ (W:World) (x' y':Value),NatV w.heap.size W 0 x' → NatV w.heap.size W 0 y' → Calls Tryz.prog 279 #[x',y'] W fun e w'=>(∃ c,e=.returned (.int .i64 c) ∧ 0 ≤ c ∧ c ≤ 1) ∧ Keeps W w':=fun W x' y' h1 h2=>ncmp_calls h1 h2 (Nat.le_refl 0) (by omega) (by omega)
 have hT:∀ (W:World) (a:Option Addr) (c:Nat),Calls Tryz.prog 244 #[.slice a 0 c] W fun e w'=>∃ z,e=.returned (.tuple #[z,.bool true]) ∧ NatV W.heap.size w' 0 z ∧ Keeps W w':=fun W a c=>told_any a c [] W (fun i x hx=>by simp at hx) (by simp) (Nat.zero_le _) (by show (natW B64 0).length ≤ 64;omega)
 have HB:=Lib.hid hB
 have HC:=Lib.hid hC
 have HT:=Lib.hid hT
 clear hB hC hT hl0 hx hy
 go_enter Tryz.func239,Tryz.ntmps239
 go_wp2_with (first
  | (go_at_call 241;refine HB.out.mono ?_;rintro e w1 ⟨x',y',a1,c1,a2,c2,rfl,hx',hy',hnx,hny,hk1⟩;have HCC:=Lib.hid (HC.out w1 x' y' hnx hny);subst hx';subst hy';clear hnx hny)
  | (go_at_call 279;refine HCC.out.mono ?_;rintro e w2 ⟨⟨cc,rfl,hcc0,hcc1⟩,hk2⟩)
  | fail)
 go_loopg [27] 0 (fun gk s27 wr=>s27=.int .i64 0 ∧ w2=wr)
 case atStart=>exact ⟨rfl,rfl⟩
 case round=>
  obtain ⟨rfl,rfl⟩:=hrel
  go_wp2_with (first | (go_at_call 244;refine (HT.out _ _ _).mono ?_;rintro e w5 ⟨zv,rfl,hzv,hk5⟩) | fail)
  go_ret2
  exact ⟨zv,rfl,hzv.le (hk1.trans hk2).size,(hk1.trans hk2).trans hk5⟩

set_option maxRecDepth 100000 in
set_option maxHeartbeats 400000 in
theorem nsub_calls {lo lo' u v:Nat} {x y:Value} {w:World} (hx:NatV lo w u x) (hy:NatV lo' w v y) (hle:v ≤ u) (hu:(natW B64 u).length ≤ 64) (hv:(natW B64 v).length ≤ 64) :
  Calls Tryz.prog 239 #[x,y] w fun e w'=>∃ z,e=.returned (.tuple #[z,.bool true]) ∧ NatV w.heap.size w' (u - v) z ∧ Keeps w w':=by
 by_cases hzero:u=0
 ·subst hzero
  obtain rfl:v=0:=by omega
  exact nsub_zero hx hy
 obtain ⟨us,hus⟩:∃ us,us=natW B64 u:=⟨_,rfl⟩
 obtain ⟨vs,hvs⟩:∃ vs,vs=natW B64 v:=⟨_,rfl⟩
 have huok:WordsOk B64 us:=by rw [hus];exact natW_ok b64_two _
 have hvok:WordsOk B64 vs:=by rw [hvs];exact natW_ok b64_two _
 have hlen:vs.length ≤ us.length:=by
  rw [hus,hvs]
  exact natW_len b64_two (Nat.lt_of_le_of_lt hle (natW_lt b64_two (Nat.le_refl _)))
 have hval:valW B64 (subB B64 us vs 0)=((u - v:Nat):Int):=by
  rw [subB_whole b64_two huok hvok hlen (by rw [hus,hvs,valW_natW b64_two,valW_natW b64_two];omega),hus,hvs,valW_natW b64_two,valW_natW b64_two]
  omega
 have hl64:(natW B64 (u - v)).length ≤ 64:=natW_len b64_two (Nat.lt_of_le_of_lt (Nat.sub_le u v) (natW_lt b64_two hu))
 obtain ⟨R,hR⟩:∃ R,R=subB B64 us vs 0:=⟨_,rfl⟩
 have hinv0:us.take 0 ++ subB B64 (us.drop 0) (vs.drop 0) 0=R:=by rw [hR];rfl
 have hokR:WordsOk B64 R:=by rw [hR];exact subB_ok b64_two _ _ _
 have hlenR:R.length=us.length:=by rw [hR];exact subB_len _ _ _ _
 rw [← hR] at hval
 clear hR
 have hne:us ≠ []:=by
  intro e
  rw [hus] at e
  by_cases h0:u=0
  ·exact hzero h0
  ·rw [natW_pos h0 b64_two] at e;cases e
 have hTold:∀ (W:World) (g cap:Nat) (ws:List Int),ws=R → RowU W g ws → ws.length ≤ cap → Calls Tryz.prog 244 #[.slice (some ⟨g,0,none⟩) ws.length cap] W fun e w'=>∃ z,e=.returned (.tuple #[z,.bool true]) ∧ NatV W.heap.size w' (u - v) z ∧ Keeps W w':=fun W g cap ws he hrow hc=>by
  subst he
  have q:=told_calls cap ws W hrow hokR (by rw [hlenR,hus];omega) hc (by rw [hval,Int.toNat_natCast];exact hl64)
  rw [hval,Int.toNat_natCast] at q
  exact q
 have hB:Calls Tryz.prog 241 #[x,y] w fun e w'=>∃ (x' y':Value) (g c1:Nat) (a2:Option Addr) (c2:Nat),e=.returned (.tuple #[x',y',.bool true]) ∧ x'=.slice (some ⟨g,0,none⟩) us.length c1 ∧ y'=.slice a2 vs.length c2 ∧ us.length ≤ c1 ∧ w.heap.size ≤ g ∧ RowU w' g us ∧ RowUV (g + 1) w' a2 vs ∧ NatV w.heap.size w' u x' ∧ NatV w.heap.size w' v y' ∧ Keeps w w':=by
  rw [hus,hvs] at *
  refine (nboth_two hx hy hu hv).mono ?_
  rintro e w2 ⟨x',y',w1,rfl,h1,hk1,hk2,h2⟩
  have h1':=h1.keeps hk2
  have h2':=h2.le hk1.size
  obtain ⟨a1,c1,rfl,hc1,q1⟩:=h1
  obtain ⟨g,rfl,hg,hrow⟩:=q1 hne
  obtain ⟨a2,c2,rfl,-,q2⟩:=h2.le (show g + 1 ≤ w1.heap.size from hrow.lt)
  exact ⟨_,_,g,c1,a2,c2,rfl,rfl,rfl,hc1,hg,hrow.keeps hk2,q2,h1',h2',hk1.trans hk2⟩
 rw [← hus] at hu
 rw [← hvs] at hv
 have hC:∀ (W:World) (x' y':Value),NatV w.heap.size W u x' → NatV w.heap.size W v y' → Calls Tryz.prog 279 #[x',y'] W fun e w'=>(∃ c,e=.returned (.int .i64 c) ∧ 0 ≤ c ∧ c ≤ 1) ∧ Keeps W w':=fun W x' y' h1 h2=>ncmp_calls h1 h2 hle (by rw [← hus];exact hu) (by rw [← hvs];exact hv)
 clear hus hvs hval hl64 hx hy hokR hle hzero hne
 obtain ⟨n1,hn1⟩:∃ n,n=us.length:=⟨_,rfl⟩
 obtain ⟨n2,hn2⟩:∃ n,n=vs.length:=⟨_,rfl⟩
 rw [← hn1,← hn2] at hB hlen
 rw [← hn1] at hu hlenR
 have HN1:=Lib.hid hn1
 have HN2:=Lib.hid hn2
 have HT:=Lib.hid hTold
 have HB:=Lib.hid hB
 have HI0:=Lib.hid hinv0
 have HLR:=Lib.hid hlenR
 have HUO:=Lib.hid huok
 have HVO:=Lib.hid hvok
 have HC:=Lib.hid hC
 clear hTold hinv0 hlenR huok hvok hn1 hn2 hB hC hv
 go_enter Tryz.func239,Tryz.ntmps239
 go_wp2_with (first
  | (go_at_call 241;refine HB.out.mono ?_;rintro e w1 ⟨x',y',g,c1,a2,c2,rfl,hx',hy',hc1,hg,hrow,hw2,hnx,hny,hk1⟩;have HROW:=Lib.hid hrow;have HW2:=Lib.hid hw2;have HCC:=Lib.hid (HC.out w1 x' y' hnx hny);subst hx';subst hy';clear hrow hw2 hnx hny)
  | (go_at_call 279;refine HCC.out.mono ?_;rintro e w2 ⟨⟨cc,rfl,hcc0,hcc1⟩,hk2⟩)
  | fail)
 have hgl:=HROW.out.lt
 have hks:=hk1.size
 have hks2:=hk2.size
 have HROW2:=Lib.hid (HROW.out.keeps hk2)
 go_loopg [7,8,9,27] n1 (fun gk s7 s8 s9 s27 wr=>∃ (i:Nat) (c:Int) (rs:List Int),s27=.int .i64 (i:Int) ∧ s7=.int .u64 c ∧ i + gk=n1 ∧ 0 ≤ c ∧ c ≤ 1 ∧ rs.length=n1 ∧ rs.take i ++ subB B64 (us.drop i) (vs.drop i) c=R ∧ (∀ j,i ≤ j → rs[j]?=us[j]?) ∧ RowU wr g rs ∧ Upd (fun k=>k=g) w2 wr)
 case atStart=>exact ⟨0,0,us,rfl,rfl,by omega,by omega,by omega,HN1.out.symm,HI0.out,fun j _=>rfl,HROW2.out,Upd.refl _ _⟩
 case round=>
  obtain ⟨i,c,rs,rfl,rfl,hig,c0,c1',hrl,hinv,hsame,hR,hU⟩:=hrel
  have HINV:=Lib.hid hinv
  have HR:=Lib.hid hR
  have HU:=Lib.hid hU
  have HRL:=Lib.hid hrl
  have HSM:=Lib.hid hsame
  clear hinv hR hU hrl hsame
  have hrlt:=HR.out.lt
  by_cases hi:i < n1
  ·obtain ⟨p,hp⟩:∃ p,us[i]?=some p:=⟨_,List.getElem?_eq_getElem (by rw [← HN1.out];exact hi)⟩
   have hpr:=HUO.out p (List.mem_of_getElem? hp)
   have hp2:rs[i]?=some p:=by rw [HSM.out i (Nat.le_refl _)];exact hp
   have cz:=HR.out.cell hp2
   have cf:=HR.out.frozen i
   have q0:(i:Int) < (n1:Int):=by omega
   by_cases hi2:i < n2
   ·have hw2r:WordsAt wr a2 vs:=by
     have h1:=HW2.out.keeps hk2
     refine RowUV.words (lo:=g + 1) (fun hn=>?_) (fun z hz=>HVO.out z hz)
     obtain ⟨g2,e2,hg2,hr2⟩:=h1 hn
     exact ⟨g2,e2,hg2,hr2.keep HU.out (fun e=>by omega)⟩
    obtain ⟨q,b2,o2,hq,hq0,hq1,ha2,hcq⟩:=word_at hw2r i (by rw [← HN2.out];exact hi2)
    subst ha2
    have hb2:=lt_of_cell hcq
    have q02:(i:Int) < (n2:Int):=by omega
    obtain ⟨s,k,hrun,hs,hk⟩:=sub64_hid p q c hpr.1 hq0 hq1 c0 c1'
    have hst:=subB_step hp HINV.out
    rw [drop_headD hq,← hs,← hk] at hst
    have hkr2:0 ≤ k ∧ k ≤ 1:=by rw [hk];split <;> decide
    have HST:=Lib.hid hst
    clear hst hs hk hp hq hp2 hpr hw2r
    obtain ⟨k0,k1'⟩:=hkr2
    go_wp2_with (simp only [hrun])
    go_roundg (gk - 1)
    case rel=>exact ⟨i + 1,k,rs.set i s,congrArg (Value.int .i64) (by omega),rfl,by omega,k0,k1',by rw [List.length_set,HRL.out],by rw [wset_take (by rw [HRL.out];omega)];exact HST.out,fun j hj=>by rw [List.getElem?_set_ne (by omega)];exact HSM.out j (by omega),HR.out.set i s (by rw [HRL.out];omega),HU.out.setCell (Or.inl rfl) _⟩
    case measure=>omega
   ·have q02:¬ (i:Int) < (n2:Int):=by omega
    obtain ⟨s,k,hrun,hs,hk⟩:=sub64_hid p 0 c hpr.1 (Int.le_refl 0) (by decide) c0 c1'
    have hst:=subB_step hp HINV.out
    rw [drop_headD_none (by rw [← HN2.out];omega),← hs,← hk] at hst
    have hkr2:0 ≤ k ∧ k ≤ 1:=by rw [hk];split <;> decide
    have HST:=Lib.hid hst
    clear hst hs hk hp hp2 hpr
    obtain ⟨k0,k1'⟩:=hkr2
    go_wp2_with (simp only [hrun])
    go_roundg (gk - 1)
    case rel=>exact ⟨i + 1,k,rs.set i s,congrArg (Value.int .i64) (by omega),rfl,by omega,k0,k1',by rw [List.length_set,HRL.out],by rw [wset_take (by rw [HRL.out];omega)];exact HST.out,fun j hj=>by rw [List.getElem?_set_ne (by omega)];exact HSM.out j (by omega),HR.out.set i s (by rw [HRL.out];omega),HU.out.setCell (Or.inl rfl) _⟩
    case measure=>omega
  ·have hie:i=n1:=by omega
   subst hie
   have q0:¬ (i:Int) < (i:Int):=by omega
   have hfin:rs=R:=by
    have h1:=HINV.out
    rw [List.take_of_length_le (by rw [HRL.out];exact Nat.le_refl _),List.drop_of_length_le (by rw [← HN1.out];exact Nat.le_refl _)] at h1
    rw [← h1]
    show rs=rs ++ []
    rw [List.append_nil]
   have hT2:=HT.out _ _ c1 _ hfin HR.out (by rw [HRL.out];exact hc1)
   rw [HRL.out] at hT2
   have HT2:=Lib.hid hT2
   clear hfin hT2
   go_wp2_with (first | (go_at_call 244;refine HT2.out.mono ?_;rintro e w5 ⟨zv,rfl,hzv,hk5⟩) | fail)
   go_ret2
   have hke:Keeps w wr:=(hk1.trans hk2).new HU.out (fun k hk=>by omega)
   exact ⟨zv,rfl,hzv.le hke.size,hke.trans hk5⟩

def bRest (_:St) (l:Int) (lo hi:Edge):(Edge × Int) ⊕ Rec:=if lo=hi then .inl (lo,0) else .inr ⟨1,l,l,lo,hi⟩

def zRest (_:St) (l:Int) (lo hi:Edge):(Edge × Int) ⊕ Rec:=if hi.to=0 then .inl (lo,0) else .inr ⟨2,l,l,lo,hi⟩

def cRest (M:St) (l:Int) (lo hi:Edge):(Edge × Int) ⊕ Rec:=
 if lo=hi then .inl (lo,0) else match look M.cs lo.to with
  | none=>.inr ⟨3,l,l,lo,hi⟩
  | some r=>if r.top=l + 1 then (if r.hi=hi then .inr ⟨3,l,r.bot,r.lo,hi⟩ else .inr ⟨3,l,l,lo,hi⟩) else .inr ⟨3,l,l,lo,hi⟩

def qRest (M:St) (l:Int) (lo hi:Edge):(Edge × Int) ⊕ Rec:=
 if hi.to=0 then .inl (lo,0) else match look M.cs lo.to with
  | none=>.inr ⟨4,l,l,lo,hi⟩
  | some r=>if lo=hi then (if r.top=l + 1 then .inr ⟨4,l,r.bot,r.lo,r.hi⟩ else .inr ⟨4,l,l,lo,hi⟩) else .inr ⟨4,l,l,lo,hi⟩

def makeAct (M:St) (f l:Int) (lo hi:Edge) (rest:(Edge × Int) ⊕ Rec):(Edge × Int) ⊕ Rec:=
 if l < 0 ∨ M.n ≤ l then .inl (⟨0,0⟩,3)
 else if M.leads f lo (l + 1)=false ∨ M.leads f hi (l + 1)=false then .inl (⟨0,0⟩,1) else rest

def actE0 (M:St):(Edge × Int) ⊕ Rec → Edge | .inl x=>x.1 | .inr r=>foundE M 0 r

theorem rec_ok {f l b:Int} {lo hi:Edge} (hf:0 ≤ f ∧ f ≤ 255) (h0:0 ≤ l) (h1:l ≤ 16) (hb:0 ≤ b ∧ b ≤ 255) (hlo:lo.ok) (hhi:hi.ok):(⟨f,l,b,lo,hi⟩:Rec).ok:=
 ⟨hf,⟨h0,by show l ≤ 255;omega⟩,hb,hlo,hhi⟩

theorem bdd_found0 {F:Nat → Prop} {w:World} {sb:Nat} {M:St} (h:StoreRep F w sb M) (r:Rec) (hr:r.ok) :
  Calls Tryz.prog 227 #[.pointer (some ⟨sb,0,none⟩),.agg #[.int .u8 r.form,.int .u8 r.top,.int .u8 r.bot,.int .u8 r.lo.tag,.int .u32 r.lo.to,.int .u8 r.hi.tag,.int .u32 r.hi.to]] w fun e w'=>e=.returned (.tuple #[.agg #[.int .u8 (foundE M 0 r).tag,.int .u32 (foundE M 0 r).to],.int .u8 (M.findErr r)]) ∧ Upd F w w' ∧ StoreRep (Grow F w w') w' sb (M.findSt r):=by
 have hf:=fun (W:World) (hW:Keeps w W)=>store_find (h.keeps hW) r hr
 by_cases he:M.findErr r=0
 ·have e1:foundE M 0 r=⟨0,M.findId r⟩:=if_pos he
  rw [e1,he]
  rw [he] at hf
  refine (bfound_ok sb r (M.findId r) w h.pos h.lt (fun W W1=>StoreRep (Grow F W W1) W1 sb (M.findSt r)) hf).mono ?_
  rintro e w' ⟨rfl,W,W1,h1,h2,h3,h4⟩
  exact ⟨rfl,h3.after h.lt h1 h2 h4⟩
 ·have e1:foundE M 0 r=⟨0,0⟩:=if_neg he
  rw [e1]
  refine (bfound_bad sb r (M.findId r) (M.findErr r) he w h.pos h.lt (fun W W1=>StoreRep (Grow F W W1) W1 sb (M.findSt r)) hf).mono ?_
  rintro e w' ⟨rfl,W,W1,h1,h2,h3,h4⟩
  exact ⟨rfl,h3.after h.lt h1 h2 h4⟩

theorem zdd_found0 {F:Nat → Prop} {w:World} {sb:Nat} {M:St} (h:StoreRep F w sb M) (r:Rec) (hr:r.ok) :
  Calls Tryz.prog 228 #[.pointer (some ⟨sb,0,none⟩),.agg #[.int .u8 r.form,.int .u8 r.top,.int .u8 r.bot,.int .u8 r.lo.tag,.int .u32 r.lo.to,.int .u8 r.hi.tag,.int .u32 r.hi.to]] w fun e w'=>e=.returned (.tuple #[.agg #[.int .u8 (foundE M 0 r).tag,.int .u32 (foundE M 0 r).to],.int .u8 (M.findErr r)]) ∧ Upd F w w' ∧ StoreRep (Grow F w w') w' sb (M.findSt r):=by
 have hf:=fun (W:World) (hW:Keeps w W)=>store_find (h.keeps hW) r hr
 by_cases he:M.findErr r=0
 ·have e1:foundE M 0 r=⟨0,M.findId r⟩:=if_pos he
  rw [e1,he]
  rw [he] at hf
  refine (yfound_ok sb r (M.findId r) w h.pos h.lt (fun W W1=>StoreRep (Grow F W W1) W1 sb (M.findSt r)) hf).mono ?_
  rintro e w' ⟨rfl,W,W1,h1,h2,h3,h4⟩
  exact ⟨rfl,h3.after h.lt h1 h2 h4⟩
 ·have e1:foundE M 0 r=⟨0,0⟩:=if_neg he
  rw [e1]
  refine (yfound_bad sb r (M.findId r) (M.findErr r) he w h.pos h.lt (fun W W1=>StoreRep (Grow F W W1) W1 sb (M.findSt r)) hf).mono ?_
  rintro e w' ⟨rfl,W,W1,h1,h2,h3,h4⟩
  exact ⟨rfl,h3.after h.lt h1 h2 h4⟩

theorem ints_calls (a b:Option Addr) (cap cap2:Nat) (ps qs:List Int) (w:World) (h1:IntsAt w a ps) (h2:IntsAt w b qs) (hl1:ps.length ≤ 1048576) (hl2:qs.length ≤ 1048576) :
  Calls Tryz.prog 26 #[.slice a ps.length cap,.slice b qs.length cap2] w fun e w'=>e=.returned (.bool (decide (ps=qs))) ∧ Keeps w w':=by
 by_cases hne:ps.length=qs.length
 ·obtain ⟨N,hN⟩:∃ N,N=ps.length:=⟨_,rfl⟩
  have hM:N=qs.length:=hN.trans hne
  rw [← hM,← hN]
  rw [← hN] at hl1
  have H1:=Lib.hid h1
  have H2:=Lib.hid h2
  have HN:=Lib.hid hN
  have HM:=Lib.hid hM
  clear h1 h2 hN hM hne hl2
  go_enter Tryz.func26,Tryz.ntmps26
  go_wp2
  go_loopg [5] N (fun gk s5 wr=>∃ d:Nat,s5=.int .i64 (d:Int) ∧ d + gk=N ∧ (∀ i,i < d → ps[i]?=qs[i]?) ∧ Keeps w wr)
  case atStart=>exact ⟨0,rfl,by omega,fun i hi=>by omega,by (exact kp)⟩
  case round=>
   obtain ⟨d,rfl,hd,hn,hk⟩:=hrel
   have HNN:=Lib.hid hn
   clear hn
   by_cases hlt:d < N
   ·obtain ⟨x,hx⟩:∃ b,ps[d]?=some b:=⟨_,List.getElem?_eq_getElem (by rw [← HN.out];exact hlt)⟩
    obtain ⟨y,hy⟩:∃ b,qs[d]?=some b:=⟨_,List.getElem?_eq_getElem (by rw [← HM.out];exact hlt)⟩
    obtain ⟨b1,o1,rfl,c0⟩:=H1.out d x hx
    obtain ⟨b2,o2,rfl,c1⟩:=H2.out d y hy
    replace c0:=hk.cell c0
    replace c1:=hk.cell c1
    have HX:=Lib.hid hx
    have HY:=Lib.hid hy
    have i0:(0:Int) ≤ (d:Int):=by omega
    have i1:(d:Int) < (N:Int):=by omega
    clear hx hy
    by_cases hab:x=y
    ·subst hab
     go_wp2_with fail
     go_quiet (fail)
     go_wp2
     go_roundg (gk - 1)
     case rel=>
      refine ⟨d + 1,by simp,by omega,fun i hi=>?_,by (exact kp)⟩
      by_cases e:i=d
      ·subst e;rw [HX.out,HY.out]
      ·exact HNN.out i (by omega)
     case measure=>omega
    ·have gab:(x != y)=true:=by simp [hab]
     have hf:Hid (¬ ps=qs):=Lib.hid (fun e=>by have:=HX.out;rw [e,HY.out] at this;exact hab (Option.some.inj this).symm)
     go_wp2_with fail
     go_quiet (fail)
     go_wp2
     go_ret
     exact ⟨by rw [decide_eq_false hf.out];rfl,by (exact kp)⟩
   ·have hg0:d=N:=by omega
    have hh:ps=qs:=by
     apply List.ext_getElem?
     intro i
     by_cases hi:i < d
     ·exact HNN.out i hi
     ·rw [List.getElem?_eq_none (by rw [← HN.out];omega),List.getElem?_eq_none (by rw [← HM.out];omega)]
    have HH:=Lib.hid hh
    clear hg0 hh
    go_wp2_with fail
    go_ret
    exact ⟨by rw [decide_eq_true HH.out];rfl,hk⟩
 ·have hf:decide (ps=qs)=false:=decide_eq_false (fun e=>hne (by rw [e]))
  obtain ⟨N,hN⟩:∃ N,N=ps.length:=⟨_,rfl⟩
  obtain ⟨K,hK⟩:∃ K,K=qs.length:=⟨_,rfl⟩
  rw [hf]
  rw [← hN,← hK] at hne ⊢
  have gne:((N:Int) != (K:Int))=true:=by simp;omega
  clear h1 h2 hl1 hl2 hN hK hf hne
  go_enter Tryz.func26,Tryz.ntmps26
  go_wp2
  go_ret
  exact ⟨rfl,by (exact kp)⟩

end Go.Proofs.YtpgcbmbnognieaaGreat
