/-
  math/bits.Div64 by 2 to 20; nat.Div by it.
-/
import Derived.Test.YtpgcbmbnognieaaGreatPNatX
import Derived.Lib.Tables
namespace Go.Proofs.YtpgcbmbnognieaaGreat
set_option linter.unusedSimpArgs false
set_option linter.unusedVariables false
set_option maxHeartbeats 600000
open Go.RowKit

theorem len64_20 (w:World):Calls Tryz.prog 256 #[.int .u64 1048576] w fun e w'=>e=.returned (.int .i64 21) ∧ w=w':=by
 have h5:Lib.len8 16=5:=by decide +kernel
 have h21:wrap64 (16 + wrap64 (Lib.len8 16))=21:=by rw [h5];decide +kernel
 have HH:=Lib.hid h21
 clear h5 h21
 go_enter Tryz.func256,Tryz.ntmps256
 go_wp2
 rw [HH.out]
 go_ret
 exact ⟨rfl,rfl⟩

theorem lead64_20 (w:World):Calls Tryz.prog 245 #[.int .u64 1048576] w fun e w'=>e=.returned (.int .i64 43) ∧ w=w':=by
 have H:=Lib.hid (len64_20 w)
 go_enter Tryz.func245,Tryz.ntmps245
 go_wp2_with (first | (go_at_call 256;refine H.out.mono ?_;rintro e w1 ⟨rfl,rfl⟩) | fail)
 go_ret
 exact ⟨rfl,rfl⟩

set_option maxHeartbeats 1000000 in
set_option maxRecDepth 100000 in
theorem div64_low (lo:Int) (w:World) (h0:0 ≤ lo) (h1:lo < 18446744073709551616):Calls Tryz.prog 199 #[.int .u64 0,.int .u64 lo,.int .u64 1048576] w fun e w'=>e=.returned (.tuple #[.int .u64 (lo / 1048576),.int .u64 (lo % 1048576)]) ∧ Keeps w w':=by
 go_enter Tryz.func199,Tryz.ntmps199
 go_wp2_with fail
 go_region
 go_wp2_with fail
 go_ret2
 exact ⟨rfl,by (exact kp)⟩

theorem div_arith {hi lo U Q1 R1 X U1 U0 V Q0 R0:Int} (g0:0 ≤ hi) (g1:hi < 1048576) (h0:0 ≤ lo) (h1:lo < 18446744073709551616)
  (hU:U=hi * 8796093022208 + lo / 2097152) (hQ1:Q1=U / 2147483648) (hR1:R1=U % 2147483648) (hX:X=lo * 8796093022208 % 18446744073709551616) (hU1:U1=X / 4294967296) (hU0:U0=X % 4294967296)
  (hV:V=R1 * 4294967296 + U1) (hQ0:Q0=V / 2147483648) (hR0:R0=V % 2147483648) :
  Q1 * 4294967296 + Q0=(hi * 18446744073709551616 + lo) / 1048576 ∧ (R0 * 4294967296 + U0) / 8796093022208=(hi * 18446744073709551616 + lo) % 1048576:=by
 have a1:X=(lo % 2097152) * 8796093022208:=by omega
 have a2:U1=(lo % 2097152) * 2048:=by omega
 have a3:U0=0:=by omega
 have a4:Q1=hi * 4096 + lo / 4503599627370496:=by omega
 have a5:R1=lo / 2097152 % 2147483648:=by omega
 have a6:V=(lo % 4503599627370496) * 2048:=by omega
 have a7:Q0=lo % 4503599627370496 / 1048576:=by omega
 have a8:R0=(lo % 1048576) * 2048:=by omega
 constructor
 ·omega
 ·omega

theorem or_parts {hi lo:Int} (g0:0 ≤ hi) (g1:hi < 1048576) (h0:0 ≤ lo) (h1:lo < 18446744073709551616):bits BinOp.or IntKind.u64 (hi * 8796093022208) (lo / 2097152)=hi * 8796093022208 + lo / 2097152:=by
 obtain ⟨H,rfl⟩:=Int.eq_ofNat_of_zero_le g0
 obtain ⟨L,rfl⟩:=Int.eq_ofNat_of_zero_le h0
 have e1:(H:Int) * 8796093022208=((2 ^ 43 * H:Nat):Int):=by rw [Nat.mul_comm];rfl
 have e2:(L:Int) / 2097152=((L / 2097152:Nat):Int):=by omega
 have hl:L / 2097152 < 2 ^ 43:=by omega
 rw [e1,e2,bits_or_u64_nat _ _ (by omega) (by omega),← Nat.two_pow_add_eq_or_of_lt hl]
 omega

theorem low32 {x:Int} (h0:0 ≤ x) (h1:x < 18446744073709551616):bits BinOp.and IntKind.u64 x 4294967295=x % 4294967296:=by
 obtain ⟨X,rfl⟩:=Int.eq_ofNat_of_zero_le h0
 rw [lowN X (by omega)]
 omega

set_option maxHeartbeats 1000000 in
set_option maxRecDepth 100000 in
theorem div64_high (hi lo:Int) (w:World) (g0:0 < hi) (g1:hi < 1048576) (h0:0 ≤ lo) (h1:lo < 18446744073709551616):Calls Tryz.prog 199 #[.int .u64 hi,.int .u64 lo,.int .u64 1048576] w fun e w'=>e=.returned (.tuple #[.int .u64 ((hi * 18446744073709551616 + lo) / 1048576),.int .u64 ((hi * 18446744073709551616 + lo) % 1048576)]) ∧ w=w':=by
 have gz:(hi == 0)=false:=by simp;omega
 obtain ⟨U,hU⟩:∃ U,U=hi * 8796093022208 + lo / 2097152:=⟨_,rfl⟩
 obtain ⟨Q1,hQ1⟩:∃ Q,Q=U / 2147483648:=⟨_,rfl⟩
 obtain ⟨R1,hR1⟩:∃ Q,Q=U % 2147483648:=⟨_,rfl⟩
 obtain ⟨X,hX⟩:∃ Q,Q=lo * 8796093022208 % 18446744073709551616:=⟨_,rfl⟩
 obtain ⟨U1,hU1⟩:∃ Q,Q=X / 4294967296:=⟨_,rfl⟩
 obtain ⟨U0,hU0⟩:∃ Q,Q=X % 4294967296:=⟨_,rfl⟩
 obtain ⟨V,hV⟩:∃ Q,Q=R1 * 4294967296 + U1:=⟨_,rfl⟩
 obtain ⟨Q0,hQ0⟩:∃ Q,Q=V / 2147483648:=⟨_,rfl⟩
 obtain ⟨R0,hR0⟩:∃ Q,Q=V % 2147483648:=⟨_,rfl⟩
 obtain ⟨a1,a2⟩:=div_arith (by omega) g1 h0 h1 hU hQ1 hR1 hX hU1 hU0 hV hQ0 hR0
 have b1:0 ≤ U ∧ U < 9223372036854775808:=by omega
 have b2:0 ≤ Q1 ∧ Q1 < 4294967296:=by omega
 have b3:0 ≤ R1 ∧ R1 < 2147483648:=by omega
 have b4:0 ≤ X ∧ X < 18446744073709551616:=by omega
 have b5:0 ≤ U1 ∧ U1 < 4294967296:=by omega
 have b6:0 ≤ U0 ∧ U0 < 4294967296:=by omega
 have b7:0 ≤ V ∧ V < 9223372036854775808:=by omega
 have b8:0 ≤ Q0 ∧ Q0 < 4294967296:=by omega
 have b9:0 ≤ R0 ∧ R0 < 2147483648:=by omega
 have e1:bits BinOp.or IntKind.u64 (hi * 8796093022208) (lo / 2097152)=U:=by rw [or_parts (by omega) g1 h0 h1,hU]
 have e2:IntKind.u64.wrap (U.tdiv 2147483648)=Q1:=by rw [Int.tdiv_eq_ediv_of_nonneg b1.1,IntKind.wrap_u64];omega
 have e3:IntKind.u64.wrap (U - IntKind.u64.wrap (Q1 * 2147483648))=R1:=by rw [IntKind.wrap_u64,IntKind.wrap_u64];omega
 have e4:IntKind.u64.wrap (lo * 8796093022208)=X:=by rw [IntKind.wrap_u64];omega
 have e5:bits BinOp.and IntKind.u64 X 4294967295=U0:=by rw [low32 b4.1 b4.2,hU0]
 have e6:bits BinOp.and IntKind.u64 9223372036854775808 4294967295=0:=by rw [low32 (by decide) (by decide)];decide
 have e7:X / 4294967296=U1:=hU1.symm
 have e8:IntKind.u64.wrap (IntKind.u64.wrap (IntKind.u64.wrap (U * 4294967296) + U1) - IntKind.u64.wrap (Q1 * 9223372036854775808))=V:=by
  rw [IntKind.wrap_u64,IntKind.wrap_u64,IntKind.wrap_u64,IntKind.wrap_u64];omega
 have e9:IntKind.u64.wrap (V.tdiv 2147483648)=Q0:=by rw [Int.tdiv_eq_ediv_of_nonneg b7.1,IntKind.wrap_u64];omega
 have e10:IntKind.u64.wrap (V - IntKind.u64.wrap (Q0 * 2147483648))=R0:=by rw [IntKind.wrap_u64,IntKind.wrap_u64];omega
 have HE:=Lib.hid (And.intro e1 (And.intro e2 (And.intro e3 (And.intro e4 (And.intro e5 (And.intro e6 e7))))))
 have HF:=Lib.hid (And.intro e8 (And.intro e9 e10))
 have HA:=Lib.hid (And.intro a1 a2)
 have HR:=Lib.hid (And.intro hV (And.intro hQ0 (And.intro hR0 (And.intro hU0 (And.intro hU1 (And.intro hR1 hQ1))))))
 obtain ⟨b20,b21⟩:=b2
 obtain ⟨b30,b31⟩:=b3
 obtain ⟨b50,b51⟩:=b5
 obtain ⟨b60,b61⟩:=b6
 obtain ⟨b70,b71⟩:=b7
 obtain ⟨b80,b81⟩:=b8
 obtain ⟨b90,b91⟩:=b9
 clear hU hQ1 hR1 hX hU1 hU0 hV hQ0 hR0 e1 e2 e3 e4 e5 e6 e7 e8 e9 e10 a1 a2
 go_enter Tryz.func199,Tryz.ntmps199
 go_wp2_with (first | (go_at_call 245;refine (lead64_20 _).mono ?_;rintro e w1 ⟨rfl,rfl⟩) | fail)
 simp only [HE.out.1,HE.out.2.1,HE.out.2.2.1,HE.out.2.2.2.1,HE.out.2.2.2.2.1,HE.out.2.2.2.2.2.1,HE.out.2.2.2.2.2.2]
 go_loopg [15,16] 0 (fun gk s15 s16 wr=>s15=.int .u64 Q1 ∧ s16=.int .u64 R1 ∧ w=wr)
 case atStart=>exact ⟨rfl,rfl,rfl⟩
 case round=>
  obtain ⟨rfl,rfl,rfl⟩:=hrel
  go_wp2_with fail
  simp only [HF.out.1,HF.out.2.1,HF.out.2.2]
  go_loopg [18,16] 0 (fun gk s18 s16 wr=>s18=.int .u64 Q0 ∧ s16=.int .u64 R0 ∧ w=wr)
  case atStart=>exact ⟨rfl,rfl,rfl⟩
  case round=>
   obtain ⟨rfl,rfl,rfl⟩:=hrel
   have f1:IntKind.u64.wrap (IntKind.u64.wrap (Q1 * 4294967296) + Q0)=(hi * 18446744073709551616 + lo) / 1048576:=by
    rw [IntKind.wrap_u64,IntKind.wrap_u64]
    have:=HA.out.1
    omega
   have f2:IntKind.u64.wrap (IntKind.u64.wrap (IntKind.u64.wrap (V * 4294967296) + U0) - IntKind.u64.wrap (Q0 * 9223372036854775808)) / 8796093022208=(hi * 18446744073709551616 + lo) % 1048576:=by
    rw [IntKind.wrap_u64,IntKind.wrap_u64,IntKind.wrap_u64,IntKind.wrap_u64]
    obtain ⟨r1,r2,r3,r4,_⟩:=HR.out
    have:=HA.out.2
    omega
   have HF1:=Lib.hid f1
   have HF2:=Lib.hid f2
   clear f1 f2
   go_wp2_with fail
   simp only [HF1.out,HF2.out]
   go_ret2
   exact ⟨by rw [← HA.out.1];rfl,rfl⟩

theorem div64_calls (hi lo:Int) (w:World) (g0:0 ≤ hi) (g1:hi < 1048576) (h0:0 ≤ lo) (h1:lo < 18446744073709551616):Calls Tryz.prog 199 #[.int .u64 hi,.int .u64 lo,.int .u64 1048576] w fun e w'=>e=.returned (.tuple #[.int .u64 ((hi * 18446744073709551616 + lo) / 1048576),.int .u64 ((hi * 18446744073709551616 + lo) % 1048576)]) ∧ Keeps w w':=by
 by_cases hz:hi=0
 ·subst hz
  rw [Int.zero_mul,Int.zero_add]
  exact div64_low lo w h0 h1
 ·refine (div64_high hi lo w (by omega) g1 h0 h1).mono ?_
  rintro e w1 ⟨rfl,rfl⟩
  exact ⟨rfl,Keeps.refl _⟩

theorem dropD_eq (b m:Nat) (l:List Int) {i:Nat} {x:Int} (hx:l[i]?=some x):divR b m (l.drop i)=(divR b m (l.drop (i + 1)) * b + x) % m ∧ divQ b m (l.drop i)=(divR b m (l.drop (i + 1)) * b + x) / m :: divQ b m (l.drop (i + 1)):=by
 rw [drop_cons hx]
 exact ⟨rfl,rfl⟩

set_option maxRecDepth 100000 in
set_option maxHeartbeats 400000 in
theorem ndiv_calls {lo v:Nat} {x:Value} {w:World} (hx:NatV lo w v x) (hl:(natW B64 v).length ≤ 64) :
  Calls Tryz.prog 147 #[x,.int .u64 1048576] w fun e w'=>(∃ z,e=.returned (.tuple #[z,.int .u64 ((v % 1048576:Nat):Int)]) ∧ NatV w.heap.size w' (v / 1048576) z) ∧ Keeps w w':=by
 obtain ⟨j0,hj,jz0,jz1,jz2⟩:=info_parts info_u64
 obtain ⟨a,cap,rfl,hcap,hw⟩:=natV_len hx
 obtain ⟨d1,d2⟩:=div_whole (b:=B64) (m:=1048576) (v:=v) b64_two (by decide)
 obtain ⟨ws,hws⟩:∃ ws,ws=natW B64 v:=⟨_,rfl⟩
 have hok:WordsOk B64 ws:=by rw [hws];exact natW_ok b64_two v
 rw [← hws] at hl hw d1 d2 ⊢
 have hqo:=divQ_ok (b:=B64) (m:=1048576) (by decide) ws hok
 have hql:=divQ_len B64 1048576 ws
 have hNorm:∀ (W:World) (g n:Nat) (rs:List Int),rs=divQ B64 1048576 ws → rs.length=n → RowU W g rs → Calls Tryz.prog 69 #[.slice (some ⟨g,0,none⟩) n n] W fun e w'=>∃ z,e=.returned z ∧ NatV W.heap.size w' (v / 1048576) z ∧ Keeps W w':=fun W g n rs he hn hrow=>by
  subst hn
  have q:=norm_calls (some ⟨g,0,none⟩) rs.length rs W (hrow.words (by rw [he];exact hqo)) (by rw [he,hql];omega) (Nat.le_refl _)
  rw [he,d1] at q
  rw [he]
  exact q
 have hD:=fun (hi lo:Int) (W:World) g0 g1 h0 h1=>div64_calls hi lo W g0 g1 h0 h1
 have hrr:=fun i=>divR_range (b:=B64) (m:=1048576) (by decide) (ws.drop i)
 have hws2:∀ (i:Nat) (y:Int),ws[i]?=some y → 0 ≤ y ∧ y < 18446744073709551616:=fun i y hy=>hok y (List.mem_of_getElem? hy)
 obtain ⟨N,hN⟩:∃ N,N=ws.length:=⟨_,rfl⟩
 rw [← hN] at hl ⊢
 have HN:=Lib.hid hN
 have HW:=Lib.hid hw
 have HNO:=Lib.hid hNorm
 have HD2:=Lib.hid d2
 have HRR:=Lib.hid hrr
 have HWS:=Lib.hid hws2
 have HQL:=Lib.hid hql
 clear hx hcap hw d1 d2 hok hqo hql hNorm hrr hws2 hN hD hws
 go_enter Tryz.func147,Tryz.ntmps147
 go_wp2_with (first
  | (at_make;refine wpList_make_full _ rfl _ _ 26 rfl w.heap.size 50 j0 (.int .u64 0) 1 Tryz.underlying26 hj jz0 jz1 .i64 .i64 _ _ N rfl rfl rfl rfl (by rw [jz2];omega) (by unfold maxLen;omega) (by simp) ?_;intro w1 hown1 hg1)
  | fail)
 have HR1:=Lib.hid (rowU_made hown1)
 have hkk:Keeps w w1:=⟨hg1.os,hg1.tape,hg1.output,hg1.size,fun i hi=>hg1.block i hi (by simp)⟩
 clear hown1 hg1
 go_wp2_with fail
 go_loopg [7,8] N (fun gk s7 s8 wr=>∃ (r:Int) (rs:List Int),s8=.int .i64 ((gk:Int) - 1) ∧ s7=.int .u64 r ∧ gk ≤ N ∧ r=divR B64 1048576 (ws.drop gk) ∧ rs.length=N ∧ rs.drop gk=divQ B64 1048576 (ws.drop gk) ∧ RowU wr w.heap.size rs ∧ Upd (fun k=>k=w.heap.size) w1 wr)
 case atStart=>exact ⟨0,List.replicate N 0,rfl,rfl,Nat.le_refl _,by rw [List.drop_of_length_le (by rw [← HN.out];exact Nat.le_refl _)];rfl,by simp,by rw [List.drop_of_length_le (by simp),List.drop_of_length_le (by rw [← HN.out];exact Nat.le_refl _)];rfl,HR1.out,Upd.refl _ _⟩
 case round=>
  obtain ⟨r,rs,rfl,rfl,hg,hr,hrl,hdr,hR,hU⟩:=hrel
  have HR:=Lib.hid hR
  have HU:=Lib.hid hU
  have HL:=Lib.hid hrl
  have HDR:=Lib.hid hdr
  have HRE:=Lib.hid hr
  have hrlt:=HR.out.lt
  have hkr:Keeps w wr:=hkk.new HU.out (fun k hk=>by omega)
  clear hR hU hrl hdr hr
  by_cases hg0:gk=0
  ·subst hg0
   have q:¬ (0:Int) ≤ ((0:Nat):Int) - 1:=by omega
   have hfin:rs=divQ B64 1048576 ws:=by have:=HDR.out;rw [List.drop_zero,List.drop_zero] at this;exact this
   have HT:=Lib.hid (HNO.out wr w.heap.size N rs hfin HL.out HR.out)
   have hre:r=((v % 1048576:Nat):Int):=by rw [HRE.out,List.drop_zero,HD2.out]
   have HRV:=Lib.hid hre
   clear hfin hre
   go_wp2_with (first | (go_at_call 69;refine HT.out.mono ?_;rintro e w5 ⟨z,rfl,hz,hk5⟩) | fail)
   go_ret2
   exact ⟨⟨z,by rw [HRV.out];rfl,hz.le hkr.size⟩,hkr.trans hk5⟩
  ·obtain ⟨i,rfl⟩:∃ i,gk=i + 1:=⟨gk - 1,by omega⟩
   rw [show ((i + 1:Nat):Int) - 1=(i:Int) from by omega]
   have q0:(0:Int) ≤ (i:Int):=by omega
   obtain ⟨y,b,off,hy,hy0,hy1,ha,hcell⟩:=word_at (HW.out.keeps hkr) i (by rw [← HN.out];omega)
   subst ha
   obtain ⟨z,hz⟩:∃ z,rs[i]?=some z:=⟨_,List.getElem?_eq_getElem (by rw [HL.out];omega)⟩
   have cz:=HR.out.cell hz
   have cf:=HR.out.frozen i
   have hbl:=lt_of_cell hcell
   obtain ⟨e1,e2⟩:=dropD_eq B64 1048576 ws hy
   have hrr:=HRR.out (i + 1)
   rw [← HRE.out] at hrr e1 e2
   obtain ⟨r0,r1⟩:=hrr
   have r1':r < 1048576:=r1
   have hcall:=fun (W:World)=>div64_calls r y W r0 r1' hy0 (by omega)
   obtain ⟨s,hs⟩:∃ s,s=(r * 18446744073709551616 + y) / 1048576:=⟨_,rfl⟩
   obtain ⟨t,ht⟩:∃ t,t=(r * 18446744073709551616 + y) % 1048576:=⟨_,rfl⟩
   rw [← hs,← ht] at hcall
   have HCALL:=Lib.hid hcall
   have h1:t=divR B64 1048576 (ws.drop i):=by rw [e1,ht];rfl
   have h2:(rs.set i s).drop i=divQ B64 1048576 (ws.drop i):=by
    rw [e2,drop_cons (x:=rs.set i s) (i:=i) (a:=s) (by rw [List.getElem?_set_self (by rw [HL.out];omega)]),List.drop_set_of_lt (by omega),HDR.out,hs]
    rfl
   have H1:=Lib.hid h1
   have H2:=Lib.hid h2
   have hil:i < N:=by omega
   clear hy hz e1 e2 hcall hs ht h1 h2 r0 r1 r1' hg0
   go_wp2_with (first | (go_at_call 199;refine (HCALL.out _).mono ?_;rintro e w6 ⟨rfl,hk6⟩;have cz:=hk6.cell cz;have cf:=(HR.out.keeps hk6).frozen i;have hlt6:=(HR.out.keeps hk6).lt) | fail)
   go_roundg i
   case rel=>exact ⟨t,rs.set i s,rfl,rfl,by omega,H1.out,by rw [List.length_set,HL.out],H2.out,(HR.out.keeps hk6).set i s (by rw [HL.out];exact hil),Upd.setCell (Upd.trans' HU.out (hk6.upd _)) (Or.inl rfl) _⟩
   case measure=>omega

theorem ndivs_calls {lo v:Nat} {x:Value} {w:World} (hx:NatV lo w v x) (hl:(natW B64 v).length ≤ 64) :
  Calls Tryz.prog 83 #[x,.int .u64 1048576] w fun e w'=>(∃ z,e=.returned (.tuple #[z,.int .u64 ((v % 1048576:Nat):Int),.bool true]) ∧ NatV w.heap.size w' (v / 1048576) z) ∧ Keeps w w':=by
 have HN:=Lib.hid (normV_calls hx (by omega))
 have hm0:0 ≤ ((v % 1048576:Nat):Int) ∧ ((v % 1048576:Nat):Int) < 1048576:=by omega
 obtain ⟨r,hr⟩:∃ r,r=((v % 1048576:Nat):Int):=⟨_,rfl⟩
 have HD:=Lib.hid (fun (W:World) (y:Value) (hy:NatV w.heap.size W v y)=>by
  have q:=ndiv_calls hy hl
  rw [← hr] at q
  exact q)
 have HL:=Lib.hid hl
 rw [← hr]
 clear hx hl hr hm0
 go_enter Tryz.func83,Tryz.ntmps83
 go_wp2_with (first
  | (go_at_call 69;refine HN.out.mono ?_;rintro e w1 ⟨y,rfl,hy,hk1⟩;have HY:=Lib.hid hy;obtain ⟨A1,C1,rfl,-,-⟩:=natV_len hy;have q:=fun W=>fits_calls A1 (natW B64 v).length C1 W (by have:=HL.out;omega);simp only [decide_eq_true HL.out] at q;have HF:=Lib.hid q;clear hy q)
  | (go_at_call 146;refine (HF.out _).mono ?_;rintro e w2 ⟨rfl,rfl⟩)
  | (go_at_call 147;refine (HD.out _ _ HY.out).mono ?_;rintro e w3 ⟨⟨z,rfl,hz⟩,hk3⟩)
  | fail)
 go_ret3
 exact ⟨⟨z,rfl,hz.le hk1.size⟩,hk1.trans hk3⟩

end Go.Proofs.YtpgcbmbnognieaaGreat
