/-
  The walk of swap.all.
-/
import Derived.Test.YtpgcbmbnognieaaGreatPBuildW
import Derived.Test.YtpgcbmbnognieaaGreatPSwapW
namespace Go.Proofs.YtpgcbmbnognieaaGreat
set_option maxRecDepth 1000000
set_option maxHeartbeats 8000000
set_option linter.unusedSimpArgs false
set_option linter.unusedVariables false
open Go.RowKit

def AllOut (F Fo:Nat→Prop)(w:World)(sb ob:Nat)(M:St)(ps:List Int)(ss:List Nat)(rs:List (Int×Edge))(c:Int)(r:Ending)(w':World):Prop:=
 ∃ (g:Nat) (es:List Edge) (M':St) (F':Nat→Prop),r=.returned (.tuple #[.slice (some ⟨g,0,none⟩) rs.length rs.length,.int .u8 0])∧RowE w' g es∧w.heap.size≤g∧RootsOk ps.length ss M M' rs es ∧
  StoreRep F' w' sb M'∧(∀ j,F' j→F j∨w.heap.size≤j)∧¬F' g∧OrdRep Fo w' ob (runL ps ss)∧Upd (fun j=>F j∨Fo j) w w'∧Went M M' (((ss.length*rs.length:Nat):Int)*c)

structure AtBox (F:Nat→Prop)(w0 wy:World)(sb tb b:Nat)(lv f:Int)(M:St)(V:List (Int×Edge×Int))(e:Edge)(B:Nat)(M':St)(x:Edge)(er:Int)(F':Nat→Prop):Prop where
 swp:Swp lv f M e 0 M' x er (costS lv 0)
 ok:x.ok
 er6:er=0∨er=6
 a0:wy.cell? ⟨B,0,none⟩=some (.int .u8 x.tag)
 a1:wy.cell? ⟨B,1,none⟩=some (.int .u32 x.to)
 upd:Upd (fun j=>F j∨j=b) w0 wy
 sub:∀ j,F' j→F j∨w0.heap.size≤j
 gB:w0.heap.size≤B
 good:er=0→∃ V' D',StepCtx F' wy sb tb b lv M' V' D'∧V'.length+1≤V.length+2 ^ ((lv-0).toNat+1)

theorem at_boxed {F:Nat→Prop}{w0 W w2 wy:World}{sb tb b:Nat}{lv f:Int}{M:St}{V:List (Int×Edge×Int)}{e:Edge}{B:Nat}{M':St}{x:Edge}{er:Int}{F':Nat→Prop}(hlt:∀ k,F k→k<w0.heap.size)(hb:b<w0.heap.size)(htb:tb<w0.heap.size)(hW:Keeps w0 W)
  (h1:Swp lv f M e 0 M' x er (costS lv 0)) (h2:x.ok) (h3:er=0∨er=6) (h4:Upd (fun j=>F j∨j=b) W w2) (h5:∀ j,F' j→F j∨W.heap.size≤j) (hle:∀ j,F' j→j<w2.heap.size)
  (h7:er=0→∃ V' D',StepCtx F' w2 sb tb b lv M' V' D'∧V'.length+1≤V.length+2 ^ ((lv-0).toNat+1)∧∀ q∈V',q∈V∨0≤q.2.2)
  (hG:Upd (fun k=>k=B) w2 wy) (hB:w0.heap.size≤B∧(B<W.heap.size∨w2.heap.size≤B)) (a0:wy.cell? ⟨B,0,none⟩=some (.int .u8 x.tag)) (a1:wy.cell? ⟨B,1,none⟩=some (.int .u32 x.to)) :
  AtBox F w0 wy sb tb b lv f M V e B M' x er F':=by
 have hs:=hW.size
 have hnB:¬F' B:=fun hh=>by
  rcases hB.2 with q|q
  ·rcases h5 B hh with q1|q1
   ·have:=hlt B q1;have:=hB.1;omega
   ·omega
  ·have:=hle B hh;omega
 refine⟨h1,h2,h3,a0,a1,((Keeps.upd hW _).trans' h4).later hG (fun i hi hh=>by have:=hB.1;omega),fun j hj=>?_,hB.1,fun h0=>?_⟩
 ·rcases h5 j hj with q|q
  ·exact .inl q
  ·exact .inr (by omega)
 ·obtain⟨V',D',g1,g2,_⟩:=h7 h0
  exact⟨V',D',g1.far hG (fun j hj hh=>hnB (hh ▸ hj)) (fun hh=>by have:=hB.1;omega) (fun hh=>by have:=hB.1;omega),g2⟩

theorem prod_le {d i K N:Nat}{c:Int}(hd:d<K)(hi:i<N)(hc:0≤c):((d*N+i:Nat):Int)*c+c≤((K*N:Nat):Int)*c:=by
 have h1:d*N+i+1≤K*N:=by
  have:(d+1)*N≤K*N:=Nat.mul_le_mul_right _ hd
  rw [Nat.add_mul] at this
  omega
 have h2:((d*N+i+1:Nat):Int)*c≤((K*N:Nat):Int)*c:=Int.mul_le_mul_of_nonneg_right (by exact_mod_cast h1) hc
 have h3:((d*N+i+1:Nat):Int)*c=((d*N+i:Nat):Int)*c+c:=by
  rw [show((d*N+i+1:Nat):Int)=((d*N+i:Nat):Int)+1 by push_cast;rfl,Int.add_mul,Int.one_mul]
 omega

theorem swapAll_calls {F Fo:Nat→Prop}{w:World}{sb ob:Nat}{M:St}{ps:List Int}{ss:List Nat}{rs:List (Int×Edge)}{c:Int}(h:StoreRep F w sb M)(ho:OrdRep Fo w ob ps)(hd:∀ k,F k→¬Fo k)
  (a2 a3:Option Addr) (cap2 cap3:Nat) (hS:∀ W,Upd (fun j=>F j∨Fo j) w W→IntsAt W a2 (ss.map (fun s:Nat=>(s:Int)))) (hR:∀ W,Upd (fun j=>F j∨Fo j) w W→IsRoots W a3 rs) (hsl:ss.length≤1000) (hrl:rs.length≤16) (hm:mayL M rs=0)
  (hn:M.n=(ps.length:Int)) (hst:∀ s∈ss,s+1<ps.length) (hc:∀ s∈ss,costS (s:Int) 0≤c) (hc0:0≤c) (hroom:M.len+((ss.length*rs.length:Nat):Int)*c<M.room) (hrm:M.room<1048576) :
  Calls Tryz.prog 259 #[.pointer (some ⟨sb,0,none⟩),.pointer (some ⟨ob,0,none⟩),.slice a2 ss.length cap2,.slice a3 rs.length cap3] w (AllOut F Fo w sb ob M ps ss rs c):=by
 have hmay:=fun(W:World) (hW:Keeps w W)=>swapMay_calls (h.keeps hW) a3 cap3 rs (hR W (hW.upd _)) (by omega)
 rw [hm] at hmay
 have hlead:=mayL_zero hm
 have hok:∀ (i:Nat) (r:Int×Edge),rs[i]?=some r→r.2.ok:=fun i r hr=>(hR w (Upd.refl _ _) i r hr).2.1
 obtain⟨N,hN⟩:∃ N,N=rs.length:=⟨_,rfl⟩
 obtain⟨K,hK⟩:∃ K,K=ss.length:=⟨_,rfl⟩
 obtain⟨j0,hj,jz0,jz1,jz2⟩:=info_parts info_edge
 rw [← hN] at hmay hrl
 rw [← hK] at hsl
 have HMAY:=Lib.hid hmay
 have H:=Lib.hid h
 have HO:=Lib.hid ho
 have HD:=Lib.hid hd
 have HS:=Lib.hid hS
 have HR:=Lib.hid hR
 have HN:=Lib.hid hN
 have HK:=Lib.hid hK
 have HLD:=Lib.hid hlead
 have HOK:=Lib.hid hok
 have HNN:=Lib.hid hn
 have HST:=Lib.hid hst
 have HC:=Lib.hid hc
 have HRM:=Lib.hid (⟨hroom,hrm⟩:_∧_)
 clear hmay h ho hd hS hR hlead hok hn hst hc hroom hrm hm
 rw [← hN,← hK]
 clear hN hK
 go_enter Tryz.func259,Tryz.ntmps259
 go_wp2_with (first
  | (go_at_call 287;refine(HMAY.out _ (by(exact kp))).mono ?_;rintro e w1 ⟨rfl,hk1⟩)
  | (at_make;refine wpList_make_full _ rfl _ _ 66 rfl w1.heap.size 25 j0 (.agg #[.int .u8 0,.int .u32 0]) 2 Tryz.underlying66 hj jz0 jz1 .i64 .i64 (N:Int) (N:Int) N rfl rfl rfl rfl (by rw [jz2];omega) (by unfold maxLen;omega) (by simp) ?_;intro w2 hown2 hg2)
  | fail)
 have hB1:=rowE_made hown2
 have k12:Keeps w1 w2:=⟨hg2.os,hg2.tape,hg2.output,hg2.size,fun i hi=>hg2.block i hi (by simp)⟩
 have hkw:Keeps w w2:=hk1.trans k12
 have HKW:=Lib.hid hkw
 have HB1:=Lib.hid hB1
 have l1:=hB1.lt
 have sz1:=hk1.size
 obtain⟨g,hg⟩:∃ g,g=w1.heap.size:=⟨_,rfl⟩
 rw [← hg] at HB1 l1 sz1 ⊢
 clear hown2 hg2 k12 hkw hB1 hk1 hg HMAY
 go_loopg [34] N (fun gk s34 wr=>∃ (d:Nat) (es:List Edge),s34=.int .i64 (d:Int)∧d+gk=N∧es.length=N∧RowE wr g es∧(∀ i,i<d→∀ r,rs[i]?=some r→es[i]?=some r.2)∧Upd (fun j=>j=g) w2 wr)
 case atStart=>exact⟨0,_,rfl,by omega,by simp,HB1.out,fun i hi=>by omega,Upd.refl _ _⟩
 case round=>
  obtain⟨d,es,rfl,hd,hel,hB,hag,hu⟩:=hrel
  have HEL:=Lib.hid hel
  have HB:=Lib.hid hB
  have HAG:=Lib.hid hag
  have HU:=Lib.hid hu
  have hkr:Keeps w wr:=HKW.out.new hu (fun j hj=>by omega)
  have HKR:=Lib.hid hkr
  have lgr:=hB.lt
  clear hel hB hag hu hkr
  by_cases hlt:d<N
  ·obtain⟨r,hx⟩:∃ b,rs[d]?=some b:=⟨_,List.getElem?_eq_getElem (by rw [← HN.out];exact hlt)⟩
   obtain⟨hf8,hok,b,off,ha3,c0,c1,c2⟩:=HR.out wr (HKR.out.upd _) d r hx
   obtain⟨y,hy⟩:∃ b,es[d]?=some b:=⟨_,List.getElem?_eq_getElem (by rw [HEL.out];exact hlt)⟩
   obtain⟨t0,t1⟩:=HB.out.cell hy
   have ft:=HB.out.frozen (d*2)
   have ft':=HB.out.frozen (d*2+1)
   have HX:=Lib.hid hx
   have ng:wr.heap.size≠g:=by omega
   have ng':g≠wr.heap.size:=by omega
   obtain⟨f,e⟩:=r
   dsimp only at c0 c1 c2
   subst ha3
   clear hx hy hok hf8
   go_wp2_with fail
   go_roundg (gk-1)
   case rel=>
    refine⟨d+1,es.set d e,by simp,by omega,by rw [List.length_set,HEL.out],?_,fun i hi q hq=>?_,?_⟩
    ·exact(HB.out.set d e (by rw [HEL.out];exact hlt)).keeps ((Keeps.refl _).alloc _)
    ·by_cases hid:i=d
     ·subst hid
      rw [HX.out] at hq
      cases hq
      rw [List.getElem?_set_self (by rw [HEL.out];exact hlt)]
     ·rw [List.getElem?_set_ne (fun e=>hid e.symm)]
      exact HAG.out i (by omega) q hq
    ·exact(updR2 (P:=fun j=>j=g) rfl (updR2 (P:=fun j=>j=g) rfl HU.out _ _) _ _).alloc _
   case measure=>omega
  ·have hd2:d=N:=by omega
   have hroots:RootsOk ps.length [] M M rs es:=⟨by rw [HEL.out,HN.out],fun i r x h1 h2=>by
    have:=HAG.out i (by rw [hd2,HN.out];exact(List.getElem?_eq_some_iff.1 h1).1) r h1
    rw [h2] at this
    cases this
    exact RootOk.start (HLD.out r (List.mem_of_getElem? h1)).2 (HOK.out i r h1)⟩
   have HRT:=Lib.hid hroots
   have ngF:¬F g:=fun hh=>by have:=H.out.lt _ hh;omega
   have HWT:=Lib.hid (Went.refl H.out.wf)
   have HRP:=Lib.hid (H.out.keeps HKR.out)
   have HOR:=Lib.hid (HO.out.keeps HKR.out)
   clear hd2 hroots HAG HEL HB1
   obtain⟨w3,hw3⟩:∃ w3,w3=wr:=⟨_,rfl⟩
   have hgw:w.heap.size≤g:=sz1
   go_wp2_with fail
   go_loopg [47] K (fun gk s47 wr=>∃ (d:Nat) (es:List Edge) (M':St) (F':Nat→Prop),s47=.int .i64 (d:Int)∧d+gk=K∧RowE wr g es∧RootsOk ps.length (ss.take d) M M' rs es∧StoreRep F' wr sb M'∧(∀ j,F' j→F j∨w.heap.size≤j)∧¬F' g∧OrdRep Fo wr ob ps∧Upd (fun j=>F j∨Fo j) w wr∧Went M M' (((d*N:Nat):Int)*c))
   case atStart=>exact⟨0,es,M,F,rfl,by omega,HB.out,by simpa using HRT.out,HRP.out,fun j hj=>.inl hj,ngF,HOR.out,HKR.out.upd _,by simpa using HWT.out⟩
   case round=>
    clear HB HU lgr HKR hlt
    obtain⟨d,es,M1,F1,rfl,hd,hB,hrt,hS1,hsub,hngF,hO1,hu,hwt⟩:=hrel
    have HB:=Lib.hid hB
    have HRT1:=Lib.hid hrt
    have HS1:=Lib.hid hS1
    have HSB1:=Lib.hid hsub
    have HO1:=Lib.hid hO1
    have HU:=Lib.hid hu
    have HWT1:=Lib.hid hwt
    have lgr:=hB.lt
    obtain⟨g0,hg0⟩:∃ g0,g0=gk:=⟨_,rfl⟩
    have HG0:=Lib.hid hg0
    have szr:=hu.size
    have szwo:w.heap.size≤wr.heap.size:=szr
    have lgo:g<wr.heap.size:=hB.lt
    clear hB hrt hS1 hsub hO1 hu hwt hg0
    obtain⟨wo,hwo⟩:∃ W,W=wr:=⟨wr,rfl⟩
    subst hwo
    by_cases hlt:d<K
    ·obtain⟨s,hx⟩:∃ b,ss[d]?=some b:=⟨_,List.getElem?_eq_getElem (by rw [← HK.out];exact hlt)⟩
     obtain⟨b2,off2,ha2,cs⟩:=HS.out wo HU.out d (s:Int) (by rw [List.getElem?_map,hx];rfl)
     have HTK:=Lib.hid (take_snoc hx)
     have HST1:=Lib.hid (HST.out s (List.mem_of_getElem? hx))
     have HCS:=Lib.hid (HC.out s (List.mem_of_getElem? hx))
     have hps16:=HO.out.le
     have hs16:(s:Int)≤14:=by have:=HST1.out;omega
     have hmm:=@run_makeMap Tryz.prog
     subst ha2
     clear hx
     go_wp2_with fail
     have hks:Keeps wo ((wo.alloc (.map #[] 0)).alloc (.cells #[.pointer (some ⟨sb,0,none⟩),.int .i64 (s:Int),.map (some wo.heap.size)] 337)):=((Keeps.refl _).alloc _).alloc _
     have hctx:StepCtx F1 ((wo.alloc (.map #[] 0)).alloc (.cells #[.pointer (some ⟨sb,0,none⟩),.int .i64 (s:Int),.map (some wo.heap.size)] 337)) sb (wo.heap.size+1) wo.heap.size (s:Int) M1 [] (.map []):=by
      have nF:∀ j,wo.heap.size≤j→¬F1 j:=fun j hj hh=>by have:=HS1.out.lt _ hh;omega
      exact⟨HS1.out.keeps hks,by simp [go_sem],by simp [go_sem],by simp [go_sem],nF _ (Nat.le_refl _),nF _ (by omega),ownsSpot_same (World.ownsMap_made wo Tryz.prog 340 edgeElem) (((Keeps.refl (wo.alloc (.map #[] 0))).alloc _).block wo.heap.size (by simp)),MemoS.empty _ _⟩
     have szs0:((wo.alloc (.map #[] 0)).alloc (.cells #[.pointer (some ⟨sb,0,none⟩),.int .i64 (s:Int),.map (some wo.heap.size)] 337)).heap.size=wo.heap.size+2:=by simp
     obtain⟨ws,hws⟩:∃ W,W=(wo.alloc (.map #[] 0)).alloc (.cells #[.pointer (some ⟨sb,0,none⟩),.int .i64 (s:Int),.map (some wo.heap.size)] 337):=⟨_,rfl⟩
     rw [← hws] at hks hctx szs0 ⊢
     obtain⟨szs,szs'⟩:wo.heap.size+2≤ws.heap.size∧ws.heap.size≤wo.heap.size+2:=by omega
     have HKS:=Lib.hid hks
     have HCX:=Lib.hid hctx
     clear hws hks hctx cs hmm szs0
     go_loopg [57] N (fun gk s57 wi=>∃ (i:Nat) (es':List Edge) (M2:St) (F2:Nat→Prop) (V:List (Int×Edge×Int)) (D:DataW Unit),s57=.int .i64 (i:Int)∧i+gk=N∧RowE wi g es'∧RootsMid ps.length (ss.take d) s i M M2 rs es'∧StepCtx F2 wi sb (wo.heap.size+1) wo.heap.size (s:Int) M2 V D∧V.length≤i*2 ^ (s+1)∧(∀ j,F2 j→F j∨w.heap.size≤j)∧¬F2 g∧OrdRep Fo wi ob ps∧Upd (fun j=>F j∨Fo j) w wi∧Went M M2 (((d*N+i:Nat):Int)*c))
     case atStart=>exact⟨0,es,M1,F1,[],.map [],rfl,by omega,HB.out.keeps HKS.out,HRT1.out.mid s,HCX.out,by simp,HSB1.out,hngF,HO1.out.keeps HKS.out,HU.out.trans' (HKS.out.upd _),by simpa using HWT1.out⟩
     case round=>
      clear HB HRT1 HS1 HSB1 HO1 HU HWT1 HCX hngF lgr szr
      obtain⟨i,es',M2,F2,V,D,rfl,hi,hB,hrm,hC2,hV,hsub,hngF,hO1,hu,hwt⟩:=hrel
      have HB:=Lib.hid hB
      have HRM2:=Lib.hid hrm
      have HC2:=Lib.hid hC2
      have HV:=Lib.hid hV
      have HSB1:=Lib.hid hsub
      have HO1:=Lib.hid hO1
      have HU:=Lib.hid hu
      have HWT1:=Lib.hid hwt
      have lgr:=hB.lt
      have lmb:=hC2.lt.1
      have ltb:=hC2.lt.2
      have szr:=hu.size
      clear hB hrm hC2 hV hsub hO1 hu hwt
      by_cases hlt2:i<N
      ·obtain⟨r,hx⟩:∃ b,rs[i]?=some b:=⟨_,List.getElem?_eq_getElem (by rw [← HN.out];exact hlt2)⟩
       obtain⟨hf8,hok,b,off,ha3,c0,c1,c2⟩:=HR.out wr HU.out i r hx
       obtain⟨x,hy⟩:∃ b,es'[i]?=some b:=⟨_,List.getElem?_eq_getElem (by rw [HRM2.out.1,← HN.out];exact hlt2)⟩
       obtain⟨t0,t1⟩:=HB.out.cell hy
       have HX:=Lib.hid hx
       have HY:=Lib.hid hy
       have hro:=HRM2.out.2 i r x hx hy
       have hf15:=(HLD.out r (List.mem_of_getElem? hx)).1
       obtain⟨f,e⟩:=r
       dsimp only at c0 c1 c2 hf15
       have HRO:=Lib.hid hro
       have HF15:=Lib.hid hf15
       have hf8':0≤f∧f≤255:=hf8
       subst ha3
       clear hx hy hok hro
       go_wp2_with fail
       have kq:Keeps wr (wr.alloc (.cells #[.int .u8 f,.int .u8 e.tag,.int .u32 e.to] 80)):=(Keeps.refl _).alloc _
       have q0:(wr.alloc (.cells #[.int .u8 f,.int .u8 e.tag,.int .u32 e.to] 80)).cell? ⟨wr.heap.size,0,none⟩=some (.int .u8 f):=by simp [go_sem]
       have szq0:(wr.alloc (.cells #[.int .u8 f,.int .u8 e.tag,.int .u32 e.to] 80)).heap.size=wr.heap.size+1:=by simp
       obtain⟨wq,hwq⟩:∃ W,W=wr.alloc (.cells #[.int .u8 f,.int .u8 e.tag,.int .u32 e.to] 80):=⟨_,rfl⟩
       rw [← hwq] at kq q0 szq0 ⊢
       obtain⟨szq,szq'⟩:wr.heap.size+1≤wq.heap.size∧wq.heap.size≤wr.heap.size+1:=by omega
       clear szq0
       replace t0:=kq.cell t0
       replace t1:=kq.cell t1
       have hC3:=HC2.out.keeps kq
       have hp2:2 ^ (s+1)≤2 ^ 15:=Nat.pow_le_pow_right (by decide) (by omega)
       have hcapV:V.length+2 ^ (s+1)≤1000000:=by
        have h1:=HV.out
        have h2:i*2 ^ (s+1)≤15*2 ^ (s+1):=Nat.mul_le_mul_right _ (by omega)
        have e15:(2:Nat) ^ 15=32768:=rfl
        omega
       have hat:=fun(W:World) (hW:Keeps wq W)=>(at_calls (n:=M.n) (room:=M.room) (by have:=HST1.out;have:=HNN.out;omega) HRM.out.2 s f x 0 F2 M2 V D W (by omega) (Int.le_refl _) HF15.out HRO.out.ok HWT1.out.ext.n HWT1.out.room HRO.out.lead hcapV (hC3.keeps hW)).mono
        (fun r w' hh=>(⟨hh,by obtain⟨_,_,_,_,_,_,_,_,hu,_⟩:=hh;exact hu,trivial⟩:AtOut F2 W sb (wo.heap.size+1) wo.heap.size (s:Int) f M2 V x 0 r w'∧Upd (fun j=>F2 j∨j=wo.heap.size) W w'∧True))
       have hltF:∀ k,F2 k→k<wq.heap.size:=fun k hk=>by have:=HC2.out.rep.lt k hk;omega
       have HAT:=Lib.hid (fun(W:World) (hW:Keeps wq W)=>upd_boxes (F:=fun j=>F2 j∨j=wo.heap.size) (w0:=wq) (wc:=wq) (fun k hk=>by rcases hk with hk|hk;exact hltF k hk;omega) (Nat.le_refl _) (hat W hW))
       have HLT:=Lib.hid hltF
       have HC3:=Lib.hid hC3
       have HKQ:=Lib.hid kq
       have nq:¬(F2 wr.heap.size∨wr.heap.size=wo.heap.size):=fun hh=>by
        rcases hh with hh|hh
        ·have:=HC2.out.rep.lt _ hh;omega
        ·omega
       have bg:=HC2.out.neCell (HB.out.cell HY.out).1
       have n2g:¬(F2 g∨g=wo.heap.size):=fun hh=>by rcases hh with hh|hh;exact hngF hh;exact bg hh
       have m1:wq.heap.size≠wr.heap.size:=by omega
       have m2:wq.heap.size≠g:=by omega
       have lmq:wo.heap.size<wq.heap.size:=by omega
       have ltq:wo.heap.size+1<wq.heap.size:=by omega
       clear hwq hat hltF hC3 kq hp2 c0 c1 c2
       go_cut [19,20] (fun s19 s20 wx=>∃ B x' er M3 F3,s19=.pointer (some ⟨B,0,none⟩)∧s20=.int .u8 er∧AtBox F2 wq wx sb (wo.heap.size+1) wo.heap.size (s:Int) f M2 V x B M3 x' er F3)
       case first=>
        go_region_held3 (fun w'=>w'.cell? ⟨wr.heap.size,0,none⟩=some (.int .u8 f)∧w'.cell? ⟨g,i*2,none⟩=some (.int .u8 x.tag)∧w'.cell? ⟨g,i*2+1,none⟩=some (.int .u32 x.to)) (go_keep) ((go_at_call 288;refine(HAT.out _ (by(exact kp))).mono ?_;rintro e2 w2 ⟨⟨⟨M3,x',er,F3,rfl,hsw,hx',her,hu2,hF3,hS3,hD3⟩,-,-⟩,hcl,hfl,hlq,hne,hnf⟩;have hsz:=hu2.size;(try simp only [World.size_alloc,World.size_drew,World.size_drewN] at hsz);have y0:=hu2.cellAt (b:=wr.heap.size) (o:=0) (v:=.int .u8 f) nq (by go_keep);have y1:=hu2.cellAt (b:=g) (o:=i*2) (v:=.int .u8 x.tag) n2g (by go_keep);have y2:=hu2.cellAt (b:=g) (o:=i*2+1) (v:=.int .u32 x.to) n2g (by go_keep);have sa:w2.heap.size≠wr.heap.size:=(by omega);have sb2:w2.heap.size≠g:=(by omega)))
        all_goals(try go_wp2_with fail)
        all_goals go_meet
        all_goals refine⟨_,x',er,M3,F3,rfl,rfl,at_boxed HLT.out lmq ltq (by(exact kp)) hsw hx' her hu2 hF3 hS3.lt hD3 ?_ ?_ ?_ ?_⟩
        all_goals(try(simp [go_sem];done))
        all_goals(try(simp only [World.size_alloc,World.size_drew,World.size_setCell];omega))
        all_goals(try(repeat (first|with_reducible exact Upd.refl _ _|with_reducible refine Upd.alloc ?_ _|with_reducible refine Upd.drew ?_|refine updR ?_ _ _)))
        all_goals(try(simp [go_sem,hcl,hlq,hne,hnf];done))
       case rest=>
        obtain⟨B,x',er,M3,F3,rfl,rfl,hbx⟩:=hcut
        have hwt3:=HWT1.out.trans hbx.swp.went
        have hce:costS (s:Int) 0≤c:=HCS.out
        have hpl:=prod_le (c:=c) hlt hlt2 hc0
        have her0:er=0:=by
         rcases hbx.er6 with q|q
         ·exact q
         ·exfalso
          have h1:=(hbx.swp.full (by omega)).2.2
          have h2:=hwt3.room
          have h3:=hwt3.len
          have h4:=HRM.out.1
          rw [← HN.out,← HK.out] at h4
          omega
        subst her0
        obtain⟨V3,D3,hC4,hlen4⟩:=hbx.good rfl
        have tr:∀ X,(¬(F2 X∨X=wo.heap.size))→X<wq.heap.size→¬F3 X:=fun X h1 h2 hh=>by
         rcases hbx.sub X hh with q|q
         ·exact h1 (.inl q)
         ·omega
        have n3g:=tr g n2g (by omega)
        have a0:=hbx.a0
        have a1:=hbx.a1
        have gB:=hbx.gB
        have lB:=lt_of_cell a0
        dsimp only at lB
        have hB4:=(HB.out.keeps HKQ.out).keep hbx.upd n2g
        obtain⟨u0,u1⟩:=hB4.cell HY.out
        have ft:=hB4.frozen (i*2)
        have ft':=hB4.frozen (i*2+1)
        have hu4:Upd (fun j=>F j∨Fo j) w wc:=(HU.out.trans' (HKQ.out.upd _)).later hbx.upd (fun j hj hh=>by
         rcases hh with hh|hh
         ·rcases HSB1.out j hh with q|q
          ·exact .inl q
          ·omega
         ·omega)
        have hO4:OrdRep Fo wc ob ps:=(HO1.out.keeps HKQ.out).keep hbx.upd (fun k hk hh=>by
         have hk2:=HO.out.lt k hk
         rcases hh with hh|hh
         ·rcases HSB1.out k hh with q|q
          ·exact HD.out k q hk
          ·omega
         ·omega)
        have hsub4:∀ j,F3 j→F j∨w.heap.size≤j:=fun j hj=>by
         rcases hbx.sub j hj with q|q
         ·exact HSB1.out j q
         ·exact .inr (by omega)
        have hlen:(es'.length)=N:=by rw [HRM2.out.1,HN.out]
        have hil:i<es'.length:=by omega
        have hnext:=HRM2.out.next HX.out HY.out HC2.out.rep.wf hbx.swp.went.ext (hbx.swp.good rfl) HST1.out
        have HNX:=Lib.hid hnext
        have HB4:=Lib.hid hB4
        have HU4:=Lib.hid hu4
        have HO4:=Lib.hid hO4
        have HSB4:=Lib.hid hsub4
        have HC4:=Lib.hid hC4
        have hV4:V3.length≤(i+1)*2 ^ (s+1):=by
         have h1:=HV.out
         rw [show((s:Int)-0).toNat=s by omega] at hlen4
         rw [Nat.add_mul,Nat.one_mul]
         omega
        have hwt5:Went M M3 (((d*N+(i+1):Nat):Int)*c):=by
         refine hwt3.le ?_
         rw [show((d*N+(i+1):Nat):Int)=((d*N+i:Nat):Int)+1 by push_cast;omega,Int.add_mul,Int.one_mul]
         omega
        have HWT5:=Lib.hid hwt5
        have HV4:=Lib.hid hV4
        have e1:B≠g:=by omega
        have e2:g≠B:=by omega
        clear hnext hB4 hu4 hO4 hsub4 hC4 hwt3 hwt5 hV4 hlen4 tr hpl hce hbx t0 t1 q0
        go_wp2_with fail
        go_roundg (gk-1)
        case rel=>
         have ug:Upd (fun j=>j=g) wc ((wc.setCell ⟨g,i*2,none⟩ (.int .u8 x'.tag)).setCell ⟨g,i*2+1,none⟩ (.int .u32 x'.to)):=updR2 (P:=fun j=>j=g) rfl (updR2 (P:=fun j=>j=g) rfl (Upd.refl _ _) _ _) _ _
         have hgF:∀ j,Fo j→¬j=g:=fun j hj hh=>by subst hh;have:=HO.out.lt _ hj;omega
         refine⟨i+1,es'.set i x',M3,F3,V3,D3,by simp,by omega,HB4.out.set i x' hil,HNX.out,HC4.out.far ug (fun j hj hh=>by subst hh;exact n3g hj) (fun hh=>bg hh.symm) (fun hh=>by omega),HV4.out,HSB4.out,n3g,HO4.out.keep ug hgF,HU4.out.later ug (fun j hj hh=>by omega),HWT5.out⟩
        case measure=>omega
      ·have hi2:i=N:=by omega
       subst hi2
       have hro:=HRM2.out
       rw [HN.out] at hro
       have hro2:=hro.all
       rw [← HTK.out] at hro2
       have HRO:=Lib.hid hro2
       have hwt6:Went M M2 ((((d+1)*i:Nat):Int)*c):=by
        have:=HWT1.out
        rw [Nat.add_mul,Nat.one_mul]
        exact this
       have HWT6:=Lib.hid hwt6
       clear hro hro2 hwt6
       go_wp2_with fail
       go_roundg (g0-1)
       case rel=>exact⟨d+1,es',M2,F2,by simp,by have:=HG0.out;omega,HB.out,HRO.out,HC2.out.rep,HSB1.out,hngF,HO1.out,HU.out,HWT1.out |> fun _=>HWT6.out⟩
       case measure=>have:=HG0.out;omega
    ·have hd2:d=K:=by omega
     subst hd2
     have hro:=HRT1.out
     rw [HK.out,List.take_length] at hro
     have HRO:=Lib.hid hro
     clear hro
     go_wp2_with fail
     obtain⟨wl,hwl⟩:∃ W,W=wo:=⟨wo,rfl⟩
     go_loopg [84] d (fun gk s84 wi=>∃ (i:Nat),s84=.int .i64 (i:Int)∧i+gk=d∧OrdRep Fo wi ob (runL ps (ss.take i))∧Upd Fo wo wi)
     case atStart=>exact⟨0,rfl,by omega,by simpa [runL] using HO1.out,Upd.refl _ _⟩
     case round=>
      obtain⟨i,rfl,hi,hO2,hu2⟩:=hrel
      have HO2:=Lib.hid hO2
      have HU2:=Lib.hid hu2
      have hu3:Upd (fun j=>F j∨Fo j) w wr:=HU.out.later hu2 (fun j hj hh=>.inr hh)
      have HU3:=Lib.hid hu3
      clear hO2 hu2 hu3
      by_cases hlt2:i<d
      ·obtain⟨s,hx⟩:∃ b,ss[i]?=some b:=⟨_,List.getElem?_eq_getElem (by rw [← HK.out];exact hlt2)⟩
       obtain⟨b2,off2,ha2,cs⟩:=HS.out wr HU3.out i (s:Int) (by rw [List.getElem?_map,hx];rfl)
       have htk:=take_snoc hx
       have hs1:=HST.out s (List.mem_of_getElem? hx)
       have HSW:=Lib.hid (ordSwap_calls HO2.out s (by rw [runL_len];exact hs1))
       have HTK:=Lib.hid htk
       subst ha2
       clear hx htk hs1
       go_wp2_with fail
       refine HSW.out.mono ?_
       rintro e' w5 ⟨rfl,hu5,hO5⟩
       go_wp2_with fail
       go_roundg (gk-1)
       case rel=>exact⟨i+1,by simp,by omega,by rw [HTK.out,runL_snoc];exact hO5,HU2.out.trans' hu5⟩
       case measure=>omega
      ·have hi2:i=d:=by omega
       have hO6:=HO2.out
       rw [hi2,HK.out,List.take_length] at hO6
       have hnFo:¬Fo g:=fun hh=>by have:=HO.out.lt _ hh;omega
       have hout:AllOut F Fo w sb ob M ps ss rs c (.returned (.tuple #[.slice (some ⟨g,0,none⟩) N N,.int .u8 0])) wr:=by
        refine⟨g,es,M1,F1,by rw [HN.out],HB.out.keep HU2.out hnFo,hgw,HRO.out,HS1.out.keep HU2.out (fun j hj hh=>?_),HSB1.out,hngF,hO6,HU3.out,?_⟩
        ·have hk2:=HO.out.lt j hh
         rcases HSB1.out j hj with q|q
         ·exact HD.out j q hh
         ·omega
        ·rw [← HN.out,← HK.out]
         exact HWT1.out
       have HOUT:=Lib.hid hout
       clear hi2 hO6 hnFo hout
       go_wp2_with fail
       go_ret2
       exact HOUT.out

end Go.Proofs.YtpgcbmbnognieaaGreat
