/-
  ramageref28.Numbered in all; ramageref28.edge.
-/
import Derived.Test.YtiifimnpmbfihaaGreatPSaveQ
import Derived.Test.YtiifimnpmbfihaaGreatPSaveX
namespace Go.Proofs.YtiifimnpmbfihaaGreat
set_option linter.unusedSimpArgs false
set_option linter.unusedVariables false
set_option maxHeartbeats 600000
open Go Go.RowKit

theorem numbered_calls {F:Nat → Prop} {w:World} {mb:Nat} {M:St} {L:List (Int × Rec)} (h:RefRep F w mb M L) (hfa:FitA M) {base:Nat} (hbase:base ≤ w.heap.size) (hfew:M.cs.length ≤ 1048576) :
  ∀ (k:Nat) (e:Edge) (W:World) (v:Value) (S:List Int),Keeps w W → e.ok → Under M e.to k → UsRow base W v S → NumOk M S →
   Calls Tryz.prog 94 #[.pointer (some ⟨mb,0,none⟩),.agg #[.int .u8 e.tag,.int .u32 e.to],v] W fun x w'=>∃ v',x=.returned v' ∧ UsRow base w' v' (numM M e.to S) ∧ Keeps W w':=by
 intro k
 induction k with
 | zero=>
  intro e W v S hW he hu hv hS
  have hno:=hu.zero h.wf
  have:=hW.size
  exact numbered_step (h.keeps hW) hfa (by omega) e he v S hv hS hfew (fun r hr=>by rw [hno] at hr;cases hr) (fun r hr=>by rw [hno] at hr;cases hr)
 | succ k ih=>
  intro e W v S hW he hu hv hS
  have:=hW.size
  refine numbered_step (h.keeps hW) hfa (by omega) e he v S hv hS hfew (fun r hr W2 v2 S2 h2 hv2 hS2=>?_) (fun r hr W2 v2 S2 h2 hv2 hS2=>?_)
  ·exact ih r.lo W2 v2 S2 (hW.trans h2) (hfa _ r hr).lo (hu.top h.wf hr).1 hv2 hS2
  ·exact ih r.hi W2 v2 S2 (hW.trans h2) (hfa _ r hr).hi (hu.top h.wf hr).2 hv2 hS2

set_option maxRecDepth 100000 in
set_option maxHeartbeats 1000000 in
theorem refEdge' (a:Option Addr) (cap:Nat) (l:List Int) (w:World) (hu:UsAt w a l) (hl:l.length ≤ 1048576) (f:Int) (t k:Nat) (ht:t ≤ 255) (hk:k ≤ 4294967295) (hin:(k:Int) < 2 ∨ (k:Int) ∈ l) :
  Calls Tryz.prog 96 #[.int .u8 f,.slice a l.length cap,.agg #[.int .u8 (t:Int),.int .u32 (k:Int)]] w fun x w'=>∃ v,x=.returned v ∧ BsRow w.heap.size w' v (edgeB f l ⟨t,k⟩) ∧ Keeps w w':=by
 obtain ⟨n,hn⟩:∃ n,n=if k < 2 then k else l.idxOf (k:Int) + 2:=⟨_,rfl⟩
 have hix:l.idxOf (k:Int) ≤ l.length:=List.idxOf_le_length
 have hn64:n ≤ 4294967297:=by rw [hn];split <;> omega
 have HB:=Lib.hid (fun (W:World)=>refBytes_calls (n + 1) n (by omega) (by omega) W)
 have HT:=Lib.hid (fun (W:World)=>refBytes_calls (t + 1) t (by omega) (by omega) W)
 have HPL:=Lib.hid (fun (W:World) (hW:Keeps w W)=>place_calls a cap l (k:Int) W (hu.keeps hW) hl)
 have HL1:=Lib.hid (putB_len10 (n:=n) (by omega))
 have HL2:=Lib.hid (putB_len10 (n:=t) (by omega))
 have hge:edgeB f l ⟨t,k⟩=putB n ++ (if f=5 ∧ 0 < (k:Int) then putB t else []):=by
  unfold edgeB
  simp only [Int.toNat_natCast]
  rw [hn]
  by_cases hlow:k < 2
  ·rw [if_pos hlow,if_pos (by omega)]
  ·rw [if_neg hlow,if_neg (by omega)]
 obtain ⟨N,hN⟩:∃ N,N=l.length:=⟨_,rfl⟩
 rw [← hN] at HPL ⊢
 by_cases hlow:k < 2
 ·have gl:(k:Int) < 2:=by omega
  have hnk:n=k:=by rw [hn,if_pos hlow]
  subst hnk
  by_cases hc:f=5 ∧ 0 < n
  ·obtain ⟨rfl,gp⟩:=hc
   have HE:Hid (edgeB 5 l ⟨t,n⟩=putB n ++ putB t):=Lib.hid (by rw [hge,if_pos ⟨rfl,by omega⟩])
   clear hge hn hu hl hix hin HPL hN
   go_enter Tryz.func96,Tryz.ntmps96
   go_wp2_with (first
    | (go_at_call 93;have q:=HB;clear q;refine (HB.out _).mono ?_;rintro e1 w1 ⟨v1,rfl,hr,hk1⟩;have z0:w1.cell? ⟨w.heap.size,0,none⟩=some (.int .u8 (t:Int)):=hk1.cell (by simp [go_sem]);have z1:w1.cell? ⟨w.heap.size,1,none⟩=some (.int .u32 (n:Int)):=hk1.cell (by simp [go_sem]);have HR1:=Lib.hid hr;have hs1:=hk1.size;simp only [World.size_alloc] at hs1;have HK1:=Lib.hid (((Keeps.refl w).alloc _).trans hk1);clear hr hk1 HB)
    | (go_at_call 93;refine (HT.out _).mono ?_;rintro e2 w2 ⟨v2,rfl,hr,hk2⟩;have HR2:=Lib.hid hr;have HR12:=Lib.hid (HR1.out.keeps hk2);have hs2:=hk2.size;have HK2:=Lib.hid (HK1.out.trans hk2);clear hr hk2)
    | (at_builtin;refine wpB_append rfl _ _ rfl w.heap.size _ v1 v2 _ _ rfl rfl (HR12.out.lower (by simp only [World.size_alloc];omega)) HR2.out (by have:=HL1.out;have:=HL2.out;omega) (by omega) ?_;intro v3 w3 hr3 hg3;have HR3:=Lib.hid hr3;have HG3:=Lib.hid hg3;clear hr3 hg3)
    | fail)
   go_ret
   refine ⟨v3,rfl,by rw [HE.out];exact HR3.out,HK2.out.new (Upd.of_row HG3.out) (fun j hj=>?_)⟩
   have:=row_from HR12.out hj
   simp only [World.size_alloc] at this
   omega
  ·have HE:Hid (edgeB f l ⟨t,n⟩=putB n):=Lib.hid (by rw [hge,if_neg (fun hh=>hc ⟨hh.1,by omega⟩),List.append_nil])
   by_cases h5:f=5
   ·subst h5
    have gz:¬ (0 < n):=fun hh=>hc ⟨rfl,hh⟩
    clear hge hn hu hl hix hin HPL hN hc
    go_enter Tryz.func96,Tryz.ntmps96
    go_wp2_with (first
     | (go_at_call 93;have q:=HB;clear q;refine (HB.out _).mono ?_;rintro e1 w1 ⟨v1,rfl,hr,hk1⟩;have z0:w1.cell? ⟨w.heap.size,0,none⟩=some (.int .u8 (t:Int)):=hk1.cell (by simp [go_sem]);have z1:w1.cell? ⟨w.heap.size,1,none⟩=some (.int .u32 (n:Int)):=hk1.cell (by simp [go_sem]);have HR1:=Lib.hid hr;have hs1:=hk1.size;simp only [World.size_alloc] at hs1;have HK1:=Lib.hid (((Keeps.refl w).alloc _).trans hk1);clear hr hk1 HB)
     | fail)
    go_ret
    exact ⟨v1,rfl,by rw [HE.out];exact HR1.out.lower (by simp only [World.size_alloc];omega),HK1.out⟩
   ·have g5:(f == 5)=false:=by simp [h5]
    clear hge hn hu hl hix hin HPL hN hc h5
    go_enter Tryz.func96,Tryz.ntmps96
    go_wp2_with (first
     | (go_at_call 93;have q:=HB;clear q;refine (HB.out _).mono ?_;rintro e1 w1 ⟨v1,rfl,hr,hk1⟩;have z0:w1.cell? ⟨w.heap.size,0,none⟩=some (.int .u8 (t:Int)):=hk1.cell (by simp [go_sem]);have z1:w1.cell? ⟨w.heap.size,1,none⟩=some (.int .u32 (n:Int)):=hk1.cell (by simp [go_sem]);have HR1:=Lib.hid hr;have hs1:=hk1.size;simp only [World.size_alloc] at hs1;have HK1:=Lib.hid (((Keeps.refl w).alloc _).trans hk1);clear hr hk1 HB)
     | fail)
    go_ret
    exact ⟨v1,rfl,by rw [HE.out];exact HR1.out.lower (by simp only [World.size_alloc];omega),HK1.out⟩
 ·have gl:¬ ((k:Int) < 2):=by omega
  have hks:=hin.resolve_left gl
  obtain ⟨m,hm⟩:∃ m,m=l.idxOf (k:Int):=⟨_,rfl⟩
  have hnm:n=m + 2:=by rw [hn,if_neg hlow,hm]
  have hm20:m ≤ 1048576:=by omega
  have hp:placeI l (k:Int)=(m:Int):=by unfold placeI;rw [if_pos hks,← hm]
  rw [hp] at HPL
  subst hnm
  have hw1:IntKind.u64.wrap (m:Int)=(m:Int):=by unfold IntKind.wrap;simp [IntKind.signed,IntKind.bits];omega
  have hw2:IntKind.u64.wrap ((m:Int) + 2)=(m:Int) + 2:=by unfold IntKind.wrap;simp [IntKind.signed,IntKind.bits];omega
  have gk:0 < k:=by omega
  by_cases h5:f=5
  ·subst h5
   have HE:Hid (edgeB 5 l ⟨t,k⟩=putB (m + 2) ++ putB t):=Lib.hid (by rw [hge,if_pos ⟨rfl,by omega⟩])
   clear hge hn hu hl hix hin hN hp hm hks hlow
   go_enter Tryz.func96,Tryz.ntmps96
   go_wp2_with (first
    | (go_at_call 179;refine (HPL.out _ (by (exact kp))).mono ?_;rintro e0 w0 ⟨rfl,rfl⟩)
    | (go_at_call 93;have q:=HB;clear q;refine (HB.out _).mono ?_;rintro e1 w1 ⟨v1,rfl,hr,hk1⟩;have z0:w1.cell? ⟨w.heap.size,0,none⟩=some (.int .u8 (t:Int)):=hk1.cell (by simp [go_sem]);have z1:w1.cell? ⟨w.heap.size,1,none⟩=some (.int .u32 (k:Int)):=hk1.cell (by simp [go_sem]);have HR1:=Lib.hid hr;have hs1:=hk1.size;simp only [World.size_alloc] at hs1;have HK1:=Lib.hid (((Keeps.refl w).alloc _).trans hk1);clear hr hk1 HB)
    | (go_at_call 93;refine (HT.out _).mono ?_;rintro e2 w2 ⟨v2,rfl,hr,hk2⟩;have HR2:=Lib.hid hr;have HR12:=Lib.hid (HR1.out.keeps hk2);have hs2:=hk2.size;have HK2:=Lib.hid (HK1.out.trans hk2);clear hr hk2)
    | (at_builtin;refine wpB_append rfl _ _ rfl w.heap.size _ v1 v2 _ _ rfl rfl (HR12.out.lower (by simp only [World.size_alloc];omega)) HR2.out (by have:=HL1.out;have:=HL2.out;omega) (by omega) ?_;intro v3 w3 hr3 hg3;have HR3:=Lib.hid hr3;have HG3:=Lib.hid hg3;clear hr3 hg3)
    | fail)
   go_ret
   refine ⟨v3,rfl,by rw [HE.out];exact HR3.out,HK2.out.new (Upd.of_row HG3.out) (fun j hj=>?_)⟩
   have:=row_from HR12.out hj
   simp only [World.size_alloc] at this
   omega
  ·have HE:Hid (edgeB f l ⟨t,k⟩=putB (m + 2)):=Lib.hid (by rw [hge,if_neg (fun hh=>h5 hh.1),List.append_nil])
   have g5:(f == 5)=false:=by simp [h5]
   clear hge hn hu hl hix hin hN hp hm hks hlow h5
   go_enter Tryz.func96,Tryz.ntmps96
   go_wp2_with (first
    | (go_at_call 179;refine (HPL.out _ (by (exact kp))).mono ?_;rintro e0 w0 ⟨rfl,rfl⟩)
    | (go_at_call 93;have q:=HB;clear q;refine (HB.out _).mono ?_;rintro e1 w1 ⟨v1,rfl,hr,hk1⟩;have z0:w1.cell? ⟨w.heap.size,0,none⟩=some (.int .u8 (t:Int)):=hk1.cell (by simp [go_sem]);have z1:w1.cell? ⟨w.heap.size,1,none⟩=some (.int .u32 (k:Int)):=hk1.cell (by simp [go_sem]);have HR1:=Lib.hid hr;have hs1:=hk1.size;simp only [World.size_alloc] at hs1;have HK1:=Lib.hid (((Keeps.refl w).alloc _).trans hk1);clear hr hk1 HB)
    | fail)
   go_ret
   exact ⟨v1,rfl,by rw [HE.out];exact HR1.out.lower (by simp only [World.size_alloc];omega),HK1.out⟩

theorem refEdge_calls (a:Option Addr) (cap:Nat) (l:List Int) (w:World) (hu:UsAt w a l) (hl:l.length ≤ 1048576) (f:Int) (e:Edge) (he:e.ok) (hin:e.to < 2 ∨ e.to ∈ l) :
  Calls Tryz.prog 96 #[.int .u8 f,.slice a l.length cap,.agg #[.int .u8 e.tag,.int .u32 e.to]] w fun x w'=>∃ v,x=.returned v ∧ BsRow w.heap.size w' v (edgeB f l e) ∧ Keeps w w':=by
 obtain ⟨t,k⟩:=e
 obtain ⟨⟨a1,a2⟩,b1,b2⟩:=he
 simp only [] at a1 a2 b1 b2 hin
 obtain ⟨t,rfl⟩:∃ n:Nat,t=(n:Int):=⟨t.toNat,by omega⟩
 obtain ⟨k,rfl⟩:∃ n:Nat,k=(n:Int):=⟨k.toNat,by omega⟩
 exact refEdge' a cap l w hu hl f t k (by omega) (by omega) hin

end Go.Proofs.YtiifimnpmbfihaaGreat
