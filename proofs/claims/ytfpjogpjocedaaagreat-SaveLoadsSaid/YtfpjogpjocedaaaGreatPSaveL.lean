/-
  ramageref28.Bytes: all bytes of an edge, by the document.
-/
import Derived.Test.YtfpjogpjocedaaaGreatPSaveS
namespace Go.Proofs.YtfpjogpjocedaaaGreat
set_option linter.unusedSimpArgs false
set_option linter.unusedVariables false
set_option maxHeartbeats 600000
open Go Go.RowKit

theorem app_keeps {w W W':World} {v:Value} {bs:List Int} (hk:Keeps w W) (hr:BsRow w.heap.size W v bs) (hg:W.grownBy W' v.ownBlock):Keeps w W':=
 hk.new (Upd.of_row hg) (fun _ hj=>row_from hr hj)

theorem UsRow.blk {base:Nat} {w:World} {v:Value} {l:List Int} (h:UsRow base w v l) {k:Nat} (hk:v.ownBlock=some k):IsBlk w 35 k:=by
 obtain ⟨cs,hc⟩:=owns_type h hk
 exact ⟨cs,hc⟩

theorem UsRow.grown {b b2:Nat} {W W':World} {v lv:Value} {bs l:List Int} (h:UsRow b W lv l) (hr:BsRow b2 W v bs) (hg:W.grownBy W' v.ownBlock):UsRow b W' lv l:=
 (Upd.of_row hg).owns (fun k hk e=>by
  obtain ⟨cs,hc⟩:=h.blk hk
  exact hr.other hc (by decide) e) h

theorem UsRow.at' {base:Nat} {w:World} {a:Option Addr} {n cap:Nat} {l:List Int} (h:UsRow base w (.slice a n cap) l):UsAt w a l:=by
 obtain ⟨a',cap',e,h2⟩:=h.slice
 obtain ⟨rfl,-,-⟩:a=a' ∧ n=l.length ∧ cap=cap':=by simpa using e
 exact h2

theorem IsBlk.grown {b2:Nat} {W W':World} {v:Value} {bs:List Int} {t:TypeId} {k:Nat} (h:IsBlk W t k) (ht:t ≠ 5) (hr:BsRow b2 W v bs) (hg:W.grownBy W' v.ownBlock):IsBlk W' t k ∧ ∀ o x,W.cell? ⟨k,o,none⟩=some x → W'.cell? ⟨k,o,none⟩=some x:=by
 obtain ⟨cs,hc⟩:=h
 have hne:=hr.other hc ht
 exact ⟨⟨cs,(hg.block k (lt_of_heap hc) (fun e=>hne e.symm)).trans hc⟩,fun o x hx=>grown_cell hg hne hx⟩

set_option maxRecDepth 100000 in
set_option maxHeartbeats 2000000 in
theorem refSave_calls {F:Nat → Prop} {w:World} {mb:Nat} {M:St} {L:List (Int × Rec)} (h:RefRep F w mb M L) (hfa:FitA M) (hfew:M.cs.length ≤ 1048576) (a:Option Addr) (cap:Nat) (ps:List Int) (hI:IntsAt w a ps) (hps:∀ x ∈ ps,0 ≤ x ∧ x ≤ 16) (hpl:ps.length ≤ 16) (f:Int) (hf:0 ≤ f ∧ f ≤ 255) (e:Edge) (he:e.ok) (hin:e.to < 2 ∨ look M.cs e.to ≠ none) :
  Calls Tryz.prog 19 #[.pointer (some ⟨mb,0,none⟩),.slice a ps.length cap,.int .u8 f,.agg #[.int .u8 e.tag,.int .u32 e.to]] w fun r w'=>∃ v,r=.returned v ∧ BsRow w.heap.size w' v (saveB M ps f e) ∧ Keeps w w':=by
 have HR:=Lib.hid h
 have HI:=Lib.hid hI
 have HPS:=Lib.hid hps
 have HFA:=Lib.hid hfa
 have HIN:Hid (e.to < 2 ∨ e.to ∈ numM M e.to []):=Lib.hid (hin.imp (fun hh=>hh) (numM_here h.wf hfa (NumOk.nil M)))
 have HNK:=Lib.hid ((NumOk.nil M).next h.wf hfa e.to)
 have HNUM:=Lib.hid (fun (W:World) (hW:Keeps w W)=>numbered_calls h hfa (Nat.le_refl _) hfew 16 e W (.slice none 0 0) [] hW he (under_all h.wf hfa e.to (Nat.le_refl _)) (UsRow.nil _ _) (NumOk.nil M))
 have c3:w.cell? ⟨mb,3,none⟩=some (.int .i64 M.n):=h.vars
 have hmb:=h.pos
 have n0:=h.wf.n0
 have n16:=h.wf.n16
 obtain ⟨N,hN⟩:∃ N,N=ps.length:=⟨_,rfl⟩
 have HNN:=Lib.hid hN
 rw [← hN] at hpl ⊢
 obtain ⟨nn,hnn⟩:∃ n:Nat,M.n=(n:Int):=⟨M.n.toNat,by omega⟩
 rw [hnn] at c3
 obtain ⟨fn,rfl⟩:∃ n:Nat,f=(n:Int):=⟨f.toNat,by omega⟩
 have hn16:nn ≤ 16:=by omega
 have hf255:fn ≤ 255:=by omega
 have HNV:=Lib.hid hnn
 have HL1:=Lib.hid (putB_len10 (n:=nn) (by omega))
 have HL2:=Lib.hid (putB_len10 (n:=fn) (by omega))
 have HBN:=Lib.hid (fun (W:World)=>refBytes_calls (nn + 1) nn (by omega) (by omega) W)
 have HBF:=Lib.hid (fun (W:World)=>refBytes_calls (fn + 1) fn (by omega) (by omega) W)
 clear h hI hps hin hN hfa hnn n0 n16
 go_enter Tryz.func19,Tryz.ntmps19
 go_wp2_with (first
  | (go_at_call 53;have q:=HBN;clear q;refine (HBN.out _).mono ?_;rintro e1 w1 ⟨v1,rfl,hr,hk⟩;have HR1:=Lib.hid (hr.lower (show w.heap.size ≤ _ by simp only [World.size_alloc];omega));have z0:w1.cell? ⟨w.heap.size,0,none⟩=some (.int .u8 e.tag):=hk.cell (by simp [go_sem]);have z1:w1.cell? ⟨w.heap.size,1,none⟩=some (.int .u32 e.to):=hk.cell (by simp [go_sem]);have hE1:=(IsBlk.new w #[.int .u8 e.tag,.int .u32 e.to] 37).keeps hk;have HK1:=Lib.hid (((Keeps.refl w).alloc _).trans hk);clear hr hk HBN)
  | (go_at_call 53;refine (HBF.out _).mono ?_;rintro e2 w2 ⟨v2,rfl,hr,hk⟩;have HX2:=Lib.hid hr;have HR2:=Lib.hid (HR1.out.keeps hk);have z02:=hk.cell z0;have z12:=hk.cell z1;have hE2:=hE1.keeps hk;have HK2:=Lib.hid (HK1.out.trans hk);clear hr hk HBF HR1 z0 z1 hE1 HK1)
  | (at_builtin;refine wpB_append rfl _ _ rfl w.heap.size _ v1 v2 _ _ rfl rfl HR2.out HX2.out (by have:=HL1.out;have:=HL2.out;omega) HK2.out.size ?_;intro v3 w3 hr hg;have HR3:=Lib.hid hr;have HK3:=Lib.hid (app_keeps HK2.out HR2.out hg);have hg2:=hE2.grown (by decide) HR2.out hg;have z03:=hg2.2 0 _ z02;have z13:=hg2.2 1 _ z12;have hE3:=hg2.1;clear hr hg hg2 z02 z12 hE2 HK2 HR2 HX2)
  | fail)
 go_loopg [9,10] N (fun gk s9 s10 wr=>∃ (d:Nat) (v:Value),v=s9 ∧ s10=.int .i64 (d:Int) ∧ d + gk=N ∧ BsRow w.heap.size wr v (putB nn ++ putB fn ++ (ps.take d).flatMap (fun x:Int=>putB x.toNat)) ∧ Keeps w wr ∧ wr.cell? ⟨w.heap.size,0,none⟩=some (.int .u8 e.tag) ∧ wr.cell? ⟨w.heap.size,1,none⟩=some (.int .u32 e.to) ∧ IsBlk wr 37 w.heap.size)
 case atStart=>exact ⟨0,v3,rfl,rfl,by omega,by rw [List.take_zero,List.flatMap_nil,List.append_nil];exact HR3.out,HK3.out,z03,z13,hE3⟩
 case round=>
  obtain ⟨d,v4,rfl,rfl,hd,hr,hk,z0,z1,hE⟩:=hrel
  have hfl:((ps.take d).flatMap (fun x:Int=>putB x.toNat)).length ≤ 10 * (ps.take d).length:=flat_len (fun x:Int=>putB x.toNat) 10 (ps.take d) (fun x hx=>putB_len10 (by have:=HPS.out x (List.mem_of_mem_take hx);omega))
  have hfl2:(ps.take d).length ≤ 16:=by rw [List.length_take];omega
  have HFL:Hid ((putB nn ++ putB fn ++ (ps.take d).flatMap (fun x:Int=>putB x.toNat)).length ≤ 200):=Lib.hid (by have:=HL1.out;have:=HL2.out;simp only [List.length_append];omega)
  have HR4:=Lib.hid hr
  have HK4:=Lib.hid hk
  clear hfl hfl2 hr hk
  by_cases hlt:d < N
  ·obtain ⟨x,hx⟩:∃ x,ps[d]?=some x:=⟨_,List.getElem?_eq_getElem (by rw [← HNN.out];exact hlt)⟩
   have hxr:=HPS.out x (List.mem_of_getElem? hx)
   obtain ⟨b,off,rfl,c0⟩:=HI.out d x hx
   replace c0:=HK4.out.cell c0
   obtain ⟨xn,rfl⟩:∃ n:Nat,x=(n:Int):=⟨x.toNat,by omega⟩
   have hxn:xn ≤ 16:=by omega
   have HST:=Lib.hid (flat_snoc ps d _ hx)
   have HBX:=Lib.hid (fun (W:World)=>refBytes_calls (xn + 1) xn (by omega) (by omega) W)
   have HLX:=Lib.hid (putB_len10 (n:=xn) (by omega))
   have i0:(0:Int) ≤ (d:Int):=by omega
   have i1:(d:Int) < (N:Int):=by omega
   clear hx hxr HR3 HK3 z03 z13 hE3
   go_wp2_with (first
    | (go_at_call 53;refine (HBX.out _).mono ?_;rintro e2 w5 ⟨v5,rfl,hr,hk⟩;have HX5:=Lib.hid hr;have HR5:=Lib.hid (HR4.out.keeps hk);have z05:=hk.cell z0;have z15:=hk.cell z1;have hE5:=hE.keeps hk;have HK5:=Lib.hid (HK4.out.trans hk);clear hr hk HR4 z0 z1 hE HK4 c0)
    | (at_builtin;have q:=HX5;clear q;refine wpB_append rfl _ _ rfl w.heap.size _ v4 v5 _ _ rfl rfl HR5.out HX5.out (by have:=HFL.out;have:=HLX.out;omega) HK5.out.size ?_;intro v6 w6 hr hg;have HR6:=Lib.hid hr;have HK6:=Lib.hid (app_keeps HK5.out HR5.out hg);have hg2:=hE5.grown (by decide) HR5.out hg;have z06:=hg2.2 0 _ z05;have z16:=hg2.2 1 _ z15;have hE6:=hg2.1;clear hr hg hg2 z05 z15 hE5 HK5 HR5 HX5)
    | fail)
   go_roundg (gk - 1)
   case rel=>exact ⟨d + 1,v6,rfl,by simp,by omega,by rw [HST.out,← List.append_assoc];exact HR6.out,HK6.out,z06,z16,hE6⟩
   case measure=>omega
  ·have hdN:d=N:=by omega
   subst hdN
   have HTK:Hid (ps.take d=ps):=Lib.hid (by rw [HNN.out,List.take_length])
   obtain ⟨S,hS⟩:∃ S,S=numM M e.to []:=⟨_,rfl⟩
   have HSE:=Lib.hid hS
   rw [← hS] at HNK HIN HNUM
   have hK2:S.length ≤ 1048576:=by
    have:=ids_few M.cs.length S HNK.out.once (fun x hx=>by
     cases hl:look M.cs x with
     | none=>exact absurd hl (HNK.out.known x hx)
     | some r=>have:=look_some hl;exact ⟨this.1,this.2.1⟩)
    omega
   obtain ⟨K2,hK2e⟩:∃ K2,K2=S.length:=⟨_,rfl⟩
   rw [← hK2e] at hK2
   have HK2E:=Lib.hid hK2e
   have HBK:=Lib.hid (fun (W:World)=>refBytes_calls (K2 + 1) K2 (by omega) (by omega) W)
   have HL3:=Lib.hid (putB_len10 (n:=K2) (by omega))
   clear hS hK2e HR3 HK3 z03 z13 hE3
   go_wp2_with (first
    | (go_at_call 54;refine (HNUM.out _ HK4.out).mono ?_;rintro e2 w5 ⟨lv,rfl,hu,hk⟩;obtain ⟨la,lcap,hlv,hla⟩:=hu.slice;rw [← HK2E.out] at hlv;have HU5:=Lib.hid hu;have HR5:=Lib.hid (HR4.out.keeps hk);have z05:=hk.cell z0;have z15:=hk.cell z1;have hE5:=hE.keeps hk;have HK5:=Lib.hid (HK4.out.trans hk);subst hlv;clear hu hk hla HR4 z0 z1 hE HK4)
    | (go_at_call 53;have q:=HU5;clear q;refine (HBK.out _).mono ?_;rintro e3 w6 ⟨v6,rfl,hr,hk⟩;have HX6:=Lib.hid hr;have HR6:=Lib.hid (HR5.out.keeps hk);have HU6:=Lib.hid (HU5.out.keeps hk);have z06:=hk.cell z05;have z16:=hk.cell z15;have hE6:=hE5.keeps hk;have HK6:=Lib.hid (HK5.out.trans hk);clear hr hk HR5 HU5 z05 z15 hE5 HK5)
    | (at_builtin;have q:=HX6;clear q;refine wpB_append rfl _ _ rfl w.heap.size _ v4 v6 _ _ rfl rfl HR6.out HX6.out (by have:=HFL.out;have:=HL3.out;omega) HK6.out.size ?_;intro v7 w7 hr hg;have HR7:=Lib.hid hr;have HU7:=Lib.hid (HU6.out.grown HR6.out hg);have HK7:=Lib.hid (app_keeps HK6.out HR6.out hg);have hg2:=hE6.grown (by decide) HR6.out hg;have z07:=hg2.2 0 _ z06;have z17:=hg2.2 1 _ z16;have hE7:=hg2.1;clear hr hg hg2 z06 z16 hE6 HK6 HR6 HX6 HU6)
    | fail)
   obtain ⟨pre,hpre⟩:∃ pre,pre=putB nn ++ putB fn ++ (ps.take d).flatMap (fun x:Int=>putB x.toNat) ++ putB K2:=⟨_,rfl⟩
   rw [← hpre] at HR7
   have HLP:Hid (pre.length ≤ 300):=Lib.hid (by rw [hpre,List.length_append];have:=HFL.out;have:=HL3.out;omega)
   have HPRE:=Lib.hid hpre
   clear hpre HFL
   have HED:=Lib.hid (fun (W:World) (x:Edge) (hu:UsRow w.heap.size W (.slice la K2 lcap) S) (hx:x.ok) (hi:x.to < 2 ∨ x.to ∈ S)=>by
    have:=refEdge_calls la lcap S W hu.at' (by rw [← HK2E.out];exact hK2) (fn:Int) x hx hi
    rw [← HK2E.out] at this
    exact this)
   go_loopg [9,12] K2 (fun gk s9 s12 wr=>∃ (d2:Nat) (v:Value),v=s9 ∧ s12=.int .i64 (d2:Int) ∧ d2 + gk=K2 ∧ BsRow w.heap.size wr v (pre ++ (S.take d2).flatMap (fun x=>recB (fn:Int) S (grec (look M.cs x)))) ∧ UsRow w.heap.size wr (.slice la K2 lcap) S ∧ Keeps w wr ∧ wr.cell? ⟨w.heap.size,0,none⟩=some (.int .u8 e.tag) ∧ wr.cell? ⟨w.heap.size,1,none⟩=some (.int .u32 e.to) ∧ IsBlk wr 37 w.heap.size)
   case atStart=>exact ⟨0,v7,rfl,rfl,by omega,by rw [List.take_zero,List.flatMap_nil,List.append_nil];exact HR7.out,HU7.out,HK7.out,z07,z17,hE7⟩
   case round=>
    obtain ⟨d2,v8,rfl,rfl,hd2,hr,hu,hk,z0,z1,hE⟩:=hrel
    have hfl:((S.take d2).flatMap (fun x=>recB (fn:Int) S (grec (look M.cs x)))).length ≤ 60 * (S.take d2).length:=flat_len (fun x=>recB (fn:Int) S (grec (look M.cs x))) 60 (S.take d2) (fun x _=>by
     cases hl:look M.cs x with
     | none=>exact recB_len Rec.zero_ok (by rw [← HK2E.out];exact hK2)
     | some r=>exact recB_len (HFA.out x r hl) (by rw [← HK2E.out];exact hK2))
    have hfl2:(S.take d2).length ≤ 1048576:=by rw [List.length_take,← HK2E.out];omega
    have HFL:Hid ((pre ++ (S.take d2).flatMap (fun x=>recB (fn:Int) S (grec (look M.cs x)))).length ≤ 70000000):=Lib.hid (by have:=HLP.out;rw [List.length_append];omega)
    obtain ⟨la',lcap',hlv,hla⟩:=hu.slice
    have HR8:=Lib.hid hr
    have HK8:=Lib.hid hk
    have HU8:=Lib.hid hu
    clear hfl hfl2 HR7 HU7 HK7 z07 z17 hE7
    by_cases hlt2:d2 < K2
    ·obtain ⟨x,hx⟩:∃ x,S[d2]?=some x:=⟨_,List.getElem?_eq_getElem (by rw [← HK2E.out];exact hlt2)⟩
     have hxS:x ∈ S:=List.mem_of_getElem? hx
     obtain ⟨r,hl⟩:∃ r,look M.cs x=some r:=by
      cases hl:look M.cs x with
      | none=>exact absurd hl (HNK.out.known x hxS)
      | some r=>exact ⟨r,rfl⟩
     obtain ⟨g,hg,c0⟩:=hla d2 x hx
     obtain ⟨rfl,-,rfl⟩:la=la' ∧ K2=S.length ∧ lcap=lcap':=by simpa using hlv
     clear hlv
     obtain rfl:=hg
     have HAT:=Lib.hid (fun (W:World) (hW:Keeps w W)=>ref_at (HR.out.keeps hW) x)
     have hro:=HFA.out x r hl
     have hsh:=HNK.out.shut x hxS r hl
     rcases atI_look HR.out x with ⟨r',hk',D,hLD,hDe,hDl,hq⟩ | ⟨hk',_,hq⟩
     ·rw [hl] at hk'
      cases hk'
      rw [hq] at HAT
      obtain ⟨lb,cp,q0,ql,qm,q1,q2,q3,q4,q5,q6,q7⟩:=(HR.out.keeps hk).node hLD
      have HST:Hid ((S.take (d2 + 1)).flatMap (fun x=>recB (fn:Int) S (grec (look M.cs x)))=(S.take d2).flatMap (fun x=>recB (fn:Int) S (grec (look M.cs x))) ++ recB (fn:Int) S r):=Lib.hid (by rw [List.take_add_one,hx,List.flatMap_append];simp [hl,grec])
      have HRO:=Lib.hid hro
      have HSH:=Lib.hid hsh
      have i0:(0:Int) ≤ (d2:Int):=by omega
      have i1:(d2:Int) < (K2:Int):=by omega
      have j0:(0:Int) ≤ (D:Int):=by omega
      have j1:(D:Int) < (L.length:Int):=by omega
      have hmb8:=lt_of_cell q0
      have hlb8:=lt_of_cell q1
      have hg8:=lt_of_cell c0
      dsimp only at hmb8 hlb8 hg8
      clear hx hxS hl hla hro hsh hDe hDl hq hLD hr hu hk
      go_wp2_with fail
      go_cut [13] (fun s13 wx=>∃ B,s13=.pointer (some ⟨B,0,none⟩) ∧ wx.cell? ⟨B,1,none⟩=some (.int .u8 r.top) ∧ wx.cell? ⟨B,2,none⟩=some (.int .u8 r.bot) ∧ wx.cell? ⟨B,3,none⟩=some (.int .u8 r.lo.tag) ∧ wx.cell? ⟨B,4,none⟩=some (.int .u32 r.lo.to) ∧ wx.cell? ⟨B,5,none⟩=some (.int .u8 r.hi.tag) ∧ wx.cell? ⟨B,6,none⟩=some (.int .u32 r.hi.to) ∧ IsBlk wx 87 B ∧ Keeps wr wx)
      case first=>
       go_region_held3 (fun w'=>w'.cell? ⟨mb,0,none⟩=some (.slice (some ⟨lb,0,none⟩) L.length cp) ∧ w'.cell? ⟨g,d2,none⟩=some (.int .u32 x) ∧ w'.cell? ⟨lb,D * 8 + 1,none⟩=some (.int .u8 r.form) ∧ w'.cell? ⟨lb,D * 8 + 2,none⟩=some (.int .u8 r.top) ∧ w'.cell? ⟨lb,D * 8 + 3,none⟩=some (.int .u8 r.bot) ∧ w'.cell? ⟨lb,D * 8 + 4,none⟩=some (.int .u8 r.lo.tag) ∧ w'.cell? ⟨lb,D * 8 + 5,none⟩=some (.int .u32 r.lo.to) ∧ w'.cell? ⟨lb,D * 8 + 6,none⟩=some (.int .u8 r.hi.tag) ∧ w'.cell? ⟨lb,D * 8 + 7,none⟩=some (.int .u32 r.hi.to)) (go_keep) ((first | (go_at_call 55;refine (HAT.out _ (HK8.out.trans (by (exact kp)))).mono ?_;rintro e3 w9 ⟨rfl,rfl⟩)))
       all_goals (try go_wp2_with fail)
       all_goals go_meet
       all_goals first
        | (refine ⟨wr.heap.size,rfl,?_⟩;exact ⟨by simp [go_sem],by simp [go_sem],by simp [go_sem],by simp [go_sem],by simp [go_sem],by simp [go_sem],(IsBlk.new wr _ _).drew,by (exact kp)⟩)
        | (refine ⟨wr.heap.size,rfl,?_⟩;exact ⟨by simp [go_sem],by simp [go_sem],by simp [go_sem],by simp [go_sem],by simp [go_sem],by simp [go_sem],IsBlk.new _ _ _,by (exact kp)⟩)
      case rest=>
       obtain ⟨B,rfl,d19,d29,d39,d49,d59,d69,hB9,hk9⟩:=hcut
       have HR9:=Lib.hid (HR8.out.keeps hk9)
       have HU9:=Lib.hid (HU8.out.keeps hk9)
       have HK9:=Lib.hid (HK8.out.trans hk9)
       have z09:=hk9.cell z0
       have z19:=hk9.cell z1
       have hE9:=hE.keeps hk9
       obtain ⟨tp,htp⟩:∃ n:Nat,r.top=(n:Int):=⟨r.top.toNat,by have:=HRO.out.top;omega⟩
       obtain ⟨bp,hbp⟩:∃ n:Nat,r.bot=(n:Int):=⟨r.bot.toNat,by have:=HRO.out.bot;omega⟩
       have tp255:tp ≤ 255:=by have:=HRO.out.top;omega
       have bp255:bp ≤ 255:=by have:=HRO.out.bot;omega
       rw [htp] at d19
       rw [hbp] at d29
       have HTP:=Lib.hid htp
       have HBP:=Lib.hid hbp
       have HBT:=Lib.hid (fun (W:World)=>refBytes_calls (tp + 1) tp (by omega) (by omega) W)
       have HBB:=Lib.hid (fun (W:World)=>refBytes_calls (bp + 1) bp (by omega) (by omega) W)
       have HLT:=Lib.hid (putB_len10 (n:=tp) (by omega))
       have HLB:=Lib.hid (putB_len10 (n:=bp) (by omega))
       have HLL:=Lib.hid (edgeB_len (f:=(fn:Int)) (S:=S) HRO.out.lo (by rw [← HK2E.out];exact hK2))
       have HLH:=Lib.hid (edgeB_len (f:=(fn:Int)) (S:=S) HRO.out.hi (by rw [← HK2E.out];exact hK2))
       clear hk9 z0 z1 hE HR8 HU8 HK8 htp hbp q0 q1 q2 q3 q4 q5 q6 q7 c0
       by_cases hch:fn=3 ∨ fn=4
       ·have HEQ:Hid (pre ++ (S.take d2).flatMap (fun x=>recB (fn:Int) S (grec (look M.cs x))) ++ putB tp ++ putB bp ++ edgeB (fn:Int) S r.lo ++ edgeB (fn:Int) S r.hi=pre ++ (S.take (d2 + 1)).flatMap (fun x=>recB (fn:Int) S (grec (look M.cs x)))):=Lib.hid (by
         rw [HST.out]
         unfold recB
         rw [if_pos (by omega),HTP.out,HBP.out]
         simp only [List.append_assoc,Int.toNat_natCast])
        rcases hch with rfl | rfl
        ·go_wp2_with (first
          | (go_at_call 53;have q:=HR9;clear q;refine (HBT.out _).mono ?_;rintro e1 wa ⟨xa,rfl,hr,hk⟩;have HXa:=Lib.hid hr;have HRa:=Lib.hid (HR9.out.keeps hk);have HUa:=Lib.hid (HU9.out.keeps hk);have HKa:=Lib.hid (HK9.out.trans hk);have z0a:=hk.cell z09;have z1a:=hk.cell z19;have hEa:=hE9.keeps hk;have d1a:=hk.cell d19;have d2a:=hk.cell d29;have d3a:=hk.cell d39;have d4a:=hk.cell d49;have d5a:=hk.cell d59;have d6a:=hk.cell d69;have hBa:=hB9.keeps hk;clear hr hk HR9 HU9 HK9 z09 z19 hE9 hB9 d19 d29 d39 d49 d59 d69)
          | (at_builtin;have q:=HXa;clear q;refine wpB_append rfl _ _ rfl w.heap.size _ v8 xa _ _ rfl rfl HRa.out HXa.out (by (have h1:=HFL.out;have h2:=HLT.out;have h3:=HLB.out;have h4:=HLL.out;have h5:=HLH.out;simp only [List.length_append] at h1 ⊢;omega)) HKa.out.size ?_;intro v10 w10 hr hg;have HR10:=Lib.hid hr;have HU10:=Lib.hid (HUa.out.grown HRa.out hg);have HK10:=Lib.hid (app_keeps HKa.out HRa.out hg);have hg2:=hEa.grown (by decide) HRa.out hg;have z010:=hg2.2 0 _ z0a;have z110:=hg2.2 1 _ z1a;have hE10:=hg2.1;have hg3:=hBa.grown (by decide) HRa.out hg;have d110:=hg3.2 1 _ d1a;have d210:=hg3.2 2 _ d2a;have d310:=hg3.2 3 _ d3a;have d410:=hg3.2 4 _ d4a;have d510:=hg3.2 5 _ d5a;have d610:=hg3.2 6 _ d6a;have hB10:=hg3.1;clear hg3;clear hr hg hg2 HRa HUa HKa z0a z1a hEa HXa hBa d1a d2a d3a d4a d5a d6a)
          | (go_at_call 53;have q:=HR10;clear q;refine (HBB.out _).mono ?_;rintro e1 wb ⟨xb,rfl,hr,hk⟩;have HXb:=Lib.hid hr;have HRb:=Lib.hid (HR10.out.keeps hk);have HUb:=Lib.hid (HU10.out.keeps hk);have HKb:=Lib.hid (HK10.out.trans hk);have z0b:=hk.cell z010;have z1b:=hk.cell z110;have hEb:=hE10.keeps hk;have d1b:=hk.cell d110;have d2b:=hk.cell d210;have d3b:=hk.cell d310;have d4b:=hk.cell d410;have d5b:=hk.cell d510;have d6b:=hk.cell d610;have hBb:=hB10.keeps hk;clear hr hk HR10 HU10 HK10 z010 z110 hE10 hB10 d110 d210 d310 d410 d510 d610)
          | (at_builtin;have q:=HXb;clear q;refine wpB_append rfl _ _ rfl w.heap.size _ v10 xb _ _ rfl rfl HRb.out HXb.out (by (have h1:=HFL.out;have h2:=HLT.out;have h3:=HLB.out;have h4:=HLL.out;have h5:=HLH.out;simp only [List.length_append] at h1 ⊢;omega)) HKb.out.size ?_;intro v11 w11 hr hg;have HR11:=Lib.hid hr;have HU11:=Lib.hid (HUb.out.grown HRb.out hg);have HK11:=Lib.hid (app_keeps HKb.out HRb.out hg);have hg2:=hEb.grown (by decide) HRb.out hg;have z011:=hg2.2 0 _ z0b;have z111:=hg2.2 1 _ z1b;have hE11:=hg2.1;have hg3:=hBb.grown (by decide) HRb.out hg;have d111:=hg3.2 1 _ d1b;have d211:=hg3.2 2 _ d2b;have d311:=hg3.2 3 _ d3b;have d411:=hg3.2 4 _ d4b;have d511:=hg3.2 5 _ d5b;have d611:=hg3.2 6 _ d6b;have hB11:=hg3.1;clear hg3;clear hr hg hg2 HRb HUb HKb z0b z1b hEb HXb hBb d1b d2b d3b d4b d5b d6b)
          | (go_at_call 56;have q:=HR11;clear q;refine (HED.out _ r.lo (HU11.out) HRO.out.lo HSH.out.1).mono ?_;rintro e1 wc ⟨xc,rfl,hr,hk⟩;have HXc:=Lib.hid hr;have HRc:=Lib.hid (HR11.out.keeps hk);have HUc:=Lib.hid (HU11.out.keeps hk);have HKc:=Lib.hid (HK11.out.trans hk);have z0c:=hk.cell z011;have z1c:=hk.cell z111;have hEc:=hE11.keeps hk;have d1c:=hk.cell d111;have d2c:=hk.cell d211;have d3c:=hk.cell d311;have d4c:=hk.cell d411;have d5c:=hk.cell d511;have d6c:=hk.cell d611;have hBc:=hB11.keeps hk;clear hr hk HR11 HU11 HK11 z011 z111 hE11 hB11 d111 d211 d311 d411 d511 d611)
          | (at_builtin;have q:=HXc;clear q;refine wpB_append rfl _ _ rfl w.heap.size _ v11 xc _ _ rfl rfl HRc.out HXc.out (by (have h1:=HFL.out;have h2:=HLT.out;have h3:=HLB.out;have h4:=HLL.out;have h5:=HLH.out;simp only [List.length_append] at h1 ⊢;omega)) HKc.out.size ?_;intro v12 w12 hr hg;have HR12:=Lib.hid hr;have HU12:=Lib.hid (HUc.out.grown HRc.out hg);have HK12:=Lib.hid (app_keeps HKc.out HRc.out hg);have hg2:=hEc.grown (by decide) HRc.out hg;have z012:=hg2.2 0 _ z0c;have z112:=hg2.2 1 _ z1c;have hE12:=hg2.1;have hg3:=hBc.grown (by decide) HRc.out hg;have d112:=hg3.2 1 _ d1c;have d212:=hg3.2 2 _ d2c;have d312:=hg3.2 3 _ d3c;have d412:=hg3.2 4 _ d4c;have d512:=hg3.2 5 _ d5c;have d612:=hg3.2 6 _ d6c;have hB12:=hg3.1;clear hg3;clear hr hg hg2 HRc HUc HKc z0c z1c hEc HXc hBc d1c d2c d3c d4c d5c d6c)
          | (go_at_call 56;have q:=HR12;clear q;refine (HED.out _ r.hi (HU12.out) HRO.out.hi HSH.out.2).mono ?_;rintro e1 wd ⟨xd,rfl,hr,hk⟩;have HXd:=Lib.hid hr;have HRd:=Lib.hid (HR12.out.keeps hk);have HUd:=Lib.hid (HU12.out.keeps hk);have HKd:=Lib.hid (HK12.out.trans hk);have z0d:=hk.cell z012;have z1d:=hk.cell z112;have hEd:=hE12.keeps hk;have d1d:=hk.cell d112;have d2d:=hk.cell d212;have d3d:=hk.cell d312;have d4d:=hk.cell d412;have d5d:=hk.cell d512;have d6d:=hk.cell d612;have hBd:=hB12.keeps hk;clear hr hk HR12 HU12 HK12 z012 z112 hE12 hB12 d112 d212 d312 d412 d512 d612)
          | (at_builtin;have q:=HXd;clear q;refine wpB_append rfl _ _ rfl w.heap.size _ v12 xd _ _ rfl rfl HRd.out HXd.out (by (have h1:=HFL.out;have h2:=HLT.out;have h3:=HLB.out;have h4:=HLL.out;have h5:=HLH.out;simp only [List.length_append] at h1 ⊢;omega)) HKd.out.size ?_;intro v13 w13 hr hg;have HR13:=Lib.hid hr;have HU13:=Lib.hid (HUd.out.grown HRd.out hg);have HK13:=Lib.hid (app_keeps HKd.out HRd.out hg);have hg2:=hEd.grown (by decide) HRd.out hg;have z013:=hg2.2 0 _ z0d;have z113:=hg2.2 1 _ z1d;have hE13:=hg2.1;have hg3:=hBd.grown (by decide) HRd.out hg;have d113:=hg3.2 1 _ d1d;have d213:=hg3.2 2 _ d2d;have d313:=hg3.2 3 _ d3d;have d413:=hg3.2 4 _ d4d;have d513:=hg3.2 5 _ d5d;have d613:=hg3.2 6 _ d6d;have hB13:=hg3.1;clear hg3;clear hr hg hg2 HRd HUd HKd z0d z1d hEd HXd hBd d1d d2d d3d d4d d5d d6d)
          | fail)
         go_roundg (gk - 1)
         case rel=>exact ⟨d2 + 1,v13,rfl,by simp,by omega,by rw [← HEQ.out];exact HR13.out,HU13.out,HK13.out,z013,z113,hE13⟩
         case measure=>omega
        ·go_wp2_with (first
          | (go_at_call 53;have q:=HR9;clear q;refine (HBT.out _).mono ?_;rintro e1 wa ⟨xa,rfl,hr,hk⟩;have HXa:=Lib.hid hr;have HRa:=Lib.hid (HR9.out.keeps hk);have HUa:=Lib.hid (HU9.out.keeps hk);have HKa:=Lib.hid (HK9.out.trans hk);have z0a:=hk.cell z09;have z1a:=hk.cell z19;have hEa:=hE9.keeps hk;have d1a:=hk.cell d19;have d2a:=hk.cell d29;have d3a:=hk.cell d39;have d4a:=hk.cell d49;have d5a:=hk.cell d59;have d6a:=hk.cell d69;have hBa:=hB9.keeps hk;clear hr hk HR9 HU9 HK9 z09 z19 hE9 hB9 d19 d29 d39 d49 d59 d69)
          | (at_builtin;have q:=HXa;clear q;refine wpB_append rfl _ _ rfl w.heap.size _ v8 xa _ _ rfl rfl HRa.out HXa.out (by (have h1:=HFL.out;have h2:=HLT.out;have h3:=HLB.out;have h4:=HLL.out;have h5:=HLH.out;simp only [List.length_append] at h1 ⊢;omega)) HKa.out.size ?_;intro v10 w10 hr hg;have HR10:=Lib.hid hr;have HU10:=Lib.hid (HUa.out.grown HRa.out hg);have HK10:=Lib.hid (app_keeps HKa.out HRa.out hg);have hg2:=hEa.grown (by decide) HRa.out hg;have z010:=hg2.2 0 _ z0a;have z110:=hg2.2 1 _ z1a;have hE10:=hg2.1;have hg3:=hBa.grown (by decide) HRa.out hg;have d110:=hg3.2 1 _ d1a;have d210:=hg3.2 2 _ d2a;have d310:=hg3.2 3 _ d3a;have d410:=hg3.2 4 _ d4a;have d510:=hg3.2 5 _ d5a;have d610:=hg3.2 6 _ d6a;have hB10:=hg3.1;clear hg3;clear hr hg hg2 HRa HUa HKa z0a z1a hEa HXa hBa d1a d2a d3a d4a d5a d6a)
          | (go_at_call 53;have q:=HR10;clear q;refine (HBB.out _).mono ?_;rintro e1 wb ⟨xb,rfl,hr,hk⟩;have HXb:=Lib.hid hr;have HRb:=Lib.hid (HR10.out.keeps hk);have HUb:=Lib.hid (HU10.out.keeps hk);have HKb:=Lib.hid (HK10.out.trans hk);have z0b:=hk.cell z010;have z1b:=hk.cell z110;have hEb:=hE10.keeps hk;have d1b:=hk.cell d110;have d2b:=hk.cell d210;have d3b:=hk.cell d310;have d4b:=hk.cell d410;have d5b:=hk.cell d510;have d6b:=hk.cell d610;have hBb:=hB10.keeps hk;clear hr hk HR10 HU10 HK10 z010 z110 hE10 hB10 d110 d210 d310 d410 d510 d610)
          | (at_builtin;have q:=HXb;clear q;refine wpB_append rfl _ _ rfl w.heap.size _ v10 xb _ _ rfl rfl HRb.out HXb.out (by (have h1:=HFL.out;have h2:=HLT.out;have h3:=HLB.out;have h4:=HLL.out;have h5:=HLH.out;simp only [List.length_append] at h1 ⊢;omega)) HKb.out.size ?_;intro v11 w11 hr hg;have HR11:=Lib.hid hr;have HU11:=Lib.hid (HUb.out.grown HRb.out hg);have HK11:=Lib.hid (app_keeps HKb.out HRb.out hg);have hg2:=hEb.grown (by decide) HRb.out hg;have z011:=hg2.2 0 _ z0b;have z111:=hg2.2 1 _ z1b;have hE11:=hg2.1;have hg3:=hBb.grown (by decide) HRb.out hg;have d111:=hg3.2 1 _ d1b;have d211:=hg3.2 2 _ d2b;have d311:=hg3.2 3 _ d3b;have d411:=hg3.2 4 _ d4b;have d511:=hg3.2 5 _ d5b;have d611:=hg3.2 6 _ d6b;have hB11:=hg3.1;clear hg3;clear hr hg hg2 HRb HUb HKb z0b z1b hEb HXb hBb d1b d2b d3b d4b d5b d6b)
          | (go_at_call 56;have q:=HR11;clear q;refine (HED.out _ r.lo (HU11.out) HRO.out.lo HSH.out.1).mono ?_;rintro e1 wc ⟨xc,rfl,hr,hk⟩;have HXc:=Lib.hid hr;have HRc:=Lib.hid (HR11.out.keeps hk);have HUc:=Lib.hid (HU11.out.keeps hk);have HKc:=Lib.hid (HK11.out.trans hk);have z0c:=hk.cell z011;have z1c:=hk.cell z111;have hEc:=hE11.keeps hk;have d1c:=hk.cell d111;have d2c:=hk.cell d211;have d3c:=hk.cell d311;have d4c:=hk.cell d411;have d5c:=hk.cell d511;have d6c:=hk.cell d611;have hBc:=hB11.keeps hk;clear hr hk HR11 HU11 HK11 z011 z111 hE11 hB11 d111 d211 d311 d411 d511 d611)
          | (at_builtin;have q:=HXc;clear q;refine wpB_append rfl _ _ rfl w.heap.size _ v11 xc _ _ rfl rfl HRc.out HXc.out (by (have h1:=HFL.out;have h2:=HLT.out;have h3:=HLB.out;have h4:=HLL.out;have h5:=HLH.out;simp only [List.length_append] at h1 ⊢;omega)) HKc.out.size ?_;intro v12 w12 hr hg;have HR12:=Lib.hid hr;have HU12:=Lib.hid (HUc.out.grown HRc.out hg);have HK12:=Lib.hid (app_keeps HKc.out HRc.out hg);have hg2:=hEc.grown (by decide) HRc.out hg;have z012:=hg2.2 0 _ z0c;have z112:=hg2.2 1 _ z1c;have hE12:=hg2.1;have hg3:=hBc.grown (by decide) HRc.out hg;have d112:=hg3.2 1 _ d1c;have d212:=hg3.2 2 _ d2c;have d312:=hg3.2 3 _ d3c;have d412:=hg3.2 4 _ d4c;have d512:=hg3.2 5 _ d5c;have d612:=hg3.2 6 _ d6c;have hB12:=hg3.1;clear hg3;clear hr hg hg2 HRc HUc HKc z0c z1c hEc HXc hBc d1c d2c d3c d4c d5c d6c)
          | (go_at_call 56;have q:=HR12;clear q;refine (HED.out _ r.hi (HU12.out) HRO.out.hi HSH.out.2).mono ?_;rintro e1 wd ⟨xd,rfl,hr,hk⟩;have HXd:=Lib.hid hr;have HRd:=Lib.hid (HR12.out.keeps hk);have HUd:=Lib.hid (HU12.out.keeps hk);have HKd:=Lib.hid (HK12.out.trans hk);have z0d:=hk.cell z012;have z1d:=hk.cell z112;have hEd:=hE12.keeps hk;have d1d:=hk.cell d112;have d2d:=hk.cell d212;have d3d:=hk.cell d312;have d4d:=hk.cell d412;have d5d:=hk.cell d512;have d6d:=hk.cell d612;have hBd:=hB12.keeps hk;clear hr hk HR12 HU12 HK12 z012 z112 hE12 hB12 d112 d212 d312 d412 d512 d612)
          | (at_builtin;have q:=HXd;clear q;refine wpB_append rfl _ _ rfl w.heap.size _ v12 xd _ _ rfl rfl HRd.out HXd.out (by (have h1:=HFL.out;have h2:=HLT.out;have h3:=HLB.out;have h4:=HLL.out;have h5:=HLH.out;simp only [List.length_append] at h1 ⊢;omega)) HKd.out.size ?_;intro v13 w13 hr hg;have HR13:=Lib.hid hr;have HU13:=Lib.hid (HUd.out.grown HRd.out hg);have HK13:=Lib.hid (app_keeps HKd.out HRd.out hg);have hg2:=hEd.grown (by decide) HRd.out hg;have z013:=hg2.2 0 _ z0d;have z113:=hg2.2 1 _ z1d;have hE13:=hg2.1;have hg3:=hBd.grown (by decide) HRd.out hg;have d113:=hg3.2 1 _ d1d;have d213:=hg3.2 2 _ d2d;have d313:=hg3.2 3 _ d3d;have d413:=hg3.2 4 _ d4d;have d513:=hg3.2 5 _ d5d;have d613:=hg3.2 6 _ d6d;have hB13:=hg3.1;clear hg3;clear hr hg hg2 HRd HUd HKd z0d z1d hEd HXd hBd d1d d2d d3d d4d d5d d6d)
          | fail)
         go_roundg (gk - 1)
         case rel=>exact ⟨d2 + 1,v13,rfl,by simp,by omega,by rw [← HEQ.out];exact HR13.out,HU13.out,HK13.out,z013,z113,hE13⟩
         case measure=>omega
       ·have HEQ:Hid (pre ++ (S.take d2).flatMap (fun x=>recB (fn:Int) S (grec (look M.cs x))) ++ putB tp ++ edgeB (fn:Int) S r.lo ++ edgeB (fn:Int) S r.hi=pre ++ (S.take (d2 + 1)).flatMap (fun x=>recB (fn:Int) S (grec (look M.cs x)))):=Lib.hid (by
         rw [HST.out]
         unfold recB
         rw [if_neg (by omega),HTP.out]
         simp only [List.append_assoc,Int.toNat_natCast,List.nil_append])
        have f3:((fn:Int) == 3)=false:=by simp;omega
        have f4:((fn:Int) == 4)=false:=by simp;omega
        clear hch
        go_wp2_with (first
         | (go_at_call 53;have q:=HR9;clear q;refine (HBT.out _).mono ?_;rintro e1 wa ⟨xa,rfl,hr,hk⟩;have HXa:=Lib.hid hr;have HRa:=Lib.hid (HR9.out.keeps hk);have HUa:=Lib.hid (HU9.out.keeps hk);have HKa:=Lib.hid (HK9.out.trans hk);have z0a:=hk.cell z09;have z1a:=hk.cell z19;have hEa:=hE9.keeps hk;have d1a:=hk.cell d19;have d2a:=hk.cell d29;have d3a:=hk.cell d39;have d4a:=hk.cell d49;have d5a:=hk.cell d59;have d6a:=hk.cell d69;have hBa:=hB9.keeps hk;clear hr hk HR9 HU9 HK9 z09 z19 hE9 hB9 d19 d29 d39 d49 d59 d69)
         | (at_builtin;have q:=HXa;clear q;refine wpB_append rfl _ _ rfl w.heap.size _ v8 xa _ _ rfl rfl HRa.out HXa.out (by (have h1:=HFL.out;have h2:=HLT.out;have h3:=HLB.out;have h4:=HLL.out;have h5:=HLH.out;simp only [List.length_append] at h1 ⊢;omega)) HKa.out.size ?_;intro v10 w10 hr hg;have HR10:=Lib.hid hr;have HU10:=Lib.hid (HUa.out.grown HRa.out hg);have HK10:=Lib.hid (app_keeps HKa.out HRa.out hg);have hg2:=hEa.grown (by decide) HRa.out hg;have z010:=hg2.2 0 _ z0a;have z110:=hg2.2 1 _ z1a;have hE10:=hg2.1;have hg3:=hBa.grown (by decide) HRa.out hg;have d110:=hg3.2 1 _ d1a;have d210:=hg3.2 2 _ d2a;have d310:=hg3.2 3 _ d3a;have d410:=hg3.2 4 _ d4a;have d510:=hg3.2 5 _ d5a;have d610:=hg3.2 6 _ d6a;have hB10:=hg3.1;clear hg3;clear hr hg hg2 HRa HUa HKa z0a z1a hEa HXa hBa d1a d2a d3a d4a d5a d6a)
         | (go_at_call 56;have q:=HR10;clear q;refine (HED.out _ r.lo (HU10.out) HRO.out.lo HSH.out.1).mono ?_;rintro e1 wc ⟨xc,rfl,hr,hk⟩;have HXc:=Lib.hid hr;have HRc:=Lib.hid (HR10.out.keeps hk);have HUc:=Lib.hid (HU10.out.keeps hk);have HKc:=Lib.hid (HK10.out.trans hk);have z0c:=hk.cell z010;have z1c:=hk.cell z110;have hEc:=hE10.keeps hk;have d1c:=hk.cell d110;have d2c:=hk.cell d210;have d3c:=hk.cell d310;have d4c:=hk.cell d410;have d5c:=hk.cell d510;have d6c:=hk.cell d610;have hBc:=hB10.keeps hk;clear hr hk HR10 HU10 HK10 z010 z110 hE10 hB10 d110 d210 d310 d410 d510 d610)
         | (at_builtin;have q:=HXc;clear q;refine wpB_append rfl _ _ rfl w.heap.size _ v10 xc _ _ rfl rfl HRc.out HXc.out (by (have h1:=HFL.out;have h2:=HLT.out;have h3:=HLB.out;have h4:=HLL.out;have h5:=HLH.out;simp only [List.length_append] at h1 ⊢;omega)) HKc.out.size ?_;intro v12 w12 hr hg;have HR12:=Lib.hid hr;have HU12:=Lib.hid (HUc.out.grown HRc.out hg);have HK12:=Lib.hid (app_keeps HKc.out HRc.out hg);have hg2:=hEc.grown (by decide) HRc.out hg;have z012:=hg2.2 0 _ z0c;have z112:=hg2.2 1 _ z1c;have hE12:=hg2.1;have hg3:=hBc.grown (by decide) HRc.out hg;have d112:=hg3.2 1 _ d1c;have d212:=hg3.2 2 _ d2c;have d312:=hg3.2 3 _ d3c;have d412:=hg3.2 4 _ d4c;have d512:=hg3.2 5 _ d5c;have d612:=hg3.2 6 _ d6c;have hB12:=hg3.1;clear hg3;clear hr hg hg2 HRc HUc HKc z0c z1c hEc HXc hBc d1c d2c d3c d4c d5c d6c)
         | (go_at_call 56;have q:=HR12;clear q;refine (HED.out _ r.hi (HU12.out) HRO.out.hi HSH.out.2).mono ?_;rintro e1 wd ⟨xd,rfl,hr,hk⟩;have HXd:=Lib.hid hr;have HRd:=Lib.hid (HR12.out.keeps hk);have HUd:=Lib.hid (HU12.out.keeps hk);have HKd:=Lib.hid (HK12.out.trans hk);have z0d:=hk.cell z012;have z1d:=hk.cell z112;have hEd:=hE12.keeps hk;have d1d:=hk.cell d112;have d2d:=hk.cell d212;have d3d:=hk.cell d312;have d4d:=hk.cell d412;have d5d:=hk.cell d512;have d6d:=hk.cell d612;have hBd:=hB12.keeps hk;clear hr hk HR12 HU12 HK12 z012 z112 hE12 hB12 d112 d212 d312 d412 d512 d612)
         | (at_builtin;have q:=HXd;clear q;refine wpB_append rfl _ _ rfl w.heap.size _ v12 xd _ _ rfl rfl HRd.out HXd.out (by (have h1:=HFL.out;have h2:=HLT.out;have h3:=HLB.out;have h4:=HLL.out;have h5:=HLH.out;simp only [List.length_append] at h1 ⊢;omega)) HKd.out.size ?_;intro v13 w13 hr hg;have HR13:=Lib.hid hr;have HU13:=Lib.hid (HUd.out.grown HRd.out hg);have HK13:=Lib.hid (app_keeps HKd.out HRd.out hg);have hg2:=hEd.grown (by decide) HRd.out hg;have z013:=hg2.2 0 _ z0d;have z113:=hg2.2 1 _ z1d;have hE13:=hg2.1;have hg3:=hBd.grown (by decide) HRd.out hg;have d113:=hg3.2 1 _ d1d;have d213:=hg3.2 2 _ d2d;have d313:=hg3.2 3 _ d3d;have d413:=hg3.2 4 _ d4d;have d513:=hg3.2 5 _ d5d;have d613:=hg3.2 6 _ d6d;have hB13:=hg3.1;clear hg3;clear hr hg hg2 HRd HUd HKd z0d z1d hEd HXd hBd d1d d2d d3d d4d d5d d6d)
         | fail)
        go_roundg (gk - 1)
        case rel=>exact ⟨d2 + 1,v13,rfl,by simp,by omega,by rw [← HEQ.out];exact HR13.out,HU13.out,HK13.out,z013,z113,hE13⟩
        case measure=>omega
     ·rw [hl] at hk'
      cases hk'
    ·have hdK:d2=K2:=by omega
     have HTK2:Hid (S.take d2=S):=Lib.hid (by rw [hdK,HK2E.out,List.take_length])
     have HLE:=Lib.hid (edgeB_len (f:=(fn:Int)) (S:=S) he (by rw [← HK2E.out];exact hK2))
     have HEQ:Hid (pre ++ (S.take d2).flatMap (fun x=>recB (fn:Int) S (grec (look M.cs x))) ++ edgeB (fn:Int) S e=saveB M ps (fn:Int) e):=Lib.hid (by
      unfold saveB
      rw [HTK2.out,HPRE.out,HTK.out,HNV.out,← HSE.out,HK2E.out]
      unfold recsB
      simp only [List.append_assoc,Int.toNat_natCast])
     have z08:=z0
     have z18:=z1
     have hE8:=hE
     have gnl:¬ ((d2:Int) < (K2:Int)):=by omega
     clear z0 z1 hE hr hu hk hla hlv
     go_wp2_with (first
      | (go_at_call 56;have q:=HR8;clear q;refine (HED.out _ e HU8.out he HIN.out).mono ?_;rintro e1 w9 ⟨x9,rfl,hr,hk⟩;have HX9:=Lib.hid hr;have HR9:=Lib.hid (HR8.out.keeps hk);have HU9:=Lib.hid (HU8.out.keeps hk);have HK9:=Lib.hid (HK8.out.trans hk);have z09:=hk.cell z08;have z19:=hk.cell z18;have hE9:=hE8.keeps hk;clear hr hk HR8 HU8 HK8 z08 z18 hE8)
      | (at_builtin;have q:=HX9;clear q;refine wpB_append rfl _ _ rfl w.heap.size _ v8 x9 _ _ rfl rfl HR9.out HX9.out (by (have h1:=HFL.out;have h5:=HLE.out;omega)) HK9.out.size ?_;intro v10 w10 hr hg;have HR10:=Lib.hid hr;have HU10:=Lib.hid (HU9.out.grown HR9.out hg);have HK10:=Lib.hid (app_keeps HK9.out HR9.out hg);have hg2:=hE9.grown (by decide) HR9.out hg;have z010:=hg2.2 0 _ z09;have z110:=hg2.2 1 _ z19;have hE10:=hg2.1;clear hr hg hg2 HR9 HU9 HK9 z09 z19 hE9 HX9)
      | fail)
     go_ret
     exact ⟨v10,rfl,by rw [← HEQ.out];exact HR10.out,HK10.out⟩

end Go.Proofs.YtfpjogpjocedaaaGreat
