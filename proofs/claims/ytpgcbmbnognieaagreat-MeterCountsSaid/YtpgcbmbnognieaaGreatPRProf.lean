/-
  meter.Profile over the state.
-/
import Derived.Test.YtpgcbmbnognieaaGreatPMOnesW
namespace Go.Proofs.YtpgcbmbnognieaaGreat
set_option linter.unusedSimpArgs false
set_option linter.unusedVariables false
set_option maxHeartbeats 600000
open Go.RowKit

def topN2 (M:St) (id:Int):Nat:=(grec (look M.cs id)).top.toNat

def bumpL (l:List Int) (k:Nat):List Int:=l.set k (l.getD k 0 + 1)

def profL (M:St) (n:Nat) (ids:List Int):Nat → List Int
 | 0=>List.replicate n 0
 | d + 1=>match ids[d]? with
  | some id=>bumpL (profL M n ids d) (topN2 M id)
  | none=>profL M n ids d

theorem profL_len (M:St) (n:Nat) (ids:List Int):∀ d,(profL M n ids d).length=n:=by
 intro d
 induction d with
 | zero=>exact List.length_replicate
 | succ d ih=>
  unfold profL
  split
  ·unfold bumpL
   rw [List.length_set,ih]
  ·exact ih

theorem profL_range (M:St) (n:Nat) (ids:List Int):∀ d,∀ x ∈ profL M n ids d,0 ≤ x ∧ x ≤ (d:Int):=by
 intro d
 induction d with
 | zero=>
  intro x hx
  have:=List.eq_of_mem_replicate (show x ∈ List.replicate n (0:Int) from hx)
  subst this
  exact ⟨Int.le_refl _,Int.le_refl _⟩
 | succ d ih=>
  intro x hx
  unfold profL at hx
  split at hx
  ·unfold bumpL at hx
   rcases List.mem_or_eq_of_mem_set hx with h | h
   ·have:=ih x h
    omega
   ·rw [h,List.getD_eq_getElem?_getD]
    cases hk:(profL M n ids d)[topN2 M _]? with
    | none=>simp only [Option.getD_none];omega
    | some y=>
     have:=ih y (List.mem_of_getElem? hk)
     simp only [Option.getD_some]
     omega
  ·have:=ih x hx
   omega

theorem mprof_no {F:Nat → Prop} {w:World} {sb:Nat} {M:St} (h:StoreRep F w sb M) (f:Int) (v:Edge) (hv:v.ok) (hc:mayC M f v 0 ≠ 0) :
  Calls Tryz.prog 21 #[.pointer (some ⟨sb,0,none⟩),.int .u8 f,.agg #[.int .u8 v.tag,.int .u32 v.to]] w fun e w'=>e=.returned (.tuple #[.slice none 0 0,.int .u8 (mayC M f v 0)]) ∧ Keeps w w':=by
 have HM:=Lib.hid (fun (W:World) (hW:Keeps w W)=>mmay_calls (h.keeps hW) f v hv)
 have hr:=mayC_range M f v 0
 obtain ⟨c,hc2⟩:∃ c,c=mayC M f v 0:=⟨_,rfl⟩
 rw [← hc2] at HM hc hr ⊢
 have g0:(c == 0)=false:=by simp [hc]
 clear h hc hc2
 go_enter Tryz.func21,Tryz.ntmps21
 go_wp2_with (first
  | (go_at_call 66;refine (HM.out _ (by (exact kp))).mono ?_;rintro e w1 ⟨rfl,hk1⟩;have kk1:Keeps w w1:=(by (exact kp)))
  | fail)
 go_ret2
 exact ⟨rfl,kk1⟩

set_option maxRecDepth 100000 in
set_option maxHeartbeats 1000000 in
theorem mprof_calls {F:Nat → Prop} {w:World} {sb:Nat} {M:St} (h:StoreRep F w sb M) (f:Int) (v:Edge) (hv:v.ok) (n:Nat) (hn:M.n=(n:Int)) (h8:n ≤ 8) (hm:mayC M f v 0=0) :
  Calls Tryz.prog 21 #[.pointer (some ⟨sb,0,none⟩),.int .u8 f,.agg #[.int .u8 v.tag,.int .u32 v.to]] w fun e w'=>(∃ g,e=.returned (.tuple #[.slice (some ⟨g,0,none⟩) n n,.int .u8 0]) ∧ w.heap.size ≤ g ∧ RowI w' g (profL M n (reachL M.cs [v.to]) (reachL M.cs [v.to]).length)) ∧ Keeps w w':=by
 obtain ⟨i0,hi,hz0,hz1,hz2⟩:=info_parts info_int
 obtain ⟨ids,hids⟩:∃ ids,ids=reachL M.cs [v.to]:=⟨_,rfl⟩
 have hlenr:=reachL_few h.wf h.few [v.to]
 have HRE:=Lib.hid (fun (W:World) (hW:Keeps w W) (b:Nat) (cap:Nat) (hE:IsEdges W (some ⟨b,0,none⟩) 1 [v])=>by
  have q:=reach_calls2 (h.keeps hW) (some ⟨b,0,none⟩) 1 cap [v] hE (by omega)
  rw [show List.map Edge.to [v]=[v.to] from rfl,← hids] at q
  exact q)
 have hrec:=fun (d:Nat) (id:Int) (hd:ids[d]?=some id)=>reach_rec h.wf (d:=d) (id:=id) (es:=[v.to]) (by rw [← hids];exact hd)
 have HREC:=Lib.hid hrec
 have HM:=Lib.hid (fun (W:World) (hW:Keeps w W)=>mmay_calls (h.keeps hW) f v hv)
 rw [hm] at HM
 have HV:=Lib.hid (fun (W:World) (hW:Keeps w W)=>store_vars (h.keeps hW))
 rw [hn] at HV
 have HG:=Lib.hid (fun (W:World) (hW:Keeps w W) (id:Int) (hid:id ≤ 4294967295)=>store_get (h.keeps hW) id hid)
 have HFIT:=Lib.hid (fun id r (hk:look M.cs id=some r)=>h.fit hk)
 have HMN:=Lib.hid hn
 have HFEW:=Lib.hid h.few
 rw [← hids] at hlenr ⊢
 clear h hm hids hn hrec
 go_enter Tryz.func21,Tryz.ntmps21
 go_wp2_with (first
  | (go_at_call 66;refine (HM.out _ (by (exact kp))).mono ?_;rintro e w1 ⟨rfl,hk1⟩;have z0:w1.cell? ⟨w.heap.size,0,none⟩=some (.int .u8 v.tag):=hk1.cell (by simp);have z1:w1.cell? ⟨w.heap.size,1,none⟩=some (.int .u32 v.to):=hk1.cell (by simp);have kk1:Keeps w w1:=(by (exact kp)))
  | (go_at_call 67;refine (HV.out _ kk1).mono ?_;rintro e' w3 ⟨rfl,rfl⟩)
  | (at_make;refine wpList_make_full _ rfl _ _ 38 rfl w1.heap.size 3 i0 (.int .i64 0) 1 Tryz.underlying38 hi hz0 hz1 .i64 .i64 _ _ n rfl rfl (by simp) (by simp) (by rw [hz2];omega) (by unfold maxLen;omega) (by simp) ?_;intro w4 hown4 hg4;have hkk:Keeps w1 w4:=⟨hg4.os,hg4.tape,hg4.output,hg4.size,fun i hi=>hg4.block i hi (by simp)⟩;have HR4:=Lib.hid (rowI_zero hown4);have z0:=hkk.cell z0;have z1:=hkk.cell z1;clear hown4 hg4)
  | fail)
 have hs4:=hkk.size
 have kk4:Keeps w w4:=kk1.trans hkk
 have hg1:w1.heap.size < w4.heap.size:=HR4.out.lt
 refine (HRE.out _ (by (exact kp)) _ _ (isEdges_one hv (by simp [go_sem]) (by simp [go_sem]))).mono ?_
 rintro e w2 ⟨vv,rfl,hrow,hk2,hown⟩
 obtain ⟨a,cap,rfl,hcc⟩:=hrow
 have hsz2:=hk2.size
 rw [World.size_alloc] at hsz2
 have hcell:∀ (i:Nat) (x:Int),ids[i]?=some x → ∃ g,a=some ⟨g,0,none⟩ ∧ ¬ (g=w1.heap.size) ∧ w2.cell? ⟨g,i,none⟩=some (.int .u32 x):=fun i x hx=>by
  obtain ⟨g,rfl,h4⟩:=hcc i x hx
  have:=hown g rfl
  rw [World.size_alloc] at this
  exact ⟨g,rfl,by omega,h4⟩
 have HR2:=Lib.hid ((HR4.out.keeps ((Keeps.refl w4).alloc (.cells #[.int .u8 v.tag,.int .u32 v.to] 25))).keeps hk2)
 have HCL:=Lib.hid hcell
 have HK2:=Lib.hid (show Keeps w w2 from (kk4.alloc _).trans hk2)
 have hw1:=kk1.size
 clear hcc hown hk2 hcell z0 z1 hv hkk HR4
 go_wp2_with fail
 go_loopg [11,12,13,29] ids.length (fun gk s11 s12 s13 s29 wr=>∃ d:Nat,d + gk=ids.length ∧ s29=.int .i64 (d:Int) ∧ RowI wr w1.heap.size (profL M n ids d) ∧ Upd (fun k=>k=w1.heap.size) w2 wr)
 case atStart=>exact ⟨0,by omega,rfl,HR2.out,Upd.refl _ _⟩
 case round=>
  obtain ⟨d,hd,rfl,hR,hU⟩:=hrel
  have HR:=Lib.hid hR
  have HU:=Lib.hid hU
  have HD:=Lib.hid hd
  have hkw:Keeps w wr:=HK2.out.new hU (fun k hk=>by omega)
  have hrlt:=hR.lt
  clear hR hU
  by_cases hlt:d < ids.length
  ·obtain ⟨id,hid⟩:∃ id,ids[d]?=some id:=⟨_,List.getElem?_eq_getElem hlt⟩
   obtain ⟨g,rfl,hgn,hcl⟩:=HCL.out d id hid
   have cd:=HU.out.cellAt (b:=g) (o:=d) (v:=.int .u32 id) hgn hcl
   obtain ⟨x,hx,gx,i2,i3⟩:=HREC.out d id hid
   have hokx:=HFIT.out id x hx
   obtain ⟨t,ht⟩:∃ t:Nat,(t:Int)=x.top:=⟨x.top.toNat,by have:=hokx.top.1;omega⟩
   have htn:t < n:=by
    have:=gx.tb
    have:=gx.bn
    have:=HMN.out
    omega
   have htt:topN2 M id=t:=by unfold topN2;rw [hx];show x.top.toNat=t;omega
   obtain ⟨o,ho⟩:∃ o,(profL M n ids d)[t]?=some o:=⟨_,List.getElem?_eq_getElem (by rw [profL_len];exact htn)⟩
   have hor:=profL_range M n ids d o (List.mem_of_getElem? ho)
   have hnx:profL M n ids (d + 1)=(profL M n ids d).set t (o + 1):=by
    conv=>lhs;unfold profL
    rw [hid]
    simp only []
    unfold bumpL
    rw [htt,List.getD_eq_getElem?_getD,ho]
    rfl
   have HNX:=Lib.hid hnx
   have HO:=Lib.hid ho
   have hgt:Calls Tryz.prog 80 #[.pointer (some ⟨sb,0,none⟩),.int .u32 id] wr fun e w'=>e=.returned (.tuple #[.agg #[.int .u8 x.form,.int .u8 (t:Int),.int .u8 x.bot,.int .u8 x.lo.tag,.int .u32 x.lo.to,.int .u8 x.hi.tag,.int .u32 x.hi.to],.bool true]) ∧ Keeps wr w':=by
    have q:=HG.out wr hkw id (by have:=HFEW.out;omega)
    rw [hx] at q
    rw [ht]
    exact q
   have HGT:=Lib.hid hgt
   have q0:(d:Int) < (ids.length:Int):=by omega
   have q1:(t:Int) < (n:Int):=by omega
   obtain ⟨o0,o1⟩:=hor
   clear hgt ho hnx htt hokx gx hx hid hcl ht hd
   go_wp2_with (first
    | (go_at_call 80;refine HGT.out.mono ?_;rintro e' w6 ⟨rfl,hk6⟩;have HR6:=Lib.hid (HR.out.keeps hk6);have cz:=HR6.out.cell HO.out;have cf:=HR6.out.frozen t;have hlt6:=HR6.out.lt)
    | fail)
   go_roundg (gk - 1)
   case rel=>
    refine ⟨d + 1,by have:=HD.out;omega,congrArg (Value.int .i64) (by omega),?_,(Upd.setCell (Upd.trans' HU.out (hk6.upd _)) (Or.inl rfl) _).alloc _⟩
    rw [HNX.out]
    exact (HR6.out.set t (o + 1) (by rw [profL_len];exact htn)).keeps ((Keeps.refl _).alloc _)
   case measure=>have:=HD.out;omega
  ·have hde:d=ids.length:=by omega
   have q0:¬ (d:Int) < (ids.length:Int):=by omega
   have HDE:=Lib.hid hde
   clear hde hd
   go_wp2_with fail
   go_ret2
   exact ⟨⟨w1.heap.size,rfl,hw1,by rw [← HDE.out];exact HR.out⟩,hkw⟩

theorem info_int2:(Tryz.prog.info? 3).map (fun i=>(i.zero,i.size,i.bytes))=some (some (.int .i64 0),1,8):=info_int

set_option maxRecDepth 100000 in
set_option maxHeartbeats 2000000 in
theorem rprof_calls {F:Nat → Prop} {w:World} {mb:Nat} {M:St} {L:List (Int × Rec)} (h:RefRep F w mb M L) (v:Edge) (hv:v.ok) (n:Nat) (hn:M.n=(n:Int)) (h8:n ≤ 8) :
  Calls Tryz.prog 28 #[.pointer (some ⟨mb,0,none⟩),.agg #[.int .u8 v.tag,.int .u32 v.to]] w fun e w'=>(∃ g,e=.returned (.slice (some ⟨g,0,none⟩) n n) ∧ w.heap.size ≤ g ∧ RowI w' g (profL M n (reachL M.cs [v.to]) (reachL M.cs [v.to]).length)) ∧ Keeps w w':=by
 obtain ⟨i0,hi,hz0,hz1,hz2⟩:=info_parts info_int2
 obtain ⟨ids,hids⟩:∃ ids,ids=reachL M.cs [v.to]:=⟨_,rfl⟩
 have hlenr:=reachL_few h.wf h.few [v.to]
 have HRE:=Lib.hid (fun (W:World) (hW:Keeps w W) (b:Nat) (cap:Nat) (hE:IsEdges W (some ⟨b,0,none⟩) 1 [v])=>by
  have q:=ref_reach (h.keeps hW) (some ⟨b,0,none⟩) 1 cap [v] hE (by omega)
  rw [show List.map Edge.to [v]=[v.to] from rfl,← hids] at q
  exact q)
 have HREC:=Lib.hid (fun (d:Nat) (id:Int) (hd:ids[d]?=some id)=>reach_rec h.wf (d:=d) (id:=id) (es:=[v.to]) (by rw [← hids];exact hd))
 have HAT:=Lib.hid (fun (W:World) (hW:Keeps w W) (id:Int)=>ref_at (h.keeps hW) id)
 have HLK:=Lib.hid (fun id=>atI_look h id)
 have HFIT:=Lib.hid h.fit
 have HMN:=Lib.hid hn
 have HFEW:=Lib.hid h.few
 have hle:=h.le
 obtain ⟨la,lcap,c0,hla⟩:=h.cell
 have HLA:=Lib.hid hla
 have c3:w.cell? ⟨mb,3,none⟩=some (.int .i64 (n:Int)):=by
  obtain ⟨⟨lv,gv,h1,-⟩,-⟩:=h
  rw [cell_of_row w mb 3 _ _ _ h1,← hn]
  rfl
 have hmb:=lt_of_cell c3
 rw [← hids] at hlenr ⊢
 clear h hids hn hla
 go_enter Tryz.func28,Tryz.ntmps28
 go_upto_region 1 with fail
 obtain ⟨W1,hW1⟩:∃ W1,W1=w.alloc (.cells #[.int .u8 v.tag,.int .u32 v.to] 25):=⟨_,rfl⟩
 have kW1:Keeps w W1:=by rw [hW1];exact (Keeps.refl _).alloc _
 have z0:W1.cell? ⟨w.heap.size,0,none⟩=some (.int .u8 v.tag):=by rw [hW1];simp [go_sem]
 have z1:W1.cell? ⟨w.heap.size,1,none⟩=some (.int .u32 v.to):=by rw [hW1];simp [go_sem]
 have hs1:W1.heap.size=w.heap.size + 1:=by rw [hW1];simp
 have C0:=Lib.hid c0
 have c0:=kW1.cell c0
 have c3:=kW1.cell c3
 rw [← hW1]
 have HS1:=Lib.hid hs1
 clear hW1 hs1
 go_wp2_with (first
  | (at_make;refine wpList_make_full _ rfl _ _ 38 rfl W1.heap.size 3 i0 (.int .i64 0) 1 Tryz.underlying38 hi hz0 hz1 .i64 .i64 _ _ n rfl rfl (by simp) (by simp) (by rw [hz2];omega) (by unfold maxLen;omega) (by simp) ?_;intro w4 hown4 hg4;have hkk:Keeps W1 w4:=⟨hg4.os,hg4.tape,hg4.output,hg4.size,fun i hi=>hg4.block i hi (by simp)⟩;have HR4:=Lib.hid (rowI_zero hown4);have z0:=hkk.cell z0;have z1:=hkk.cell z1;clear hown4 hg4)
  | fail)
 have hs4:=hkk.size
 have kk4:Keeps w w4:=kW1.trans hkk
 have hg1:W1.heap.size < w4.heap.size:=HR4.out.lt
 refine (HRE.out _ (by (exact kp)) _ _ (isEdges_one hv (by simp [go_sem]) (by simp [go_sem]))).mono ?_
 rintro e w2 ⟨vv,rfl,hrow,hk2⟩
 obtain ⟨a,cap,rfl,hcc⟩:=hrow
 have hsz2:=hk2.size
 rw [World.size_alloc] at hsz2
 have HR2:=Lib.hid ((HR4.out.keeps ((Keeps.refl w4).alloc (.cells #[.int .u8 v.tag,.int .u32 v.to] 25))).keeps hk2)
 have hcell:∀ (i:Nat) (x:Int),ids[i]?=some x → ∃ g,a=some ⟨g,0,none⟩ ∧ ¬ (g=W1.heap.size) ∧ w2.cell? ⟨g,i,none⟩=some (.int .u32 x):=fun i x hx=>by
  obtain ⟨g,rfl,h4⟩:=hcc i x hx
  obtain ⟨x0,hx0⟩:∃ x0,ids[0]?=some x0:=⟨_,List.getElem?_eq_getElem (by have:=(List.getElem?_eq_some_iff.1 hx).1;omega)⟩
  obtain ⟨g0,e0,h0⟩:=hcc 0 x0 hx0
  cases e0
  refine ⟨g,rfl,fun e=>?_,h4⟩
  subst e
  have hn1:0 < n:=by
   obtain ⟨r,hr,gr,-,-⟩:=HREC.out i x hx
   rcases HLK.out x with ⟨x',hx',D,hDp,-⟩ | ⟨hx',-,-⟩
   ·rw [hr] at hx'
    cases hx'
    have h1:Rec.ok r:=HFIT.out _ (List.mem_of_getElem? hDp)
    have h2:=h1.top.1
    have:=gr.tb
    have:=gr.bn
    have:=HMN.out
    omega
   ·rw [hr] at hx'
    cases hx'
  have hz:=HR2.out.cell (i:=0) (x:=0) (by simp [hn1])
  rw [h0] at hz
  cases hz
 have HCL:=Lib.hid hcell
 have HK2:=Lib.hid (show Keeps w w2 from (kk4.alloc _).trans hk2)
 have hw1:=kW1.size
 have hnw:w.heap.size ≤ W1.heap.size:=hw1
 clear hcc hk2 hcell z0 z1 hv hkk HR4 c0 c3
 go_wp2_with fail
 go_loopg [7] ids.length (fun gk s7 wr=>∃ d:Nat,d + gk=ids.length ∧ s7=.int .i64 (d:Int) ∧ RowI wr W1.heap.size (profL M n ids d) ∧ Upd (fun k=>k=W1.heap.size) w2 wr)
 case atStart=>exact ⟨0,by omega,rfl,HR2.out,Upd.refl _ _⟩
 case round=>
  obtain ⟨d,hd,rfl,hR,hU⟩:=hrel
  have HR:=Lib.hid hR
  have HU:=Lib.hid hU
  have HD:=Lib.hid hd
  have hkw:Keeps w wr:=HK2.out.new hU (fun k hk=>by omega)
  have hrlt:=hR.lt
  clear hR hU
  by_cases hlt:d < ids.length
  ·obtain ⟨id,hid⟩:∃ id,ids[d]?=some id:=⟨_,List.getElem?_eq_getElem hlt⟩
   obtain ⟨g,rfl,hgn,hcl⟩:=HCL.out d id hid
   have cd:=HU.out.cellAt (b:=g) (o:=d) (v:=.int .u32 id) hgn hcl
   obtain ⟨x,hx,gx,i2,i3⟩:=HREC.out d id hid
   rcases HLK.out id with ⟨x',hx',D,hDp,hDe,hDlt,hDi⟩ | ⟨hx',-,-⟩
   ·rw [hx] at hx'
    cases hx'
    have hokx:x.ok:=HFIT.out _ (List.mem_of_getElem? hDp)
    obtain ⟨lb,rfl,_,hlv⟩:=HLA.out (by omega)
    obtain ⟨t,ht⟩:∃ t:Nat,(t:Int)=x.top:=⟨x.top.toNat,by have:=hokx.top.1;omega⟩
    have cT:wr.cell? ⟨lb,D * 8 + 2,none⟩=some (.int .u8 (t:Int)):=by
     rw [ht]
     exact hkw.cell ((hlv _ _ hDp 2 (by decide)).trans rfl)
    have c0:=hkw.cell C0.out
    have htn:t < n:=by
     have:=gx.tb
     have:=gx.bn
     have:=HMN.out
     omega
    have htt:topN2 M id=t:=by unfold topN2;rw [hx];show x.top.toNat=t;omega
    obtain ⟨o,ho⟩:∃ o,(profL M n ids d)[t]?=some o:=⟨_,List.getElem?_eq_getElem (by rw [profL_len];exact htn)⟩
    have hor:=profL_range M n ids d o (List.mem_of_getElem? ho)
    have hnx:profL M n ids (d + 1)=(profL M n ids d).set t (o + 1):=by
     conv=>lhs;unfold profL
     rw [hid]
     simp only []
     unfold bumpL
     rw [htt,List.getD_eq_getElem?_getD,ho]
     rfl
    have HNX:=Lib.hid hnx
    have hat:=HAT.out wr.drew hkw.drew id
    rw [hDi] at hat
    have HA:=Lib.hid hat
    have q0:(d:Int) < (ids.length:Int):=by omega
    have q1:(t:Int) < (n:Int):=by omega
    have q2:(D:Int) < (L.length:Int):=by omega
    have cz:=HR.out.cell ho
    have cf:=HR.out.frozen t
    have hmbr:=lt_of_cell c0
    have hlbr:=lt_of_cell cT
    have hgr:=lt_of_cell cd
    obtain ⟨o0,o1⟩:=hor
    clear hat ho hnx htt hokx gx hx hid hcl ht hd hlv hDp hDe hDi hDlt
    dsimp only at hmbr hlbr hgr
    go_wp2_with fail
    go_region_with (go_at_call 89;refine HA.out.mono ?_;rintro e' w6 ⟨rfl,rfl⟩)
    ·go_wp2_with fail
     go_roundg (gk - 1)
     case rel=>
      refine ⟨d + 1,by have:=HD.out;omega,congrArg (Value.int .i64) (by omega),?_,Upd.setCell HU.out.drew (Or.inl rfl) _⟩
      rw [HNX.out]
      exact (HR.out.keeps (Keeps.refl wr).drew).set t (o + 1) (by rw [profL_len];exact htn)
     case measure=>have:=HD.out;omega
    ·go_wp2_with fail
     go_roundg (gk - 1)
     case rel=>
      refine ⟨d + 1,by have:=HD.out;omega,congrArg (Value.int .i64) (by omega),?_,Upd.setCell HU.out.drew (Or.inl rfl) _⟩
      rw [HNX.out]
      exact (HR.out.keeps (Keeps.refl wr).drew).set t (o + 1) (by rw [profL_len];exact htn)
     case measure=>have:=HD.out;omega
    ·go_wp2_with fail
     go_roundg (gk - 1)
     case rel=>
      refine ⟨d + 1,by have:=HD.out;omega,congrArg (Value.int .i64) (by omega),?_,Upd.setCell HU.out.drew (Or.inl rfl) _⟩
      rw [HNX.out]
      exact (HR.out.keeps (Keeps.refl wr).drew).set t (o + 1) (by rw [profL_len];exact htn)
     case measure=>have:=HD.out;omega
   ·rw [hx] at hx'
    cases hx'
  ·have hde:d=ids.length:=by omega
   have q0:¬ (d:Int) < (ids.length:Int):=by omega
   have HDE:=Lib.hid hde
   clear hde hd
   go_wp2_with fail
   go_ret
   exact ⟨⟨W1.heap.size,rfl,hw1,by rw [← HDE.out];exact HR.out⟩,hkw⟩

end Go.Proofs.YtpgcbmbnognieaaGreat
