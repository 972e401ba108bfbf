/-
  ramageref02.Right of a list of any length; how long an edge's bytes are.
-/
import Derived.Test.YtfpjogpjocedaaaGreatPDocP
import Derived.Test.YtfpjogpjocedaaaGreatPLoadW
import Derived.Test.YtfpjogpjocedaaaGreatPSaveL
import Derived.Test.YtfpjogpjocedaaaGreatRows
namespace Go.Proofs.YtfpjogpjocedaaaGreat
set_option linter.unusedSimpArgs false
set_option linter.unusedVariables false
set_option maxHeartbeats 600000
open Go.ChangeShapes Go.WideShapes Go.ChangeAt Go.RowKit

set_option maxRecDepth 100000 in
theorem refRight_long (a:Option Addr) (cap:Nat) (ps:List Int) (w:World) (h:IntsAt w a ps) (hl:16 < ps.length) (hl2:ps.length ≤ 1048576) :
  Calls Tryz.prog 14 #[.slice a ps.length cap] w fun e w'=>e=.returned (.bool false) ∧ w=w':=by
 obtain ⟨N,hN⟩:∃ N,N=ps.length:=⟨_,rfl⟩
 rw [← hN] at hl hl2 ⊢
 have H:=Lib.hid h
 have HN:=Lib.hid hN
 clear h hN
 go_enter Tryz.func14,Tryz.ntmps14
 go_wp2
 go_loopg [3,4,5] N (fun gk s3 s4 s5 wr=>∃ (d:Nat),s3=.int .i64 (d:Int) ∧ d + gk=N ∧ (∀ i:Nat,i < d → ps.count (i:Int)=1) ∧ w=wr)
 case atStart=>exact ⟨0,rfl,by omega,fun i hi=>by omega,rfl⟩
 case round=>
  obtain ⟨d,rfl,hd,hall,rfl⟩:=hrel
  have HALL:=Lib.hid hall
  obtain ⟨g0,hg0⟩:∃ g,g=gk:=⟨_,rfl⟩
  have HG0:=Lib.hid hg0
  clear hall hg0
  by_cases hlt:d < N
  ·go_wp2_with fail
   go_loopg [4,5] N (fun gk s4 s5 wi=>∃ (j c:Nat),s5=.int .i64 (j:Int) ∧ s4=.int .i64 (c:Int) ∧ j + gk=N ∧ c=(ps.take j).count (d:Int) ∧ c ≤ j ∧ w=wi)
   case atStart=>exact ⟨0,0,rfl,rfl,by omega,by simp,by omega,rfl⟩
   case round=>
    obtain ⟨j,c,rfl,rfl,hj,hcc,hcj,rfl⟩:=hrel
    have HCC:=Lib.hid hcc
    clear hcc
    by_cases hjl:j < N
    ·obtain ⟨x,hx⟩:∃ b,ps[j]?=some b:=⟨_,List.getElem?_eq_getElem (by rw [← HN.out];exact hjl)⟩
     obtain ⟨b,off,rfl,hc⟩:=H.out j x hx
     have ht:=take_snoc hx
     have HT:=Lib.hid ht
     clear hx ht
     by_cases hxd:x=(d:Int)
     ·subst hxd
      go_wp2_with fail
      go_roundg (gk - 1)
      case rel=>exact ⟨j + 1,c + 1,by simp,by simp,by omega,by rw [HT.out,List.count_append,HCC.out];simp,by omega,rfl⟩
      case measure=>omega
     ·go_wp2_with fail
      go_roundg (gk - 1)
      case rel=>exact ⟨j + 1,c,by simp,rfl,by omega,by rw [HT.out,List.count_append,HCC.out];simp [hxd],by omega,rfl⟩
      case measure=>omega
    ·have hcp:c=ps.count (d:Int):=by
      rw [HCC.out,List.take_of_length_le (by rw [← HN.out];omega)]
     have HCP:=Lib.hid hcp
     clear hcp
     by_cases h1:c=1
     ·subst h1
      have hall:∀ i:Nat,i < d + 1 → ps.count (i:Int)=1:=fun i hi=>by
       by_cases e:i=d
       ·subst e;exact HCP.out.symm
       ·exact HALL.out i (by omega)
      have HALL2:=Lib.hid hall
      clear hall
      go_wp2_with fail
      go_roundg (g0 - 1)
      case rel=>exact ⟨d + 1,by simp,by have:=HG0.out;omega,HALL2.out,rfl⟩
      case measure=>have:=HG0.out;omega
     ·have g1:((c:Int) != 1)=true:=by simp;omega
      go_wp2_with fail
      go_ret
      exact ⟨rfl,rfl⟩
  ·have hdN:d=N:=by omega
   subst hdN
   go_wp2_with fail
   go_ret
   exact ⟨by simp;omega,rfl⟩

theorem refRight_any (a:Option Addr) (cap:Nat) (ps:List Int) (w:World) (h:IntsAt w a ps) (hl:ps.length ≤ 1048576) :
  Calls Tryz.prog 14 #[.slice a ps.length cap] w fun e w'=>e=.returned (.bool (permB ps)) ∧ w=w':=by
 by_cases h16:ps.length ≤ 16
 ·exact refRight_calls a cap ps w h h16
 ·have hp:permB ps=false:=by
   cases hb:permB ps with
   | false=>rfl
   | true=>exact absurd (permB_iff.1 hb).1 h16
  rw [hp]
  exact refRight_long a cap ps w h (by omega) hl

theorem GoodD.same {bs:List Int} {T T':Txt} {M M':St} {ids ids':List Int} (h:GoodD bs T M ids) (k:GoodD bs T' M' ids'):T=T' ∧ M=M' ∧ ids=ids':=by
 have e1:=h.read
 rw [k.read] at e1
 cases e1
 have e2:=h.put
 rw [k.put] at e2
 cases e2
 exact ⟨rfl,rfl,rfl⟩

theorem len_at (M:St) (r:Int):(M.at r).len=M.len:=rfl

theorem n_at (M:St) (r:Int):(M.at r).n=M.n:=rfl

theorem GoodF.doc {bs:List Int} {T T':Txt} {M1 M':St} {ids ids':List Int} (h:GoodF bs T M1 ids) (hl:bs.length ≤ 1048576) (k:GoodD bs T' M' ids'):T'=T ∧ M'.n=(T.vars:Int) ∧ M'.len=(T.l.length:Int):=by
 obtain ⟨e1,e2,e3⟩:=(h.good.doc hl).same k
 refine ⟨e1.symm,?_,?_⟩
 ·rw [← e2,n_at]
  exact (h.good.raw h.fit h.ok h.few).2.2
 ·rw [← e2,len_at]
  exact h.good.len h.fit h.ok h.few

theorem GoodF.done {bs:List Int} {T:Txt} {M1:St} {ids:List Int} (h:GoodF bs T M1 ids) {M:St} (hM:M.wf) (hn:M.n=(T.vars:Int)) (hr:M.len + (T.l.length:Int) ≤ M.room) {er:Int} {M':St} {ids':List Int} (hp:putL T.l M []=(er,M',ids')) :
  er=0 ∧ M'.wf ∧ Ext M M' ∧ kRight M' (T.form:Int) (atR ids' T.e) 0=true ∧ saveB M' T.perm (T.form:Int) (atR ids' T.e)=bs ∧ M'.len ≤ M.len + (T.l.length:Int):=by
 obtain ⟨w1,w2,w3⟩:=putL_wf T.l M [] hM
 have w4:=(putL_len T.l M []).2
 rcases h.good.load h.fit h.ok h.few hM hn with ⟨a,D,φ,hE,hD,hx⟩ | ⟨a,b⟩
 ·rw [hp] at a hE hx w1 w2 w4
  simp only [] at a hE hx w1 w2 w4
  refine ⟨a,w1,w2,?_,?_,w4⟩
  ·rw [hx]
   exact hE.rightE hD h.good.right
  ·rw [hx,hE.saveE hD]
   exact h.good.bytes
 ·omega

theorem GoodF.edge {bs:List Int} {T:Txt} {M1:St} {ids:List Int} (h:GoodF bs T M1 ids) (hl:bs.length ≤ 1048576) {M:St} (hM:M.wf) {M':St} {ids':List Int} (hp:putL T.l M []=(0,M',ids')) (hw:M'.wf) (hc:M'.cs.length ≤ 1048576):(atR ids' T.e).ok:=by
 have ho:=readB_ok h.good.read
 have ht:=ho.e.tag
 have ha:=ho.e.at'
 have hf:=ho.few
 unfold atR
 split
 ·refine ⟨⟨ht.1,by show T.e.tag ≤ 255;omega⟩,?_⟩
  show 0 ≤ (ids'[(T.e.to - 2).toNat]?).getD 0 ∧ (ids'[(T.e.to - 2).toNat]?).getD 0 ≤ 4294967295
  cases hg:ids'[(T.e.to - 2).toNat]? with
  | none=>exact ⟨by decide,by decide⟩
  | some y=>
   have q:=putL_ids T.l M [] hM (fun y hy=>by cases hy) (by rw [hp]) y (by rw [hp];exact List.mem_of_getElem? hg)
   rw [hp] at q
   have:=id_range hw (by omega) q
   exact ⟨by show 0 ≤ y;omega,this.2⟩
 ·exact ⟨⟨ht.1,by omega⟩,ha.1,by omega⟩

theorem GoodF.one {bs:List Int} {T T':Txt} {M M':St} {ids ids':List Int} (h:GoodF bs T M ids) (k:GoodF bs T' M' ids'):T=T':=by
 have e1:=h.good.read
 rw [k.good.read] at e1
 cases e1
 rfl

open Go.RowKit

def enI (rs:List Rec) (i:Nat):List (Int × Rec):=match rs with
 | []=>[]
 | r :: rs=>((i:Int) + 2,r) :: enI rs (i + 1)

theorem enI_len (rs:List Rec) (i:Nat):(enI rs i).length=rs.length:=by
 induction rs generalizing i with
 | nil=>rfl
 | cons r rs ih=>simp [enI,ih]

theorem enI_get (rs:List Rec) (i j:Nat):(enI rs i)[j]?=(rs[j]?).map (fun r=>(((i + j:Nat):Int) + 2,r)):=by
 induction rs generalizing i j with
 | nil=>simp [enI]
 | cons r rs ih=>
  cases j with
  | zero=>simp [enI]
  | succ j=>
   show (enI rs (i + 1))[j]?=_
   rw [ih,show i + 1 + j=i + (j + 1) from by omega]
   rfl

theorem enI_mem (rs:List Rec) (id:Int) (r:Rec):(id,r) ∈ enI rs 0 ↔ ∃ j:Nat,rs[j]?=some r ∧ id=(j:Int) + 2:=by
 constructor
 ·intro h
  obtain ⟨j,hj⟩:=List.mem_iff_getElem?.1 h
  rw [enI_get] at hj
  cases hr:rs[j]? with
  | none=>rw [hr] at hj;cases hj
  | some x=>
   rw [hr] at hj
   have:=Option.some.inj hj
   injection this with a b
   exact ⟨j,by rw [hr,← b],by rw [← a];simp⟩
 ·rintro ⟨j,hj,rfl⟩
  refine List.mem_iff_getElem?.2 ⟨j,?_⟩
  rw [enI_get,hj]
  simp

theorem enI_ids (rs:List Rec) (i:Nat):((enI rs i).map Prod.fst).Nodup ∧ ∀ x ∈ (enI rs i).map Prod.fst,(i:Int) + 2 ≤ x:=by
 induction rs generalizing i with
 | nil=>exact ⟨List.nodup_nil,fun x hx=>by cases hx⟩
 | cons r rs ih=>
  obtain ⟨h1,h2⟩:=ih (i + 1)
  refine ⟨List.nodup_cons.2 ⟨fun hm=>?_,h1⟩,fun x hx=>?_⟩
  ·have:=h2 _ hm
   push_cast at this
   omega
  ·rcases List.mem_cons.1 hx with rfl | hx
   ·exact Int.le_refl _
   ·have:=h2 _ hx
    push_cast at this
    omega

theorem solid_list {M:St} (h:M.solid):∃ rs:List Rec,M.cs=rs.map some:=by
 obtain ⟨_,h2⟩:=h
 generalize M.cs=cs at h2
 induction cs with
 | nil=>exact ⟨[],rfl⟩
 | cons o cs ih=>
  obtain ⟨rs,e⟩:=ih (fun o ho=>h2 o (List.mem_cons_of_mem _ ho))
  cases o with
  | none=>exact absurd rfl (h2 none List.mem_cons_self)
  | some r=>exact ⟨r :: rs,by rw [e];rfl⟩

theorem look_map (rs:List Rec) (id:Int) (r:Rec):look (rs.map some) id=some r ↔ ∃ j:Nat,rs[j]?=some r ∧ id=(j:Int) + 2:=by
 constructor
 ·intro h
  obtain ⟨h1,h2,h3⟩:=look_some h
  refine ⟨(id - 2).toNat,?_,by omega⟩
  rw [List.getElem?_map] at h3
  cases hr:rs[(id - 2).toNat]? with
  | none=>rw [hr] at h3;cases h3
  | some x=>rw [hr] at h3;rw [Option.some.inj (Option.some.inj h3)]
 ·rintro ⟨j,hj,rfl⟩
  unfold look
  rw [if_neg (by omega),show ((j:Int) + 2 - 2).toNat=j from by omega,List.getElem?_map,hj]
  rfl

theorem info_nodeC:(Tryz.prog.info? 110).map (fun i=>(i.zero,i.size,i.bytes))=some (some (.agg #[.int .u32 0,.int .u8 0,.int .u8 0,.int .u8 0,.int .u8 0,.int .u32 0,.int .u8 0,.int .u32 0]),8,24):=by kernel_rfl

theorem owns_low {w:World} {base:Nat} {e:TypeId} {size:Nat} {v:Value} {n:Nat} {xs:List Value} (h:w.ownsRow base e size v n xs) {k:Nat} (hk:v.ownBlock=some k):base ≤ k:=by
 rcases h.2 with ⟨e0,_⟩ | ⟨g',cap',cur,e0,hbg,_⟩
 ·rw [e0] at hk;simp [Value.ownBlock] at hk
 ·rw [e0] at hk;simp [Value.ownBlock] at hk;omega

theorem owns_zero {w:World} {base:Nat} {e:TypeId} {size:Nat} {v:Value} {n:Nat} {xs:List Value} (h:w.ownsRow base e size v n xs):w.ownsRow 0 e size v n xs:=by
 obtain ⟨h1,h2⟩:=h
 rcases h2 with h2 | ⟨g',cap',cur,e0,hbg,r⟩
 ·exact ⟨h1,.inl h2⟩
 ·exact ⟨h1,.inr ⟨g',cap',cur,e0,Nat.zero_le _,r⟩⟩

theorem copy_step {w w2 w3:World} {la:Option Addr} {d lcap g cap:Nat} {n room:Int} {xs xs':List Value} (hk:Keeps w w2) (hlt:w.heap.size < w2.heap.size)
  (hh:w2.heap[w.heap.size]?=some (.cells #[.slice la d lcap,.slice none 0 0,.int .u32 (d:Int),.int .i64 n,.int .i64 room] 51 (0,0)))
  (ho:w2.ownsRow w.heap.size 110 8 (.slice la d lcap) d xs)
  (hu:Upd (fun k=>(Value.slice la d lcap).ownBlock=some k) w2 w3)
  (hw:w3.ownsRow w.heap.size 110 8 (.slice (some ⟨g,0,none⟩) (d + 1) cap) (d + 1) xs') :
  ((w3.setCell ⟨w.heap.size,0,none⟩ (.slice (some ⟨g,0,none⟩) (d + 1) cap)).setCell ⟨w.heap.size,2,none⟩ (.int .u32 ((d:Int) + 2 - 1))).heap[w.heap.size]?=some (.cells #[.slice (some ⟨g,0,none⟩) (d + 1) cap,.slice none 0 0,.int .u32 ((d + 1:Nat):Int),.int .i64 n,.int .i64 room] 51 (0,0))
  ∧ ((w3.setCell ⟨w.heap.size,0,none⟩ (.slice (some ⟨g,0,none⟩) (d + 1) cap)).setCell ⟨w.heap.size,2,none⟩ (.int .u32 ((d:Int) + 2 - 1))).ownsRow w.heap.size 110 8 (.slice (some ⟨g,0,none⟩) (d + 1) cap) (d + 1) xs'
  ∧ Keeps w ((w3.setCell ⟨w.heap.size,0,none⟩ (.slice (some ⟨g,0,none⟩) (d + 1) cap)).setCell ⟨w.heap.size,2,none⟩ (.int .u32 ((d:Int) + 2 - 1))):=by
 have hne:(Value.slice la d lcap).ownBlock ≠ some w.heap.size:=by
  intro e
  obtain ⟨cur,hcur⟩:=owns_type ho e
  exact ne_of_type hcur hh (by decide) rfl
 have h3:=(hu.block w.heap.size hlt hne).trans hh
 have hg:w.heap.size ≠ g:=by
  intro e
  obtain ⟨cur,hcur⟩:=owns_type hw (k:=g) rfl
  exact ne_of_type h3 hcur (by decide) e
 have s1:=heap_setCell_same w3 w.heap.size 0 _ _ (.slice (some ⟨g,0,none⟩) (d + 1) cap) h3
 have s2:=heap_setCell_same _ w.heap.size 2 _ _ (.int .u32 ((d:Int) + 2 - 1)) s1
 have hu2:Upd (fun k=>k=w.heap.size) w3 ((w3.setCell ⟨w.heap.size,0,none⟩ (.slice (some ⟨g,0,none⟩) (d + 1) cap)).setCell ⟨w.heap.size,2,none⟩ (.int .u32 ((d:Int) + 2 - 1))):=
  Upd.setCell (F:=fun k=>k=w.heap.size) (p:=⟨w.heap.size,2,none⟩) (Upd.setCell (F:=fun k=>k=w.heap.size) (p:=⟨w.heap.size,0,none⟩) (Upd.refl _ w3) (Or.inl rfl) _) (Or.inl rfl) _
 refine ⟨?_,hu2.owns (fun k hk e=>hg (by simp [Value.ownBlock] at hk;omega)) hw,?_⟩
 ·rw [s2]
  simp
  omega
 ·have hk3:Keeps w w3:=hk.new hu (fun k hk=>owns_low ho hk)
  exact hk3.new hu2 (fun k e=>by omega)

set_option maxRecDepth 100000 in
set_option maxHeartbeats 4000000 in
theorem copy_walk (sb:Nat) (n room:Int) (rs:List Rec) (w:World) (hl:rs.length ≤ 4900)
  (hvars:∀ W,Keeps w W → Calls Tryz.prog 44 #[.pointer (some ⟨sb,0,none⟩)] W fun e w'=>e=.returned (.int .i64 n) ∧ W=w')
  (hroom:∀ W,Keeps w W → Calls Tryz.prog 45 #[.pointer (some ⟨sb,0,none⟩)] W fun e w'=>e=.returned (.int .i64 room) ∧ W=w')
  (hlen:∀ W,Keeps w W → Calls Tryz.prog 29 #[.pointer (some ⟨sb,0,none⟩)] W fun e w'=>e=.returned (.int .i64 (rs.length:Int)) ∧ Keeps W w')
  (hget:∀ W,Keeps w W → ∀ (d:Nat) (r:Rec),rs[d]?=some r → Calls Tryz.prog 46 #[.pointer (some ⟨sb,0,none⟩),.int .u32 ((d:Int) + 2)] W fun e w'=>e=.returned (.tuple #[.agg #[.int .u8 r.form,.int .u8 r.top,.int .u8 r.bot,.int .u8 r.lo.tag,.int .u32 r.lo.to,.int .u8 r.hi.tag,.int .u32 r.hi.to],.bool true]) ∧ Keeps W w')
  : Calls Tryz.prog 16 #[.pointer (some ⟨sb,0,none⟩)] w fun e w'=>∃ lv,e=.returned (.pointer (some ⟨w.heap.size,0,none⟩)) ∧ w'.heap[w.heap.size]?=some (.cells #[lv,.slice none 0 0,.int .u32 (rs.length:Int),.int .i64 n,.int .i64 room] 51 (0,0)) ∧ w'.ownsRow w.heap.size 110 8 lv rs.length ((enI rs 0).flatMap nodeVals) ∧ Keeps w w':=by
 obtain ⟨i0,hi,hz0,hz1,hz2⟩:=info_parts info_nodeC
 obtain ⟨N,hN⟩:∃ N,N=rs.length:=⟨_,rfl⟩
 rw [← hN] at hl hlen ⊢
 have HN:=Lib.hid hN
 have HV:=Lib.hid hvars
 have HR:=Lib.hid hroom
 have HL:=Lib.hid hlen
 have HG:=Lib.hid hget
 clear hvars hroom hlen hget hN
 go_enter Tryz.func16,Tryz.ntmps16
 go_wp2_with (first | (go_at_call 44;refine (HV.out _ (by (exact kp))).mono ?_;rintro e w1 ⟨rfl,rfl⟩) | (go_at_call 45;refine (HR.out _ (by (exact kp))).mono ?_;rintro e w1 ⟨rfl,rfl⟩) | fail)
 go_loopg [4] N (fun gk s4 wr=>∃ (d:Nat) (lv:Value),s4=.int .u32 ((d:Int) + 2) ∧ d + gk=N ∧ wr.heap[w.heap.size]?=some (.cells #[lv,.slice none 0 0,.int .u32 (d:Int),.int .i64 n,.int .i64 room] 51 (0,0)) ∧ wr.ownsRow w.heap.size 110 8 lv d (((enI rs 0).take d).flatMap nodeVals) ∧ Keeps w wr)
 case atStart=>exact ⟨0,.slice none 0 0,by simp,by omega,by simpa using heap_alloc_new w _,World.ownsRow_nil _ _ _ _,by (exact kp)⟩
 case round=>
  obtain ⟨d,lv,rfl,hd,hh,ho,hk⟩:=hrel
  obtain ⟨la,lcap,rfl,-⟩:=owns_slice ho
  have c0:wr.cell? ⟨w.heap.size,0,none⟩=some (.slice la d lcap):=by rw [cell_of_row wr w.heap.size 0 _ _ _ hh];rfl
  have hBw:w.heap.size < wr.heap.size:=lt_of_cell c0
  have HH:=Lib.hid hh
  have HO:=Lib.hid ho
  have HLEN:=Lib.hid (fun (W:World) (hW:Keeps wr W)=>HL.out W (hk.trans hW))
  clear hh ho
  have c0k:=KWorld.cell c0
  by_cases hlt:d < N
  ·obtain ⟨r,hx⟩:∃ b,rs[d]?=some b:=⟨_,List.getElem?_eq_getElem (by rw [← HN.out];exact hlt)⟩
   have HX:=Lib.hid hx
   clear hx
   have hd1:decide ((d:Int) < (N:Int))=true:=decide_eq_true (by omega)
   go_wp2_with fail
   refine wp_region_keeps (wr) (by kernel_rfl) (by kernel_rfl) (by (exact kp)) ?_;(repeat (go_big_quiet_step ((first | (go_at_call 29;with_reducible refine Calls.keepsK (HLEN.out _ (KWorld.keep _)))))));refine wpQuiet_nil ?_;rintro wq ⟨⟨_,hkq⟩,rfl⟩;try dsimp only
   have e0:=hkq.cell c0
   have HHq:=Lib.hid (hkq.heap HH.out)
   have HOq:=Lib.hid (Keeps.owns hkq HO.out)
   have hkk:Keeps w wq:=hk.trans hkq
   have hBq:w.heap.size < wq.heap.size:=lt_of_cell e0
   clear hkq c0 c0k hk hd1
   go_wp2_with (first | (go_at_call 46;refine (HG.out _ hkk d r HX.out).mono ?_;rintro e w2 ⟨rfl,hk2⟩;have f0:=hk2.cell e0;have HH2:=Lib.hid (hk2.heap HHq.out);have HO2:=Lib.hid (Keeps.owns hk2 HOq.out);have hkk2:=hkk.trans hk2;have hB2:w.heap.size < w2.heap.size:=lt_of_cell f0;have hB3:w.heap.size < w2.heap.size + 1:=(by omega)) | fail)
   have hne:(Value.slice la d lcap).ownBlock ≠ some w.heap.size:=by
    intro e
    obtain ⟨cur,hcur⟩:=owns_type HO2.out e
    exact ne_of_type hcur HH2.out (by decide) rfl
   have HNE:=Lib.hid hne
   have f2:w2.cell? ⟨w.heap.size,2,none⟩=some (.int .u32 (d:Int)):=by rw [cell_of_row w2 w.heap.size 2 _ _ _ HH2.out];rfl
   have z0:=frozen_of_row w2 w.heap.size 0 _ _ HH2.out
   have z2:=frozen_of_row w2 w.heap.size 2 _ _ HH2.out
   clear hne e0
   have q1:d + 1 ≤ maxLen:=by unfold maxLen;omega
   have q2:(d + 1) * 24 ≤ 140737488355328:=by omega
   go_wp2
   go_region_law (refine step_append_own rfl (.tmp 38) (.tmp 42) 48 rfl w.heap.size 110 i0 _ 8 24 Tryz.underlying48 hi hz0 hz1 hz2 rfl (by decide) (.slice la d lcap) d (((enI rs 0).take d).flatMap nodeVals) rfl ?_ _ 1 1 (nodeVals ((d:Int) + 2,r)) rfl rfl ?_ ?_ ?_ ?_ ?_ ?_;exact Keeps.owns (show Keeps w2 _ by (exact kp)) HO2.out;exact cell_newd _ _ _ _ (by simp);(intro u hu;simp [nodeVals,recVals] at hu;rcases hu with rfl | rfl | rfl | rfl | rfl | rfl | rfl | rfl <;> rfl);exact q1;exact q2;(simp;omega);intro v' w3 hown1 hgrow hfresh;(obtain ⟨g,cap,rfl⟩:=owns_shape hown1 (by omega));have k0:=grown_cell (o:=0) (v:=.slice la d lcap) hgrow HNE.out (by simp [go_sem,f0,hB2,hB3]);have k2:=grown_cell (o:=2) (v:=.int .u32 (d:Int)) hgrow HNE.out (by simp [go_sem,f2,hB2,hB3]);have e9:=grown_frozen (o:=0) hgrow (by simp;omega) HNE.out (by simp [go_sem,z0,hB2,hB3]);have e8:=grown_frozen (o:=2) hgrow (by simp;omega) HNE.out (by simp [go_sem,z2,hB2,hB3]))
   all_goals go_wp2
   all_goals go_roundg (gk - 1)
   all_goals (try (show gk - 1 < gk;omega))
   all_goals have hs:=copy_step hkk2 hB2 HH2.out HO2.out (Upd.grown (by repeat (first | exact Upd.refl _ _ | refine Upd.alloc ?_ _ | refine Upd.drew ?_)) hgrow (fun k hk=>.inl hk)) hown1
   all_goals refine ⟨d + 1,_,congrArg (Value.int .u32) (by omega),by omega,hs.1,?_,hs.2.2⟩
   all_goals rw [take_snoc (show (enI rs 0)[d]?=some ((d:Int) + 2,r) by rw [enI_get,HX.out];simp),List.flatMap_append]
   all_goals simpa using hs.2.1
  ·have hd1:decide ((d:Int) < (N:Int))=false:=decide_eq_false (by omega)
   go_wp2_with fail
   refine wp_region_keeps (wr) (by kernel_rfl) (by kernel_rfl) (by (exact kp)) ?_;(repeat (go_big_quiet_step ((first | (go_at_call 29;with_reducible refine Calls.keepsK (HLEN.out _ (KWorld.keep _)))))));refine wpQuiet_nil ?_;rintro wq ⟨⟨_,hkq⟩,rfl⟩;try dsimp only
   have HHq:=Lib.hid (hkq.heap HH.out)
   have HOq:=Lib.hid (Keeps.owns hkq HO.out)
   have hkk:Keeps w wq:=hk.trans hkq
   have hd2:d=N:=by omega
   subst hd2
   clear hd1
   go_wp2_with fail
   refine bodyPost_ret (v:=.pointer (some ⟨w.heap.size,0,none⟩)) (by simp [results,Tryz.results16,go_sem]) rfl ⟨_,rfl,HHq.out,?_,hkk⟩
   have:=HOq.out
   rwa [List.take_of_length_le (by rw [enI_len,← HN.out];exact Nat.le_refl _)] at this

theorem copy_calls {F:Nat → Prop} {w:World} {sb:Nat} {M:St} (h:StoreRep F w sb M) (hs:M.solid) (hl:M.len ≤ 4900) :
  Calls Tryz.prog 16 #[.pointer (some ⟨sb,0,none⟩)] w fun e w'=>∃ L G,e=.returned (.pointer (some ⟨w.heap.size,0,none⟩)) ∧ Keeps w w' ∧ RefRep G w' w.heap.size M L ∧ ∀ k,G k → w.heap.size ≤ k:=by
 obtain ⟨rs,hrs⟩:=solid_list hs
 have hg:M.gone=[]:=hs.1
 have hlen:M.len=(rs.length:Int):=by unfold St.len;rw [hrs,hg];simp
 refine (copy_walk sb M.n M.room rs w (by omega) (fun W hW=>store_vars (h.keeps hW)) (fun W hW=>store_room (h.keeps hW)) (fun W hW=>?_) (fun W hW d r hd=>?_)).mono ?_
 ·have:=store_len (h.keeps hW)
  rw [hlen] at this
  exact this.mono fun e w' ⟨he,hw⟩=>⟨he,hw ▸ Keeps.refl _⟩
 ·have hlk:look M.cs ((d:Int) + 2)=some r:=by rw [hrs];exact (look_map rs _ r).2 ⟨d,hd,rfl⟩
  have hdl:=(List.getElem?_eq_some_iff.1 hd).1
  have:=store_get (h.keeps hW) ((d:Int) + 2) (by omega)
  rw [hlk] at this
  exact this
 ·rintro e w' ⟨lv,rfl,hh,ho,hk⟩
  have hlt:w.heap.size < w'.heap.size:=lt_of_heap hh
  have hcs:M.cs.length=rs.length:=by rw [hrs];simp
  refine ⟨enI rs 0,fun k=>w.heap.size ≤ k ∧ k < w'.heap.size,rfl,hk,⟨⟨lv,.slice none 0 0,by rw [hcs];exact hh,?_,?_,?_,?_⟩,⟨Nat.le_refl _,hlt⟩,fun k hk=>hk.2,h.wf,?_,(enI_ids rs 0).1,?_,?_,?_⟩,fun k hk=>hk.1⟩
  ·rw [enI_len]
   exact owns_zero ho
  ·rw [hg];exact World.ownsRow_nil _ _ _ _
  ·intro k hk
   obtain ⟨cur,hcur⟩:=owns_type ho hk
   exact ⟨owns_low ho hk,lt_of_heap hcur⟩
  ·intro k hk;simp [Value.ownBlock] at hk
  ·intro id r;rw [enI_mem,hrs,look_map]
  ·rw [enI_len];omega
  ·rw [hcs];omega
  ·rintro ⟨id,r⟩ hp
   obtain ⟨j,hj,rfl⟩:=(enI_mem rs id r).1 hp
   exact h.fit (id:=(j:Int) + 2) (by rw [hrs];exact (look_map rs _ r).2 ⟨j,hj,rfl⟩)

end Go.Proofs.YtfpjogpjocedaaaGreat
