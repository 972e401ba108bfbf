/-
  wire.Reader: numbers taken one behind the other.
-/
import Derived.Test.YtfpjogpjocedaaaGreatPSaveR
namespace Go.Proofs.YtfpjogpjocedaaaGreat
set_option linter.unusedSimpArgs false
set_option linter.unusedVariables false
set_option maxHeartbeats 600000
open Go Go.RowKit

def BsOff (w:World) (rb:Nat) (a:Option Addr) (bs:List Int):Prop:=∀ i x,bs[i]?=some x → ∃ b off,a=some ⟨b,off,none⟩ ∧ b < rb ∧ w.cell? ⟨b,off + i,none⟩=some (.int .u8 x)

theorem BsOff.at' {w:World} {rb:Nat} {a:Option Addr} {bs:List Int} (h:BsOff w rb a bs):BsAt w a bs:=fun i x hx=>by
 obtain ⟨b,off,h1,_,h2⟩:=h i x hx
 exact ⟨b,off,h1,h2⟩

structure RdRep (w:World) (rb:Nat) (rd:Option (List Int)):Prop where
 ex:∃ a len cap er,w.heap[rb]?=some (.cells #[.slice a len cap,.int .u8 er] 202 (0,0)) ∧ len ≤ cap ∧ ((rd=none ∧ er ≠ 0) ∨ ∃ bs,rd=some bs ∧ er=0 ∧ len=bs.length ∧ BsOff w rb a bs ∧ IsBs bs ∧ bs.length ≤ 1073741824)

theorem getB_num {most:Nat} (hm:most < 2 ^ 64) (bs:List Int):getB most bs=match numB bs with
  | none=>none
  | some (n,r)=>if n ≤ most then some (n,r) else none:=by
 unfold getB numB
 cases getG 10 bs with
 | none=>rfl
 | some p=>
  obtain ⟨n,r⟩:=p
  simp only []
  by_cases h:n < 2 ^ 64
  ·rw [if_pos h]
  ·rw [if_neg h,if_neg (by omega)]

def RdNum (most:Nat) (rb:Nat) (rd:Option (List Int)) (w:World) (e:Ending) (w':World):Prop:=
 (∃ n size:Nat,∃ bs,e=.returned (.tuple #[.int .u64 (n:Int),.int .i64 (size:Int)]) ∧ rd=some bs ∧ getB most bs=some (n,bs.drop size) ∧ 0 < size ∧ size ≤ bs.length ∧ w=w') ∨
 (e=.returned (.tuple #[.int .u64 0,.int .i64 0]) ∧ numR most rd=(0,none) ∧ RdRep w' rb none ∧ Upd (fun k=>k=rb) w w')

set_option maxRecDepth 100000 in
set_option maxHeartbeats 1000000 in
theorem rdnum_calls {w:World} {rb:Nat} {rd:Option (List Int)} (h:RdRep w rb rd) (most:Nat) (hm:most < 2 ^ 64) :
  Calls Tryz.prog 156 #[.pointer (some ⟨rb,0,none⟩),.int .u64 (most:Int)] w (RdNum most rb rd w):=by
 obtain ⟨a,len,cap,er,hb,hlc,hc⟩:=h.ex
 have c0:w.cell? ⟨rb,0,none⟩=some (.slice a len cap):=by rw [cell_of_row w rb 0 _ _ _ hb];rfl
 have c1:w.cell? ⟨rb,1,none⟩=some (.int .u8 er):=by rw [cell_of_row w rb 1 _ _ _ hb];rfl
 have cf:=frozen_of_row w rb 1 _ _ hb
 have HB:=Lib.hid hb
 have HH:=Lib.hid h
 clear h hb
 rcases hc with ⟨rfl,her⟩ | ⟨bs,rfl,rfl,rfl,hof,hbs,hbl⟩
 ·have g1:(er != 0)=true:=by simp [her]
  go_enter Tryz.func156,Tryz.ntmps156
  go_wp2_with fail
  go_ret2
  exact .inr ⟨rfl,rfl,HH.out,Upd.refl _ _⟩
 ·have HN:=Lib.hid (number_calls a cap bs w hof.at' hbs hbl)
  have HG:=Lib.hid (getB_num hm bs)
  have HE:Hid (∀ x:Int,x ≠ 0 → RdRep (w.setCell ⟨rb,1,none⟩ (.int .u8 x)) rb none):=Lib.hid (fun x hx=>⟨⟨a,bs.length,cap,x,heap_setCell_same w rb 1 _ _ _ HB.out,hlc,.inl ⟨rfl,hx⟩⟩⟩)
  obtain ⟨K,hK⟩:∃ K,K=bs.length:=⟨_,rfl⟩
  rw [← hK] at c0 HN
  have HKK:=Lib.hid hK
  clear hof hbs hbl hlc hK
  go_enter Tryz.func156,Tryz.ntmps156
  go_wp2_with fail
  refine HN.out.mono ?_
  rintro e w1 ⟨hh,rfl⟩
  rcases hh with ⟨n,size,rfl,hnb,hs0,hsl⟩ | ⟨x,rfl,hx,hnb⟩
  ·have HG2:=HG.out
   rw [hnb] at HG2
   simp only [] at HG2
   by_cases hle:n ≤ most
   ·rw [if_pos hle] at HG2
    have HG3:=Lib.hid HG2
    have g2:¬ ((most:Int) < (n:Int)):=by omega
    clear HG2 hnb
    go_wp2_with fail
    go_ret2
    exact .inl ⟨n,size,bs,rfl,rfl,HG3.out,hs0,hsl,rfl⟩
   ·rw [if_neg hle] at HG2
    have HG3:=Lib.hid HG2
    have g2:((most:Int) < (n:Int)):=by omega
    clear HG2 hnb
    go_wp2_with fail
    go_ret2
    exact .inr ⟨rfl,by unfold numR;simp only [];rw [HG3.out],HE.out _ (by decide),Upd.setCell (F:=fun k=>k=rb) (p:=⟨rb,1,none⟩) (Upd.refl _ _) (.inl rfl) _⟩
  ·have HG2:=HG.out
   rw [hnb] at HG2
   have HG3:=Lib.hid HG2
   have hx0:x ≠ 0:=by omega
   have g1:(x != 0)=true:=by simp [hx0]
   clear HG2 hnb hx
   go_wp2_with fail
   go_ret2
   exact .inr ⟨rfl,by unfold numR;simp only [];rw [HG3.out],HE.out _ hx0,Upd.setCell (F:=fun k=>k=rb) (p:=⟨rb,1,none⟩) (Upd.refl _ _) (.inl rfl) _⟩

theorem rd_rest {w:World} {rb:Nat} {bs:List Int} {b off cap size k c:Nat} {er:Int} {a':Option Addr} (hb:w.heap[rb]?=some (.cells #[.slice (some ⟨b,off,none⟩) bs.length cap,.int .u8 er] 202 (0,0))) (her:er=0) (hof:BsOff w rb (some ⟨b,off,none⟩) bs) (hbs:IsBs bs) (hbl:bs.length ≤ 1073741824) (hs:size ≤ bs.length) (hk:k=bs.length - size) (hkc:k ≤ c) (ha:size < bs.length → a'=some ⟨b,off + size,none⟩) :
  RdRep (w.setCell ⟨rb,0,none⟩ (.slice a' k c)) rb (some (bs.drop size)):=by
 refine ⟨⟨a',k,c,er,heap_setCell_same w rb 0 _ _ _ hb,hkc,.inr ⟨bs.drop size,rfl,her,by rw [List.length_drop,hk],?_,fun x hx=>hbs x (List.mem_of_mem_drop hx),by rw [List.length_drop];omega⟩⟩⟩
 have hu:Upd (fun k=>k=rb) w (w.setCell ⟨rb,0,none⟩ (.slice a' k c)):=Upd.setCell (F:=fun k=>k=rb) (p:=⟨rb,0,none⟩) (Upd.refl _ _) (.inl rfl) _
 intro i x hx
 rw [List.getElem?_drop] at hx
 obtain ⟨b2,off2,h1,h2,h3⟩:=hof (size + i) x hx
 have hlt:=(List.getElem?_eq_some_iff.1 hx).1
 cases h1
 exact ⟨b,off + size,ha (by omega),h2,by rw [Nat.add_assoc];exact hu.cellAt (fun e=>by omega) h3⟩

set_option maxRecDepth 100000 in
set_option maxHeartbeats 1000000 in
theorem rdNum_calls {w:World} {rb:Nat} {rd:Option (List Int)} (h:RdRep w rb rd) (most:Nat) (hm:most < 2 ^ 64) :
  Calls Tryz.prog 126 #[.pointer (some ⟨rb,0,none⟩),.int .u64 (most:Int)] w fun e w'=>e=.returned (.int .u64 ((numR most rd).1:Int)) ∧ RdRep w' rb (numR most rd).2 ∧ Upd (fun k=>k=rb) w w':=by
 have HN:=Lib.hid (rdnum_calls h most hm)
 have HH:=Lib.hid h
 clear h
 go_enter Tryz.func126,Tryz.ntmps126
 go_wp2_with fail
 refine HN.out.mono ?_
 rintro e w1 hh
 rcases hh with ⟨n,size,bs,rfl,rfl,hg,hs0,hsl,rfl⟩ | ⟨rfl,hno,hr,hu⟩
 ·obtain ⟨a,len,cap,er,hb,hlc,hc⟩:=HH.out.ex
  rcases hc with ⟨hc,_⟩ | ⟨bs',hbe,rfl,rfl,hof,hbs,hbl⟩
  ·cases hc
  ·cases hbe
   have c0:w.cell? ⟨rb,0,none⟩=some (.slice a bs.length cap):=by rw [cell_of_row w rb 0 _ _ _ hb];rfl
   have cf:=frozen_of_row w rb 0 _ _ hb
   have hne:numR most (some bs)=(n,some (bs.drop size)):=by unfold numR;simp only [];rw [hg]
   have HNE:=Lib.hid hne
   obtain ⟨x,hx⟩:∃ x,bs[0]?=some x:=⟨_,List.getElem?_eq_getElem (by omega)⟩
   obtain ⟨b,off,rfl,hbr,hc0⟩:=hof 0 x hx
   have HB:=Lib.hid hb
   have HOF:=Lib.hid hof
   have HBS:=Lib.hid hbs
   obtain ⟨K,hK⟩:∃ K,K=bs.length:=⟨_,rfl⟩
   rw [← hK] at c0 hsl hlc hbl
   have HKK:=Lib.hid hK
   have g1:(0:Int) < (size:Int):=by omega
   have g2:(size:Int) ≤ (K:Int):=by omega
   have g3:(0:Int) ≤ (size:Int):=by omega
   have g4:(K:Int) ≤ (cap:Int):=by omega
   clear hg hb hof hbs hx hc0 hne hK
   by_cases hsc:size < cap
   ·go_wp2_with fail
    go_ret
    exact ⟨by rw [HNE.out];rfl,by rw [HNE.out];exact rd_rest HB.out rfl HOF.out HBS.out (by rw [← HKK.out];omega) (by rw [← HKK.out];omega) (by rw [← HKK.out]) (by omega) (fun _=>rfl),Upd.setCell (F:=fun k=>k=rb) (p:=⟨rb,0,none⟩) (Upd.refl _ _) (.inl rfl) _⟩
   ·have hsc2:cap=size:=by omega
    have hKs:K=size:=by omega
    go_wp2_with fail
    go_ret
    exact ⟨by rw [HNE.out];rfl,by rw [HNE.out];exact rd_rest HB.out rfl HOF.out HBS.out (by rw [← HKK.out];omega) (by rw [← HKK.out];omega) (by rw [← HKK.out];omega) (by omega) (fun hh=>by rw [← HKK.out] at hh;omega),Upd.setCell (F:=fun k=>k=rb) (p:=⟨rb,0,none⟩) (Upd.refl _ _) (.inl rfl) _⟩
 ·have HR:=Lib.hid hr
  have HU:=Lib.hid hu
  have HNO:=Lib.hid hno
  clear hr hu hno
  go_wp2_with fail
  go_ret
  exact ⟨by rw [HNO.out];rfl,by rw [HNO.out];exact HR.out,HU.out⟩

theorem numR_le (most:Nat) (rd:Option (List Int)):(numR most rd).1 ≤ most:=by
 unfold numR
 cases rd with
 | none=>exact Nat.zero_le _
 | some bs=>
  simp only []
  unfold getB
  cases getG 10 bs with
  | none=>exact Nat.zero_le _
  | some p=>
   obtain ⟨n,r⟩:=p
   simp only []
   by_cases h:n ≤ most
   ·rw [if_pos h];exact h
   ·rw [if_neg h];exact Nat.zero_le _

set_option maxRecDepth 100000 in
theorem rdErr_calls {w:World} {rb:Nat} {rd:Option (List Int)} (h:RdRep w rb rd) :
  Calls Tryz.prog 127 #[.pointer (some ⟨rb,0,none⟩)] w fun e w'=>∃ x:Int,e=.returned (.int .u8 x) ∧ (x=0 ↔ rd ≠ none) ∧ w=w':=by
 obtain ⟨a,len,cap,er,hb,hlc,hc⟩:=h.ex
 have c1:w.cell? ⟨rb,1,none⟩=some (.int .u8 er):=by rw [cell_of_row w rb 1 _ _ _ hb];rfl
 have hx:er=0 ↔ rd ≠ none:=by
  rcases hc with ⟨rfl,her⟩ | ⟨bs,rfl,rfl,_⟩
  ·exact ⟨fun hh=>absurd hh her,fun hh=>absurd rfl hh⟩
  ·simp
 clear h hb hc
 go_enter Tryz.func127,Tryz.ntmps127
 go_wp2
 go_ret
 exact ⟨er,rfl,hx,rfl⟩

set_option maxRecDepth 100000 in
theorem rdEnd_calls {w:World} {rb:Nat} {rd:Option (List Int)} (h:RdRep w rb rd) :
  Calls Tryz.prog 129 #[.pointer (some ⟨rb,0,none⟩)] w fun e w'=>∃ x:Int,e=.returned (.int .u8 x) ∧ (x=0 ↔ rd=some []) ∧ w=w':=by
 have HE:=Lib.hid (rdErr_calls h)
 obtain ⟨a,len,cap,er,hb,hlc,hc⟩:=h.ex
 have c0:w.cell? ⟨rb,0,none⟩=some (.slice a len cap):=by rw [cell_of_row w rb 0 _ _ _ hb];rfl
 have hx:∀ bs,rd=some bs → len=bs.length:=fun bs hh=>by
  rcases hc with ⟨h1,_⟩ | ⟨bs',h1,_,h2,_⟩
  ·rw [h1] at hh;cases hh
  ·rw [h1] at hh;cases hh;exact h2
 clear h hb hc
 go_enter Tryz.func129,Tryz.ntmps129
 go_wp2_with fail
 refine HE.out.mono ?_
 rintro e w1 ⟨x,rfl,hx0,rfl⟩
 cases rd with
 | none=>
  have hn:x ≠ 0:=fun hh=>(hx0.1 hh) rfl
  have g1:(x != 0)=true:=by simp [hn]
  clear hx0
  go_wp2_with fail
  go_ret
  exact ⟨x,rfl,by simp [hn],rfl⟩
 | some bs=>
  have hn:x=0:=hx0.2 (by simp)
  subst hn
  have hl:=hx bs rfl
  clear hx0 hx
  by_cases hz:len=0
  ·have hbs:bs=[]:=List.length_eq_zero_iff.1 (by omega)
   have g1:¬ (0 < len):=by omega
   subst hbs
   clear hl
   go_wp2_with fail
   go_ret
   exact ⟨0,rfl,by simp,rfl⟩
  ·have hbs:bs ≠ []:=fun hh=>hz (by rw [hl,hh];rfl)
   have g1:0 < len:=by omega
   clear hl
   go_wp2_with fail
   go_ret
   exact ⟨7,rfl,by simp [hbs],rfl⟩

theorem RdRep.keeps {w w':World} {rb:Nat} {rd:Option (List Int)} (h:RdRep w rb rd) (hk:Keeps w w'):RdRep w' rb rd:=by
 obtain ⟨a,len,cap,er,hb,hlc,hc⟩:=h.ex
 refine ⟨⟨a,len,cap,er,hk.heap hb,hlc,hc.imp id (fun ⟨bs,q1,q2,q3,q4,q5⟩=>⟨bs,q1,q2,q3,?_,q5⟩)⟩⟩
 intro i x hx
 obtain ⟨b,off,r1,r2,r3⟩:=q4 i x hx
 exact ⟨b,off,r1,r2,hk.cell r3⟩

theorem RdRep.upd {w w':World} {rb:Nat} {rd:Option (List Int)} {G:Nat → Prop} (h:RdRep w rb rd) (hu:Upd G w w') (hg:∀ k,k ≤ rb → ¬ G k):RdRep w' rb rd:=by
 obtain ⟨a,len,cap,er,hb,hlc,hc⟩:=h.ex
 refine ⟨⟨a,len,cap,er,(hu.block rb (lt_of_heap hb) (hg rb (Nat.le_refl _))).trans hb,hlc,hc.imp id (fun ⟨bs,q1,q2,q3,q4,q5⟩=>⟨bs,q1,q2,q3,?_,q5⟩)⟩⟩
 intro i x hx
 obtain ⟨b,off,r1,r2,r3⟩:=q4 i x hx
 exact ⟨b,off,r1,r2,hu.cellAt (hg b (by omega)) r3⟩

theorem Upd.frzAt {F:Nat → Prop} {w w':World} (h:Upd F w w') {b o:Nat} (hb:b < w.heap.size) (hf:¬ F b) (hz:w.frozen? ⟨b,o,none⟩=false):w'.frozen? ⟨b,o,none⟩=false:=
 (World.frozen?_of_block (a:=⟨b,o,none⟩) (h.block b hb hf)).trans hz

set_option maxRecDepth 100000 in
set_option maxHeartbeats 1000000 in
theorem readEdge_calls {w:World} {rb:Nat} {rd:Option (List Int)} (h:RdRep w rb rd) (f:Int) (k:Nat) (hk:k ≤ 1073741824) :
  Calls Tryz.prog 128 #[.pointer (some ⟨rb,0,none⟩),.int .u8 f,.int .i64 (k:Int)] w fun e w'=>e=.returned (.agg #[.int .u8 (edgeR f k rd).1.tag,.int .u32 (edgeR f k rd).1.to]) ∧ RdRep w' rb (edgeR f k rd).2 ∧ Upd (fun k=>k=rb) w w':=by
 have hmn:=numR_le (k + 1) rd
 obtain ⟨⟨n,rd1⟩,hn⟩:∃ p,p=numR (k + 1) rd:=⟨_,rfl⟩
 have hrb:rb < w.heap.size:=by obtain ⟨a,len,cap,er,hb,_⟩:=h.ex;exact lt_of_heap hb
 have HN:=Lib.hid (fun (W:World) (hW:Upd (fun k=>k=rb) w W) (hR:RdRep W rb rd)=>rdNum_calls hR (k + 1) (by omega))
 have HED:Hid (edgeR f k rd=if f=5 ∧ n ≠ 0 then (⟨(numR 16 rd1).1,n⟩,(numR 16 rd1).2) else (⟨0,n⟩,rd1)):=Lib.hid (by unfold edgeR;rw [← hn])
 rw [← hn] at HN hmn
 clear hn
 go_enter Tryz.func128,Tryz.ntmps128
 have HR0:=Lib.hid (h.keeps ((Keeps.refl w).alloc (.cells #[.int .u8 0,.int .u32 0] 37)))
 have HU0:=Lib.hid (((Keeps.refl w).alloc (.cells #[.int .u8 0,.int .u32 0] 37)).upd (fun k=>k=rb))
 clear h
 have hne:¬ (w.heap.size=rb):=by omega
 go_wp2_with fail
 refine (HN.out _ HU0.out HR0.out).mono ?_
 rintro e w1 ⟨rfl,hr1,hu1⟩
 have z0:w1.cell? ⟨w.heap.size,0,none⟩=some (.int .u8 0):=hu1.cellAt hne (by simp)
 have z1:w1.cell? ⟨w.heap.size,1,none⟩=some (.int .u32 0):=hu1.cellAt hne (by simp)
 have zf:∀ o:Nat,w1.frozen? ⟨w.heap.size,o,none⟩=false:=fun o=>hu1.frzAt (by simp) hne (by simp)
 have hs1:=hu1.size
 simp only [World.size_alloc] at hs1
 have l1:w.heap.size < w1.heap.size:=by omega
 have l1r:¬ (w1.heap.size=rb):=by omega
 have l1w:w.heap.size ≠ w1.heap.size:=by omega
 have HR1:=Lib.hid hr1
 have HU1:=Lib.hid (HU0.out.trans' hu1)
 have hn32:n ≤ 4294967295:=by omega
 clear hr1 hu1
 by_cases hc:f=5 ∧ n ≠ 0
 ·obtain ⟨rfl,hn0⟩:=hc
  have gp:0 < n:=by omega
  have h16:=numR_le 16 rd1
  have HN2:=Lib.hid (fun (W:World) (hR:RdRep W rb rd1)=>rdNum_calls hR 16 (by omega))
  have HE2:Hid (edgeR 5 k rd=(⟨(numR 16 rd1).1,n⟩,(numR 16 rd1).2)):=Lib.hid (by rw [HED.out,if_pos ⟨rfl,hn0⟩])
  obtain ⟨⟨t,rd2⟩,ht⟩:∃ p,p=numR 16 rd1:=⟨_,rfl⟩
  rw [← ht] at HN2 HE2 h16
  simp only [] at h16
  clear ht
  go_wp2_with fail
  refine (HN2.out _ (HR1.out.keeps (by (exact kp)))).mono ?_
  rintro e w2 ⟨rfl,hr2,hu2⟩
  have y0:w2.cell? ⟨w.heap.size,0,none⟩=some (.int .u8 0):=hu2.cellAt hne (by simp [go_sem,l1,l1w,z0])
  have y1:w2.cell? ⟨w.heap.size,1,none⟩=some (.int .u32 0):=hu2.cellAt hne (by simp [go_sem,l1,l1w,z1])
  have yf:∀ o:Nat,w2.frozen? ⟨w.heap.size,o,none⟩=false:=fun o=>hu2.frzAt (by simp;omega) hne (by simp [go_sem,l1,l1w,zf])
  have x0:w2.cell? ⟨w1.heap.size,0,none⟩=some (.int .u8 0):=hu2.cellAt l1r (by simp [go_sem])
  have x1:w2.cell? ⟨w1.heap.size,1,none⟩=some (.int .u32 (n:Int)):=hu2.cellAt l1r (by simp [go_sem])
  have xf:∀ o:Nat,w2.frozen? ⟨w1.heap.size,o,none⟩=false:=fun o=>hu2.frzAt (by simp) l1r (by simp [go_sem])
  have hs2:=hu2.size
  simp only [World.size_alloc] at hs2
  have HR2:=Lib.hid hr2
  have HU2:=Lib.hid (HU1.out.trans' ((show Upd (fun k=>k=rb) w1 _ from (((Keeps.refl w1).alloc _).upd _)).trans' hu2))
  clear hr2 hu2
  have l1w':w1.heap.size ≠ w.heap.size:=fun hh=>l1w hh.symm
  go_wp2_with fail
  all_goals refine bodyPost_ret (v:=.agg #[.int .u8 (t:Int),.int .u32 (n:Int)]) (by simp [results,Tryz.results128,go_sem,l1,l1w,y0,y1,x0,x1]) rfl ?_
  all_goals exact ⟨by rw [HE2.out],by rw [HE2.out];exact HR2.out.upd (G:=fun k=>k=w.heap.size ∨ k=w1.heap.size) (by repeat (first | exact Upd.refl _ _ | refine Upd.setCell (F:=fun k=>k=w.heap.size ∨ k=w1.heap.size) (p:=⟨w.heap.size,_,none⟩) ?_ (.inl (.inl rfl)) _ | refine Upd.setCell (F:=fun k=>k=w.heap.size ∨ k=w1.heap.size) (p:=⟨w1.heap.size,_,none⟩) ?_ (.inl (.inr rfl)) _ | refine Upd.alloc ?_ _)) (fun k hk e=>by rcases e with e | e <;> omega),HU2.out.trans ((show Upd (fun k=>k=w.heap.size ∨ k=w1.heap.size) w2 _ from (by repeat (first | exact Upd.refl _ _ | refine Upd.setCell (F:=fun k=>k=w.heap.size ∨ k=w1.heap.size) (p:=⟨w.heap.size,_,none⟩) ?_ (.inl (.inl rfl)) _ | refine Upd.setCell (F:=fun k=>k=w.heap.size ∨ k=w1.heap.size) (p:=⟨w1.heap.size,_,none⟩) ?_ (.inl (.inr rfl)) _ | refine Upd.alloc ?_ _))).mono (fun k hk2 hk=>.inr ⟨by rcases hk with e | e <;> omega,hk2⟩))⟩
 ·have HE2:Hid (edgeR f k rd=(⟨0,n⟩,rd1)):=Lib.hid (by rw [HED.out,if_neg hc])
  by_cases h5:f=5
  ·subst h5
   have gz:¬ (0 < n):=fun hh=>hc ⟨rfl,by omega⟩
   go_wp2_with fail
   all_goals refine bodyPost_ret (v:=.agg #[.int .u8 0,.int .u32 (n:Int)]) (by simp [results,Tryz.results128,go_sem,l1,l1w,z0,z1]) rfl ?_
   all_goals exact ⟨by rw [HE2.out],by rw [HE2.out];exact HR1.out.upd (G:=fun k=>k=w.heap.size) (by repeat (first | exact Upd.refl _ _ | refine Upd.setCell (F:=fun k=>k=w.heap.size) (p:=⟨w.heap.size,_,none⟩) ?_ (.inl rfl) _ | refine Upd.alloc ?_ _)) (fun k hk e=>by omega),HU1.out.trans ((show Upd (fun k=>k=w.heap.size) w1 _ from (by repeat (first | exact Upd.refl _ _ | refine Upd.setCell (F:=fun k=>k=w.heap.size) (p:=⟨w.heap.size,_,none⟩) ?_ (.inl rfl) _ | refine Upd.alloc ?_ _))).mono (fun k _ hk=>.inr ⟨by omega,by omega⟩))⟩
  ·have g5:(f == 5)=false:=by simp [h5]
   go_wp2_with fail
   all_goals refine bodyPost_ret (v:=.agg #[.int .u8 0,.int .u32 (n:Int)]) (by simp [results,Tryz.results128,go_sem,l1,l1w,z0,z1]) rfl ?_
   all_goals exact ⟨by rw [HE2.out],by rw [HE2.out];exact HR1.out.upd (G:=fun k=>k=w.heap.size) (by repeat (first | exact Upd.refl _ _ | refine Upd.setCell (F:=fun k=>k=w.heap.size) (p:=⟨w.heap.size,_,none⟩) ?_ (.inl rfl) _ | refine Upd.alloc ?_ _)) (fun k hk e=>by omega),HU1.out.trans ((show Upd (fun k=>k=w.heap.size) w1 _ from (by repeat (first | exact Upd.refl _ _ | refine Upd.setCell (F:=fun k=>k=w.heap.size) (p:=⟨w.heap.size,_,none⟩) ?_ (.inl rfl) _ | refine Upd.alloc ?_ _))).mono (fun k _ hk=>.inr ⟨by omega,by omega⟩))⟩

structure TxtRep (base:Nat) (w:World) (tb:Nat) (n f:Int) (perm:List Int) (k:Int) (l:List Rec) (e:Edge):Prop where
 ex:∃ pv lv,w.heap[tb]?=some (.cells #[.int .i64 n,.int .u8 f,pv,.int .i64 k,lv,.int .u8 e.tag,.int .u32 e.to] 100 (0,0)) ∧
  w.ownsRow base 3 1 pv perm.length (perm.map (Value.int .i64)) ∧ w.ownsRow base 87 7 lv l.length (l.flatMap recVals)
 hi:base ≤ tb

theorem TxtRep.row_ne {base:Nat} {w:World} {v:Value} {n sz:Nat} {xs:List Value} {t:TypeId} (h:w.ownsRow base t sz v n xs) {tb:Nat} {cs:Array Value} {t':TypeId} {q:Nat × Nat} (hb:w.heap[tb]?=some (.cells cs t' q)) (ht:t' ≠ t):v.ownBlock ≠ some tb:=fun e=>by
 obtain ⟨cs',hc⟩:=owns_type h e
 rw [hb] at hc
 cases hc
 exact ht rfl

theorem TxtRep.upd {base:Nat} {w w':World} {tb:Nat} {n f:Int} {perm:List Int} {k:Int} {l:List Rec} {e:Edge} {G:Nat → Prop} (h:TxtRep base w tb n f perm k l e) (hu:Upd G w w') (hg:∀ j cs t q,w.heap[j]?=some (.cells cs t q) → t=100 ∨ t=3 ∨ t=87 → base ≤ j → ¬ G j):TxtRep base w' tb n f perm k l e:=by
 obtain ⟨⟨pv,lv,h1,h2,h3⟩,h4⟩:=h
 refine ⟨⟨pv,lv,(hu.block tb (lt_of_heap h1) (hg tb _ _ _ h1 (.inl rfl) h4)).trans h1,hu.owns (fun j hj=>?_) h2,hu.owns (fun j hj=>?_) h3⟩,h4⟩
 ·obtain ⟨cs,hc⟩:=owns_type h2 hj
  exact hg j _ _ _ hc (.inr (.inl rfl)) (row_from h2 hj)
 ·obtain ⟨cs,hc⟩:=owns_type h3 hj
  exact hg j _ _ _ hc (.inr (.inr rfl)) (row_from h3 hj)

theorem TxtRep.cells {base:Nat} {w:World} {tb:Nat} {n f:Int} {perm:List Int} {k:Int} {l:List Rec} {e:Edge} (h:TxtRep base w tb n f perm k l e):w.cell? ⟨tb,0,none⟩=some (.int .i64 n) ∧ w.cell? ⟨tb,1,none⟩=some (.int .u8 f) ∧ w.cell? ⟨tb,3,none⟩=some (.int .i64 k) ∧ w.cell? ⟨tb,5,none⟩=some (.int .u8 e.tag) ∧ w.cell? ⟨tb,6,none⟩=some (.int .u32 e.to) ∧ ∀ o,w.frozen? ⟨tb,o,none⟩=false:=by
 obtain ⟨⟨pv,lv,h1,h2,h3⟩,h4⟩:=h
 refine ⟨?_,?_,?_,?_,?_,fun o=>frozen_of_row w tb o _ _ h1⟩
 ·rw [cell_of_row w tb 0 _ _ _ h1];rfl
 ·rw [cell_of_row w tb 1 _ _ _ h1];rfl
 ·rw [cell_of_row w tb 3 _ _ _ h1];rfl
 ·rw [cell_of_row w tb 5 _ _ _ h1];rfl
 ·rw [cell_of_row w tb 6 _ _ _ h1];rfl

theorem TxtRep.set {base:Nat} {w:World} {tb:Nat} {n f:Int} {perm:List Int} {k:Int} {l:List Rec} {e:Edge} (h:TxtRep base w tb n f perm k l e) :
  (∀ n',TxtRep base (w.setCell ⟨tb,0,none⟩ (.int .i64 n')) tb n' f perm k l e) ∧ (∀ f',TxtRep base (w.setCell ⟨tb,1,none⟩ (.int .u8 f')) tb n f' perm k l e) ∧ (∀ k',TxtRep base (w.setCell ⟨tb,3,none⟩ (.int .i64 k')) tb n f perm k' l e):=by
 obtain ⟨⟨pv,lv,h1,h2,h3⟩,h4⟩:=h
 have n2:=TxtRep.row_ne h2 h1 (by decide)
 have n3:=TxtRep.row_ne h3 h1 (by decide)
 have hu:∀ (o:Nat) (v:Value),Upd (fun k=>k=tb) w (w.setCell ⟨tb,o,none⟩ v):=fun o v=>Upd.setCell (F:=fun k=>k=tb) (p:=⟨tb,o,none⟩) (Upd.refl _ _) (.inl rfl) v
 have o2:∀ (o:Nat) (v:Value),(w.setCell ⟨tb,o,none⟩ v).ownsRow base 3 1 pv perm.length (perm.map (Value.int .i64)):=fun o v=>(hu o v).owns (fun j hj e=>n2 (by rw [hj,e])) h2
 have o3:∀ (o:Nat) (v:Value),(w.setCell ⟨tb,o,none⟩ v).ownsRow base 87 7 lv l.length (l.flatMap recVals):=fun o v=>(hu o v).owns (fun j hj e=>n3 (by rw [hj,e])) h3
 exact ⟨fun n'=>⟨⟨pv,lv,heap_setCell_same w tb 0 _ _ _ h1,o2 _ _,o3 _ _⟩,h4⟩,fun f'=>⟨⟨pv,lv,heap_setCell_same w tb 1 _ _ _ h1,o2 _ _,o3 _ _⟩,h4⟩,fun k'=>⟨⟨pv,lv,heap_setCell_same w tb 3 _ _ _ h1,o2 _ _,o3 _ _⟩,h4⟩⟩

theorem TxtRep.new (w:World) (base:Nat) (hb:base ≤ w.heap.size):TxtRep base (w.alloc (.cells #[.int .i64 0,.int .u8 0,.slice none 0 0,.int .i64 0,.slice none 0 0,.int .u8 0,.int .u32 0] 100)) w.heap.size 0 0 [] 0 [] ⟨0,0⟩:=
 ⟨⟨.slice none 0 0,.slice none 0 0,heap_alloc_new w _,World.ownsRow_nil _ _ _ _,World.ownsRow_nil _ _ _ _⟩,hb⟩

set_option maxRecDepth 100000 in
theorem newReader_calls (a:Option Addr) (cap:Nat) (bs:List Int) (w:World) (h:BsAt w a bs) (hb:IsBs bs) (hl:bs.length ≤ 1073741824) (hc:bs.length ≤ cap) :
  Calls Tryz.prog 125 #[.slice a bs.length cap] w fun e w'=>e=.returned (.pointer (some ⟨w.heap.size,0,none⟩)) ∧ RdRep w' w.heap.size (some bs) ∧ Keeps w w':=by
 have HR:Hid (RdRep (w.alloc (.cells #[.slice a bs.length cap,.int .u8 0] 202)) w.heap.size (some bs)):=Lib.hid ⟨⟨a,bs.length,cap,0,heap_alloc_new w _,hc,.inr ⟨bs,rfl,rfl,rfl,fun i x hx=>by
  obtain ⟨b,off,r1,r2⟩:=h i x hx
  exact ⟨b,off,r1,lt_of_cell r2,((Keeps.refl w).alloc _).cell r2⟩,hb,hl⟩⟩⟩
 clear h hb hl hc
 go_enter Tryz.func125,Tryz.ntmps125
 go_wp2
 go_ret
 exact ⟨rfl,HR.out,by (exact kp)⟩

end Go.Proofs.YtfpjogpjocedaaaGreat
