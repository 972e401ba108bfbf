/-
  wire.Reader's Err, End; save.readEdge.
-/
import Derived.Test.YtfpjogpjocedaaaGreatPWireD
namespace Go.Proofs.YtfpjogpjocedaaaGreat
set_option linter.unusedSimpArgs false
set_option linter.unusedVariables false
set_option maxHeartbeats 600000
open Go Go.RowKit

theorem numR_le (most:Nat) (rd:Option (List Int)):(numR most rd).1 ≤ most:=by
 unfold numR
 cases rd with
 | none=>exact Nat.zero_le _
 | some bs=>
  simp only []
  unfold getB
  cases getG 10 bs with
  | none=>exact Nat.zero_le _
  | some p=>
   obtain ⟨n,r⟩:=p
   simp only []
   by_cases h:n ≤ most
   ·rw [if_pos h];exact h
   ·rw [if_neg h];exact Nat.zero_le _

set_option maxRecDepth 100000 in
theorem rdErr_calls {w:World} {rb:Nat} {rd:Option (List Int)} (h:RdRep w rb rd) :
  Calls Tryz.prog 127 #[.pointer (some ⟨rb,0,none⟩)] w fun e w'=>∃ x:Int,e=.returned (.int .u8 x) ∧ (x=0 ↔ rd ≠ none) ∧ w=w':=by
 obtain ⟨a,len,cap,er,hb,hlc,hc⟩:=h.ex
 have c1:w.cell? ⟨rb,1,none⟩=some (.int .u8 er):=by rw [cell_of_row w rb 1 _ _ _ hb];rfl
 have hx:er=0 ↔ rd ≠ none:=by
  rcases hc with ⟨rfl,her⟩ | ⟨bs,rfl,rfl,_⟩
  ·exact ⟨fun hh=>absurd hh her,fun hh=>absurd rfl hh⟩
  ·simp
 clear h hb hc
 go_enter Tryz.func127,Tryz.ntmps127
 go_wp2
 go_ret
 exact ⟨er,rfl,hx,rfl⟩

set_option maxRecDepth 100000 in
theorem rdEnd_calls {w:World} {rb:Nat} {rd:Option (List Int)} (h:RdRep w rb rd) :
  Calls Tryz.prog 129 #[.pointer (some ⟨rb,0,none⟩)] w fun e w'=>∃ x:Int,e=.returned (.int .u8 x) ∧ (x=0 ↔ rd=some []) ∧ w=w':=by
 have HE:=Lib.hid (rdErr_calls h)
 obtain ⟨a,len,cap,er,hb,hlc,hc⟩:=h.ex
 have c0:w.cell? ⟨rb,0,none⟩=some (.slice a len cap):=by rw [cell_of_row w rb 0 _ _ _ hb];rfl
 have hx:∀ bs,rd=some bs → len=bs.length:=fun bs hh=>by
  rcases hc with ⟨h1,_⟩ | ⟨bs',h1,_,h2,_⟩
  ·rw [h1] at hh;cases hh
  ·rw [h1] at hh;cases hh;exact h2
 clear h hb hc
 go_enter Tryz.func129,Tryz.ntmps129
 go_wp2_with fail
 refine HE.out.mono ?_
 rintro e w1 ⟨x,rfl,hx0,rfl⟩
 cases rd with
 | none=>
  have hn:x ≠ 0:=fun hh=>(hx0.1 hh) rfl
  have g1:(x != 0)=true:=by simp [hn]
  clear hx0
  go_wp2_with fail
  go_ret
  exact ⟨x,rfl,by simp [hn],rfl⟩
 | some bs=>
  have hn:x=0:=hx0.2 (by simp)
  subst hn
  have hl:=hx bs rfl
  clear hx0 hx
  by_cases hz:len=0
  ·have hbs:bs=[]:=List.length_eq_zero_iff.1 (by omega)
   have g1:¬ (0 < len):=by omega
   subst hbs
   clear hl
   go_wp2_with fail
   go_ret
   exact ⟨0,rfl,by simp,rfl⟩
  ·have hbs:bs ≠ []:=fun hh=>hz (by rw [hl,hh];rfl)
   have g1:0 < len:=by omega
   clear hl
   go_wp2_with fail
   go_ret
   exact ⟨7,rfl,by simp [hbs],rfl⟩

theorem RdRep.keeps {w w':World} {rb:Nat} {rd:Option (List Int)} (h:RdRep w rb rd) (hk:Keeps w w'):RdRep w' rb rd:=by
 obtain ⟨a,len,cap,er,hb,hlc,hc⟩:=h.ex
 refine ⟨⟨a,len,cap,er,hk.heap hb,hlc,hc.imp id (fun ⟨bs,q1,q2,q3,q4,q5⟩=>⟨bs,q1,q2,q3,?_,q5⟩)⟩⟩
 intro i x hx
 obtain ⟨b,off,r1,r2,r3⟩:=q4 i x hx
 exact ⟨b,off,r1,r2,hk.cell r3⟩

theorem RdRep.upd {w w':World} {rb:Nat} {rd:Option (List Int)} {G:Nat → Prop} (h:RdRep w rb rd) (hu:Upd G w w') (hg:∀ k,k ≤ rb → ¬ G k):RdRep w' rb rd:=by
 obtain ⟨a,len,cap,er,hb,hlc,hc⟩:=h.ex
 refine ⟨⟨a,len,cap,er,(hu.block rb (lt_of_heap hb) (hg rb (Nat.le_refl _))).trans hb,hlc,hc.imp id (fun ⟨bs,q1,q2,q3,q4,q5⟩=>⟨bs,q1,q2,q3,?_,q5⟩)⟩⟩
 intro i x hx
 obtain ⟨b,off,r1,r2,r3⟩:=q4 i x hx
 exact ⟨b,off,r1,r2,hu.cellAt (hg b (by omega)) r3⟩

theorem Upd.frzAt {F:Nat → Prop} {w w':World} (h:Upd F w w') {b o:Nat} (hb:b < w.heap.size) (hf:¬ F b) (hz:w.frozen? ⟨b,o,none⟩=false):w'.frozen? ⟨b,o,none⟩=false:=
 (World.frozen?_of_block (a:=⟨b,o,none⟩) (h.block b hb hf)).trans hz

set_option maxRecDepth 100000 in
set_option maxHeartbeats 1000000 in
theorem readEdge_calls {w:World} {rb:Nat} {rd:Option (List Int)} (h:RdRep w rb rd) (f:Int) (k:Nat) (hk:k ≤ 1073741824) :
  Calls Tryz.prog 128 #[.pointer (some ⟨rb,0,none⟩),.int .u8 f,.int .i64 (k:Int)] w fun e w'=>e=.returned (.agg #[.int .u8 (edgeR f k rd).1.tag,.int .u32 (edgeR f k rd).1.to]) ∧ RdRep w' rb (edgeR f k rd).2 ∧ Upd (fun k=>k=rb) w w':=by
 have hmn:=numR_le (k + 1) rd
 obtain ⟨⟨n,rd1⟩,hn⟩:∃ p,p=numR (k + 1) rd:=⟨_,rfl⟩
 have hrb:rb < w.heap.size:=by obtain ⟨a,len,cap,er,hb,_⟩:=h.ex;exact lt_of_heap hb
 have HN:=Lib.hid (fun (W:World) (hW:Upd (fun k=>k=rb) w W) (hR:RdRep W rb rd)=>rdNum_calls hR (k + 1) (by omega))
 have HED:Hid (edgeR f k rd=if f=5 ∧ n ≠ 0 then (⟨(numR 16 rd1).1,n⟩,(numR 16 rd1).2) else (⟨0,n⟩,rd1)):=Lib.hid (by unfold edgeR;rw [← hn])
 rw [← hn] at HN hmn
 clear hn
 go_enter Tryz.func128,Tryz.ntmps128
 have HR0:=Lib.hid (h.keeps ((Keeps.refl w).alloc (.cells #[.int .u8 0,.int .u32 0] 37)))
 have HU0:=Lib.hid (((Keeps.refl w).alloc (.cells #[.int .u8 0,.int .u32 0] 37)).upd (fun k=>k=rb))
 clear h
 have hne:¬ (w.heap.size=rb):=by omega
 go_wp2_with fail
 refine (HN.out _ HU0.out HR0.out).mono ?_
 rintro e w1 ⟨rfl,hr1,hu1⟩
 have z0:w1.cell? ⟨w.heap.size,0,none⟩=some (.int .u8 0):=hu1.cellAt hne (by simp)
 have z1:w1.cell? ⟨w.heap.size,1,none⟩=some (.int .u32 0):=hu1.cellAt hne (by simp)
 have zf:∀ o:Nat,w1.frozen? ⟨w.heap.size,o,none⟩=false:=fun o=>hu1.frzAt (by simp) hne (by simp)
 have hs1:=hu1.size
 simp only [World.size_alloc] at hs1
 have l1:w.heap.size < w1.heap.size:=by omega
 have l1r:¬ (w1.heap.size=rb):=by omega
 have l1w:w.heap.size ≠ w1.heap.size:=by omega
 have HR1:=Lib.hid hr1
 have HU1:=Lib.hid (HU0.out.trans' hu1)
 have hn32:n ≤ 4294967295:=by omega
 clear hr1 hu1
 by_cases hc:f=5 ∧ n ≠ 0
 ·obtain ⟨rfl,hn0⟩:=hc
  have gp:0 < n:=by omega
  have h16:=numR_le 16 rd1
  have HN2:=Lib.hid (fun (W:World) (hR:RdRep W rb rd1)=>rdNum_calls hR 16 (by omega))
  have HE2:Hid (edgeR 5 k rd=(⟨(numR 16 rd1).1,n⟩,(numR 16 rd1).2)):=Lib.hid (by rw [HED.out,if_pos ⟨rfl,hn0⟩])
  obtain ⟨⟨t,rd2⟩,ht⟩:∃ p,p=numR 16 rd1:=⟨_,rfl⟩
  rw [← ht] at HN2 HE2 h16
  simp only [] at h16
  clear ht
  go_wp2_with fail
  refine (HN2.out _ (HR1.out.keeps (by (exact kp)))).mono ?_
  rintro e w2 ⟨rfl,hr2,hu2⟩
  have y0:w2.cell? ⟨w.heap.size,0,none⟩=some (.int .u8 0):=hu2.cellAt hne (by simp [go_sem,l1,l1w,z0])
  have y1:w2.cell? ⟨w.heap.size,1,none⟩=some (.int .u32 0):=hu2.cellAt hne (by simp [go_sem,l1,l1w,z1])
  have yf:∀ o:Nat,w2.frozen? ⟨w.heap.size,o,none⟩=false:=fun o=>hu2.frzAt (by simp;omega) hne (by simp [go_sem,l1,l1w,zf])
  have x0:w2.cell? ⟨w1.heap.size,0,none⟩=some (.int .u8 0):=hu2.cellAt l1r (by simp [go_sem])
  have x1:w2.cell? ⟨w1.heap.size,1,none⟩=some (.int .u32 (n:Int)):=hu2.cellAt l1r (by simp [go_sem])
  have xf:∀ o:Nat,w2.frozen? ⟨w1.heap.size,o,none⟩=false:=fun o=>hu2.frzAt (by simp) l1r (by simp [go_sem])
  have hs2:=hu2.size
  simp only [World.size_alloc] at hs2
  have HR2:=Lib.hid hr2
  have HU2:=Lib.hid (HU1.out.trans' ((show Upd (fun k=>k=rb) w1 _ from (((Keeps.refl w1).alloc _).upd _)).trans' hu2))
  clear hr2 hu2
  have l1w':w1.heap.size ≠ w.heap.size:=fun hh=>l1w hh.symm
  go_wp2_with fail
  all_goals refine bodyPost_ret (v:=.agg #[.int .u8 (t:Int),.int .u32 (n:Int)]) (by simp [results,Tryz.results128,go_sem,l1,l1w,y0,y1,x0,x1]) rfl ?_
  all_goals exact ⟨by rw [HE2.out],by rw [HE2.out];exact HR2.out.upd (G:=fun k=>k=w.heap.size ∨ k=w1.heap.size) (by repeat (first | exact Upd.refl _ _ | refine Upd.setCell (F:=fun k=>k=w.heap.size ∨ k=w1.heap.size) (p:=⟨w.heap.size,_,none⟩) ?_ (.inl (.inl rfl)) _ | refine Upd.setCell (F:=fun k=>k=w.heap.size ∨ k=w1.heap.size) (p:=⟨w1.heap.size,_,none⟩) ?_ (.inl (.inr rfl)) _ | refine Upd.alloc ?_ _)) (fun k hk e=>by rcases e with e | e <;> omega),HU2.out.trans ((show Upd (fun k=>k=w.heap.size ∨ k=w1.heap.size) w2 _ from (by repeat (first | exact Upd.refl _ _ | refine Upd.setCell (F:=fun k=>k=w.heap.size ∨ k=w1.heap.size) (p:=⟨w.heap.size,_,none⟩) ?_ (.inl (.inl rfl)) _ | refine Upd.setCell (F:=fun k=>k=w.heap.size ∨ k=w1.heap.size) (p:=⟨w1.heap.size,_,none⟩) ?_ (.inl (.inr rfl)) _ | refine Upd.alloc ?_ _))).mono (fun k hk2 hk=>.inr ⟨by rcases hk with e | e <;> omega,hk2⟩))⟩
 ·have HE2:Hid (edgeR f k rd=(⟨0,n⟩,rd1)):=Lib.hid (by rw [HED.out,if_neg hc])
  by_cases h5:f=5
  ·subst h5
   have gz:¬ (0 < n):=fun hh=>hc ⟨rfl,by omega⟩
   go_wp2_with fail
   all_goals refine bodyPost_ret (v:=.agg #[.int .u8 0,.int .u32 (n:Int)]) (by simp [results,Tryz.results128,go_sem,l1,l1w,z0,z1]) rfl ?_
   all_goals exact ⟨by rw [HE2.out],by rw [HE2.out];exact HR1.out.upd (G:=fun k=>k=w.heap.size) (by repeat (first | exact Upd.refl _ _ | refine Upd.setCell (F:=fun k=>k=w.heap.size) (p:=⟨w.heap.size,_,none⟩) ?_ (.inl rfl) _ | refine Upd.alloc ?_ _)) (fun k hk e=>by omega),HU1.out.trans ((show Upd (fun k=>k=w.heap.size) w1 _ from (by repeat (first | exact Upd.refl _ _ | refine Upd.setCell (F:=fun k=>k=w.heap.size) (p:=⟨w.heap.size,_,none⟩) ?_ (.inl rfl) _ | refine Upd.alloc ?_ _))).mono (fun k _ hk=>.inr ⟨by omega,by omega⟩))⟩
  ·have g5:(f == 5)=false:=by simp [h5]
   go_wp2_with fail
   all_goals refine bodyPost_ret (v:=.agg #[.int .u8 0,.int .u32 (n:Int)]) (by simp [results,Tryz.results128,go_sem,l1,l1w,z0,z1]) rfl ?_
   all_goals exact ⟨by rw [HE2.out],by rw [HE2.out];exact HR1.out.upd (G:=fun k=>k=w.heap.size) (by repeat (first | exact Upd.refl _ _ | refine Upd.setCell (F:=fun k=>k=w.heap.size) (p:=⟨w.heap.size,_,none⟩) ?_ (.inl rfl) _ | refine Upd.alloc ?_ _)) (fun k hk e=>by omega),HU1.out.trans ((show Upd (fun k=>k=w.heap.size) w1 _ from (by repeat (first | exact Upd.refl _ _ | refine Upd.setCell (F:=fun k=>k=w.heap.size) (p:=⟨w.heap.size,_,none⟩) ?_ (.inl rfl) _ | refine Upd.alloc ?_ _))).mono (fun k _ hk=>.inr ⟨by omega,by omega⟩))⟩

structure TxtRep (base:Nat) (w:World) (tb:Nat) (n f:Int) (perm:List Int) (k:Int) (l:List Rec) (e:Edge):Prop where
 ex:∃ pv lv,w.heap[tb]?=some (.cells #[.int .i64 n,.int .u8 f,pv,.int .i64 k,lv,.int .u8 e.tag,.int .u32 e.to] 100 (0,0)) ∧
  w.ownsRow base 3 1 pv perm.length (perm.map (Value.int .i64)) ∧ w.ownsRow base 87 7 lv l.length (l.flatMap recVals)
 hi:base ≤ tb

theorem TxtRep.row_ne {base:Nat} {w:World} {v:Value} {n sz:Nat} {xs:List Value} {t:TypeId} (h:w.ownsRow base t sz v n xs) {tb:Nat} {cs:Array Value} {t':TypeId} {q:Nat × Nat} (hb:w.heap[tb]?=some (.cells cs t' q)) (ht:t' ≠ t):v.ownBlock ≠ some tb:=fun e=>by
 obtain ⟨cs',hc⟩:=owns_type h e
 rw [hb] at hc
 cases hc
 exact ht rfl

theorem TxtRep.upd {base:Nat} {w w':World} {tb:Nat} {n f:Int} {perm:List Int} {k:Int} {l:List Rec} {e:Edge} {G:Nat → Prop} (h:TxtRep base w tb n f perm k l e) (hu:Upd G w w') (hg:∀ j cs t q,w.heap[j]?=some (.cells cs t q) → t=100 ∨ t=3 ∨ t=87 → base ≤ j → ¬ G j):TxtRep base w' tb n f perm k l e:=by
 obtain ⟨⟨pv,lv,h1,h2,h3⟩,h4⟩:=h
 refine ⟨⟨pv,lv,(hu.block tb (lt_of_heap h1) (hg tb _ _ _ h1 (.inl rfl) h4)).trans h1,hu.owns (fun j hj=>?_) h2,hu.owns (fun j hj=>?_) h3⟩,h4⟩
 ·obtain ⟨cs,hc⟩:=owns_type h2 hj
  exact hg j _ _ _ hc (.inr (.inl rfl)) (row_from h2 hj)
 ·obtain ⟨cs,hc⟩:=owns_type h3 hj
  exact hg j _ _ _ hc (.inr (.inr rfl)) (row_from h3 hj)

theorem TxtRep.cells {base:Nat} {w:World} {tb:Nat} {n f:Int} {perm:List Int} {k:Int} {l:List Rec} {e:Edge} (h:TxtRep base w tb n f perm k l e):w.cell? ⟨tb,0,none⟩=some (.int .i64 n) ∧ w.cell? ⟨tb,1,none⟩=some (.int .u8 f) ∧ w.cell? ⟨tb,3,none⟩=some (.int .i64 k) ∧ w.cell? ⟨tb,5,none⟩=some (.int .u8 e.tag) ∧ w.cell? ⟨tb,6,none⟩=some (.int .u32 e.to) ∧ ∀ o,w.frozen? ⟨tb,o,none⟩=false:=by
 obtain ⟨⟨pv,lv,h1,h2,h3⟩,h4⟩:=h
 refine ⟨?_,?_,?_,?_,?_,fun o=>frozen_of_row w tb o _ _ h1⟩
 ·rw [cell_of_row w tb 0 _ _ _ h1];rfl
 ·rw [cell_of_row w tb 1 _ _ _ h1];rfl
 ·rw [cell_of_row w tb 3 _ _ _ h1];rfl
 ·rw [cell_of_row w tb 5 _ _ _ h1];rfl
 ·rw [cell_of_row w tb 6 _ _ _ h1];rfl

theorem TxtRep.set {base:Nat} {w:World} {tb:Nat} {n f:Int} {perm:List Int} {k:Int} {l:List Rec} {e:Edge} (h:TxtRep base w tb n f perm k l e) :
  (∀ n',TxtRep base (w.setCell ⟨tb,0,none⟩ (.int .i64 n')) tb n' f perm k l e) ∧ (∀ f',TxtRep base (w.setCell ⟨tb,1,none⟩ (.int .u8 f')) tb n f' perm k l e) ∧ (∀ k',TxtRep base (w.setCell ⟨tb,3,none⟩ (.int .i64 k')) tb n f perm k' l e):=by
 obtain ⟨⟨pv,lv,h1,h2,h3⟩,h4⟩:=h
 have n2:=TxtRep.row_ne h2 h1 (by decide)
 have n3:=TxtRep.row_ne h3 h1 (by decide)
 have hu:∀ (o:Nat) (v:Value),Upd (fun k=>k=tb) w (w.setCell ⟨tb,o,none⟩ v):=fun o v=>Upd.setCell (F:=fun k=>k=tb) (p:=⟨tb,o,none⟩) (Upd.refl _ _) (.inl rfl) v
 have o2:∀ (o:Nat) (v:Value),(w.setCell ⟨tb,o,none⟩ v).ownsRow base 3 1 pv perm.length (perm.map (Value.int .i64)):=fun o v=>(hu o v).owns (fun j hj e=>n2 (by rw [hj,e])) h2
 have o3:∀ (o:Nat) (v:Value),(w.setCell ⟨tb,o,none⟩ v).ownsRow base 87 7 lv l.length (l.flatMap recVals):=fun o v=>(hu o v).owns (fun j hj e=>n3 (by rw [hj,e])) h3
 exact ⟨fun n'=>⟨⟨pv,lv,heap_setCell_same w tb 0 _ _ _ h1,o2 _ _,o3 _ _⟩,h4⟩,fun f'=>⟨⟨pv,lv,heap_setCell_same w tb 1 _ _ _ h1,o2 _ _,o3 _ _⟩,h4⟩,fun k'=>⟨⟨pv,lv,heap_setCell_same w tb 3 _ _ _ h1,o2 _ _,o3 _ _⟩,h4⟩⟩

theorem TxtRep.new (w:World) (base:Nat) (hb:base ≤ w.heap.size):TxtRep base (w.alloc (.cells #[.int .i64 0,.int .u8 0,.slice none 0 0,.int .i64 0,.slice none 0 0,.int .u8 0,.int .u32 0] 100)) w.heap.size 0 0 [] 0 [] ⟨0,0⟩:=
 ⟨⟨.slice none 0 0,.slice none 0 0,heap_alloc_new w _,World.ownsRow_nil _ _ _ _,World.ownsRow_nil _ _ _ _⟩,hb⟩

set_option maxRecDepth 100000 in
theorem newReader_calls (a:Option Addr) (cap:Nat) (bs:List Int) (w:World) (h:BsAt w a bs) (hb:IsBs bs) (hl:bs.length ≤ 1073741824) (hc:bs.length ≤ cap) :
  Calls Tryz.prog 125 #[.slice a bs.length cap] w fun e w'=>e=.returned (.pointer (some ⟨w.heap.size,0,none⟩)) ∧ RdRep w' w.heap.size (some bs) ∧ Keeps w w':=by
 have HR:Hid (RdRep (w.alloc (.cells #[.slice a bs.length cap,.int .u8 0] 202)) w.heap.size (some bs)):=Lib.hid ⟨⟨a,bs.length,cap,0,heap_alloc_new w _,hc,.inr ⟨bs,rfl,rfl,rfl,fun i x hx=>by
  obtain ⟨b,off,r1,r2⟩:=h i x hx
  exact ⟨b,off,r1,lt_of_cell r2,((Keeps.refl w).alloc _).cell r2⟩,hb,hl⟩⟩⟩
 clear h hb hl hc
 go_enter Tryz.func125,Tryz.ntmps125
 go_wp2
 go_ret
 exact ⟨rfl,HR.out,by (exact kp)⟩

structure RecBox (w:World) (X:Nat) (r:Rec):Prop where
 ex:w.heap[X]?=some (.cells #[.int .u8 r.form,.int .u8 r.top,.int .u8 r.bot,.int .u8 r.lo.tag,.int .u32 r.lo.to,.int .u8 r.hi.tag,.int .u32 r.hi.to] 87 (0,0))

theorem RecBox.lt {w:World} {X:Nat} {r:Rec} (h:RecBox w X r):X < w.heap.size:=lt_of_heap h.ex

theorem RecBox.cells {w:World} {X:Nat} {r:Rec} (h:RecBox w X r):w.cell? ⟨X,0,none⟩=some (.int .u8 r.form) ∧ w.cell? ⟨X,1,none⟩=some (.int .u8 r.top) ∧ w.cell? ⟨X,2,none⟩=some (.int .u8 r.bot) ∧ w.cell? ⟨X,3,none⟩=some (.int .u8 r.lo.tag) ∧ w.cell? ⟨X,4,none⟩=some (.int .u32 r.lo.to) ∧ w.cell? ⟨X,5,none⟩=some (.int .u8 r.hi.tag) ∧ w.cell? ⟨X,6,none⟩=some (.int .u32 r.hi.to) ∧ ∀ o,w.frozen? ⟨X,o,none⟩=false:=by
 have h1:=h.ex
 refine ⟨?_,?_,?_,?_,?_,?_,?_,fun o=>frozen_of_row w X o _ _ h1⟩
 ·rw [cell_of_row w X 0 _ _ _ h1];rfl
 ·rw [cell_of_row w X 1 _ _ _ h1];rfl
 ·rw [cell_of_row w X 2 _ _ _ h1];rfl
 ·rw [cell_of_row w X 3 _ _ _ h1];rfl
 ·rw [cell_of_row w X 4 _ _ _ h1];rfl
 ·rw [cell_of_row w X 5 _ _ _ h1];rfl
 ·rw [cell_of_row w X 6 _ _ _ h1];rfl

theorem RecBox.upd {w w':World} {X:Nat} {r:Rec} {G:Nat → Prop} (h:RecBox w X r) (hu:Upd G w w') (hg:¬ G X):RecBox w' X r:=⟨(hu.block X h.lt hg).trans h.ex⟩

theorem RecBox.setBot {w:World} {X:Nat} {r:Rec} (h:RecBox w X r) (b:Int):RecBox (w.setCell ⟨X,2,none⟩ (.int .u8 b)) X ⟨r.form,r.top,b,r.lo,r.hi⟩:=⟨heap_setCell_same w X 2 _ _ _ h.ex⟩

theorem RecBox.setLo {w:World} {X:Nat} {r:Rec} (h:RecBox w X r) (e:Edge):RecBox ((w.setCell ⟨X,3,none⟩ (.int .u8 e.tag)).setCell ⟨X,4,none⟩ (.int .u32 e.to)) X ⟨r.form,r.top,r.bot,e,r.hi⟩:=⟨heap_setCell_same _ X 4 _ _ _ (heap_setCell_same w X 3 _ _ _ h.ex)⟩

theorem RecBox.setHi {w:World} {X:Nat} {r:Rec} (h:RecBox w X r) (e:Edge):RecBox ((w.setCell ⟨X,5,none⟩ (.int .u8 e.tag)).setCell ⟨X,6,none⟩ (.int .u32 e.to)) X ⟨r.form,r.top,r.bot,r.lo,e⟩:=⟨heap_setCell_same _ X 6 _ _ _ (heap_setCell_same w X 5 _ _ _ h.ex)⟩

theorem updX (w:World) (X o:Nat) (v:Value):Upd (fun k=>k=X) w (w.setCell ⟨X,o,none⟩ v):=Upd.setCell (F:=fun k=>k=X) (p:=⟨X,o,none⟩) (Upd.refl _ _) (.inl rfl) _

theorem updX2 (w:World) (X o o':Nat) (v v':Value):Upd (fun k=>k=X) w ((w.setCell ⟨X,o,none⟩ v).setCell ⟨X,o',none⟩ v'):=Upd.setCell (F:=fun k=>k=X) (p:=⟨X,o',none⟩) (updX w X o v) (.inl rfl) _

theorem Upd.fresh {F:Nat → Prop} {a b c:World} {X:Nat} (h:Upd F a b) (k:Upd (fun j=>j=X) b c) (hX:a.heap.size ≤ X):Upd F a c:=
 ⟨k.os.trans h.os,k.tape.trans h.tape,k.output.trans h.output,Nat.le_trans h.size k.size,fun i hi hf=>(k.block i (Nat.lt_of_lt_of_le hi h.size) (fun e=>by omega)).trans (h.block i hi hf)⟩

structure BodyAt (wr W:World) (rb X:Nat) (r:Rec) (rd:Option (List Int)):Prop where
 upd:Upd (fun k=>k=rb) wr W
 box:RecBox W X r
 rdr:RdRep W rb rd
 far:wr.heap.size ≤ X
 rlt:rb < wr.heap.size

theorem BodyAt.set {wr W W':World} {rb X:Nat} {r r':Rec} {rd:Option (List Int)} (h:BodyAt wr W rb X r rd) (hu:Upd (fun k=>k=X) W W') (hb:RecBox W' X r'):BodyAt wr W' rb X r' rd:=
 ⟨h.upd.fresh hu h.far,hb,h.rdr.upd hu (fun k hk e=>by have:=h.far;have:=h.rlt;omega),h.far,h.rlt⟩

theorem BodyAt.bot {wr W:World} {rb X:Nat} {r:Rec} {rd:Option (List Int)} (h:BodyAt wr W rb X r rd) (b:Int):BodyAt wr (W.setCell ⟨X,2,none⟩ (.int .u8 b)) rb X ⟨r.form,r.top,b,r.lo,r.hi⟩ rd:=h.set (updX W X 2 _) (h.box.setBot b)

theorem BodyAt.lo {wr W:World} {rb X:Nat} {r:Rec} {rd:Option (List Int)} (h:BodyAt wr W rb X r rd) (e:Edge):BodyAt wr ((W.setCell ⟨X,3,none⟩ (.int .u8 e.tag)).setCell ⟨X,4,none⟩ (.int .u32 e.to)) rb X ⟨r.form,r.top,r.bot,e,r.hi⟩ rd:=h.set (updX2 W X 3 4 _ _) (h.box.setLo e)

theorem BodyAt.hi {wr W:World} {rb X:Nat} {r:Rec} {rd:Option (List Int)} (h:BodyAt wr W rb X r rd) (e:Edge):BodyAt wr ((W.setCell ⟨X,5,none⟩ (.int .u8 e.tag)).setCell ⟨X,6,none⟩ (.int .u32 e.to)) rb X ⟨r.form,r.top,r.bot,r.lo,e⟩ rd:=h.set (updX2 W X 5 6 _ _) (h.box.setHi e)

theorem BodyAt.call {wr W W':World} {rb X:Nat} {r:Rec} {rd rd':Option (List Int)} (h:BodyAt wr W rb X r rd) (hr:RdRep W' rb rd') (hu:Upd (fun k=>k=rb) W W'):BodyAt wr W' rb X r rd':=
 ⟨h.upd.trans' hu,h.box.upd hu (fun e=>by have:=h.far;have:=h.rlt;omega),hr,h.far,h.rlt⟩

theorem box_fill {w:World} {X:Nat} {r0 r:Rec} (h:RecBox w X r0):RecBox (((((((w.setCell ⟨X,0,none⟩ (.int .u8 r.form)).setCell ⟨X,1,none⟩ (.int .u8 r.top)).setCell ⟨X,2,none⟩ (.int .u8 r.bot)).setCell ⟨X,3,none⟩ (.int .u8 r.lo.tag)).setCell ⟨X,4,none⟩ (.int .u32 r.lo.to)).setCell ⟨X,5,none⟩ (.int .u8 r.hi.tag)).setCell ⟨X,6,none⟩ (.int .u32 r.hi.to)) X r:=
 ⟨heap_setCell_same _ X 6 _ _ _ (heap_setCell_same _ X 5 _ _ _ (heap_setCell_same _ X 4 _ _ _ (heap_setCell_same _ X 3 _ _ _ (heap_setCell_same _ X 2 _ _ _ (heap_setCell_same _ X 1 _ _ _ (heap_setCell_same _ X 0 _ _ _ h.ex))))))⟩

theorem upd_fill {w:World} {X:Nat} {v0 v1 v2 v3 v4 v5 v6:Value}:Upd (fun k=>k=X) w (((((((w.setCell ⟨X,0,none⟩ v0).setCell ⟨X,1,none⟩ v1).setCell ⟨X,2,none⟩ v2).setCell ⟨X,3,none⟩ v3).setCell ⟨X,4,none⟩ v4).setCell ⟨X,5,none⟩ v5).setCell ⟨X,6,none⟩ v6):=
 ((((((updX w X 0 v0).trans' (updX _ X 1 v1)).trans' (updX _ X 2 v2)).trans' (updX _ X 3 v3)).trans' (updX _ X 4 v4)).trans' (updX _ X 5 v5)).trans' (updX _ X 6 v6)

theorem body_early {wr W w5:World} {rb:Nat} {r0 r:Rec} {rd:Option (List Int)} (hW:Keeps wr W) (hr:RdRep w5 rb rd) (hu:Upd (fun k=>k=rb) W w5) (hb:RecBox w5 wr.heap.size r0) (hlt:rb < wr.heap.size) :
  BodyAt wr (((((((w5.setCell ⟨wr.heap.size,0,none⟩ (.int .u8 r.form)).setCell ⟨wr.heap.size,1,none⟩ (.int .u8 r.top)).setCell ⟨wr.heap.size,2,none⟩ (.int .u8 r.bot)).setCell ⟨wr.heap.size,3,none⟩ (.int .u8 r.lo.tag)).setCell ⟨wr.heap.size,4,none⟩ (.int .u32 r.lo.to)).setCell ⟨wr.heap.size,5,none⟩ (.int .u8 r.hi.tag)).setCell ⟨wr.heap.size,6,none⟩ (.int .u32 r.hi.to)) rb wr.heap.size r rd:=
 BodyAt.set ⟨(hW.upd _).trans' hu,hb,hr,Nat.le_refl _,hlt⟩ upd_fill (box_fill hb)

theorem body_late {wr W w5:World} {rb:Nat} {r:Rec} {rd:Option (List Int)} (hW:Keeps wr W) (hr:RdRep w5 rb rd) (hu:Upd (fun k=>k=rb) W w5) (hlt:rb < wr.heap.size) :
  BodyAt wr (w5.alloc (.cells #[.int .u8 r.form,.int .u8 r.top,.int .u8 r.bot,.int .u8 r.lo.tag,.int .u32 r.lo.to,.int .u8 r.hi.tag,.int .u32 r.hi.to] 87)) rb w5.heap.size r rd:=
 have hk:Keeps w5 (w5.alloc (.cells #[.int .u8 r.form,.int .u8 r.top,.int .u8 r.bot,.int .u8 r.lo.tag,.int .u32 r.lo.to,.int .u8 r.hi.tag,.int .u32 r.hi.to] 87)):=(Keeps.refl w5).alloc _
 ⟨((hW.upd _).trans' hu).trans' (hk.upd _),⟨heap_alloc_new w5 _⟩,hr.keeps hk,Nat.le_trans hW.size hu.size,hlt⟩

theorem info_recT:(Tryz.prog.info? 87).map (fun i=>(i.zero,i.size,i.bytes))=some (some (.agg #[.int .u8 0,.int .u8 0,.int .u8 0,.int .u8 0,.int .u32 0,.int .u8 0,.int .u32 0]),7,20):=by kernel_rfl

theorem txt_edge {base:Nat} {w:World} {tb:Nat} {n f:Int} {perm:List Int} {k:Int} {l:List Rec} {e:Edge} (h:TxtRep base w tb n f perm k l e) (e':Edge):TxtRep base ((w.setCell ⟨tb,5,none⟩ (.int .u8 e'.tag)).setCell ⟨tb,6,none⟩ (.int .u32 e'.to)) tb n f perm k l e':=by
 obtain ⟨⟨pv,lv,h1,h2,h3⟩,h4⟩:=h
 have n2:=TxtRep.row_ne h2 h1 (by decide)
 have n3:=TxtRep.row_ne h3 h1 (by decide)
 have hu:=updX2 w tb 5 6 (.int .u8 e'.tag) (.int .u32 e'.to)
 exact ⟨⟨pv,lv,heap_setCell_same _ tb 6 _ _ _ (heap_setCell_same w tb 5 _ _ _ h1),hu.owns (fun j hj e=>n2 (by rw [hj,e])) h2,hu.owns (fun j hj e=>n3 (by rw [hj,e])) h3⟩,h4⟩

theorem recs_grown {base tb:Nat} {w5 w6:World} {n f k:Int} {pv lv v6:Value} {perm:List Int} {pre:List Rec} {e:Edge} {rd:Option (List Int)} {x:Rec} {cs:Array Value}
  (k1:w5.heap[tb]?=some (.cells #[.int .i64 n,.int .u8 f,pv,.int .i64 k,lv,.int .u8 e.tag,.int .u32 e.to] 100 (0,0))) (k2:w5.ownsRow base 3 1 pv perm.length (perm.map (Value.int .i64))) (k3:w5.ownsRow base 87 7 lv pre.length (pre.flatMap recVals)) (k4:base ≤ tb)
  (hr:RdRep w5 base rd) (hr6:w6.ownsRow base 87 7 v6 (pre.length + 1) (pre.flatMap recVals ++ recVals x)) (hg:(w5.alloc (.cells cs 87)).grownBy w6 lv.ownBlock) :
  w6.cell? ⟨tb,4,none⟩=some lv ∧ (∀ o,w6.frozen? ⟨tb,o,none⟩=false) ∧ RdRep (w6.setCell ⟨tb,4,none⟩ v6) base rd ∧ TxtRep base (w6.setCell ⟨tb,4,none⟩ v6) tb n f perm k (pre ++ [x]) e ∧ Upd (fun j=>base ≤ j) w5 (w6.setCell ⟨tb,4,none⟩ v6):=by
 have np:pv.ownBlock ≠ some tb:=TxtRep.row_ne k2 k1 (by decide)
 have nl:lv.ownBlock ≠ some tb:=TxtRep.row_ne k3 k1 (by decide)
 obtain ⟨ra,rlen,rcap,rer,hrb,-⟩:=hr.ex
 have nrb:lv.ownBlock ≠ some base:=TxtRep.row_ne k3 hrb (by decide)
 have ntb:tb ≠ base:=fun hh=>by rw [hh,hrb] at k1;cases k1
 have hu:Upd (fun j=>lv.ownBlock=some j) w5 w6:=(((Keeps.refl w5).alloc (.cells cs 87)).upd _).trans' ⟨hg.os,hg.tape,hg.output,hg.size,fun i hi hne=>hg.block i hi (fun e=>hne e.symm)⟩
 have h6:=(hu.block tb (lt_of_heap k1) nl).trans k1
 have n6:v6.ownBlock ≠ some tb:=TxtRep.row_ne hr6 h6 (by decide)
 have hs:Upd (fun j=>j=tb) w6 (w6.setCell ⟨tb,4,none⟩ v6):=Upd.setCell (F:=fun j=>j=tb) (p:=⟨tb,4,none⟩) (Upd.refl _ _) (.inl rfl) _
 have k26:w6.ownsRow base 3 1 pv perm.length (perm.map (Value.int .i64)):=hu.owns (fun j hj e=>by
  obtain ⟨c1,h1⟩:=owns_type k2 hj
  obtain ⟨c2,h2⟩:=owns_type k3 e
  rw [h1] at h2
  have:=Option.some.inj h2
  simp at this) k2
 refine ⟨by rw [cell_of_row w6 tb 4 _ _ _ h6];rfl,fun o=>frozen_of_row w6 tb o _ _ h6,?_,⟨⟨pv,v6,heap_setCell_same w6 tb 4 _ _ _ h6,hs.owns (fun j hj e=>np (by rw [hj,e])) k26,?_⟩,k4⟩,?_⟩
 ·refine (hr.upd hu (fun j hj e=>?_)).upd hs (fun j hj e=>by omega)
  have h1:=row_from k3 e
  have h2:j ≠ base:=fun hh=>nrb (by rw [e,hh])
  omega
 ·rw [List.flatMap_append,List.length_append]
  have e1:[x].flatMap recVals=recVals x:=by simp
  rw [e1]
  exact hs.owns (fun j hj e=>n6 (by rw [hj,e])) hr6
 ·exact (hu.mono (fun j _ hj=>row_from k3 hj)).trans' (hs.mono (fun j _ hj=>by omega))

end Go.Proofs.YtfpjogpjocedaaaGreat
