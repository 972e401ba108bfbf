/-
  ramageref28.Of: bytes' text, as the document has it.
-/
import Derived.Test.YtfpjogpjocedaaaGreatPDocP
import Derived.Test.YtfpjogpjocedaaaGreatPGoodW
import Derived.Test.YtfpjogpjocedaaaGreatPSaveL
namespace Go.Proofs.YtfpjogpjocedaaaGreat
set_option linter.unusedSimpArgs false
set_option linter.unusedVariables false
set_option maxHeartbeats 600000
open Go Go.RowKit

structure ReadRep (w:World) (X mb:Nat) (f:Int) (perm:List Int) (e:Edge):Prop where
 ex:∃ pv,w.heap[X]?=some (.cells #[.pointer (some ⟨mb,0,none⟩),pv,.int .u8 f,.int .u8 e.tag,.int .u32 e.to] 45 (0,0)) ∧ w.ownsRow X 3 1 pv perm.length (perm.map (Value.int .i64))

theorem ReadRep.lt {w:World} {X mb:Nat} {f:Int} {perm:List Int} {e:Edge} (h:ReadRep w X mb f perm e):X < w.heap.size:=by
 obtain ⟨pv,h1,_⟩:=h.ex
 exact lt_of_heap h1

theorem ReadRep.cells {w:World} {X mb:Nat} {f:Int} {perm:List Int} {e:Edge} (h:ReadRep w X mb f perm e):w.cell? ⟨X,0,none⟩=some (.pointer (some ⟨mb,0,none⟩)) ∧ w.cell? ⟨X,2,none⟩=some (.int .u8 f) ∧ w.cell? ⟨X,3,none⟩=some (.int .u8 e.tag) ∧ w.cell? ⟨X,4,none⟩=some (.int .u32 e.to) ∧ ∀ o,w.frozen? ⟨X,o,none⟩=false:=by
 obtain ⟨pv,h1,h2⟩:=h.ex
 refine ⟨?_,?_,?_,?_,fun o=>frozen_of_row w X o _ _ h1⟩
 ·rw [cell_of_row w X 0 _ _ _ h1];rfl
 ·rw [cell_of_row w X 2 _ _ _ h1];rfl
 ·rw [cell_of_row w X 3 _ _ _ h1];rfl
 ·rw [cell_of_row w X 4 _ _ _ h1];rfl

theorem ReadRep.upd {w w':World} {X mb:Nat} {f:Int} {perm:List Int} {e:Edge} {G:Nat → Prop} (h:ReadRep w X mb f perm e) (hu:Upd G w w') (hg:∀ j,X ≤ j → j < w.heap.size → ¬ G j):ReadRep w' X mb f perm e:=by
 have hl:=h.lt
 obtain ⟨pv,h1,h2⟩:=h.ex
 refine ⟨⟨pv,(hu.block X hl (hg X (Nat.le_refl _) hl)).trans h1,hu.owns (fun j hj=>?_) h2⟩⟩
 obtain ⟨cs,hc⟩:=owns_type h2 hj
 exact hg j (row_from h2 hj) (lt_of_heap hc)

theorem ReadRep.keeps {w w':World} {X mb:Nat} {f:Int} {perm:List Int} {e:Edge} (h:ReadRep w X mb f perm e) (hk:Keeps w w'):ReadRep w' X mb f perm e:=h.upd (hk.upd (fun _=>False)) (fun _ _ _ h=>h)

theorem ReadRep.row {w:World} {X mb:Nat} {f:Int} {perm:List Int} {e:Edge} (h:ReadRep w X mb f perm e):∃ pa pcap,w.cell? ⟨X,1,none⟩=some (.slice pa perm.length pcap) ∧ IntsAt w pa perm:=by
 obtain ⟨pv,h1,h2⟩:=h.ex
 obtain ⟨pa,pcap,rfl,hp⟩:=owns_slice h2
 refine ⟨pa,pcap,by rw [cell_of_row w X 1 _ _ _ h1];rfl,fun i x hx=>?_⟩
 have hi:=(List.getElem?_eq_some_iff.1 hx).1
 obtain ⟨g,rfl⟩:=hp (by omega)
 refine ⟨g,0,rfl,?_⟩
 have hc:=World.ownsRow.cellAt h2 (j:=i) (by omega)
 rw [Nat.zero_add,hc,List.getElem?_map,hx]
 rfl

theorem ReadRep.far {w:World} {X mb:Nat} {f:Int} {perm:List Int} {e:Edge} (h:ReadRep w X mb f perm e) {pa:Option Addr} {n pcap:Nat} (c1:w.cell? ⟨X,1,none⟩=some (.slice pa n pcap)) {b off:Nat} (hp:pa=some ⟨b,off,none⟩) (hne:0 < perm.length):X ≤ b:=by
 obtain ⟨pv,h1,h2⟩:=h.ex
 have e1:w.cell? ⟨X,1,none⟩=some pv:=by rw [cell_of_row w X 1 _ _ _ h1];rfl
 rw [e1] at c1
 cases c1
 subst hp
 exact row_from h2 rfl

theorem read_grown {w w6:World} {X mb:Nat} {f:Int} {perm:List Int} {e:Edge} {x:Int} {pv v6:Value}
  (k1:w.heap[X]?=some (.cells #[.pointer (some ⟨mb,0,none⟩),pv,.int .u8 f,.int .u8 e.tag,.int .u32 e.to] 45 (0,0))) (k2:w.ownsRow X 3 1 pv perm.length (perm.map (Value.int .i64)))
  (hr6:w6.ownsRow X 3 1 v6 (perm.length + 1) (perm.map (Value.int .i64) ++ [.int .i64 x])) (hg:(w.alloc (.cells #[.int .i64 x] 3)).grownBy w6 pv.ownBlock) :
  w6.cell? ⟨X,1,none⟩=some pv ∧ (∀ o,w6.frozen? ⟨X,o,none⟩=false) ∧ ReadRep (w6.setCell ⟨X,1,none⟩ v6) X mb f (perm ++ [x]) e ∧ Upd (fun j=>X ≤ j) w (w6.setCell ⟨X,1,none⟩ v6):=by
 have np:pv.ownBlock ≠ some X:=TxtRep.row_ne k2 k1 (by decide)
 have hu:Upd (fun j=>pv.ownBlock=some j) w w6:=(((Keeps.refl w).alloc (.cells #[.int .i64 x] 3)).upd _).trans' ⟨hg.os,hg.tape,hg.output,hg.size,fun i hi hne=>hg.block i hi (fun e=>hne e.symm)⟩
 have h6:=(hu.block X (lt_of_heap k1) np).trans k1
 have n6:v6.ownBlock ≠ some X:=TxtRep.row_ne hr6 h6 (by decide)
 have hs:=updX w6 X 1 v6
 refine ⟨by rw [cell_of_row w6 X 1 _ _ _ h6];rfl,fun o=>frozen_of_row w6 X o _ _ h6,⟨⟨v6,heap_setCell_same w6 X 1 _ _ _ h6,?_⟩⟩,?_⟩
 ·rw [List.map_append,List.length_append]
  exact hs.owns (fun j hj e=>n6 (by rw [hj,e])) hr6
 ·exact (hu.mono (fun j _ hj=>row_from k2 hj)).trans' (hs.mono (fun j _ hj=>by omega))

theorem RefRep.fresh (w:World) (n room:Int) (h0:0 ≤ n) (h1:n ≤ 16) (h2:0 ≤ room) (h3:room ≤ 1048576):RefRep (fun k=>k=w.heap.size) (w.alloc (.cells #[.slice none 0 0,.slice none 0 0,.int .u32 0,.int .i64 n,.int .i64 room] 51)) w.heap.size (St.new n room) []:=by
 refine ⟨⟨.slice none 0 0,.slice none 0 0,heap_alloc_new w _,World.ownsRow_nil _ _ _ _,World.ownsRow_nil _ _ _ _,fun k hk=>by simp [Value.ownBlock] at hk,fun k hk=>by simp [Value.ownBlock] at hk⟩,rfl,?_,St.new_wf h0 h1 h2 h3,?_,?_,?_,?_,?_⟩
 ·intro k hk;subst hk;simp
 ·intro id r;simp [St.new,look_nil]
 ·simp
 ·simp [St.len,St.new]
 ·simp [St.new]
 ·intro p hp;simp at hp

theorem RecsAt.get {f:Int} {k:Nat} {rd0:Option (List Int)} {d:Nat} {pre:List Rec} {rd:Option (List Int)} (h:RecsAt f k rd0 d pre rd) (hd:d < k):(recsR f k 0 rd0).1[d]?=some (recR f d rd).1:=by
 have e:k - d=(k - (d + 1)) + 1:=by omega
 have h1:=h.all
 rw [e] at h1
 rw [← h1,List.getElem?_append_right (by rw [h.len];exact Nat.le_refl _),h.len,Nat.sub_self]
 rfl

theorem ReadRep.setE {w:World} {X mb:Nat} {f:Int} {perm:List Int} {e:Edge} (h:ReadRep w X mb f perm e) (e':Edge):ReadRep ((w.setCell ⟨X,3,none⟩ (.int .u8 e'.tag)).setCell ⟨X,4,none⟩ (.int .u32 e'.to)) X mb f perm e':=by
 obtain ⟨pv,h1,h2⟩:=h.ex
 have np:pv.ownBlock ≠ some X:=TxtRep.row_ne h2 h1 (by decide)
 exact ⟨⟨pv,heap_setCell_same _ X 4 _ _ _ (heap_setCell_same w X 3 _ _ _ h1),(updX2 w X 3 4 _ _).owns (fun j hj e=>np (by rw [hj,e])) h2⟩⟩

structure EndAt (W:World) (X mb q z:Nat) (f:Int) (pa:Option Addr) (n pcap:Nat) (x:Edge):Prop where
 b0:W.cell? ⟨X,0,none⟩=some (.pointer (some ⟨mb,0,none⟩))
 b1:W.cell? ⟨X,1,none⟩=some (.slice pa n pcap)
 b2:W.cell? ⟨X,2,none⟩=some (.int .u8 f)
 b3:W.cell? ⟨X,3,none⟩=some (.int .u8 x.tag)
 b4:W.cell? ⟨X,4,none⟩=some (.int .u32 x.to)
 v0:W.cell? ⟨q,0,none⟩=some (.int .u8 x.tag)
 v1:W.cell? ⟨q,1,none⟩=some (.int .u32 x.to)
 u0:W.cell? ⟨z,0,none⟩=some (.pointer none)
 u1:W.cell? ⟨z,1,none⟩=some (.slice none 0 0)
 u2:W.cell? ⟨z,2,none⟩=some (.int .u8 0)
 u3:W.cell? ⟨z,3,none⟩=some (.int .u8 0)
 u4:W.cell? ⟨z,4,none⟩=some (.int .u32 0)
 uf:∀ o:Nat,W.frozen? ⟨z,o,none⟩=false

theorem EndAt.keeps {W W':World} {X mb q z:Nat} {f:Int} {pa:Option Addr} {n pcap:Nat} {x:Edge} (h:EndAt W X mb q z f pa n pcap x) (hk:Keeps W W'):EndAt W' X mb q z f pa n pcap x:=
 ⟨hk.cell h.b0,hk.cell h.b1,hk.cell h.b2,hk.cell h.b3,hk.cell h.b4,hk.cell h.v0,hk.cell h.v1,hk.cell h.u0,hk.cell h.u1,hk.cell h.u2,hk.cell h.u3,hk.cell h.u4,fun o=>hk.frz (a:=⟨z,o,none⟩) (by have:=lt_of_cell h.u0;exact this) (h.uf o)⟩

theorem goodD_only {bs:List Int} {T T':Txt} {M1 M1':St} {ids ids':List Int} (h:readB bs=some T) (hp:putL T.l (St.new (T.vars:Int) (bs.length:Int)) []=(0,M1,ids)) (hg:GoodD bs T' M1' ids'):kRight M1 (T.form:Int) (atR ids T.e) 0=true ∧ saveB M1 T.perm (T.form:Int) (atR ids T.e)=bs:=by
 have e1:=hg.read
 rw [h] at e1
 cases e1
 have e2:=hg.put
 rw [hp] at e2
 cases e2
 exact ⟨hg.right,hg.bytes⟩

theorem upd5 (w:World) (z:Nat) (v0 v1 v2 v3 v4:Value):Upd (fun k=>k=z) w (((((w.setCell ⟨z,0,none⟩ v0).setCell ⟨z,1,none⟩ v1).setCell ⟨z,2,none⟩ v2).setCell ⟨z,3,none⟩ v3).setCell ⟨z,4,none⟩ v4):=
 ((updX2 w z 0 1 _ _).trans' (updX2 _ z 2 3 _ _)).trans' (updX _ z 4 _)

def OfOut (bs:List Int) (w:World) (e:Ending) (w':World):Prop:=
 Keeps w w' ∧ ((∃ T M1 ids mb L G pa pcap x,GoodD bs T M1 ids ∧ FitA M1 ∧ (atR ids T.e).ok ∧ M1.cs.length ≤ 1048576 ∧ e=.returned (.tuple #[.agg #[.pointer (some ⟨mb,0,none⟩),.slice pa T.perm.length pcap,.int .u8 (T.form:Int),.int .u8 x.tag,.int .u32 x.to],.bool true]) ∧ x=atR ids T.e ∧ IntsAt w' pa T.perm ∧ RefRep G w' mb M1 L ∧ (∀ k,G k → w.heap.size ≤ k)) ∨
  ((∀ T M1 ids,¬ GoodD bs T M1 ids) ∧ e=.returned (.tuple #[.agg #[.pointer none,.slice none 0 0,.int .u8 0,.int .u8 0,.int .u32 0],.bool false])))

set_option maxRecDepth 100000 in
set_option maxHeartbeats 4000000 in
theorem docOf_calls (a:Option Addr) (cap:Nat) (bs:List Int) (w:World) (h:BsAt w a bs) (hb:IsBs bs) (hl:bs.length ≤ 1048576) :
  Calls Tryz.prog 12 #[.slice a bs.length cap] w (OfOut bs w):=by
 have HTK:=Lib.hid (fun (W:World) (hW:Keeps w W) (p:Int) (rd:Option (List Int)) (hp:Pos bs p rd) (most:Nat) (hm:most ≤ 1073741825)=>take28_calls a cap bs W (h.keeps hW) hb (by omega) p rd hp most hm)
 have HTE:=Lib.hid (fun (W:World) (hW:Keeps w W) (p:Int) (rd:Option (List Int)) (hp:Pos bs p rd) (f:Int) (ia:Option Addr) (icap:Nat) (ids:List Int) (hi:UAt W ia ids) (hil:ids.length ≤ 1048576)=>takeEdge_calls a cap bs W (h.keeps hW) hb hl p rd hp f ia icap ids hi hil)
 have HBA:=Lib.hid h
 have HIB:=Lib.hid hb
 obtain ⟨L,hL⟩:∃ L,L=bs.length:=⟨_,rfl⟩
 rw [← hL] at HTK HTE hl ⊢
 have HL:=Lib.hid hL
 have HT1:=Lib.hid (fun (W:World) (hW:Keeps w W)=>HTK.out W hW 0 _ (Pos.start bs) 16 (by omega))
 have hn16:=numR_most 16 (some bs)
 obtain ⟨⟨n0,rd0⟩,hn0⟩:∃ q,q=numR 16 (some bs):=⟨_,rfl⟩
 rw [← hn0] at HT1 hn16
 have HT2:=Lib.hid (fun (W:World) (hW:Keeps w W) (p:Int) (hp:Pos bs p rd0)=>HTK.out W hW p _ hp 5 (by omega))
 have hf5:=numR_most 5 rd0
 obtain ⟨⟨f0,rd1⟩,hf0⟩:∃ q,q=numR 5 rd0:=⟨_,rfl⟩
 rw [← hf0] at HT2 hf5
 simp only [] at hn16 hf5
 have HN0:=Lib.hid hn0
 have HF0:=Lib.hid hf0
 have hwf:IntKind.u8.wrap (f0:Int)=(f0:Int):=by rw [wrap_byte,Nat.mod_eq_of_lt (by omega)]
 clear h hb hL hn0 hf0
 go_enter Tryz.func12,Tryz.ntmps12
 go_wp2_with fail
 refine (HT1.out _ (by (exact kp))).mono ?_
 rintro e w1 ⟨⟨p0,rfl,hp0⟩,rfl⟩
 have HP0:=Lib.hid hp0
 clear hp0
 go_wp2_with fail
 refine (HT2.out _ (by (exact kp)) p0 HP0.out).mono ?_
 rintro e w1 ⟨⟨p1,rfl,hp1⟩,rfl⟩
 have HP1:=Lib.hid hp1
 clear hp1 HP0
 obtain ⟨W1,hW1⟩:∃ W,W=w.alloc (.cells #[.pointer none,.slice none 0 0,.int .u8 0,.int .u8 0,.int .u32 0] 45):=⟨_,rfl⟩
 have hk1:Keeps w W1:=by rw [hW1];exact (Keeps.refl w).alloc _
 have s1:w.heap.size < W1.heap.size:=by rw [hW1];simp
 have z0:W1.cell? ⟨w.heap.size,0,none⟩=some (.pointer none):=by rw [hW1];simp
 have z1:W1.cell? ⟨w.heap.size,1,none⟩=some (.slice none 0 0):=by rw [hW1];simp
 have z2:W1.cell? ⟨w.heap.size,2,none⟩=some (.int .u8 0):=by rw [hW1];simp
 have z3:W1.cell? ⟨w.heap.size,3,none⟩=some (.int .u8 0):=by rw [hW1];simp
 have z4:W1.cell? ⟨w.heap.size,4,none⟩=some (.int .u32 0):=by rw [hW1];simp
 have zf:∀ o:Nat,W1.frozen? ⟨w.heap.size,o,none⟩=false:=fun o=>by rw [hW1];simp [go_sem]
 rw [← hW1]
 clear hW1
 go_wp2_with fail
 obtain ⟨W2,hW2⟩:∃ W,W=(W1.alloc (.cells #[.slice none 0 0,.slice none 0 0,.int .u32 0,.int .i64 (n0:Int),.int .i64 (L:Int)] 51)).alloc (.cells #[.pointer (some ⟨W1.heap.size,0,none⟩),.slice none 0 0,.int .u8 (f0:Int),.int .u8 0,.int .u32 0] 45):=⟨_,rfl⟩
 have hk2:Keeps W1 W2:=by rw [hW2];exact ((Keeps.refl W1).alloc _).alloc _
 have s2:W2.heap.size=W1.heap.size + 2:=by rw [hW2];simp
 have hRR:ReadRep W2 (W1.heap.size + 1) W1.heap.size (f0:Int) [] ⟨0,0⟩:=by
  rw [hW2]
  refine ⟨⟨.slice none 0 0,?_,World.ownsRow_nil _ _ _ _⟩⟩
  have q:=heap_alloc_new (W1.alloc (.cells #[.slice none 0 0,.slice none 0 0,.int .u32 0,.int .i64 (n0:Int),.int .i64 (L:Int)] 51)) (.cells #[.pointer (some ⟨W1.heap.size,0,none⟩),.slice none 0 0,.int .u8 (f0:Int),.int .u8 0,.int .u32 0] 45)
  rw [World.size_alloc] at q
  exact q
 have hMR:RefRep (fun k=>k=W1.heap.size) W2 W1.heap.size (St.new (n0:Int) (L:Int)) []:=by
  rw [hW2]
  exact (RefRep.fresh W1 (n0:Int) (L:Int) (by omega) (by omega) (by omega) (by omega)).keeps ((Keeps.refl _).alloc _)
 have HK2:=Lib.hid (hk1.trans hk2)
 have HRR:=Lib.hid hRR
 have HMR:=Lib.hid hMR
 replace z0:=hk2.cell z0
 replace z1:=hk2.cell z1
 replace z2:=hk2.cell z2
 replace z3:=hk2.cell z3
 replace z4:=hk2.cell z4
 replace zf:=fun o:Nat=>hk2.frz (a:=⟨w.heap.size,o,none⟩) (by show w.heap.size < _;omega) (zf o)
 rw [← hW2]
 obtain ⟨X,hX⟩:∃ X,X=W1.heap.size + 1:=⟨_,rfl⟩
 obtain ⟨mb,hmb⟩:∃ mb,mb=W1.heap.size:=⟨_,rfl⟩
 rw [← hX] at HRR ⊢
 rw [← hmb] at HRR HMR ⊢
 have hmX:mb < X:=by omega
 have hwm:w.heap.size < mb:=by omega
 have hXs:X < W2.heap.size:=by omega
 obtain ⟨i0,hi0,hz0,hz1,hz2⟩:=info_parts info_int
 clear hW2 hRR hMR hk1 hk2 hX hmb s1 s2
 go_loopg [5,8] n0 (fun gk s5 s8 wr=>∃ (d:Nat) (pre:List Int) (rd:Option (List Int)) (p:Int),s8=.int .i64 (d:Int) ∧ s5=.int .i64 p ∧ d + gk=n0 ∧ NumsAt n0 rd1 d pre rd ∧ Pos bs p rd ∧ ReadRep wr X mb (f0:Int) pre ⟨0,0⟩ ∧ Upd (fun j=>X ≤ j) W2 wr)
 case atStart=>exact ⟨0,[],rd1,p1,rfl,rfl,by omega,NumsAt.start _ _,HP1.out,HRR.out,Upd.refl _ _⟩
 case round=>
  obtain ⟨d,pre,rd,p,rfl,rfl,hd,hA,hP,hR,hU⟩:=hrel
  have HA:=Lib.hid hA
  have HP:=Lib.hid hP
  have HR:=Lib.hid hR
  have HU:=Lib.hid hU
  have hkw:Keeps w wr:=HK2.out.new hU (fun k hk=>by omega)
  have HKW:=Lib.hid hkw
  have hrs:=hU.size
  clear hA hP hU hkw
  by_cases hlt:d < n0
  ·have i1:(d:Int) < (n0:Int):=by omega
   have HNX:=Lib.hid (HTK.out wr HKW.out p rd HP.out 16 (by omega))
   have hna:=HA.out.next hlt
   have hx16:=numR_most 16 rd
   obtain ⟨⟨n,rd'⟩,hnr⟩:∃ q,q=numR 16 rd:=⟨_,rfl⟩
   rw [← hnr] at HNX hna hx16
   simp only [] at hx16 hna
   have HNA:=Lib.hid hna
   have HNL:Hid (pre.length ≤ 16):=Lib.hid (by rw [HA.out.len];omega)
   obtain ⟨pv,k1,k2⟩:=hR.ex
   have K1:=Lib.hid k1
   have K2:=Lib.hid k2
   have e1:wr.cell? ⟨X,1,none⟩=some pv:=by rw [cell_of_row wr X 1 _ _ _ k1];rfl
   have xl:X < wr.heap.size:=lt_of_heap k1
   have xln:X ≠ wr.heap.size:=by omega
   clear hna hnr hR k1 k2
   go_upto_region 8 with (first | (go_at_call 42;refine HNX.out.mono ?_;rintro e w5 ⟨⟨p',rfl,hp'⟩,rfl⟩;have HPN:=Lib.hid hp';clear hp') | fail)
   go_wp2_with (first
    | (at_builtin;refine wpList_append_fresh rfl _ _ 23 rfl X 3 i0 (.int .i64 0) 1 8 Tryz.underlying23 hi0 hz0 hz1 hz2 rfl (by decide) pv pre.length (pre.map (Value.int .i64)) rfl (((Keeps.refl wr).alloc (.cells #[.int .i64 (n:Int)] 3)).owns K2.out) ⟨wr.heap.size,0,none⟩ 1 1 [.int .i64 (n:Int)] rfl rfl (cell_new _ _ _ _ rfl) (by intro u hu;rw [List.mem_singleton] at hu;subst hu;rfl) (by have:=HNL.out;unfold maxLen;omega) (by have:=HNL.out;omega) (by rw [World.size_alloc];omega) ?_;intro v6 w6 hr6 hg6 _;have HPK:=Lib.hid (read_grown (e:=⟨0,0⟩) (f:=(f0:Int)) (mb:=mb) K1.out K2.out hr6 hg6);obtain ⟨va,vcap,rfl,-⟩:=owns_slice hr6;have q1:w6.cell? ⟨X,1,none⟩=some pv:=HPK.out.1;have qf:=HPK.out.2.1;clear hr6 hg6)
    | fail)
   go_roundg (gk - 1)
   case rel=>exact ⟨d + 1,pre ++ [(n:Int)],rd',p',by simp,rfl,by omega,HNA.out,HPN.out,HPK.out.2.2.1,HU.out.trans' HPK.out.2.2.2⟩
   case measure=>omega
  ·have hdn:d=n0:=by omega
   subst hdn
   have gd:¬ ((d:Int) < (d:Int)):=by omega
   obtain ⟨hpre,hrd⟩:=HA.out.end
   have HPRE:=Lib.hid hpre
   have HRD:=Lib.hid hrd
   have HT3:=Lib.hid (HTK.out wr HKW.out p rd HP.out L (by omega))
   have hk0:=numR_most L rd
   obtain ⟨⟨k0,rd2⟩,hk⟩:∃ q,q=numR L rd:=⟨_,rfl⟩
   rw [← hk] at HT3 hk0
   simp only [] at hk0
   have HK0:=Lib.hid hk
   obtain ⟨pa,pcap,c1,hpi⟩:=hR.row
   have c0:=hR.cells.1
   have c2:=hR.cells.2.1
   have c3:=hR.cells.2.2.1
   have c4:=hR.cells.2.2.2.1
   have cf:=hR.cells.2.2.2.2
   have hpl:pre.length=d:=HA.out.len
   have HR2:=Lib.hid (refRight_calls pa pcap pre wr hpi (by omega))
   have HPI:=Lib.hid hpi
   have xl:X < wr.heap.size:=hR.lt
   rw [hpl] at c1 HR2
   have nw:¬ (X ≤ w.heap.size):=by omega
   have z0:=HU.out.cellAt nw z0
   have z1:=HU.out.cellAt nw z1
   have z2:=HU.out.cellAt nw z2
   have z3:=HU.out.cellAt nw z3
   have z4:=HU.out.cellAt nw z4
   have zf:=fun o:Nat=>HU.out.frzAt (by omega) nw (zf o)
   clear hpre hrd hk hR hpi hpl
   go_wp2_with fail
   refine HT3.out.mono ?_
   rintro e w5 ⟨⟨p2,rfl,hp2⟩,rfl⟩
   have HP2:=Lib.hid hp2
   clear hp2
   have hrb:=readB_eq bs
   have hn0:=HN0.out
   have hf0:=HF0.out
   have hk0e:=HK0.out
   have hprE:=HPRE.out
   have hrdE:=HRD.out
   rw [HL.out] at hk0e
   rw [← hn0] at hrb
   simp only [] at hrb
   rw [← hf0] at hrb
   simp only [] at hrb
   rw [← hprE,← hrdE,← hk0e] at hrb
   simp only [] at hrb
   have HRB:=Lib.hid hrb
   clear hrb hn0 hf0 hk0e hprE hrdE
   by_cases hp2n:p2 < 0
   ·have hnone:=HP2.out.neg.1 hp2n
    have HNO:Hid (readB bs=none):=Lib.hid (by rw [HRB.out,hnone,recsR_none,edgeR_none,if_neg (fun h=>by cases h.1)])
    clear hnone
    go_wp2_with fail
    refine bodyPost_ret (v:=.tuple #[.agg #[.pointer none,.slice none 0 0,.int .u8 0,.int .u8 0,.int .u32 0],.bool false]) (by simp [results,Tryz.results12,go_sem,z0,z1,z2,z3,z4]) rfl ?_
    exact ⟨by have hkw:=HKW.out;(exact kp),.inr ⟨fun T M1 ids hg=>(by have q:=hg.read;rw [HNO.out] at q;cases q),rfl⟩⟩
   ·by_cases hf1:f0 < 1
    ·have HNO:Hid (readB bs=none):=Lib.hid (by rw [HRB.out,if_neg (fun h=>by have:=h.2;omega)])
     have g1:((f0:Int) < 1):=by omega
     clear hf1
     go_wp2_with fail
     refine bodyPost_ret (v:=.tuple #[.agg #[.pointer none,.slice none 0 0,.int .u8 0,.int .u8 0,.int .u32 0],.bool false]) (by simp [results,Tryz.results12,go_sem,z0,z1,z2,z3,z4]) rfl ?_
     exact ⟨by have hkw:=HKW.out;(exact kp),.inr ⟨fun T M1 ids hg=>(by have q:=hg.read;rw [HNO.out] at q;cases q),rfl⟩⟩
    ·have g1:¬ ((f0:Int) < 1):=by omega
     cases hpb:permB pre with
     | false=>
      rw [hpb] at HR2
      have HPB:=Lib.hid hpb
      clear hpb
      go_wp2_with (first | (go_at_call 14;refine HR2.out.mono ?_;rintro e w5 ⟨rfl,rfl⟩) | fail)
      refine bodyPost_ret (v:=.tuple #[.agg #[.pointer none,.slice none 0 0,.int .u8 0,.int .u8 0,.int .u32 0],.bool false]) (by simp [results,Tryz.results12,go_sem,z0,z1,z2,z3,z4]) rfl ?_
      refine ⟨by have hkw:=HKW.out;(exact kp),.inr ⟨fun T M1 ids hg=>?_,rfl⟩⟩
      have q:=hg.read
      rw [HRB.out] at q
      split at q
      ·cases q
       have q2:=hg.perm
       rw [HPB.out] at q2
       cases q2
      ·cases q
     | true=>
      rw [hpb] at HR2
      have HPB:=Lib.hid hpb
      clear hpb
      go_wp2_with (first | (go_at_call 14;refine HR2.out.mono ?_;rintro e w5 ⟨rfl,rfl⟩) | fail)
      obtain ⟨W3,hW3⟩:∃ W,W=wr:=⟨wr,rfl⟩
      have HR3:=HR
      rw [← hW3] at HR3
      have HMR3:Hid (RefRep (fun k=>k=mb) wr mb (St.new (d:Int) (L:Int)) []):=Lib.hid (HMR.out.keep HU.out (fun k hk h=>by have e1:k=mb:=hk;have e2:X ≤ k:=h;omega))
      rw [← hW3] at HMR3 HKW HPI c0 c1 c2 c3 c4 cf xl z0 z1 z2 z3 z4 zf ⊢
      have hrs3:W2.heap.size ≤ W3.heap.size:=by rw [hW3];exact hrs
      clear hW3 HR HU hrs HR2 HA HP
      obtain ⟨l,hl0⟩:∃ l,l=(recsR (f0:Int) k0 0 rd2).1:=⟨_,rfl⟩
      have HLL:=Lib.hid hl0
      clear hl0
      obtain ⟨j0,hj0,jz0,jz1,jz2⟩:=info_parts info_u32
      have hlw:w.heap.size < W3.heap.size:=by omega
      go_loopg [5,12,13] k0 (fun gk s5 s12 s13 wr=>∃ (i:Nat) (pr:List Rec) (rdi:Option (List Int)) (p:Int) (M:St) (ids:List Int) (G:Nat → Prop) (iv:Value) (Ls:List (Int × Rec)),s13=.int .i64 (i:Int) ∧ s5=.int .i64 p ∧ s12=iv ∧ i + gk=k0 ∧ RecsAt (f0:Int) k0 rd2 i pr rdi ∧ Pos bs p rdi ∧ PutAt l (St.new (d:Int) (L:Int)) i M ids ∧ RefRep G wr mb M Ls ∧ wr.ownsRow W3.heap.size 35 1 iv ids.length (ids.map (Value.int .u32)) ∧ (∀ k,iv.ownBlock=some k → ¬ G k) ∧ (∀ k,G k → k=mb ∨ W3.heap.size ≤ k) ∧ Upd (fun j=>j=mb) W3 wr)
      case atStart=>exact ⟨0,[],rd2,p2,_,[],_,_,_,rfl,rfl,rfl,by omega,RecsAt.start _ _ _,HP2.out,PutAt.start HMR3.out.wf _,HMR3.out,World.ownsRow_nil _ _ _ _,fun k hk=>by simp [Value.ownBlock] at hk,fun k hk=>.inl hk,Upd.refl _ _⟩
      case round=>
       obtain ⟨i,pr,rdi,p,M,ids,G,iv,Ls,rfl,rfl,rfl,hi,hA,hP,hPA,hM,hrow,hiv,hG,hU⟩:=hrel
       obtain ⟨ia,icap,rfl,hia⟩:=owns_slice hrow
       have hua:UAt wr ia ids:=fun j x hx=>by
        have hj:=(List.getElem?_eq_some_iff.1 hx).1
        obtain ⟨g,rfl⟩:=hia (by omega)
        refine ⟨g,0,rfl,?_⟩
        have hc:=World.ownsRow.cellAt hrow (j:=j) (by omega)
        rw [Nat.zero_add,hc,List.getElem?_map,hx]
        rfl
       have hil:ids.length=i:=hPA.len
       rw [hil] at hrow hiv
       have hfew:=hM.few
       have hids:∀ y ∈ ids,2 ≤ y ∧ y ≤ 4294967295:=fun y hy=>id_range hPA.wf (by omega) (hPA.ids y hy)
       have HIDS:=Lib.hid hids
       rw [hil]
       have HUA:=Lib.hid hua
       have HIL:=Lib.hid hil
       have HA:=Lib.hid hA
       have HP:=Lib.hid hP
       have HPA:=Lib.hid hPA
       have HM:=Lib.hid hM
       have HROW:=Lib.hid hrow
       have HIV:=Lib.hid hiv
       have HG:=Lib.hid hG
       have HU:=Lib.hid hU
       have hkw:Keeps w wr:=HKW.out.new hU (fun k hk=>by have e:k=mb:=hk;omega)
       have HKR:=Lib.hid hkw
       have nX:¬ (X=mb):=by omega
       have nwm:¬ (w.heap.size=mb):=by omega
       have b0:=hU.cellAt nX c0
       have b2:=hU.cellAt nX c2
       have b3:=hU.cellAt nX c3
       have b4:=hU.cellAt nX c4
       have y0:=hU.cellAt nwm z0
       have y1:=hU.cellAt nwm z1
       have y2:=hU.cellAt nwm z2
       have y3:=hU.cellAt nwm z3
       have y4:=hU.cellAt nwm z4
       have yf:=fun o:Nat=>hU.frzAt hlw nwm (zf o)
       have bf:=fun o:Nat=>hU.frzAt xl nX (cf o)
       have sr:=hU.size
       clear hids hua hia hA hP hPA hM hrow hiv hG hU hkw hil
       by_cases hlt:i < k0
       ·have i1:(i:Int) < (k0:Int):=by omega
        have hnx:=HA.out.next hlt
        have hgt:=HA.out.get hlt
        rw [← HLL.out] at hgt
        have hnum:=recR_num (f0:Int) i rdi
        unfold recR at hnx hgt hnum
        have HN1:=Lib.hid (HTK.out wr HKR.out p rdi HP.out 16 (by omega))
        have hn1:=numR_most 16 rdi
        have hn2':(botR (f0:Int) rdi).1 ≤ 16:=by unfold botR;split;exact numR_most _ _;exact hn1
        have hbt:((f0:Int)=3 ∨ (f0:Int)=4 → botR (f0:Int) rdi=numR 16 (numR 16 rdi).2) ∧ (¬ ((f0:Int)=3 ∨ (f0:Int)=4) → botR (f0:Int) rdi=numR 16 rdi):=⟨fun h=>if_pos h,fun h=>if_neg h⟩
        obtain ⟨⟨nb,rdB⟩,hnB⟩:∃ q,q=botR (f0:Int) rdi:=⟨_,rfl⟩
        rw [← hnB] at hnx hbt hn2' hgt hnum
        obtain ⟨⟨n1,rdA⟩,hnA⟩:∃ q,q=numR 16 rdi:=⟨_,rfl⟩
        rw [← hnA] at HN1 hn1 hbt hnx hgt hnum
        simp only [] at hn1 hn2' hnx hbt hgt hnum
        obtain ⟨⟨lo,rdC⟩,hlo⟩:∃ q,q=edgeR (f0:Int) i rdB:=⟨_,rfl⟩
        rw [← hlo] at hnx hgt hnum
        simp only [] at hnx hgt hnum
        obtain ⟨⟨hh,rdE⟩,hhh⟩:∃ q,q=edgeR (f0:Int) i rdC:=⟨_,rfl⟩
        rw [← hhh] at hnx hgt hnum
        simp only [] at hnx hgt hnum
        obtain ⟨lo2,hlo2⟩:∃ q,q=atR ids lo:=⟨_,rfl⟩
        obtain ⟨hi2,hhi2⟩:∃ q,q=atR ids hh:=⟨_,rfl⟩
        have HN2:=Lib.hid (fun (q:Int) (hq:Pos bs q rdA)=>HTK.out wr HKR.out q rdA hq 16 (by omega))
        have HE3:=Lib.hid (fun (q:Int) (hq:Pos bs q rdB)=>HTE.out wr HKR.out q rdB hq (f0:Int) ia icap ids HUA.out (by have:=HIL.out;omega))
        have HE4:=Lib.hid (fun (W:World) (hW:Keeps wr W) (q:Int) (hq:Pos bs q rdC)=>HTE.out W (HKR.out.trans hW) q rdC hq (f0:Int) ia icap ids (HUA.out.keeps hW) (by have:=HIL.out;omega))
        simp only [HIL.out,← hlo,← hlo2] at HE3
        simp only [HIL.out,← hhh,← hhi2] at HE4
        have hok:=(atRec_ok hnum (by omega) (by omega) HIDS.out).1
        have HFI:=Lib.hid (fun (W:World) (hW:RefRep G W mb M Ls)=>ref_find hW (atRec ids ⟨(f0:Int),(n1:Int),(nb:Int),lo,hh⟩) hok)
        have HPX:Hid (M.findErr (atRec ids ⟨(f0:Int),(n1:Int),(nb:Int),lo,hh⟩)=0 → PutAt l (St.new (d:Int) (L:Int)) (i + 1) (M.findSt (atRec ids ⟨(f0:Int),(n1:Int),(nb:Int),lo,hh⟩)) (ids ++ [M.findId (atRec ids ⟨(f0:Int),(n1:Int),(nb:Int),lo,hh⟩)])):=Lib.hid (fun h=>HPA.out.next hgt h)
        have HPB2:Hid (M.findErr (atRec ids ⟨(f0:Int),(n1:Int),(nb:Int),lo,hh⟩) ≠ 0 → putL l (St.new (d:Int) (L:Int)) []=(M.findErr (atRec ids ⟨(f0:Int),(n1:Int),(nb:Int),lo,hh⟩),M,ids)):=Lib.hid (fun h=>HPA.out.bad hgt h)
        have hat:atRec ids ⟨(f0:Int),(n1:Int),(nb:Int),lo,hh⟩=⟨(f0:Int),(n1:Int),(nb:Int),lo2,hi2⟩:=by rw [hlo2,hhi2];rfl
        rw [hat] at HFI HPX HPB2
        obtain ⟨id,hid⟩:∃ q,q=M.findId ⟨(f0:Int),(n1:Int),(nb:Int),lo2,hi2⟩:=⟨_,rfl⟩
        obtain ⟨er,her⟩:∃ q,q=M.findErr ⟨(f0:Int),(n1:Int),(nb:Int),lo2,hi2⟩:=⟨_,rfl⟩
        obtain ⟨M2,hM2⟩:∃ q,q=M.findSt ⟨(f0:Int),(n1:Int),(nb:Int),lo2,hi2⟩:=⟨_,rfl⟩
        rw [← hid,← her,← hM2] at HFI
        rw [← hid,← her,← hM2] at HPX
        rw [← her] at HPB2
        have hw1:IntKind.u8.wrap (n1:Int)=(n1:Int):=by rw [wrap_byte,Nat.mod_eq_of_lt (by omega)]
        have hw2:IntKind.u8.wrap (nb:Int)=(nb:Int):=by rw [wrap_byte,Nat.mod_eq_of_lt (by omega)]
        have HNX:=Lib.hid hnx
        have HBT:=Lib.hid hbt
        have bw0:=b0
        have bw2:=b2
        clear hnx hgt hnum hbt hnB hnA hlo hhh hlo2 hhi2 hok hat hid her hM2
        go_wp2_with fail
        refine HN1.out.mono ?_
        rintro e w5 ⟨⟨pA,rfl,hpA⟩,rfl⟩
        have HPA1:=Lib.hid hpA
        clear hpA
        by_cases hch:(f0:Int)=3 ∨ (f0:Int)=4
        ·have hba:=HBT.out.1 hch
         (try simp only [] at hba)
         have HN3:=Lib.hid (HN2.out pA HPA1.out)
         rw [← hba] at HN3
         have HCH:=Lib.hid hch
         clear hba hch
         go_upto_region 19 with fail
         go_cut [98] (fun s98 wx=>s98=.bool true ∧ wr=wx)
         case first=>
          by_cases h3:(f0:Int)=3
          ·have g3:((f0:Int) == 3)=true:=by simp [h3]
           clear h3
           go_wp2_with fail
           go_meet
           exact ⟨rfl,rfl⟩
          ·have g3:((f0:Int) == 3)=false:=by simp [h3]
           have g4:((f0:Int) == 4)=true:=by simp;have:=HCH.out;omega
           clear h3
           go_wp2_with fail
           go_meet
           exact ⟨rfl,rfl⟩
         case rest=>
          obtain ⟨rfl,rfl⟩:=hcut
          go_wp2_with fail
          refine HN3.out.mono ?_
          rintro e w5 ⟨⟨pB,rfl,hpB⟩,rfl⟩
          have HPB:=Lib.hid hpB
          clear hpB
          go_wp2_with fail
          refine (HE3.out pB HPB.out).mono ?_
          rintro e w4 ⟨⟨pC,x1,rfl,hx1,hpC⟩,hk4⟩
          have hx1':=hx1.symm
          subst hx1'
          have HPC:=Lib.hid hpC
          have b0:=hk4.cell bw0
          have b2:=hk4.cell bw2
          have s4:=hk4.size
          have xl4:X < w4.heap.size:=by omega
          clear hpC hx1
          go_wp2_with fail
          refine (HE4.out _ (by (exact kp)) pC HPC.out).mono ?_
          rintro e w6 ⟨⟨pE,x2,rfl,hx2,hpE⟩,hk6⟩
          have hx2':=hx2.symm
          subst hx2'
          have HPE:=Lib.hid hpE
          have hkr6:Keeps wr w6:=by (exact kp)
          have b0:=hkr6.cell bw0
          have b2:=hkr6.cell bw2
          have v0:w6.cell? ⟨w4.heap.size,0,none⟩=some (.int .u8 lo2.tag):=hk6.cell (by simp)
          have v1:w6.cell? ⟨w4.heap.size,1,none⟩=some (.int .u32 lo2.to):=hk6.cell (by simp)
          have s6:=hk6.size
          simp only [World.size_alloc] at s6
          have xl6:X < w6.heap.size:=by omega
          have wl6:w4.heap.size < w6.heap.size:=by omega
          have wn6:w4.heap.size ≠ w6.heap.size:=by omega
          have xn6:X ≠ w6.heap.size:=by omega
          have HKR6:=Lib.hid hkr6
          clear hpE hx2 hk4 hk6 hkr6
          go_wp2_with fail
          have hk7:Keeps w6 (w6.alloc (.cells #[.int .u8 hi2.tag,.int .u32 hi2.to] 37)):=(Keeps.refl w6).alloc _
          obtain ⟨W7,hW7⟩:∃ W,W=w6.alloc (.cells #[.int .u8 hi2.tag,.int .u32 hi2.to] 37):=⟨_,rfl⟩
          rw [← hW7] at hk7 ⊢
          have s7:w6.heap.size < W7.heap.size:=by rw [hW7];simp
          clear hW7
          refine (HFI.out _ (HM.out.keeps (HKR6.out.trans hk7))).mono ?_
          rintro e w8 ⟨rfl,hu8,hM8⟩
          have HK7:=Lib.hid (HKR6.out.trans hk7)
          have HU8:=Lib.hid hu8
          have HM8:=Lib.hid hM8
          have nG:¬ G w.heap.size:=fun hh=>by rcases HG.out _ hh with h | h <;> omega
          have nGX:¬ G X:=fun hh=>by rcases HG.out _ hh with h | h <;> omega
          have u0:=hu8.cellAt nG (HK7.out.cell y0)
          have u1:=hu8.cellAt nG (HK7.out.cell y1)
          have u2:=hu8.cellAt nG (HK7.out.cell y2)
          have u3:=hu8.cellAt nG (HK7.out.cell y3)
          have u4:=hu8.cellAt nG (HK7.out.cell y4)
          have uf:=fun o:Nat=>hu8.frzAt (by omega) nG (HK7.out.frz (a:=⟨w.heap.size,o,none⟩) (by show w.heap.size < _;omega) (yf o))
          have s8:=hu8.size
          have HKW8:Hid (Keeps w w8):=Lib.hid ((HKR.out.trans HK7.out).new hu8 (fun k hk=>by rcases HG.out _ hk with h | h <;> omega))
          clear hu8 hM8 hk7
          by_cases hpn:pE < 0
          ·have HNO:Hid (readB bs=none):=Lib.hid (by
            have hnone:=HPE.out.neg.1 hpn
            have q:=HNX.out
            rw [hnone] at q
            rw [HRB.out,q.bad,edgeR_none,if_neg (fun h=>by cases h.1)])
           go_wp2_with fail
           refine bodyPost_ret (v:=.tuple #[.agg #[.pointer none,.slice none 0 0,.int .u8 0,.int .u8 0,.int .u32 0],.bool false]) (by simp [results,Tryz.results12,go_sem,u0,u1,u2,u3,u4]) rfl ?_
           exact ⟨by have hkw:=HKW8.out;(exact kp),.inr ⟨fun T M1 ids hg=>(by have q:=hg.read;rw [HNO.out] at q;cases q),rfl⟩⟩
          ·by_cases he0:er=0
           ·have HPN:=Lib.hid (HPX.out he0)
            subst he0
            have hrow8:w8.ownsRow W3.heap.size 35 1 (.slice ia i icap) i (ids.map (Value.int .u32)):=HU8.out.owns (fun k hk=>HIV.out k hk) (HK7.out.owns HROW.out)
            have HR8:=Lib.hid hrow8
            have HILL:Hid (i ≤ 1048576):=Lib.hid (by omega)
            clear hrow8
            go_upto_region 26 with fail
            go_wp2_with (first
             | (at_builtin;refine wpList_append_fresh rfl _ _ 49 rfl W3.heap.size 35 j0 (.int .u32 0) 1 4 Tryz.underlying49 hj0 jz0 jz1 jz2 rfl (by decide) (.slice ia i icap) i (ids.map (Value.int .u32)) rfl (((Keeps.refl w8).alloc (.cells #[.int .u32 id] 35)).owns HR8.out) ⟨w8.heap.size,0,none⟩ 1 1 [.int .u32 id] rfl rfl (cell_new _ _ _ _ rfl) (by intro u hu;rw [List.mem_singleton] at hu;subst hu;rfl) (by have:=HILL.out;unfold maxLen;omega) (by have:=HILL.out;omega) (by rw [World.size_alloc];omega) ?_;intro v9 w9 hr9 hg9 hf9;have HR9:=Lib.hid hr9;have HG9:=Lib.hid hg9;have HF9:=Lib.hid hf9;clear hr9 hg9 hf9)
             | fail)
            have hu9:Upd (fun k=>(Value.slice ia i icap).ownBlock=some k) w8 w9:=(((Keeps.refl w8).alloc (.cells #[.int .u32 id] 35)).upd _).trans' ⟨HG9.out.os,HG9.out.tape,HG9.out.output,HG9.out.size,fun i hi hne=>HG9.out.block i hi (fun e=>hne e.symm)⟩
            have hivl:∀ k,(Value.slice ia i icap).ownBlock=some k → k < wr.heap.size:=fun k hk=>by obtain ⟨cs,hc⟩:=owns_type HROW.out hk;exact lt_of_heap hc
            have HU9:=Lib.hid hu9
            have HIVL:=Lib.hid hivl
            clear hu9 hivl
            go_roundg (gk - 1)
            case rel=>
             refine ⟨i + 1,_,rdE,pE,M2,ids ++ [id],Grow G W7 w8,v9,_,by simp,rfl,rfl,by omega,HNX.out,HPE.out,HPN.out,HM8.out.keep HU9.out (fun k hk he=>?_),?_,fun k hk hg=>?_,fun k hk=>?_,?_⟩
             ·rcases hk with hk | hk
              ·exact HIV.out k he hk
              ·have:=HIVL.out k he
               have:=HK7.out.size
               omega
             ·have q:=HR9.out
              rw [List.map_append,List.length_append,HIL.out]
              exact q
             ·rcases HF9.out k hk with h1 | h1
              ·rcases hg with hg | hg
               ·exact HIV.out k h1 hg
               ·have:=HIVL.out k h1
                have:=HK7.out.size
                omega
              ·rw [World.size_alloc] at h1
               rcases hg with hg | hg
               ·have:=HM.out.lt k hg
                have:=HK7.out.size
                omega
               ·omega
             ·rcases hk with hk | hk
              ·exact HG.out k hk
              ·have:=HK7.out.size
               exact .inr (by omega)
             ·refine (((HU.out.trans' (HK7.out.upd _)).later HU8.out (fun k h1 h2=>?_)).later HU9.out (fun k h1 h2=>?_))
              ·rcases HG.out k h2 with h | h
               ·exact h
               ·omega
              ·have:=row_from HROW.out h2
               omega
            case measure=>omega
           ·have gne:(er != 0)=true:=by simp [he0]
            have HNO:Hid (∀ T M1 ids',¬ GoodD bs T M1 ids'):=Lib.hid (fun T M1 ids' hg=>by
             have q:=hg.read
             rw [HRB.out] at q
             split at q
             ·cases q
              have q2:=hg.put
              have q3:=HPB2.out he0
              rw [← HL.out] at q2
              simp only [← HLL.out] at q2
              rw [q3] at q2
              cases q2
              exact he0 rfl
             ·cases q)
            go_wp2_with fail
            refine bodyPost_ret (v:=.tuple #[.agg #[.pointer none,.slice none 0 0,.int .u8 0,.int .u8 0,.int .u32 0],.bool false]) (by simp [results,Tryz.results12,go_sem,u0,u1,u2,u3,u4]) rfl ?_
            exact ⟨by have hkw:=HKW8.out;(exact kp),.inr ⟨HNO.out,rfl⟩⟩
        ·have hba:=HBT.out.2 hch
         have HCH:=Lib.hid hch
         have g3:((f0:Int) == 3)=false:=by simp;omega
         have g4:((f0:Int) == 4)=false:=by simp;omega
         obtain ⟨e1n,e1r⟩:=Prod.mk.inj hba
         subst e1n
         subst e1r
         obtain ⟨pB,hpB⟩:∃ pB,pB=pA:=⟨_,rfl⟩
         rw [← hpB] at HPA1 ⊢
         have HPB:=HPA1
         clear hba hch hpB HPA1
         go_wp2_with fail
         refine (HE3.out pB HPB.out).mono ?_
         rintro e w4 ⟨⟨pC,x1,rfl,hx1,hpC⟩,hk4⟩
         have hx1':=hx1.symm
         subst hx1'
         have HPC:=Lib.hid hpC
         have b0:=hk4.cell bw0
         have b2:=hk4.cell bw2
         have s4:=hk4.size
         have xl4:X < w4.heap.size:=by omega
         clear hpC hx1
         go_wp2_with fail
         refine (HE4.out _ (by (exact kp)) pC HPC.out).mono ?_
         rintro e w6 ⟨⟨pE,x2,rfl,hx2,hpE⟩,hk6⟩
         have hx2':=hx2.symm
         subst hx2'
         have HPE:=Lib.hid hpE
         have hkr6:Keeps wr w6:=by (exact kp)
         have b0:=hkr6.cell bw0
         have b2:=hkr6.cell bw2
         have v0:w6.cell? ⟨w4.heap.size,0,none⟩=some (.int .u8 lo2.tag):=hk6.cell (by simp)
         have v1:w6.cell? ⟨w4.heap.size,1,none⟩=some (.int .u32 lo2.to):=hk6.cell (by simp)
         have s6:=hk6.size
         simp only [World.size_alloc] at s6
         have xl6:X < w6.heap.size:=by omega
         have wl6:w4.heap.size < w6.heap.size:=by omega
         have wn6:w4.heap.size ≠ w6.heap.size:=by omega
         have xn6:X ≠ w6.heap.size:=by omega
         have HKR6:=Lib.hid hkr6
         clear hpE hx2 hk4 hk6 hkr6
         go_wp2_with fail
         have hk7:Keeps w6 (w6.alloc (.cells #[.int .u8 hi2.tag,.int .u32 hi2.to] 37)):=(Keeps.refl w6).alloc _
         obtain ⟨W7,hW7⟩:∃ W,W=w6.alloc (.cells #[.int .u8 hi2.tag,.int .u32 hi2.to] 37):=⟨_,rfl⟩
         rw [← hW7] at hk7 ⊢
         have s7:w6.heap.size < W7.heap.size:=by rw [hW7];simp
         clear hW7
         refine (HFI.out _ (HM.out.keeps (HKR6.out.trans hk7))).mono ?_
         rintro e w8 ⟨rfl,hu8,hM8⟩
         have HK7:=Lib.hid (HKR6.out.trans hk7)
         have HU8:=Lib.hid hu8
         have HM8:=Lib.hid hM8
         have nG:¬ G w.heap.size:=fun hh=>by rcases HG.out _ hh with h | h <;> omega
         have nGX:¬ G X:=fun hh=>by rcases HG.out _ hh with h | h <;> omega
         have u0:=hu8.cellAt nG (HK7.out.cell y0)
         have u1:=hu8.cellAt nG (HK7.out.cell y1)
         have u2:=hu8.cellAt nG (HK7.out.cell y2)
         have u3:=hu8.cellAt nG (HK7.out.cell y3)
         have u4:=hu8.cellAt nG (HK7.out.cell y4)
         have uf:=fun o:Nat=>hu8.frzAt (by omega) nG (HK7.out.frz (a:=⟨w.heap.size,o,none⟩) (by show w.heap.size < _;omega) (yf o))
         have s8:=hu8.size
         have HKW8:Hid (Keeps w w8):=Lib.hid ((HKR.out.trans HK7.out).new hu8 (fun k hk=>by rcases HG.out _ hk with h | h <;> omega))
         clear hu8 hM8 hk7
         by_cases hpn:pE < 0
         ·have HNO:Hid (readB bs=none):=Lib.hid (by
           have hnone:=HPE.out.neg.1 hpn
           have q:=HNX.out
           rw [hnone] at q
           rw [HRB.out,q.bad,edgeR_none,if_neg (fun h=>by cases h.1)])
          go_wp2_with fail
          refine bodyPost_ret (v:=.tuple #[.agg #[.pointer none,.slice none 0 0,.int .u8 0,.int .u8 0,.int .u32 0],.bool false]) (by simp [results,Tryz.results12,go_sem,u0,u1,u2,u3,u4]) rfl ?_
          exact ⟨by have hkw:=HKW8.out;(exact kp),.inr ⟨fun T M1 ids hg=>(by have q:=hg.read;rw [HNO.out] at q;cases q),rfl⟩⟩
         ·by_cases he0:er=0
          ·have HPN:=Lib.hid (HPX.out he0)
           subst he0
           have hrow8:w8.ownsRow W3.heap.size 35 1 (.slice ia i icap) i (ids.map (Value.int .u32)):=HU8.out.owns (fun k hk=>HIV.out k hk) (HK7.out.owns HROW.out)
           have HR8:=Lib.hid hrow8
           have HILL:Hid (i ≤ 1048576):=Lib.hid (by omega)
           clear hrow8
           go_upto_region 26 with fail
           go_wp2_with (first
            | (at_builtin;refine wpList_append_fresh rfl _ _ 49 rfl W3.heap.size 35 j0 (.int .u32 0) 1 4 Tryz.underlying49 hj0 jz0 jz1 jz2 rfl (by decide) (.slice ia i icap) i (ids.map (Value.int .u32)) rfl (((Keeps.refl w8).alloc (.cells #[.int .u32 id] 35)).owns HR8.out) ⟨w8.heap.size,0,none⟩ 1 1 [.int .u32 id] rfl rfl (cell_new _ _ _ _ rfl) (by intro u hu;rw [List.mem_singleton] at hu;subst hu;rfl) (by have:=HILL.out;unfold maxLen;omega) (by have:=HILL.out;omega) (by rw [World.size_alloc];omega) ?_;intro v9 w9 hr9 hg9 hf9;have HR9:=Lib.hid hr9;have HG9:=Lib.hid hg9;have HF9:=Lib.hid hf9;clear hr9 hg9 hf9)
            | fail)
           have hu9:Upd (fun k=>(Value.slice ia i icap).ownBlock=some k) w8 w9:=(((Keeps.refl w8).alloc (.cells #[.int .u32 id] 35)).upd _).trans' ⟨HG9.out.os,HG9.out.tape,HG9.out.output,HG9.out.size,fun i hi hne=>HG9.out.block i hi (fun e=>hne e.symm)⟩
           have hivl:∀ k,(Value.slice ia i icap).ownBlock=some k → k < wr.heap.size:=fun k hk=>by obtain ⟨cs,hc⟩:=owns_type HROW.out hk;exact lt_of_heap hc
           have HU9:=Lib.hid hu9
           have HIVL:=Lib.hid hivl
           clear hu9 hivl
           go_roundg (gk - 1)
           case rel=>
            refine ⟨i + 1,_,rdE,pE,M2,ids ++ [id],Grow G W7 w8,v9,_,by simp,rfl,rfl,by omega,HNX.out,HPE.out,HPN.out,HM8.out.keep HU9.out (fun k hk he=>?_),?_,fun k hk hg=>?_,fun k hk=>?_,?_⟩
            ·rcases hk with hk | hk
             ·exact HIV.out k he hk
             ·have:=HIVL.out k he
              have:=HK7.out.size
              omega
            ·have q:=HR9.out
             rw [List.map_append,List.length_append,HIL.out]
             exact q
            ·rcases HF9.out k hk with h1 | h1
             ·rcases hg with hg | hg
              ·exact HIV.out k h1 hg
              ·have:=HIVL.out k h1
               have:=HK7.out.size
               omega
             ·rw [World.size_alloc] at h1
              rcases hg with hg | hg
              ·have:=HM.out.lt k hg
               have:=HK7.out.size
               omega
              ·omega
            ·rcases hk with hk | hk
             ·exact HG.out k hk
             ·have:=HK7.out.size
              exact .inr (by omega)
            ·refine (((HU.out.trans' (HK7.out.upd _)).later HU8.out (fun k h1 h2=>?_)).later HU9.out (fun k h1 h2=>?_))
             ·rcases HG.out k h2 with h | h
              ·exact h
              ·omega
             ·have:=row_from HROW.out h2
              omega
           case measure=>omega
          ·have gne:(er != 0)=true:=by simp [he0]
           have HNO:Hid (∀ T M1 ids',¬ GoodD bs T M1 ids'):=Lib.hid (fun T M1 ids' hg=>by
            have q:=hg.read
            rw [HRB.out] at q
            split at q
            ·cases q
             have q2:=hg.put
             have q3:=HPB2.out he0
             rw [← HL.out] at q2
             simp only [← HLL.out] at q2
             rw [q3] at q2
             cases q2
             exact he0 rfl
            ·cases q)
           go_wp2_with fail
           refine bodyPost_ret (v:=.tuple #[.agg #[.pointer none,.slice none 0 0,.int .u8 0,.int .u8 0,.int .u32 0],.bool false]) (by simp [results,Tryz.results12,go_sem,u0,u1,u2,u3,u4]) rfl ?_
           exact ⟨by have hkw:=HKW8.out;(exact kp),.inr ⟨HNO.out,rfl⟩⟩
       ·have hik:i=k0:=by omega
        have i1:¬ ((i:Int) < (k0:Int)):=by omega
        have hend:=HA.out
        rw [hik] at hend
        obtain ⟨hpr,hrdi⟩:=hend.end
        have hll:l.length=k0:=by rw [HLL.out,recsR_len]
        have hput:=HPA.out
        rw [hik,← hll] at hput
        have HPUT:=Lib.hid hput.end
        have HPR:=Lib.hid hpr
        have HPT2:Hid (putL pr (St.new (d:Int) (bs.length:Int)) []=(0,M,ids)):=Lib.hid (by rw [hpr,← HLL.out,← HL.out];exact hput.end)
        have hrr:=HR3.out.upd HU.out (fun j h1 h2 h3=>by have e:j=mb:=h3;omega)
        obtain ⟨pa2,pcap2,b1,-⟩:=hrr.row
        have HRR5:=Lib.hid hrr
        have hpl:pre.length=d:=by have q:=HPRE.out;rw [q,numsR_len]
        rw [hpl] at b1
        have he9:=HTE.out wr HKR.out p rdi HP.out (f0:Int) ia icap ids HUA.out (by have:=HIL.out;omega)
        have hnum9:=edgeR_num (f0:Int) k0 rdi
        have hrb:=HRB.out
        rw [← hrdi] at hrb
        obtain ⟨⟨e9,rd9⟩,hq9⟩:∃ q,q=edgeR (f0:Int) k0 rdi:=⟨_,rfl⟩
        rw [← hq9] at hrb hnum9
        simp only [] at hrb hnum9
        rw [HIL.out,hik] at he9
        rw [← hq9] at he9
        simp only [] at he9
        have hok9:(atR ids e9).ok ∧ e9.ok:=by
         have ht:=hnum9.tag
         have ha:=hnum9.at'
         have ho:e9.ok:=⟨⟨ht.1,by omega⟩,ha.1,by omega⟩
         refine ⟨?_,ho⟩
         unfold atR
         split
         ·refine ⟨⟨ht.1,by show e9.tag ≤ 255;omega⟩,?_⟩
          show 0 ≤ (ids[(e9.to - 2).toNat]?).getD 0 ∧ (ids[(e9.to - 2).toNat]?).getD 0 ≤ 4294967295
          cases hg:ids[(e9.to - 2).toNat]? with
          | none=>exact ⟨by decide,by decide⟩
          | some y=>have:=HIDS.out y (List.mem_of_getElem? hg);exact ⟨by show 0 ≤ y;omega,this.2⟩
         ·exact ho
        obtain ⟨x9,hx9⟩:∃ q,q=atR ids e9:=⟨_,rfl⟩
        rw [← hx9] at he9 hok9
        have HE9:=Lib.hid he9
        have HRB9:=Lib.hid hrb
        have HX9:=Lib.hid hx9
        have HOK9:=Lib.hid hok9.1
        have bw0:=b0
        have HIK:=Lib.hid hik
        rw [← hik] at HE9
        clear hend hpr hrdi hll hput hrr hpl he9 hnum9 hrb hq9 hok9 hx9 hik
        go_wp2_with fail
        refine HE9.out.mono ?_
        rintro e w4 ⟨⟨p9,x1,rfl,hx1,hp9⟩,hk4⟩
        have hx1':=hx1.symm
        subst hx1'
        have HP9:=Lib.hid hp9
        have s4:=hk4.size
        have xl4:X < w4.heap.size:=by omega
        have xn4:X ≠ w4.heap.size:=by omega
        have d2:=hk4.cell b2
        have d3:=hk4.cell b3
        have d4:=hk4.cell b4
        have df:=fun o:Nat=>hk4.frz (a:=⟨X,o,none⟩) (by show X < _;omega) (bf o)
        clear hp9 hx1
        go_upto_region 30 with fail
        have ha4:Keeps ((w4.setCell ⟨X,3,none⟩ (.int .u8 x9.tag)).setCell ⟨X,4,none⟩ (.int .u32 x9.to)) (((w4.setCell ⟨X,3,none⟩ (.int .u8 x9.tag)).setCell ⟨X,4,none⟩ (.int .u32 x9.to)).alloc (.cells #[.int .u8 x9.tag,.int .u32 x9.to] 37)):=(Keeps.refl _).alloc _
        obtain ⟨W5,hW5⟩:∃ W,W=((w4.setCell ⟨X,3,none⟩ (.int .u8 x9.tag)).setCell ⟨X,4,none⟩ (.int .u32 x9.to)).alloc (.cells #[.int .u8 x9.tag,.int .u32 x9.to] 37):=⟨_,rfl⟩
        have hu5:Upd (fun k=>k=X) w4 W5:=by rw [hW5];exact (updX2 w4 X 3 4 _ _).trans' (ha4.upd _)
        have HR5:Hid (ReadRep W5 X mb (f0:Int) pre x9):=Lib.hid (by rw [hW5];exact ((HRR5.out.keeps hk4).setE x9).keeps ha4)
        have v0:W5.cell? ⟨w4.heap.size,0,none⟩=some (.int .u8 x9.tag):=by rw [hW5];simp [go_sem]
        have v1:W5.cell? ⟨w4.heap.size,1,none⟩=some (.int .u32 x9.to):=by rw [hW5];simp [go_sem]
        have nzX:¬ (w.heap.size=X):=by omega
        have HM5:Hid (RefRep G W5 mb M Ls):=Lib.hid ((HM.out.keeps hk4).keep hu5 (fun k hk e=>by have e2:k=X:=e;subst e2;rcases HG.out _ hk with h | h <;> omega))
        have HK5:Hid (Keeps w W5):=Lib.hid ((HKR.out.trans hk4).new hu5 (fun k hk=>by omega))
        have HEA:Hid (EndAt W5 X mb w4.heap.size w.heap.size (f0:Int) pa2 d pcap2 x9):=by
         obtain ⟨pa3,pcap3,q1,-⟩:=HR5.out.row
         have hpl:pre.length=d:=by have q:=HPRE.out;rw [q,numsR_len]
         have r1:W5.cell? ⟨X,1,none⟩=some (.slice pa2 d pcap2):=by
          have:=hk4.cell b1
          rw [hW5]
          simp [go_sem,xl4,xn4,this]
         exact Lib.hid ⟨HR5.out.cells.1,r1,HR5.out.cells.2.1,HR5.out.cells.2.2.1,HR5.out.cells.2.2.2.1,v0,v1,hu5.cellAt nzX (hk4.cell y0),hu5.cellAt nzX (hk4.cell y1),hu5.cellAt nzX (hk4.cell y2),hu5.cellAt nzX (hk4.cell y3),hu5.cellAt nzX (hk4.cell y4),fun o=>hu5.frzAt (by omega) nzX (hk4.frz (a:=⟨w.heap.size,o,none⟩) (by show w.heap.size < _;omega) (yf o))⟩
        rw [← hW5]
        clear hW5 hu5 v0 v1 b0 b1 b2 b3 b4 bf bw0 y0 y1 y2 y3 y4 yf d2 d3 d4 df
        obtain ⟨b0,b1,b2,b3,b4,v0,v1,u0,u1,u2,u3,u4,uf⟩:=HEA.out
        by_cases hz:rd9=some []
        ·have hpL:p9=(L:Int):=by rw [HL.out];exact HP9.out.end.2 hz
         have geq:(p9 != (L:Int))=false:=by simp [hpL]
         have HRD9:Hid (readB bs=some ⟨d,f0,pre,pr,e9⟩):=Lib.hid (by rw [HRB9.out,if_pos ⟨hz,by omega⟩,← HPR.out])
         have hfa:FitA M:=fun id r hl=>HM.out.fit (id,r) ((HM.out.mem id r).2 hl)
         have HFA:=Lib.hid hfa
         have HRI:=Lib.hid (fun (W:World) (hW:Keeps W5 W)=>ref17_right (HM5.out.keeps hW) (f0:Int) x9 0 HOK9.out)
         clear hz hpL hfa
         cases hg:kRight M (f0:Int) x9 0 with
         | false=>
          rw [hg] at HRI
          have HGG:=Lib.hid hg
          clear hg
          go_wp2_with (first | (go_at_call 17;refine (HRI.out _ (Keeps.refl _)).mono ?_;rintro e w6 ⟨rfl,hk6⟩;obtain ⟨b0,b1,b2,b3,b4,v0,v1,u0,u1,u2,u3,u4,uf⟩:=HEA.out.keeps hk6) | fail)
          refine bodyPost_ret (v:=.tuple #[.agg #[.pointer none,.slice none 0 0,.int .u8 0,.int .u8 0,.int .u32 0],.bool false]) (by simp [results,Tryz.results12,go_sem,u0,u1,u2,u3,u4]) rfl ?_
          exact ⟨by have hkw:=HK5.out.trans hk6;(exact kp),.inr ⟨fun T M1 ids hg=>(by have q:=(goodD_only HRD9.out HPT2.out hg).1;simp only [← HX9.out] at q;rw [HGG.out] at q;exact absurd q (by simp)),rfl⟩⟩
         | true=>
          rw [hg] at HRI
          have HGG:=Lib.hid hg
          have hin:x9.to < 2 ∨ look M.cs x9.to ≠ none:=by
           rcases (leads_iff.1 (kRight_lead hg)).2 with h2 | ⟨r,q,_⟩
           ·exact .inl h2
           ·exact .inr (by rw [q];simp)
          obtain ⟨pa3,pcap3,q1,hpi3⟩:=HR5.out.row
          have hpl:pre.length=d:=by have q:=HPRE.out;rw [q,numsR_len]
          rw [hpl,b1] at q1
          cases q1
          have hprm:∀ x ∈ pre,0 ≤ x ∧ x ≤ 16:=by rw [HPRE.out];exact numsR_num _ _
          have hfew5:=HM.out.few
          have HBY:=Lib.hid (fun (W:World) (hW:Keeps W5 W)=>refSave_calls (HM5.out.keeps hW) HFA.out hfew5 pa2 pcap2 pre (hpi3.keeps hW) hprm (by omega) (f0:Int) ⟨by omega,by omega⟩ x9 HOK9.out hin)
          have hsl:=saveB_len HPA.out.wf HFA.out hfew5 hprm (by omega) (f:=(f0:Int)) ⟨by omega,by omega⟩ HOK9.out
          have HSA:=Lib.hid (fun (W:World) (hW:Keeps w W) (a3:Option Addr) (cap3:Nat) (h3:BsAt W a3 (saveB M pre (f0:Int) x9))=>same04_calls a3 a cap3 cap (saveB M pre (f0:Int) x9) bs W h3 (HBA.out.keeps hW) (by omega) (by rw [← HL.out];omega))
          rw [hpl] at HBY
          rw [← HL.out] at HSA
          obtain ⟨SB,hSB⟩:∃ SB,SB=saveB M pre (f0:Int) x9:=⟨_,rfl⟩
          rw [← hSB] at HBY HSA
          have HSB:=Lib.hid hSB
          have HPL:=Lib.hid hpl
          have HPI3:=Lib.hid hpi3
          clear hg hin hpl hprm hfew5 hsl hSB hpi3
          by_cases hsame:SB=bs
          ·rw [decide_eq_true hsame] at HSA
           have HEQ:=Lib.hid hsame
           clear hsame
           go_wp2_with (first
            | (go_at_call 17;refine (HRI.out _ (Keeps.refl _)).mono ?_;rintro e w6 ⟨rfl,hk6⟩;obtain ⟨b0,b1,b2,b3,b4,v0,v1,u0,u1,u2,u3,u4,uf⟩:=HEA.out.keeps hk6)
            | (go_at_call 19;refine (HBY.out _ hk6).mono ?_;rintro e w7 ⟨v7,rfl,hb7,hk7⟩;obtain ⟨a7,cap7,rfl,hat7⟩:=hb7.slice;obtain ⟨b0,b1,b2,b3,b4,v0,v1,u0,u1,u2,u3,u4,uf⟩:=HEA.out.keeps (hk6.trans hk7))
            | (go_at_call 18;refine (HSA.out _ (HK5.out.trans (hk6.trans hk7)) _ _ hat7).mono ?_;rintro e w8 ⟨rfl,hk8⟩;obtain ⟨b0,b1,b2,b3,b4,v0,v1,u0,u1,u2,u3,u4,uf⟩:=HEA.out.keeps ((hk6.trans hk7).trans hk8))
            | fail)
           refine bodyPost_ret (v:=.tuple #[.agg #[.pointer (some ⟨mb,0,none⟩),.slice pa2 d pcap2,.int .u8 (f0:Int),.int .u8 x9.tag,.int .u32 x9.to],.bool true]) (by simp [results,Tryz.results12,go_sem,u0,u1,u2,u3,u4]) rfl ?_
           have hk58:=(hk6.trans hk7).trans hk8
           have hu:=upd5 w8 w.heap.size (.pointer (some ⟨mb,0,none⟩)) (.slice pa2 d pcap2) (.int .u8 (f0:Int)) (.int .u8 x9.tag) (.int .u32 x9.to)
           refine ⟨(HK5.out.trans hk58).new hu (fun k hk=>by omega),.inl ⟨⟨d,f0,pre,pr,e9⟩,M,ids,mb,Ls,G,pa2,pcap2,x9,⟨HRD9.out,HPB.out,HPT2.out,?_,?_⟩,HFA.out,?_,HM.out.few,?_,HX9.out,?_,(HM5.out.keeps hk58).keep hu (fun k hk e=>?_),fun k hk=>?_⟩⟩
           ·simp only [← HX9.out];exact HGG.out
           ·simp only [← HX9.out];rw [← HSB.out];exact HEQ.out
           ·simp only [← HX9.out];exact HOK9.out
           ·simp only [HPL.out]
           ·intro j x hx
            obtain ⟨b,off,q1,q2⟩:=HPI3.out j x hx
            refine ⟨b,off,q1,hu.cellAt (fun e=>?_) (hk58.cell q2)⟩
            have e2:b=w.heap.size:=e
            have:=HR5.out.far HEA.out.b1 q1 (by have q:=(List.getElem?_eq_some_iff.1 hx).1;simp only [] at q;omega)
            omega
           ·have e2:k=w.heap.size:=e
            subst e2
            rcases HG.out _ hk with h | h <;> omega
           ·rcases HG.out k hk with h | h <;> omega
          ·rw [decide_eq_false hsame] at HSA
           have HEQ:=Lib.hid hsame
           clear hsame
           go_wp2_with (first
            | (go_at_call 17;refine (HRI.out _ (Keeps.refl _)).mono ?_;rintro e w6 ⟨rfl,hk6⟩;obtain ⟨b0,b1,b2,b3,b4,v0,v1,u0,u1,u2,u3,u4,uf⟩:=HEA.out.keeps hk6)
            | (go_at_call 19;refine (HBY.out _ hk6).mono ?_;rintro e w7 ⟨v7,rfl,hb7,hk7⟩;obtain ⟨a7,cap7,rfl,hat7⟩:=hb7.slice;obtain ⟨b0,b1,b2,b3,b4,v0,v1,u0,u1,u2,u3,u4,uf⟩:=HEA.out.keeps (hk6.trans hk7))
            | (go_at_call 18;refine (HSA.out _ (HK5.out.trans (hk6.trans hk7)) _ _ hat7).mono ?_;rintro e w8 ⟨rfl,hk8⟩;obtain ⟨b0,b1,b2,b3,b4,v0,v1,u0,u1,u2,u3,u4,uf⟩:=HEA.out.keeps ((hk6.trans hk7).trans hk8))
            | fail)
           refine bodyPost_ret (v:=.tuple #[.agg #[.pointer none,.slice none 0 0,.int .u8 0,.int .u8 0,.int .u32 0],.bool false]) (by simp [results,Tryz.results12,go_sem,u0,u1,u2,u3,u4]) rfl ?_
           exact ⟨by have hkw:=HK5.out.trans ((hk6.trans hk7).trans hk8);(exact kp),.inr ⟨fun T M1 ids hg=>(by have q:=(goodD_only HRD9.out HPT2.out hg).2;simp only [← HX9.out] at q;rw [← HSB.out] at q;exact HEQ.out q),rfl⟩⟩
        ·have gne:(p9 != (L:Int))=true:=by
          have:¬ p9=(L:Int):=fun h=>hz (HP9.out.end.1 (by rw [← HL.out];exact h))
          simp [this]
         have HNO:Hid (readB bs=none):=Lib.hid (by rw [HRB9.out,if_neg (fun h=>hz h.1)])
         clear hz
         go_wp2_with fail
         refine bodyPost_ret (v:=.tuple #[.agg #[.pointer none,.slice none 0 0,.int .u8 0,.int .u8 0,.int .u32 0],.bool false]) (by simp [results,Tryz.results12,go_sem,u0,u1,u2,u3,u4]) rfl ?_
         exact ⟨by have hkw:=HK5.out;(exact kp),.inr ⟨fun T M1 ids hg=>(by have q:=hg.read;rw [HNO.out] at q;cases q),rfl⟩⟩

end Go.Proofs.YtfpjogpjocedaaaGreat
