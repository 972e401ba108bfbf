/-
  canon.Cube over the state (printed by wip/mk_cube.py).
-/
import Derived.Test.YtfpjogpjocedaaaGreatPKMake
namespace Go.Proofs.YtfpjogpjocedaaaGreat
set_option linter.unusedSimpArgs false
set_option linter.unusedVariables false
set_option maxHeartbeats 600000
open Go.RowKit

theorem StoreRep.fewK {F:Nat → Prop} {w:World} {sb:Nat} {M:St} (h:StoreRep F w sb M):M.cs.length ≤ 1048576:=by
 obtain ⟨⟨ab,ib,ts,Fa,Fi,h1,h2,-⟩,-⟩:=h
 exact h2.few

theorem StoreRep.findId {F:Nat → Prop} {w:World} {sb:Nat} {M:St} (h:StoreRep F w sb M) (r:Rec):0 ≤ M.findId r ∧ M.findId r ≤ 1048578:=by
 have hf:=h.fewK
 unfold St.findId
 split
 ·rename_i id hi
  have hl:=look_some (idOf_look hi)
  omega
 ·split
  ·omega
  ·split
   ·omega
   ·have:=putId_range h.wf.gone
    omega

theorem StoreRep.foundE {F:Nat → Prop} {w:World} {sb:Nat} {M:St} (h:StoreRep F w sb M) (t:Int) (ht:0 ≤ t ∧ t ≤ 255) (r:Rec):(Go.Proofs.YtfpjogpjocedaaaGreat.foundE M t r).ok:=by
 have:=h.findId r
 unfold Go.Proofs.YtfpjogpjocedaaaGreat.foundE
 split
 ·exact ⟨ht,⟨this.1,by show M.findId r ≤ 4294967295;omega⟩⟩
 ·exact ⟨by decide,by decide⟩

theorem zero_ok:(⟨0,0⟩:Edge).ok:=⟨by decide,by decide⟩

theorem act0_ok {F:Nat → Prop} {w:World} {sb:Nat} {M:St} (h:StoreRep F w sb M) (a:(Edge × Int) ⊕ Rec) (hl:∀ x,a=.inl x → x.1.ok):(actE0 M a).ok:=by
 cases a with
 | inl x=>exact hl x rfl
 | inr r=>exact h.foundE 0 (by decide) r

theorem makeAct_inl {M:St} {f l:Int} {lo hi:Edge} {rest:(Edge × Int) ⊕ Rec} (hr:∀ x,rest=.inl x → x.1.ok):∀ x,makeAct M f l lo hi rest=.inl x → x.1.ok:=by
 intro x hx
 unfold makeAct at hx
 split at hx
 ·cases hx;exact zero_ok
 ·split at hx
  ·cases hx;exact zero_ok
  ·exact hr x hx

theorem kE_ok {F:Nat → Prop} {w:World} {sb:Nat} {M:St} (h:StoreRep F w sb M) (f l:Int) (lo hi:Edge) (hlo:lo.ok) (h0:0 ≤ l) (h1:l ≤ 16):(kE M f (kAct M f l lo hi)).ok:=by
 have hb:∀ x,bRest M l lo hi=.inl x → x.1.ok:=by
  intro x hx;unfold bRest at hx;split at hx
  ·cases hx;exact hlo
  ·cases hx
 have hz:∀ x,zRest M l lo hi=.inl x → x.1.ok:=by
  intro x hx;unfold zRest at hx;split at hx
  ·cases hx;exact hlo
  ·cases hx
 have hc:∀ x,cRest M l lo hi=.inl x → x.1.ok:=by
  intro x hx;unfold cRest at hx;split at hx
  ·cases hx;exact hlo
  ·(repeat' split at hx) <;> cases hx
 have hq:∀ x,qRest M l lo hi=.inl x → x.1.ok:=by
  intro x hx;unfold qRest at hx;split at hx
  ·cases hx;exact hlo
  ·(repeat' split at hx) <;> cases hx
 by_cases f5:f=5
 ·subst f5
  show (actE M (tAct M l lo hi)).ok
  unfold tAct
  split
  ·exact zero_ok
  ·split
   ·exact zero_ok
   ·split
    ·exact hlo
    ·split
     ·exact ⟨⟨h0,by show l ≤ 255;omega⟩,hlo.2⟩
     ·exact h.foundE _ ⟨h0,by show l ≤ 255;omega⟩ _
 ·have e:kE M f (kAct M f l lo hi)=actE0 M (kAct M f l lo hi):=if_neg f5
  rw [e]
  refine act0_ok h _ ?_
  intro x hx
  unfold kAct at hx
  split at hx
  ·exact makeAct_inl hb x hx
  ·split at hx
   ·exact makeAct_inl hz x hx
   ·split at hx
    ·exact makeAct_inl hc x hx
    ·split at hx
     ·exact makeAct_inl hq x hx
     ·cases hx
      exact zero_ok

def onB (x k:Int):Bool:=bits BinOp.and IntKind.u16 (x / 2 ^ k.toNat) 1 == 1

def lowE (x k:Int) (v:Edge):Edge:=if onB x k then ⟨0,0⟩ else v

def cubeGo (f l ones noughts:Int):Nat → St → Edge → Edge × Int × St
 | 0,M,v=>(v,0,M)
 | d + 1,M,v=>
  if actErr M (kAct M f (l + d) (lowE ones (l + d) v) (lowE noughts (l + d) v))=0 then cubeGo f l ones noughts d (actSt M (kAct M f (l + d) (lowE ones (l + d) v) (lowE noughts (l + d) v))) (kE M f (kAct M f (l + d) (lowE ones (l + d) v) (lowE noughts (l + d) v)))
  else (⟨0,0⟩,actErr M (kAct M f (l + d) (lowE ones (l + d) v) (lowE noughts (l + d) v)),actSt M (kAct M f (l + d) (lowE ones (l + d) v) (lowE noughts (l + d) v)))

theorem cubeGo_ok {f l ones noughts k:Int} {M:St} {v:Edge} (h:l ≤ k) {a:(Edge × Int) ⊕ Rec} (ha:kAct M f k (lowE ones k v) (lowE noughts k v)=a) (h0:actErr M a=0) :
  cubeGo f l ones noughts (k - l + 1).toNat M v=cubeGo f l ones noughts (k - 1 - l + 1).toNat (actSt M a) (kE M f a):=by
 obtain ⟨d,hd⟩:∃ d:Nat,k=l + d:=⟨(k - l).toNat,by omega⟩
 subst hd
 subst ha
 rw [show (l + (d:Int) - l + 1).toNat=d + 1 by omega,show (l + (d:Int) - 1 - l + 1).toNat=d by omega]
 show (if _ then _ else _)=_
 rw [if_pos h0]

theorem cubeGo_bad {f l ones noughts k:Int} {M:St} {v:Edge} (h:l ≤ k) {a:(Edge × Int) ⊕ Rec} (ha:kAct M f k (lowE ones k v) (lowE noughts k v)=a) (h0:¬ actErr M a=0) :
  cubeGo f l ones noughts (k - l + 1).toNat M v=(⟨0,0⟩,actErr M a,actSt M a):=by
 obtain ⟨d,hd⟩:∃ d:Nat,k=l + d:=⟨(k - l).toNat,by omega⟩
 subst hd
 subst ha
 rw [show (l + (d:Int) - l + 1).toNat=d + 1 by omega]
 show (if _ then _ else _)=_
 rw [if_neg h0]

def oneE (f n:Int):Edge:=if f=5 then ⟨n,1⟩ else ⟨0,1⟩

set_option maxRecDepth 100000 in
theorem one_calls (f n:Int) (w:World) (hf:isFormB f=true) (hn0:0 ≤ n) (hn:n ≤ 16):Calls Tryz.prog 96 #[.int .u8 f,.int .i64 n] w fun e w'=>e=.returned (.agg #[.int .u8 (oneE f n).tag,.int .u32 (oneE f n).to]) ∧ Keeps w w':=by
 have h2:mayB n=true:=by simp [mayB,hn0,hn]
 by_cases h5:f=5
 ·subst h5
  go_enter Tryz.func96,Tryz.ntmps96
  go_wp2_with (first | (go_at_call 61;refine (isForm_calls _ _).mono ?_;rintro e w' ⟨rfl,rfl⟩) | (go_at_call 120;refine (may_calls _ _).mono ?_;rintro e w' ⟨rfl,rfl⟩) | fail)
  all_goals refine bodyPost_ret (v:=.agg #[.int .u8 n,.int .u32 1]) (by simp [results,Tryz.results96,go_sem]) rfl ⟨rfl,by (exact kp)⟩
 ·have h6:(f == 5)=false:=by simp [h5]
  have e:oneE f n=⟨0,1⟩:=if_neg h5
  rw [e]
  go_enter Tryz.func96,Tryz.ntmps96
  go_wp2_with (first | (go_at_call 61;refine (isForm_calls _ _).mono ?_;rintro e w' ⟨rfl,rfl⟩) | (go_at_call 120;refine (may_calls _ _).mono ?_;rintro e w' ⟨rfl,rfl⟩) | fail)
  all_goals refine bodyPost_ret (v:=.agg #[.int .u8 0,.int .u32 1]) (by simp [results,Tryz.results96,go_sem]) rfl ⟨rfl,by (exact kp)⟩

structure CubeInv (F:Nat → Prop) (w wr:World) (sb eb:Nat) (M:St) (v:Edge) (G:Nat → Prop):Prop where
 upd:Upd F w wr
 rep:StoreRep G wr sb M
 sub:∀ j,G j → F j ∨ (w.heap.size ≤ j ∧ j ≠ w.heap.size ∧ j ≠ eb)
 e0:wr.cell? ⟨eb,0,none⟩=some (.int .u8 v.tag)
 e1:wr.cell? ⟨eb,1,none⟩=some (.int .u32 v.to)
 ef:∀ o,wr.frozen? ⟨eb,o,none⟩=false
 z0:wr.cell? ⟨w.heap.size,0,none⟩=some (.int .u8 0)
 z1:wr.cell? ⟨w.heap.size,1,none⟩=some (.int .u32 0)
 zf:∀ o,wr.frozen? ⟨w.heap.size,o,none⟩=false
 se:w.heap.size < eb
 sz:eb < wr.heap.size

theorem CubeInv.call {F G:Nat → Prop} {w wr W w2:World} {sb eb:Nat} {M M2:St} {v:Edge} (h:CubeInv F w wr sb eb M v G) (hlt:∀ k,F k → k < w.heap.size) (hk:Keeps wr W) (hu:Upd G W w2) (hS:StoreRep (Grow G W w2) w2 sb M2) :
  CubeInv F w w2 sb eb M2 v (Grow G W w2):=by
 have hse:=h.se
 have hsz:=h.sz
 have s1:=hk.size
 have s2:=hu.size
 have nG:∀ j,j=w.heap.size ∨ j=eb → ¬ G j:=by
  intro j hj hg
  rcases h.sub j hg with h1 | h1
  ·have:=hlt j h1
   omega
  ·omega
 have hub:Upd G wr w2:=(hk.upd G).trans' hu
 have hU:Upd F w w2:=by
  refine ⟨hub.os.trans h.upd.os,hub.tape.trans h.upd.tape,hub.output.trans h.upd.output,Nat.le_trans h.upd.size hub.size,fun k hk' hf=>?_⟩
  have:¬ G k:=fun hg=>by
   rcases h.sub k hg with h1 | h1
   ·exact hf h1
   ·omega
  rw [hub.block k (Nat.lt_of_lt_of_le hk' h.upd.size) this,h.upd.block k hk' hf]
 refine ⟨hU,hS,?_,hub.cell (nG eb (.inr rfl)) h.e0,hub.cell (nG eb (.inr rfl)) h.e1,fun o=>hub.frozen (a:=⟨eb,o,none⟩) hsz (nG eb (.inr rfl)) (h.ef o),hub.cell (nG _ (.inl rfl)) h.z0,hub.cell (nG _ (.inl rfl)) h.z1,
  fun o=>hub.frozen (a:=⟨w.heap.size,o,none⟩) (by show w.heap.size < wr.heap.size;omega) (nG _ (.inl rfl)) (h.zf o),hse,by omega⟩
 intro j hj
 rcases hj with hj | hj
 ·exact h.sub j hj
 ·right
  omega

theorem CubeInv.put {F G:Nat → Prop} {w wr:World} {sb eb:Nat} {M:St} {v v2:Edge} (h:CubeInv F w wr sb eb M v G) (hlt:∀ k,F k → k < w.heap.size) (o:Obj) :
  CubeInv F w (((wr.setCell ⟨eb,0,none⟩ (.int .u8 v2.tag)).setCell ⟨eb,1,none⟩ (.int .u32 v2.to)).alloc o) sb eb M v2 G:=by
 have hse:=h.se
 have hsz:=h.sz
 have n1:¬ eb=wr.heap.size:=by omega
 have n2:¬ w.heap.size=wr.heap.size:=by omega
 have n3:¬ w.heap.size=eb:=by omega
 have n4:w.heap.size < wr.heap.size:=by omega
 have c0:=h.e0
 have c1:=h.e1
 have d0:=h.z0
 have d1:=h.z1
 refine ⟨?_,?_,h.sub,?_,?_,?_,?_,?_,?_,hse,?_⟩
 ·exact ((h.upd.setCell (Or.inr (by show w.heap.size ≤ eb;omega)) _).setCell (Or.inr (by show w.heap.size ≤ eb;omega)) _).alloc o
 ·refine h.rep.keep (G:=fun k=>k=eb) ((((Upd.refl (fun k=>k=eb) wr).setCell (p:=⟨eb,0,none⟩) (Or.inl rfl) _).setCell (p:=⟨eb,1,none⟩) (Or.inl rfl) _).alloc o) ?_
  rintro k hk' rfl
  rcases h.sub _ hk' with h1 | h1
  ·have:=hlt _ h1
   omega
  ·omega
 ·simp [go_sem,c0,c1,hsz,n1]
 ·simp [go_sem,c0,c1,hsz,n1]
 ·intro q
  rw [World.frozen?_alloc_old _ _ _ (by simp only [World.size_setCell];show eb ≠ wr.heap.size;omega),World.frozen?_setCell,World.frozen?_setCell]
  exact h.ef q
 ·simp [go_sem,d0,n3,n4,n2]
 ·simp [go_sem,d1,n3,n4,n2]
 ·intro q
  rw [World.frozen?_alloc_old _ _ _ (by simp only [World.size_setCell];show w.heap.size ≠ wr.heap.size;omega),World.frozen?_setCell,World.frozen?_setCell]
  exact h.zf q
 ·simp only [World.size_setCell,World.size_alloc]
  omega

theorem CubeInv.done {F G:Nat → Prop} {w wr w':World} {sb eb:Nat} {M:St} {v:Edge} (h:CubeInv F w wr sb eb M v G) (hlt:∀ k,F k → k < w.heap.size) (hu:Upd (fun k=>k=w.heap.size) wr w'):Upd F w w' ∧ StoreRep (Grow F w w') w' sb M:=by
 have hse:=h.se
 have hsz:=h.sz
 have s1:=hu.size
 have hnG:∀ k,G k → ¬ k=w.heap.size:=by
  rintro k hk rfl
  rcases h.sub _ hk with h1 | h1
  ·have:=hlt _ h1
   omega
  ·omega
 have hr:=h.rep.keep hu hnG
 refine ⟨⟨hu.os.trans h.upd.os,hu.tape.trans h.upd.tape,hu.output.trans h.upd.output,Nat.le_trans h.upd.size s1,fun k hk hf=>?_⟩,hr.mono ?_ ?_⟩
 ·rw [hu.block k (Nat.lt_of_lt_of_le hk h.upd.size) (by omega),h.upd.block k hk hf]
 ·intro k hk
  rcases h.sub k hk with h1 | h1
  ·exact .inl h1
  ·exact .inr ⟨h1.1,hr.lt k hk⟩
 ·intro k hk
  rcases hk with hk | hk
  ·have:=hlt k hk
   omega
  ·exact hk.2

set_option maxRecDepth 100000 in
set_option maxHeartbeats 6000000 in
theorem cube_calls {F:Nat → Prop} {w:World} {sb:Nat} {M:St} (h:StoreRep F w sb M) (f l ones noughts:Int) (h0:0 ≤ l) (h1:l ≤ M.n) (hf:isFormB f=true) (o1:0 ≤ ones) (o2:ones ≤ 65535) (o3:0 ≤ noughts) (o4:noughts ≤ 65535)
  (g1:bits BinOp.or IntKind.u16 ones noughts % 4294967296 / 2 ^ M.n.toNat=0) (g2:(bits BinOp.and IntKind.u32 (bits BinOp.or IntKind.u16 ones noughts % 4294967296) ((2 ^ l.toNat - 1) % 4294967296) != 0)=false)
  (g3:(bits BinOp.and IntKind.u16 ones noughts != 0)=false) :
  Calls Tryz.prog 69 #[.pointer (some ⟨sb,0,none⟩),.int .u8 f,.int .i64 l,.int .u16 ones,.int .u16 noughts] w fun e w'=>
   e=.returned (.tuple #[.agg #[.int .u8 (cubeGo f l ones noughts (M.n - l).toNat M (oneE f M.n)).1.tag,.int .u32 (cubeGo f l ones noughts (M.n - l).toNat M (oneE f M.n)).1.to],.int .u8 (cubeGo f l ones noughts (M.n - l).toNat M (oneE f M.n)).2.1]) ∧ Upd F w w' ∧ StoreRep (Grow F w w') w' sb (cubeGo f l ones noughts (M.n - l).toNat M (oneE f M.n)).2.2:=by
 have hn:=h.wf.n16
 have hn0:=h.wf.n0
 have hlt:=h.lt
 have hsb:=h.pos
 have hv:=fun (W:World) (hW:Keeps w W)=>store_vars (h.keeps hW)
 have H:=Lib.hid h
 have HV:=Lib.hid hv
 have HL:=Lib.hid hlt
 have G1:=Lib.hid g1
 clear h hv hlt
 go_enter Tryz.func69,Tryz.ntmps69
 go_wp2_with (first | (go_at_call 61;refine (isForm_calls _ _).mono ?_;rintro e w' ⟨rfl,rfl⟩) | (go_at_call 44;refine (HV.out _ (by (exact kp))).mono ?_;rintro e w' ⟨rfl,rfl⟩) | (go_at_call 96;refine (one_calls f M.n _ hf hn0 hn).mono ?_;rintro e w1 ⟨rfl,hb⟩;have x0:=hb.cell (a:=⟨w.heap.size,0,none⟩) (v:=.int .u8 0) (by simp [go_sem]);have x1:=hb.cell (a:=⟨w.heap.size,1,none⟩) (v:=.int .u32 0) (by simp [go_sem]);have xf:=fun o:Nat=>hb.frz (a:=⟨w.heap.size,o,none⟩) (by simp [go_sem]) (by simp [go_sem]);have hsz:=hb.size;simp only [World.size_alloc] at hsz;have hk:Keeps w w1:=(by (exact kp))) | fail)
 have hI0:CubeInv F w (w1.alloc (.cells #[.int .u8 (oneE f M.n).tag,.int .u32 (oneE f M.n).to] 37)) sb w1.heap.size M (oneE f M.n) F:=by
  have hle:w.heap.size < w1.heap.size:=by omega
  refine ⟨(hk.alloc _).upd F,H.out.keeps (hk.alloc _),fun j hj=>.inl hj,by simp [go_sem],by simp [go_sem],fun o=>by simp [go_sem],by simp [go_sem,x0,hle,Nat.ne_of_lt hle],by simp [go_sem,x1,hle,Nat.ne_of_lt hle],fun o=>?_,hle,by simp⟩
  rw [World.frozen?_alloc_old _ _ _ (by show w.heap.size ≠ w1.heap.size;omega)]
  exact xf o
 have hv0:(oneE f M.n).ok:=by
  unfold oneE
  split
  ·exact ⟨⟨hn0,by show M.n ≤ 255;omega⟩,⟨by show (0:Int) ≤ 1;decide,by show (1:Int) ≤ 4294967295;decide⟩⟩
  ·exact ⟨by decide,by decide⟩
 clear hb x0 x1 xf
 go_loopg [14] (M.n - l).toNat (fun gk i wr=>∃ (k:Int) (M':St) (v:Edge) (G:Nat → Prop),(gk:Int)=k - l + 1 ∧ i=.int .i64 k ∧ l - 1 ≤ k ∧ k < M.n ∧ v.ok ∧ CubeInv F w wr sb w1.heap.size M' v G ∧ cubeGo f l ones noughts (k - l + 1).toNat M' v=cubeGo f l ones noughts (M.n - l).toNat M (oneE f M.n))
 case atStart=>exact ⟨M.n - 1,_,_,_,by omega,by go_num,by omega,by omega,hv0,hI0,by rw [show (M.n - 1 - l + 1).toNat=(M.n - l).toNat by omega]⟩
 case round=>
  obtain ⟨k,M',v,G,hgk,rfl,hk1,hk2,hv,hI,heq⟩:=hrel
  by_cases hlk:l ≤ k
  ·rcases bool_cases (onB ones k) with b1 | b1 <;> rcases bool_cases (onB noughts k) with b2 | b2
   ·obtain ⟨A,hA⟩:∃ A,A=(kAct M' f k v v):=⟨_,rfl⟩
    have hact:kAct M' f k (lowE ones k v) (lowE noughts k v)=A:=by rw [hA];unfold lowE;rw [b1,b2];rfl
    have hEo:(kE M' f A).ok:=by rw [hA];exact kE_ok hI.rep f k _ _ hv (by omega) (by omega)
    have her:=kErr M' f k v v
    rw [← hA] at her
    obtain ⟨er1,er2⟩:=her
    have y0:=hI.e0
    have y1:=hI.e1
    have yz:=hI.sz
    have x0:=hI.z0
    have x1:=hI.z1
    have xf:=hI.zf
    have hse:=hI.se
    have HI':=Lib.hid hI
    have HQ:=Lib.hid heq
    have HA:=Lib.hid hA
    have HC:=Lib.hid hact
    have hb1:(bits BinOp.and IntKind.u16 (ones / 2 ^ k.toNat) 1 == 1)=false:=b1
    have hb2:(bits BinOp.and IntKind.u16 (noughts / 2 ^ k.toNat) 1 == 1)=false:=b2
    clear hI heq hA hact b1 b2
    go_wp2_with fail
    go_region
    all_goals
     go_wp2_with fail
     have hcm:=fun (W:World) (hW:Keeps wr W)=>canon_make (HI'.out.rep.keeps hW) f k v v hv hv
     rw [← HA.out] at hcm
     refine (hcm _ (by (exact kp))).mono ?_
     rintro e w2 ⟨rfl,hu,hS2⟩
     clear hcm
     have hst:=fun hkW=>CubeInv.call HI'.out HL.out hkW hu hS2
     have hst2:=hst (by (exact kp))
     clear hst hu hS2 y0 y1 yz x0 x1 xf
     have y0:=hst2.e0
     have y1:=hst2.e1
     have yf:=hst2.ef
     have yz:=hst2.sz
     have x0:=hst2.z0
     have x1:=hst2.z1
     have xf:=hst2.zf
     have xz:w.heap.size < w2.heap.size:=by omega
     have HS2:=Lib.hid hst2
     clear hst2
     go_wp2_with fail
     all_goals first
      | (have hz:actErr M' A=0:=(by have hh:(actErr M' A != 0)=false:=(by assumption);simpa using hh)
         have HP:=Lib.hid (HS2.out.put (v2:=kE M' f A) HL.out (.cells #[.int .u8 (kE M' f A).tag,.int .u32 (kE M' f A).to] 37))
         go_roundg (gk - 1)
         case rel=>exact ⟨k - 1,_,_,_,by omega,by go_num,by omega,by omega,hEo,HP.out,by rw [← HQ.out,cubeGo_ok hlk HC.out hz]⟩
         case measure=>omega)
      | (have hz:¬ actErr M' A=0:=(by have hh:(actErr M' A != 0)=true:=(by assumption);simpa using hh)
         have hb:=HQ.out.symm.trans (cubeGo_bad hlk HC.out hz)
         rw [hb]
         refine bodyPost_ret (v:=.tuple #[.agg #[.int .u8 0,.int .u32 0],.int .u8 (actErr M' A)]) (by simp [results,Tryz.results69,go_sem,xz,x0,x1]) rfl ⟨rfl,HS2.out.done HL.out ?_⟩
         exact (((Upd.refl (fun k=>k=w.heap.size) _).setCell (p:=⟨w.heap.size,0,none⟩) (Or.inl rfl) _).setCell (p:=⟨w.heap.size,1,none⟩) (Or.inl rfl) _).alloc _)
   ·obtain ⟨A,hA⟩:∃ A,A=(kAct M' f k v ⟨0,0⟩):=⟨_,rfl⟩
    have hact:kAct M' f k (lowE ones k v) (lowE noughts k v)=A:=by rw [hA];unfold lowE;rw [b1,b2];rfl
    have hEo:(kE M' f A).ok:=by rw [hA];exact kE_ok hI.rep f k _ _ hv (by omega) (by omega)
    have her:=kErr M' f k v ⟨0,0⟩
    rw [← hA] at her
    obtain ⟨er1,er2⟩:=her
    have y0:=hI.e0
    have y1:=hI.e1
    have yz:=hI.sz
    have x0:=hI.z0
    have x1:=hI.z1
    have xf:=hI.zf
    have hse:=hI.se
    have HI':=Lib.hid hI
    have HQ:=Lib.hid heq
    have HA:=Lib.hid hA
    have HC:=Lib.hid hact
    have hb1:(bits BinOp.and IntKind.u16 (ones / 2 ^ k.toNat) 1 == 1)=false:=b1
    have hb2:(bits BinOp.and IntKind.u16 (noughts / 2 ^ k.toNat) 1 == 1)=true:=b2
    clear hI heq hA hact b1 b2
    go_wp2_with fail
    go_region
    all_goals
     go_wp2_with fail
     have hcm:=fun (W:World) (hW:Keeps wr W)=>canon_make (HI'.out.rep.keeps hW) f k v ⟨0,0⟩ hv zero_ok
     rw [← HA.out] at hcm
     refine (hcm _ (by (exact kp))).mono ?_
     rintro e w2 ⟨rfl,hu,hS2⟩
     clear hcm
     have hst:=fun hkW=>CubeInv.call HI'.out HL.out hkW hu hS2
     have hst2:=hst (by (exact kp))
     clear hst hu hS2 y0 y1 yz x0 x1 xf
     have y0:=hst2.e0
     have y1:=hst2.e1
     have yf:=hst2.ef
     have yz:=hst2.sz
     have x0:=hst2.z0
     have x1:=hst2.z1
     have xf:=hst2.zf
     have xz:w.heap.size < w2.heap.size:=by omega
     have HS2:=Lib.hid hst2
     clear hst2
     go_wp2_with fail
     all_goals first
      | (have hz:actErr M' A=0:=(by have hh:(actErr M' A != 0)=false:=(by assumption);simpa using hh)
         have HP:=Lib.hid (HS2.out.put (v2:=kE M' f A) HL.out (.cells #[.int .u8 (kE M' f A).tag,.int .u32 (kE M' f A).to] 37))
         go_roundg (gk - 1)
         case rel=>exact ⟨k - 1,_,_,_,by omega,by go_num,by omega,by omega,hEo,HP.out,by rw [← HQ.out,cubeGo_ok hlk HC.out hz]⟩
         case measure=>omega)
      | (have hz:¬ actErr M' A=0:=(by have hh:(actErr M' A != 0)=true:=(by assumption);simpa using hh)
         have hb:=HQ.out.symm.trans (cubeGo_bad hlk HC.out hz)
         rw [hb]
         refine bodyPost_ret (v:=.tuple #[.agg #[.int .u8 0,.int .u32 0],.int .u8 (actErr M' A)]) (by simp [results,Tryz.results69,go_sem,xz,x0,x1]) rfl ⟨rfl,HS2.out.done HL.out ?_⟩
         exact (((Upd.refl (fun k=>k=w.heap.size) _).setCell (p:=⟨w.heap.size,0,none⟩) (Or.inl rfl) _).setCell (p:=⟨w.heap.size,1,none⟩) (Or.inl rfl) _).alloc _)
   ·obtain ⟨A,hA⟩:∃ A,A=(kAct M' f k ⟨0,0⟩ v):=⟨_,rfl⟩
    have hact:kAct M' f k (lowE ones k v) (lowE noughts k v)=A:=by rw [hA];unfold lowE;rw [b1,b2];rfl
    have hEo:(kE M' f A).ok:=by rw [hA];exact kE_ok hI.rep f k _ _ zero_ok (by omega) (by omega)
    have her:=kErr M' f k ⟨0,0⟩ v
    rw [← hA] at her
    obtain ⟨er1,er2⟩:=her
    have y0:=hI.e0
    have y1:=hI.e1
    have yz:=hI.sz
    have x0:=hI.z0
    have x1:=hI.z1
    have xf:=hI.zf
    have hse:=hI.se
    have HI':=Lib.hid hI
    have HQ:=Lib.hid heq
    have HA:=Lib.hid hA
    have HC:=Lib.hid hact
    have hb1:(bits BinOp.and IntKind.u16 (ones / 2 ^ k.toNat) 1 == 1)=true:=b1
    have hb2:(bits BinOp.and IntKind.u16 (noughts / 2 ^ k.toNat) 1 == 1)=false:=b2
    clear hI heq hA hact b1 b2
    go_wp2_with fail
    go_region
    all_goals
     go_wp2_with fail
     have hcm:=fun (W:World) (hW:Keeps wr W)=>canon_make (HI'.out.rep.keeps hW) f k ⟨0,0⟩ v zero_ok hv
     rw [← HA.out] at hcm
     refine (hcm _ (by (exact kp))).mono ?_
     rintro e w2 ⟨rfl,hu,hS2⟩
     clear hcm
     have hst:=fun hkW=>CubeInv.call HI'.out HL.out hkW hu hS2
     have hst2:=hst (by (exact kp))
     clear hst hu hS2 y0 y1 yz x0 x1 xf
     have y0:=hst2.e0
     have y1:=hst2.e1
     have yf:=hst2.ef
     have yz:=hst2.sz
     have x0:=hst2.z0
     have x1:=hst2.z1
     have xf:=hst2.zf
     have xz:w.heap.size < w2.heap.size:=by omega
     have HS2:=Lib.hid hst2
     clear hst2
     go_wp2_with fail
     all_goals first
      | (have hz:actErr M' A=0:=(by have hh:(actErr M' A != 0)=false:=(by assumption);simpa using hh)
         have HP:=Lib.hid (HS2.out.put (v2:=kE M' f A) HL.out (.cells #[.int .u8 (kE M' f A).tag,.int .u32 (kE M' f A).to] 37))
         go_roundg (gk - 1)
         case rel=>exact ⟨k - 1,_,_,_,by omega,by go_num,by omega,by omega,hEo,HP.out,by rw [← HQ.out,cubeGo_ok hlk HC.out hz]⟩
         case measure=>omega)
      | (have hz:¬ actErr M' A=0:=(by have hh:(actErr M' A != 0)=true:=(by assumption);simpa using hh)
         have hb:=HQ.out.symm.trans (cubeGo_bad hlk HC.out hz)
         rw [hb]
         refine bodyPost_ret (v:=.tuple #[.agg #[.int .u8 0,.int .u32 0],.int .u8 (actErr M' A)]) (by simp [results,Tryz.results69,go_sem,xz,x0,x1]) rfl ⟨rfl,HS2.out.done HL.out ?_⟩
         exact (((Upd.refl (fun k=>k=w.heap.size) _).setCell (p:=⟨w.heap.size,0,none⟩) (Or.inl rfl) _).setCell (p:=⟨w.heap.size,1,none⟩) (Or.inl rfl) _).alloc _)
   ·obtain ⟨A,hA⟩:∃ A,A=(kAct M' f k ⟨0,0⟩ ⟨0,0⟩):=⟨_,rfl⟩
    have hact:kAct M' f k (lowE ones k v) (lowE noughts k v)=A:=by rw [hA];unfold lowE;rw [b1,b2];rfl
    have hEo:(kE M' f A).ok:=by rw [hA];exact kE_ok hI.rep f k _ _ zero_ok (by omega) (by omega)
    have her:=kErr M' f k ⟨0,0⟩ ⟨0,0⟩
    rw [← hA] at her
    obtain ⟨er1,er2⟩:=her
    have y0:=hI.e0
    have y1:=hI.e1
    have yz:=hI.sz
    have x0:=hI.z0
    have x1:=hI.z1
    have xf:=hI.zf
    have hse:=hI.se
    have HI':=Lib.hid hI
    have HQ:=Lib.hid heq
    have HA:=Lib.hid hA
    have HC:=Lib.hid hact
    have hb1:(bits BinOp.and IntKind.u16 (ones / 2 ^ k.toNat) 1 == 1)=true:=b1
    have hb2:(bits BinOp.and IntKind.u16 (noughts / 2 ^ k.toNat) 1 == 1)=true:=b2
    clear hI heq hA hact b1 b2
    go_wp2_with fail
    go_region
    all_goals
     go_wp2_with fail
     have hcm:=fun (W:World) (hW:Keeps wr W)=>canon_make (HI'.out.rep.keeps hW) f k ⟨0,0⟩ ⟨0,0⟩ zero_ok zero_ok
     rw [← HA.out] at hcm
     refine (hcm _ (by (exact kp))).mono ?_
     rintro e w2 ⟨rfl,hu,hS2⟩
     clear hcm
     have hst:=fun hkW=>CubeInv.call HI'.out HL.out hkW hu hS2
     have hst2:=hst (by (exact kp))
     clear hst hu hS2 y0 y1 yz x0 x1 xf
     have y0:=hst2.e0
     have y1:=hst2.e1
     have yf:=hst2.ef
     have yz:=hst2.sz
     have x0:=hst2.z0
     have x1:=hst2.z1
     have xf:=hst2.zf
     have xz:w.heap.size < w2.heap.size:=by omega
     have HS2:=Lib.hid hst2
     clear hst2
     go_wp2_with fail
     all_goals first
      | (have hz:actErr M' A=0:=(by have hh:(actErr M' A != 0)=false:=(by assumption);simpa using hh)
         have HP:=Lib.hid (HS2.out.put (v2:=kE M' f A) HL.out (.cells #[.int .u8 (kE M' f A).tag,.int .u32 (kE M' f A).to] 37))
         go_roundg (gk - 1)
         case rel=>exact ⟨k - 1,_,_,_,by omega,by go_num,by omega,by omega,hEo,HP.out,by rw [← HQ.out,cubeGo_ok hlk HC.out hz]⟩
         case measure=>omega)
      | (have hz:¬ actErr M' A=0:=(by have hh:(actErr M' A != 0)=true:=(by assumption);simpa using hh)
         have hb:=HQ.out.symm.trans (cubeGo_bad hlk HC.out hz)
         rw [hb]
         refine bodyPost_ret (v:=.tuple #[.agg #[.int .u8 0,.int .u32 0],.int .u8 (actErr M' A)]) (by simp [results,Tryz.results69,go_sem,xz,x0,x1]) rfl ⟨rfl,HS2.out.done HL.out ?_⟩
         exact (((Upd.refl (fun k=>k=w.heap.size) _).setCell (p:=⟨w.heap.size,0,none⟩) (Or.inl rfl) _).setCell (p:=⟨w.heap.size,1,none⟩) (Or.inl rfl) _).alloc _)
  ·have hk3:(k - l + 1).toNat=0:=by omega
   rw [hk3] at heq
   have y0:=hI.e0
   have y1:=hI.e1
   have yz:=hI.sz
   have x0:=hI.z0
   have x1:=hI.z1
   have xf:=hI.zf
   have hse:=hI.se
   have xz:w.heap.size < wr.heap.size:=by omega
   have HI':=Lib.hid hI
   have HQ:=Lib.hid heq
   clear hI heq hk3
   go_wp2_with fail
   rw [← HQ.out]
   refine bodyPost_ret (v:=.tuple #[.agg #[.int .u8 v.tag,.int .u32 v.to],.int .u8 0]) (by simp [results,Tryz.results69,go_sem,xz,x0,x1]) rfl ⟨rfl,HI'.out.done HL.out ?_⟩
   exact ((Upd.refl (fun k=>k=w.heap.size) _).setCell (p:=⟨w.heap.size,0,none⟩) (Or.inl rfl) _).setCell (p:=⟨w.heap.size,1,none⟩) (Or.inl rfl) _

end Go.Proofs.YtfpjogpjocedaaaGreat
