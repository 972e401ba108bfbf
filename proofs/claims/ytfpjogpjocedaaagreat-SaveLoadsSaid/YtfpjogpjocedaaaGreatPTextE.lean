/-
  ramageref28.place, ramageref28.Numbered: the nodes that an edge reaches, by their numbers.
-/
import Derived.Test.YtfpjogpjocedaaaGreatPKB
import Derived.Test.YtfpjogpjocedaaaGreatPWireD
import Derived.Deep.CutBlock
namespace Go.Proofs.YtfpjogpjocedaaaGreat
set_option linter.unusedSimpArgs false
set_option linter.unusedVariables false
set_option maxHeartbeats 600000
open Go Go.RowKit

def UsRow (base:Nat) (w:World) (v:Value) (l:List Int):Prop:=w.ownsRow base 35 1 v l.length (l.map (Value.int .u32))

def UsAt (w:World) (a:Option Addr) (l:List Int):Prop:=∀ i x,l[i]?=some x → ∃ g,a=some ⟨g,0,none⟩ ∧ w.cell? ⟨g,i,none⟩=some (.int .u32 x)

theorem UsAt.keeps {w w':World} {a:Option Addr} {l:List Int} (h:UsAt w a l) (hk:Keeps w w'):UsAt w' a l:=fun i x hx=>by
 obtain ⟨g,ha,hc⟩:=h i x hx
 exact ⟨g,ha,hk.cell hc⟩

theorem UsRow.keeps {base:Nat} {w w':World} {v:Value} {l:List Int} (h:UsRow base w v l) (hk:Keeps w w'):UsRow base w' v l:=hk.owns h

theorem UsRow.slice {base:Nat} {w:World} {v:Value} {l:List Int} (h:UsRow base w v l):∃ a cap,v=.slice a l.length cap ∧ UsAt w a l:=by
 rcases h.2 with ⟨h0,hn⟩ | ⟨g,cap,cur,h0,hb,hg,hnc,hcm,hcs,htake⟩
 ·refine ⟨none,0,by rw [h0,hn],fun i x hx=>?_⟩
  have:=(List.getElem?_eq_some_iff.1 hx).1
  omega
 ·refine ⟨some ⟨g,0,none⟩,cap,h0,fun i x hx=>⟨g,rfl,?_⟩⟩
  have hi:=(List.getElem?_eq_some_iff.1 hx).1
  rw [h0] at h
  have h2:=World.ownsRow.cellAt h (j:=i) (by omega)
  rw [h2,List.getElem?_map,hx]
  rfl

theorem UsRow.lower {b1 b2:Nat} {w:World} {v:Value} {l:List Int} (h:UsRow b1 w v l) (hb:b2 ≤ b1):UsRow b2 w v l:=by
 refine ⟨h.1,?_⟩
 rcases h.2 with hn | ⟨g,cap,cur,e,hbg,rest⟩
 ·exact .inl hn
 ·exact .inr ⟨g,cap,cur,e,by omega,rest⟩

theorem UsRow.nil (base:Nat) (w:World):UsRow base w (.slice none 0 0) []:=World.ownsRow_nil _ _ _ _

theorem usRow_new (w:World) (x:Int):UsRow w.heap.size (w.alloc (.cells #[.int .u32 x] 35)) (.slice (some ⟨w.heap.size,0,none⟩) 1 1) [x]:=
 ⟨rfl,.inr ⟨w.heap.size,1,#[.int .u32 x],rfl,Nat.le_refl _,heap_alloc_new w _,Nat.le_refl _,by unfold maxLen;omega,rfl,rfl⟩⟩

theorem info_us:(Tryz.prog.info? 35).map (fun i=>(i.zero,i.size,i.bytes))=some (some (.int .u32 0),1,4):=by kernel_rfl

theorem wpU_append {w:World} {ops:Array Oper} {rest:List Oper} {o:Oper} {a:Act} {Q:Exit → Act → World → Prop} (hgd:o.guard=none) (s x:Operand)
  (ho:o.op=.call { callee:=.builtin .append,args:=#[s,x],argTypes:=#[49,49] })
  (base b2:Nat) (v xv:Value) (bs cs:List Int) (hs:a.eval s=v) (hx:a.eval x=xv) (hown:UsRow base w v bs) (hrow:UsRow b2 w xv cs) (hl:bs.length + cs.length ≤ 10000000) (hbase:base ≤ w.heap.size)
  (h:∀ v' w',UsRow base w' v' (bs ++ cs) → w.grownBy w' v.ownBlock → wpList Tryz.prog ops Q rest (a.put o.dst v') w'):wpList Tryz.prog ops Q (o :: rest) a w:=by
 obtain ⟨i,hi,hz0,hz1,hz2⟩:=info_parts info_us
 refine wpB_row hgd s x 49 ho base b2 35 i (.int .u32 0) 4 Tryz.underlying49 hi hz0 hz1 hz2 rfl v bs.length (bs.map (Value.int .u32)) hs hown xv cs.length (cs.map (Value.int .u32)) hx hrow (fun u hu=>by obtain ⟨y,_,rfl⟩:=List.mem_map.1 hu;rfl) (by unfold maxLen;omega) (by omega) hbase (fun v' w' h2 h3=>h v' w' ?_ h3)
 unfold UsRow
 rw [List.map_append,List.length_append]
 exact h2

def placeI (l:List Int) (x:Int):Int:=if x ∈ l then (l.idxOf x:Int) else -1

theorem idx_first:∀ {l:List Int} {x:Int} {d:Nat},l[d]?=some x → (∀ i,i < d → l[i]? ≠ some x) → l.idxOf x=d:=by
 intro l
 induction l with
 | nil=>intro x d h;simp at h
 | cons y l ih=>
  intro x d h hn
  cases d with
  | zero=>
   simp at h
   subst h
   simp
  | succ d=>
   have hy:y ≠ x:=fun e=>hn 0 (by omega) (by simp [e])
   rw [List.idxOf_cons]
   have e1:(y == x)=false:=by simp [hy]
   rw [e1]
   have:=ih (x:=x) (d:=d) (by simpa using h) (fun i hi=>by have:=hn (i + 1) (by omega);simpa using this)
   simp [this]

set_option maxRecDepth 100000 in
theorem place_calls (a:Option Addr) (cap:Nat) (l:List Int) (x:Int) (w:World) (h:UsAt w a l) (hl:l.length ≤ 1048576) :
  Calls Tryz.prog 91 #[.slice a l.length cap,.int .u32 x] w fun e w'=>e=.returned (.int .i64 (placeI l x)) ∧ w=w':=by
 obtain ⟨N,hN⟩:∃ N,N=l.length:=⟨_,rfl⟩
 rw [← hN] at hl ⊢
 have H:=Lib.hid h
 have HN:=Lib.hid hN
 clear h hN
 go_enter Tryz.func91,Tryz.ntmps91
 go_wp2
 go_loopg [5] N (fun gk s5 wr=>∃ d:Nat,s5=.int .i64 (d:Int) ∧ d + gk=N ∧ (∀ i,i < d → l[i]? ≠ some x) ∧ w=wr)
 case atStart=>exact ⟨0,rfl,by omega,fun i hi=>by omega,rfl⟩
 case round=>
  obtain ⟨d,rfl,hd,hn,rfl⟩:=hrel
  have HNN:=Lib.hid hn
  clear hn
  by_cases hlt:d < N
  ·obtain ⟨y,hy⟩:∃ b,l[d]?=some b:=⟨_,List.getElem?_eq_getElem (by rw [← HN.out];exact hlt)⟩
   obtain ⟨g,rfl,c0⟩:=H.out d y hy
   have HY:=Lib.hid hy
   have i0:(0:Int) ≤ (d:Int):=by omega
   have i1:(d:Int) < (N:Int):=by omega
   clear hy
   by_cases hxy:y=x
   ·subst hxy
    have HE:Hid (placeI l y=(d:Int)):=Lib.hid (by
     unfold placeI
     rw [if_pos (List.mem_of_getElem? HY.out),idx_first HY.out HNN.out])
    have g0:(y == y)=true:=by simp
    go_wp2
    all_goals (go_ret;exact ⟨by rw [HE.out];rfl,rfl⟩)
   ·have g0:(y == x)=false:=by simp [hxy]
    go_wp2
    go_roundg (gk - 1)
    case rel=>exact ⟨d + 1,by simp,by omega,fun i hi=>by
     by_cases e:i=d
     ·subst e;rw [HY.out];exact fun hh=>hxy (Option.some.inj hh)
     ·exact HNN.out i (by omega),rfl⟩
    case measure=>omega
  ·have hdN:d=N:=by omega
   have HE:Hid (placeI l x=-1):=Lib.hid (by
    unfold placeI
    rw [if_neg (fun hm=>by
     obtain ⟨i,hi⟩:=List.getElem?_of_mem hm
     have:=(List.getElem?_eq_some_iff.1 hi).1
     exact HNN.out i (by rw [hdN,HN.out];exact this) hi)])
   subst hdN
   go_wp2
   go_ret
   exact ⟨by rw [HE.out];rfl,rfl⟩

set_option maxRecDepth 100000 in
set_option maxHeartbeats 1000000 in
theorem numbered_step {F:Nat → Prop} {w:World} {mb:Nat} {M:St} {L:List (Int × Rec)} (h:RefRep F w mb M L) (hfa:FitA M) {base:Nat} (hbase:base ≤ w.heap.size) (e:Edge) (he:e.ok) (v:Value) (S:List Int) (hv:UsRow base w v S) (hS:NumOk M S) (hfew:M.cs.length ≤ 1048576)
  (hlo:∀ r,look M.cs e.to=some r → ∀ W v S,Keeps w W → UsRow base W v S → NumOk M S → Calls Tryz.prog 54 #[.pointer (some ⟨mb,0,none⟩),.agg #[.int .u8 r.lo.tag,.int .u32 r.lo.to],v] W fun x w'=>∃ v',x=.returned v' ∧ UsRow base w' v' (numM M r.lo.to S) ∧ Keeps W w')
  (hhi:∀ r,look M.cs e.to=some r → ∀ W v S,Keeps w W → UsRow base W v S → NumOk M S → Calls Tryz.prog 54 #[.pointer (some ⟨mb,0,none⟩),.agg #[.int .u8 r.hi.tag,.int .u32 r.hi.to],v] W fun x w'=>∃ v',x=.returned v' ∧ UsRow base w' v' (numM M r.hi.to S) ∧ Keeps W w') :
  Calls Tryz.prog 54 #[.pointer (some ⟨mb,0,none⟩),.agg #[.int .u8 e.tag,.int .u32 e.to],v] w fun x w'=>∃ v',x=.returned v' ∧ UsRow base w' v' (numM M e.to S) ∧ Keeps w w':=by
 have hfw:∀ T:List Int,NumOk M T → T.length ≤ 1048576:=fun T hT=>by
  have:=ids_few M.cs.length T hT.once (fun x hx=>by
   cases hl:look M.cs x with
   | none=>exact absurd hl (hT.known x hx)
   | some r=>have:=look_some hl;exact ⟨this.1,this.2.1⟩)
  omega
 have HA:=Lib.hid (fun (W:World) (hW:Keeps w W)=>ref_at (h.keeps hW) e.to)
 obtain ⟨a,cap,rfl,hat⟩:=hv.slice
 have HPL:=Lib.hid (fun (W:World) (hW:Keeps w W)=>place_calls a cap S e.to W (hat.keeps hW) (hfw S hS))
 have HV:=Lib.hid hv
 have HLO:=Lib.hid hlo
 have HHI:=Lib.hid hhi
 obtain ⟨N,hN⟩:∃ N,N=S.length:=⟨_,rfl⟩
 rw [← hN] at HPL HV ⊢
 rcases atI_look h e.to with ⟨r,hk,D,hLD,hDe,hDl,hq⟩ | ⟨hk,_,hq⟩
 ·rw [hq] at HA
  clear hDe
  by_cases hm:e.to ∈ S
  ·have HM:=Lib.hid (numM_met (M:=M) hm)
   have hp:placeI S e.to=(S.idxOf e.to:Int):=by unfold placeI;rw [if_pos hm]
   obtain ⟨k,hk2⟩:∃ k,k=S.idxOf e.to:=⟨_,rfl⟩
   rw [hp,← hk2] at HPL
   have g1:¬ ((D:Int) < 0):=by omega
   have g2:((0:Int) ≤ (k:Int)):=by omega
   clear hq hp hk2 h hlo hhi hv hat hfw hN HLO HHI hk hLD
   go_enter Tryz.func54,Tryz.ntmps54
   go_wp2_with (first | (go_at_call 55;refine (HA.out _ (by (exact kp))).mono ?_;rintro e2 w2 ⟨rfl,rfl⟩) | (go_at_call 91;refine (HPL.out _ (by (exact kp))).mono ?_;rintro e2 w2 ⟨rfl,rfl⟩) | fail)
   go_ret
   exact ⟨_,rfl,by rw [HM.out];exact HV.out.keeps (by (exact kp)),by (exact kp)⟩
  ·have HNUM:=Lib.hid (numM_some h.wf hfa hm hk)
   have HS:=Lib.hid hS
   have HS1:=Lib.hid (hS.next h.wf hfa r.lo.to)
   have HF2:=Lib.hid (hfw _ ((hS.next h.wf hfa r.lo.to).next h.wf hfa r.hi.to))
   have hp:placeI S e.to=-1:=by unfold placeI;rw [if_neg hm]
   rw [hp] at HPL
   obtain ⟨lb,cp,q0,ql,qm,q1,q2,q3,q4,q5,q6,q7⟩:=h.node hLD
   have hkA:Keeps w (w.alloc (.cells #[.int .u8 e.tag,.int .u32 e.to] 37)):=(Keeps.refl w).alloc _
   replace q0:=hkA.cell q0
   replace q4:=hkA.cell q4
   replace q5:=hkA.cell q5
   replace q6:=hkA.cell q6
   replace q7:=hkA.cell q7
   have z0:(w.alloc (.cells #[.int .u8 e.tag,.int .u32 e.to] 37)).cell? ⟨w.heap.size,0,none⟩=some (.int .u8 e.tag):=by simp [go_sem]
   have z1:(w.alloc (.cells #[.int .u8 e.tag,.int .u32 e.to] 37)).cell? ⟨w.heap.size,1,none⟩=some (.int .u32 e.to):=by simp [go_sem]
   have HKA:=Lib.hid hkA
   have g1:¬ ((D:Int) < 0):=by omega
   have i1:(D:Int) < (L.length:Int):=by omega
   have i0:(0:Int) ≤ (D:Int):=by omega
   clear hq hp h hlo hhi hv hat hfw hN hLD hDl q1 q2 q3 hkA hS
   go_enter Tryz.func54,Tryz.ntmps54
   go_wp2_with (first
    | (go_at_call 55;refine (HA.out _ (by (exact kp))).mono ?_;rintro e2 w2 ⟨rfl,rfl⟩)
    | (go_at_call 91;refine (HPL.out _ (by (exact kp))).mono ?_;rintro e2 w2 ⟨rfl,rfl⟩)
    | (go_at_call 54;have q:=HV3;clear q;refine (HHI.out r hk _ _ _ HK3.out HV3.out HS1.out).mono ?_;rintro e4 w4 ⟨v4,rfl,hv4,hk4⟩;replace q0:=hk4.cell q0;replace q4:=hk4.cell q4;replace q5:=hk4.cell q5;replace q6:=hk4.cell q6;replace q7:=hk4.cell q7;replace z0:=hk4.cell z0;replace z1:=hk4.cell z1;have HV4:=Lib.hid hv4;have HK4:=Lib.hid (HK3.out.trans hk4);have hs4:=hk4.size;have hl4:w.heap.size < w4.heap.size:=(by omega);clear hv4 hk4 HHI HV3 HK3)
    | (go_at_call 54;refine (HLO.out r hk _ _ S HKA.out (HV.out.keeps HKA.out) HS.out).mono ?_;rintro e3 w3 ⟨v3,rfl,hv3,hk3⟩;replace q0:=hk3.cell q0;replace q4:=hk3.cell q4;replace q5:=hk3.cell q5;replace q6:=hk3.cell q6;replace q7:=hk3.cell q7;replace z0:=hk3.cell z0;replace z1:=hk3.cell z1;have HV3:=Lib.hid hv3;have HK3:=Lib.hid (HKA.out.trans hk3);have hs3:=hk3.size;simp only [World.size_alloc] at hs3;clear hv3 hk3 HLO HV)
    | (at_builtin;have q:=HV5;clear q;refine wpU_append rfl _ _ rfl w4.heap.size _ v5 _ _ [e.to] rfl rfl (HV5.out.keeps ((Keeps.refl _).alloc _)) (usRow_new w5 e.to) (by have:=HF2.out;simp only [List.length_append,List.length_nil,List.length_singleton];omega) (by rw [World.size_alloc];omega) ?_;intro v6 w6 hv6 hg6;have HV6:=Lib.hid hv6;have HG6:=Lib.hid hg6;clear hv6 hg6)
    | (at_builtin;have q:=HV4;clear q;refine wpU_append rfl _ _ rfl w4.heap.size base (.slice none 0 0) v4 [] _ rfl rfl (UsRow.nil _ _) HV4.out (by have:=HF2.out;simp only [List.length_nil];omega) (Nat.le_refl _) ?_;intro v5 w5 hv5 hg5;have hk5:Keeps w4 w5:=⟨hg5.os,hg5.tape,hg5.output,hg5.size,fun i hi=>hg5.block i hi (by simp [Value.ownBlock])⟩;replace q0:=hk5.cell q0;replace q4:=hk5.cell q4;replace q5:=hk5.cell q5;replace q6:=hk5.cell q6;replace q7:=hk5.cell q7;replace z0:=hk5.cell z0;replace z1:=hk5.cell z1;have HV5:=Lib.hid hv5;have HK5:=Lib.hid (HK4.out.trans hk5);have hs5:=hk5.size;have hl5:w.heap.size < w5.heap.size:=(by omega);clear hv5 hg5 hk5 HV4 HK4)
    | fail)
   go_ret
   refine ⟨v6,rfl,?_,?_⟩
   ·rw [HNUM.out]
    exact HV6.out.lower (by omega)
   ·refine (HK5.out.alloc _).new (F:=fun k=>v5.ownBlock=some k) ⟨HG6.out.os,HG6.out.tape,HG6.out.output,HG6.out.size,fun i hi hne=>HG6.out.block i hi (fun e=>hne e.symm)⟩ (fun k hk=>?_)
    have:=row_from HV5.out hk
    omega
 ·have HM:=Lib.hid (numM_none (S:=S) hk)
  rw [hq] at HA
  clear hq h hlo hhi hv hat hfw hN HLO HHI hk
  go_enter Tryz.func54,Tryz.ntmps54
  go_wp2_with (first | (go_at_call 55;refine (HA.out _ (by (exact kp))).mono ?_;rintro e2 w2 ⟨rfl,rfl⟩) | fail)
  go_ret
  exact ⟨_,rfl,by rw [HM.out];exact HV.out.keeps (by (exact kp)),by (exact kp)⟩

structure NumsAt (v:Nat) (rd0:Option (List Int)) (d:Nat) (pre:List Int) (rd:Option (List Int)):Prop where
 le:d ≤ v
 len:pre.length=d
 all:pre ++ (numsR (v - d) rd).1=(numsR v rd0).1
 rest:(numsR (v - d) rd).2=(numsR v rd0).2

theorem NumsAt.start (v:Nat) (rd0:Option (List Int)):NumsAt v rd0 0 [] rd0:=⟨Nat.zero_le _,rfl,rfl,rfl⟩

theorem NumsAt.next {v:Nat} {rd0:Option (List Int)} {d:Nat} {pre:List Int} {rd:Option (List Int)} (h:NumsAt v rd0 d pre rd) (hd:d < v):NumsAt v rd0 (d + 1) (pre ++ [((numR 16 rd).1:Int)]) (numR 16 rd).2:=by
 have e:v - d=(v - (d + 1)) + 1:=by omega
 have h1:=h.all
 have h2:=h.rest
 rw [e] at h1 h2
 exact ⟨by omega,by rw [List.length_append,h.len];rfl,by rw [List.append_assoc];exact h1,h2⟩

theorem NumsAt.end {v:Nat} {rd0:Option (List Int)} {pre:List Int} {rd:Option (List Int)} (h:NumsAt v rd0 v pre rd):pre=(numsR v rd0).1 ∧ rd=(numsR v rd0).2:=by
 have h1:=h.all
 have h2:=h.rest
 rw [Nat.sub_self] at h1 h2
 exact ⟨by rw [← h1];exact (List.append_nil pre).symm,h2⟩

structure RecsAt (f:Int) (k:Nat) (rd0:Option (List Int)) (d:Nat) (pre:List Rec) (rd:Option (List Int)):Prop where
 le:d ≤ k
 len:pre.length=d
 all:pre ++ (recsR f (k - d) d rd).1=(recsR f k 0 rd0).1
 rest:(recsR f (k - d) d rd).2=(recsR f k 0 rd0).2

theorem RecsAt.start (f:Int) (k:Nat) (rd0:Option (List Int)):RecsAt f k rd0 0 [] rd0:=⟨Nat.zero_le _,rfl,rfl,rfl⟩

theorem RecsAt.next {f:Int} {k:Nat} {rd0:Option (List Int)} {d:Nat} {pre:List Rec} {rd:Option (List Int)} (h:RecsAt f k rd0 d pre rd) (hd:d < k):RecsAt f k rd0 (d + 1) (pre ++ [(recR f d rd).1]) (recR f d rd).2:=by
 have e:k - d=(k - (d + 1)) + 1:=by omega
 have h1:=h.all
 have h2:=h.rest
 rw [e] at h1 h2
 exact ⟨by omega,by rw [List.length_append,h.len];rfl,by rw [List.append_assoc];exact h1,h2⟩

theorem RecsAt.end {f:Int} {k:Nat} {rd0:Option (List Int)} {pre:List Rec} {rd:Option (List Int)} (h:RecsAt f k rd0 k pre rd):pre=(recsR f k 0 rd0).1 ∧ rd=(recsR f k 0 rd0).2:=by
 have h1:=h.all
 have h2:=h.rest
 rw [Nat.sub_self] at h1 h2
 exact ⟨by rw [← h1];exact (List.append_nil pre).symm,h2⟩

theorem RecsAt.bad {f:Int} {k:Nat} {rd0:Option (List Int)} {d:Nat} {pre:List Rec} (h:RecsAt f k rd0 d pre none):(recsR f k 0 rd0).2=none:=by
 rw [← h.rest,recsR_none]

theorem readB_eq (b:List Int):readB b=if (edgeR ((numR 5 (numR 16 (some b)).2).1:Int) (numR b.length (numsR (numR 16 (some b)).1 (numR 5 (numR 16 (some b)).2).2).2).1 (recsR ((numR 5 (numR 16 (some b)).2).1:Int) (numR b.length (numsR (numR 16 (some b)).1 (numR 5 (numR 16 (some b)).2).2).2).1 0 (numR b.length (numsR (numR 16 (some b)).1 (numR 5 (numR 16 (some b)).2).2).2).2).2).2=some [] ∧ 1 ≤ (numR 5 (numR 16 (some b)).2).1 then some ⟨(numR 16 (some b)).1,(numR 5 (numR 16 (some b)).2).1,(numsR (numR 16 (some b)).1 (numR 5 (numR 16 (some b)).2).2).1,(recsR ((numR 5 (numR 16 (some b)).2).1:Int) (numR b.length (numsR (numR 16 (some b)).1 (numR 5 (numR 16 (some b)).2).2).2).1 0 (numR b.length (numsR (numR 16 (some b)).1 (numR 5 (numR 16 (some b)).2).2).2).2).1,(edgeR ((numR 5 (numR 16 (some b)).2).1:Int) (numR b.length (numsR (numR 16 (some b)).1 (numR 5 (numR 16 (some b)).2).2).2).1 (recsR ((numR 5 (numR 16 (some b)).2).1:Int) (numR b.length (numsR (numR 16 (some b)).1 (numR 5 (numR 16 (some b)).2).2).2).1 0 (numR b.length (numsR (numR 16 (some b)).1 (numR 5 (numR 16 (some b)).2).2).2).2).2).1⟩ else none:=rfl

theorem read_end {bs:List Int} {n0 f0 k0 i:Nat} {rd0 rd1 rd rd2 rdi rd9:Option (List Int)} {pre:List Int} {pr:List Rec} {e9:Edge} (h0:(n0,rd0)=numR 16 (some bs)) (h1:(f0,rd1)=numR 5 rd0) (h2:pre=(numsR n0 rd1).1) (h3:rd=(numsR n0 rd1).2) (h4:(k0,rd2)=numR bs.length rd)
  (hA:RecsAt (f0:Int) k0 rd2 i pr rdi) (hx:i=k0 ∨ rdi=none) (h9:(e9,rd9)=edgeR (f0:Int) k0 rdi) :
  (readB bs=if rd9=some [] ∧ 1 ≤ f0 then some ⟨n0,f0,pre,pr,e9⟩ else none) ∧ (rd9=some [] → pr.length=k0):=by
 have hb:=readB_eq bs
 rw [← h0] at hb
 simp only [] at hb
 rw [← h1] at hb
 simp only [] at hb
 rw [← h2,← h3,← h4] at hb
 simp only [] at hb
 rcases hx with rfl | rfl
 ·obtain ⟨a,b⟩:=hA.end
  rw [← a,← b,← h9] at hb
  exact ⟨hb,fun _=>hA.len⟩
 ·have hn:=hA.bad
  rw [hn,edgeR_none] at hb
  rw [edgeR_none] at h9
  cases h9
  simp only [] at hb
  refine ⟨?_,fun h=>by cases h⟩
  rw [hb,if_neg (fun h=>by cases h.1),if_neg (fun h=>by cases h.1)]

theorem read_fin {bs:List Int} {rd9:Option (List Int)} {f0:Nat} {T0:Txt} {P:Txt → Prop} (h:readB bs=if rd9=some [] ∧ 1 ≤ f0 then some T0 else none) (hf:T0.form=f0) (ok:Bool) (hok:ok=true ↔ (rd9=some [] ∧ isFormB (f0:Int)=true)) (hP:rd9=some [] → P T0) :
  (ok=true ↔ ∃ T,readB bs=some T ∧ isFormB (T.form:Int)=true) ∧ ∀ T,readB bs=some T → P T:=by
 have hff:isFormB (f0:Int)=true → 1 ≤ f0:=fun hb=>by
  unfold isFormB at hb
  simp at hb
  omega
 by_cases hc:rd9=some [] ∧ 1 ≤ f0
 ·rw [if_pos hc] at h
  refine ⟨?_,fun T hT=>?_⟩
  ·rw [hok]
   constructor
   ·rintro ⟨_,b⟩
    exact ⟨T0,h,by rw [hf];exact b⟩
   ·rintro ⟨T,h1,h2⟩
    rw [h] at h1
    cases h1
    rw [hf] at h2
    exact ⟨hc.1,h2⟩
  ·rw [h] at hT
   cases hT
   exact hP hc.1
 ·rw [if_neg hc] at h
  refine ⟨?_,fun T hT=>by rw [h] at hT;cases hT⟩
  rw [hok]
  constructor
  ·rintro ⟨a,b⟩
   exact absurd ⟨a,hff b⟩ hc
  ·rintro ⟨T,h1,_⟩
   rw [h] at h1
   cases h1

open Go.RowKit

set_option maxRecDepth 100000 in
theorem stays_low (sb mb:Nat) (a:Option Addr) (len cap:Nat) (ids:Nat → Int) (rs:Nat → Rec) (w:World) (hl:len ≤ 1048576)
  (c0:w.cell? ⟨mb,0,none⟩=some (.slice a len cap))
  (hv:∀ i,i < len → ∃ lb,a=some ⟨lb,0,none⟩ ∧ ∀ j,j < 8 → w.cell? ⟨lb,i * 8 + j,none⟩=(nodeVals (ids i,rs i))[j]?)
  (hget:∀ i,i < len → ∀ W,Keeps w W → Calls Tryz.prog 46 #[.pointer (some ⟨sb,0,none⟩),.int .u32 (ids i)] W fun e w'=>e=.returned (.tuple #[.agg #[.int .u8 (rs i).form,.int .u8 (rs i).top,.int .u8 (rs i).bot,.int .u8 (rs i).lo.tag,.int .u32 (rs i).lo.to,.int .u8 (rs i).hi.tag,.int .u32 (rs i).hi.to],.bool true]) ∧ Keeps W w') :
  Calls Tryz.prog 20 #[.pointer (some ⟨sb,0,none⟩),.pointer (some ⟨mb,0,none⟩)] w fun e w'=>e=.returned (.bool true) ∧ Keeps w w':=by
 have HV:=Lib.hid hv
 have HG:=Lib.hid hget
 clear hv hget
 go_enter Tryz.func20,Tryz.ntmps20
 go_wp2_with fail
 go_loopg [5] len (fun gk i wr=>∃ d:Nat,d + gk=len ∧ i=.int .i64 (d:Int) ∧ Keeps w wr)
 case atStart=>exact ⟨0,by omega,rfl,Keeps.refl _⟩
 case round=>
  obtain ⟨d,hd,rfl,hk⟩:=hrel
  have i0:=hk.cell c0
  have hmb:mb < wr.heap.size:=lt_of_cell i0
  by_cases hlt:d < len
  ·obtain ⟨lb,rfl,hc⟩:=HV.out d hlt
   have hsv:=fun j hj=>hk.cell ((hc j hj).trans (List.getElem?_eq_getElem (by rw [nodeVals_length];exact hj)))
   have s0:wr.cell? ⟨lb,d * 8,none⟩=some (.int .u32 (ids d)):=hsv 0 (by omega)
   have s1:wr.cell? ⟨lb,d * 8 + 1,none⟩=some (.int .u8 (rs d).form):=hsv 1 (by omega)
   have s2:wr.cell? ⟨lb,d * 8 + 2,none⟩=some (.int .u8 (rs d).top):=hsv 2 (by omega)
   have s3:wr.cell? ⟨lb,d * 8 + 3,none⟩=some (.int .u8 (rs d).bot):=hsv 3 (by omega)
   have s4:wr.cell? ⟨lb,d * 8 + 4,none⟩=some (.int .u8 (rs d).lo.tag):=hsv 4 (by omega)
   have s5:wr.cell? ⟨lb,d * 8 + 5,none⟩=some (.int .u32 (rs d).lo.to):=hsv 5 (by omega)
   have s6:wr.cell? ⟨lb,d * 8 + 6,none⟩=some (.int .u8 (rs d).hi.tag):=hsv 6 (by omega)
   have s7:wr.cell? ⟨lb,d * 8 + 7,none⟩=some (.int .u32 (rs d).hi.to):=hsv 7 (by omega)
   have hlb:lb < wr.heap.size:=lt_of_cell s0
   clear hsv hc
   have HGd:=Lib.hid (HG.out d hlt)
   have hq:∀ W,(binOp .neq 87 (.agg #[.int .u8 (rs d).form,.int .u8 (rs d).top,.int .u8 (rs d).bot,.int .u8 (rs d).lo.tag,.int .u32 (rs d).lo.to,.int .u8 (rs d).hi.tag,.int .u32 (rs d).hi.to]) (.agg #[.int .u8 (rs d).form,.int .u8 (rs d).top,.int .u8 (rs d).bot,.int .u8 (rs d).lo.tag,.int .u32 (rs d).lo.to,.int .u8 (rs d).hi.tag,.int .u32 (rs d).hi.to])).run Tryz.prog W=.ok (.bool false) W:=fun W=>by rw [run_neq_rec];simp
   go_wp2_with (go_at_call 46;refine (HGd.out _ hk).mono ?_;rintro e w2 ⟨rfl,hb⟩;have hk2:=hk.trans hb;have j0:=hb.cell i0;have v0:=hb.cell s0;have v1:=hb.cell s1;have v2:=hb.cell s2;have v3:=hb.cell s3;have v4:=hb.cell s4;have v5:=hb.cell s5;have v6:=hb.cell s6;have v7:=hb.cell s7;have hsz:=hb.size;have hmb2:mb < w2.heap.size:=(by omega);have hlb2:lb < w2.heap.size:=(by omega))
   clear i0 s0 s1 s2 s3 s4 s5 s6 s7
   go_quiet (fail)
   go_wp2
   go_roundg (gk - 1)
   case rel=>exact ⟨d + 1,by omega,by simp,by (exact kp)⟩
   case measure=>omega
  ·have hdl:¬ (d:Int) < (len:Int):=by omega
   go_wp2
   go_ret
   exact ⟨rfl,by (exact kp)⟩

theorem stays_calls {F G:Nat → Prop} {w:World} {sb mb:Nat} {M M':St} {L:List (Int × Rec)} (hS:StoreRep F w sb M') (hR:RefRep G w mb M L) (hE:Ext M M') :
  Calls Tryz.prog 20 #[.pointer (some ⟨sb,0,none⟩),.pointer (some ⟨mb,0,none⟩)] w fun e w'=>e=.returned (.bool true) ∧ Keeps w w':=by
 obtain ⟨a,cap,c0,hc⟩:=hR.cell
 have hat:∀ i,i < L.length → look M'.cs (L[i]?.getD (0,Rec.zero)).1=some (L[i]?.getD (0,Rec.zero)).2:=fun i hi=>by
  rw [List.getElem?_eq_getElem hi]
  exact hE.sub _ _ ((hR.mem _ _).1 (List.getElem_mem hi))
 refine stays_low sb mb a L.length cap (fun i=>(L[i]?.getD (0,Rec.zero)).1) (fun i=>(L[i]?.getD (0,Rec.zero)).2) w hR.le c0 ?_ ?_
 ·intro i hi
  obtain ⟨lb,rfl,_,hv⟩:=hc (by omega)
  refine ⟨lb,rfl,fun j hj=>?_⟩
  rw [hv i _ (List.getElem?_eq_getElem hi) j hj,List.getElem?_eq_getElem hi]
  rfl
 ·intro i hi W hW
  have hl:=hat i hi
  have hid:=(look_some hl).2.1
  have hfew:M'.cs.length ≤ 1048576:=by
   obtain ⟨⟨ab,ib,ts,Fa,Fi,_,h2,_⟩,_⟩:=hS
   exact h2.few
  have:=store_get (hS.keeps hW) (L[i]?.getD (0,Rec.zero)).1 (by omega)
  rw [hl] at this
  exact this

end Go.Proofs.YtfpjogpjocedaaaGreat
