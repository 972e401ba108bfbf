/-
  perm.Steps.
-/
import Derived.Test.YtpgcbmbnognieaaGreatPBuildW
namespace Go.Proofs.YtpgcbmbnognieaaGreat
set_option maxRecDepth 1000000
set_option maxHeartbeats 8000000
set_option linter.unusedSimpArgs false
set_option linter.unusedVariables false
open Go.RowKit

theorem index_calls (g cap:Nat)(ps:List Int)(x:Int)(w:World)(h:RowI w g ps)(hl:ps.length≤1048576)(hx:x∈ps) :
  Calls Tryz.prog 212 #[.slice (some ⟨g,0,none⟩) ps.length cap,.int .i64 x] w fun e w'=>(∃ k:Nat,e=.returned (.int .i64 (k:Int))∧ps[k]?=some x)∧w=w':=by
 obtain⟨N,hN⟩:∃ N,N=ps.length:=⟨_,rfl⟩
 rw [← hN] at hl ⊢
 have H:=Lib.hid h
 have HN:=Lib.hid hN
 have HX:=Lib.hid hx
 clear h hN hx
 go_enter Tryz.func212,Tryz.ntmps212
 go_wp2_with fail
 go_loopg [5,8] N (fun gk s5 s8 wr=>∃ d:Nat,s8=.int .i64 (d:Int)∧d+gk=N∧(∀ j,j<d→ps[j]?≠some x)∧w=wr)
 case atStart=>exact⟨0,rfl,by omega,fun j hj=>by omega,rfl⟩
 case round=>
  obtain⟨d,rfl,hd,hne,rfl⟩:=hrel
  have HNE:=Lib.hid hne
  clear hne
  by_cases hlt:d<N
  ·obtain⟨y,hy⟩:∃ b,ps[d]?=some b:=⟨_,List.getElem?_eq_getElem (by rw [← HN.out];exact hlt)⟩
   have hc:=H.out.cell hy
   have HY:=Lib.hid hy
   clear hy
   by_cases he:x=y
   ·subst he
    go_wp2_with fail
    go_ret
    exact⟨⟨d,rfl,HY.out⟩,rfl⟩
   ·go_wp2_with fail
    go_roundg (gk-1)
    case rel=>
     refine⟨d+1,by simp,by omega,fun j hj hh=>?_,rfl⟩
     by_cases hjd:j=d
     ·subst hjd
      rw [HY.out] at hh
      exact he (Option.some.inj hh).symm
     ·exact HNE.out j (by omega) hh
    case measure=>omega
  ·exfalso
   obtain⟨j,hj⟩:=List.mem_iff_getElem?.1 HX.out
   have:=(List.getElem?_eq_some_iff.1 hj).1
   exact HNE.out j (by have:=HN.out;omega) hj

theorem ownsRow_low {w:World}{lo lo2:Nat}{e:TypeId}{size:Nat}{v:Value}{n:Nat}{xs:List Value}(hl:lo2≤lo)(h:w.ownsRow lo e size v n xs):w.ownsRow lo2 e size v n xs:=by
 refine⟨h.1,?_⟩
 rcases h.2 with hn|⟨g,cap,cur,e0,hb,rest⟩
 ·exact .inl hn
 ·exact .inr ⟨g,cap,cur,e0,Nat.le_trans hl hb,rest⟩

theorem steps_calls (a1 a2:Option Addr)(cap1 cap2:Nat)(ps qs:List Int)(w:World)(h1:IntsAt w a1 ps)(h2:IntsAt w a2 qs)(hp:permB ps=true)(hq:permB qs=true)(hl:ps.length=qs.length) :
  Calls Tryz.prog 157 #[.slice a1 ps.length cap1,.slice a2 qs.length cap2] w fun e w'=>∃ (ss:List Nat) (a':Option Addr) (cap':Nat),e=.returned (.tuple #[.slice a' ss.length cap',.bool true]) ∧
   w'.ownsRow w.heap.size 3 1 (.slice a' ss.length cap') ss.length (ss.map (fun s:Nat=>Value.int .i64 (s:Int)))∧runL ps ss=qs∧(∀ s∈ss,s+1<ps.length)∧ss.length≤ps.length*ps.length∧Keeps w w':=by
 have h16:=(permB_iff.1 hp).1
 have hR1:=fun W (hW:Keeps w W)=>permRight_calls a1 cap1 ps W (h1.keeps hW) (by omega)
 have hR2:=fun W (hW:Keeps w W)=>permRight_calls a2 cap2 qs W (h2.keeps hW) (by omega)
 have hCL:=fun W (hW:Keeps w W)=>clone_calls a1 cap1 ps W (h1.keeps hW) (by omega)
 obtain⟨i0,hi,hz0,hz1,hz2⟩:=info_parts info_int
 obtain⟨N,hN⟩:∃ N,N=ps.length:=⟨_,rfl⟩
 have hidx:=fun(g cap:Nat) (ss:List Nat) (x:Int) (W:World) (hr:RowI W g (runL ps ss)) (hx:x∈runL ps ss)=>by
  have:=index_calls g cap (runL ps ss) x W hr (by rw [runL_len];omega) hx
  rw [runL_len,← hN] at this
  exact this
 rw [hp,← hN] at hR1
 rw [hq,← hl,← hN] at hR2
 rw [← hN] at hCL
 rw [← hl,← hN]
 rw [← hN] at h16
 have HR1:=Lib.hid hR1
 have HR2:=Lib.hid hR2
 have HCL:=Lib.hid hCL
 have HIX:=Lib.hid hidx
 have HN:=Lib.hid hN
 have HL:=Lib.hid hl
 have HP:=Lib.hid hp
 have HQ:=Lib.hid hq
 have H2:=Lib.hid h2
 clear hR1 hR2 hCL hidx hN hl hp hq h1 h2
 go_enter Tryz.func157,Tryz.ntmps157
 go_wp2_with fail
 refine(HR1.out _ (by(exact kp))).mono ?_
 rintro e w1 ⟨rfl,rfl⟩
 go_wp2_with fail
 refine(HR2.out _ (by(exact kp))).mono ?_
 rintro e w2 ⟨rfl,rfl⟩
 go_wp2_with fail
 refine(HCL.out _ (by(exact kp))).mono ?_
 rintro e w3 ⟨gaddr,gcap,rfl,hrv,hk3⟩
 have HRV:=Lib.hid hrv
 clear hrv
 go_wp2_with fail
 go_loopg [7,8,9,10,30] N (fun gk s7 s8 s9 s10 s30 wr=>∃ (d:Nat) (ss:List Nat) (la:Option Addr) (lcap:Nat),s30=.int .i64 (d:Int)∧s7=.slice la ss.length lcap∧d+gk=N∧StepsAt ps qs d ss∧RowV w.heap.size wr gaddr (runL ps ss)∧wr.ownsRow w3.heap.size 3 1 (.slice la ss.length lcap) ss.length (ss.map (fun s:Nat=>Value.int .i64 (s:Int)))∧Keeps w wr∧w3.heap.size≤wr.heap.size)
 case atStart=>exact⟨0,[],none,0,rfl,rfl,by omega,StepsAt.start ps qs,HRV.out,World.ownsRow_nil _ _ _ _,hk3,Nat.le_refl _⟩
 case round=>
  obtain⟨d,ss,la,lcap,rfl,rfl,hd,hst,hrow,hown,hk,hsz⟩:=hrel
  have HST:=Lib.hid hst
  have HROW:=Lib.hid hrow
  have HO:=Lib.hid hown
  clear hst hrow hown
  by_cases hlt:d<N
  ·obtain⟨x,hx⟩:∃ b,qs[d]?=some b:=⟨_,List.getElem?_eq_getElem (by rw [← HL.out,← HN.out];exact hlt)⟩
   obtain⟨b,off,rfl,hc0⟩:=H2.out d x hx
   have hc:=hk.cell hc0
   have hxm:=HST.out.has HP.out HQ.out HL.out hx
   have HX:=Lib.hid hx
   obtain⟨g,rfl,hgl,hgr⟩:=HROW.out (fun e=>by rw [e] at hxm;cases hxm)
   have hgw:g<w3.heap.size:=by
    obtain⟨g',e',_,hr'⟩:=HRV.out (fun e=>by rw [e] at HN;have:=HN.out;simp at this;omega)
    cases e'
    exact hr'.lt
   have hix:=HIX.out g gcap ss x wr hgr hxm
   have HG:=Lib.hid hgr
   have HIX2:=Lib.hid hix
   clear hix hxm hc0 hx hgr
   go_wp2_with fail
   refine HIX2.out.mono ?_
   rintro e w4 ⟨⟨k,rfl,hkk⟩,rfl⟩
   have hin:=HST.out.low HQ.out HX.out hkk
   have hklt:=hin.lt
   have hlow:=hin.low
   have HIN:=Lib.hid hin
   clear hkk hin
   rw [← HN.out] at hklt
   obtain⟨g0,hg0⟩:∃ g0,g0=gk:=⟨_,rfl⟩
   rw [← hg0] at hd
   go_wp2_with fail
   go_loopg [7,10] (k-d) (fun gk2 s7 s10 wr2=>∃ (p:Nat) (ss2:List Nat) (lb:Option Addr) (lcap2:Nat),s10=.int .i64 ((p:Int)-1)∧s7=.slice lb ss2.length lcap2∧p=d+gk2∧p<N∧StepsIn ps qs d p x ss2∧RowI wr2 g (runL ps ss2)∧wr2.ownsRow w3.heap.size 3 1 (.slice lb ss2.length lcap2) ss2.length (ss2.map (fun s:Nat=>Value.int .i64 (s:Int)))∧Keeps w wr2∧w3.heap.size≤wr2.heap.size)
   case atStart=>exact⟨k,ss,la,lcap,rfl,rfl,by omega,hklt,HIN.out,HG.out,HO.out,hk,hsz⟩
   case round=>
    obtain⟨p,ss2,lb,lcap2,rfl,rfl,hp,hpn,hin2,hrow2,hown2,hk2,hsz2⟩:=hrel
    have HIN2:=Lib.hid hin2
    have HROW2:=Lib.hid hrow2
    have HO2:=Lib.hid hown2
    clear hin2 hrow2 hown2
    have HPG:=Lib.hid hp
    clear hp
    by_cases hgt:d<p
    ·obtain⟨q,rfl⟩:∃ q,p=q+1:=⟨p-1,by omega⟩
     rw [show((q+1:Nat):Int)-1=(q:Int) from by omega]
     have hge:d≤q:=by omega
     have hql:q+1<(runL ps ss2).length:=by rw [runL_len,← HN.out];exact hpn
     obtain⟨y,hy⟩:∃ b,(runL ps ss2)[q]?=some b:=⟨_,List.getElem?_eq_getElem (by omega)⟩
     have hx2:=HIN2.out.here
     have ca:=HROW2.out.cell hy
     have cb:=HROW2.out.cell hx2
     have HY:=Lib.hid hy
     have fa:=HROW2.out.frozen q
     have fb:=HROW2.out.frozen (q+1)
     have hgl2:g<wr.heap.size:=HROW2.out.lt
     clear hy hx2
     have hU5:Upd (fun j=>j=g) wr ((wr.setCell ⟨g,q,none⟩ (.int .i64 x)).setCell ⟨g,q+1,none⟩ (.int .i64 y)):=Upd.setCell (F:=fun j=>j=g) (p:=⟨g,q+1,none⟩) (Upd.setCell (F:=fun j=>j=g) (p:=⟨g,q,none⟩) (Upd.refl _ _) (.inl rfl) _) (.inl rfl) _
     have hO5:=hU5.owns (fun k hk e=>by
      rcases HO2.out.2 with⟨e0,_⟩|⟨g',cap',cur,e0,hbg,_⟩
      ·rw [e0] at hk;simp [Value.ownBlock] at hk
      ·rw [e0] at hk;simp [Value.ownBlock] at hk;omega) HO2.out
     have hR5:RowI ((wr.setCell ⟨g,q,none⟩ (.int .i64 x)).setCell ⟨g,q+1,none⟩ (.int .i64 y)) g (runL ps (ss2++[q])):=by
      rw [runL_snoc]
      unfold stepL
      have e1:(runL ps ss2).getD (q+1) 0=x:=by rw [List.getD_eq_getElem?_getD,HIN2.out.here];rfl
      have e2:(runL ps ss2).getD q 0=y:=by rw [List.getD_eq_getElem?_getD,HY.out];rfl
      rw [e1,e2]
      exact(HROW2.out.set q x (by omega)).set (q+1) y (by simpa using hql)
     have hfew:=HIN2.out.few
     have hNN:ps.length*ps.length≤16*16:=Nat.mul_le_mul (by rw [← HN.out];exact h16) (by rw [← HN.out];exact h16)
     have hdn:d*ps.length+ps.length≤ps.length*ps.length:=by
      have:=Nat.mul_le_mul_right ps.length (show d+1≤ps.length by rw [← HN.out];omega)
      rwa [Nat.add_mul,Nat.one_mul] at this
     have hl256:ss2.length+1≤256:=by omega
     have q1:ss2.length+1≤maxLen:=by unfold maxLen;omega
     have q2:(ss2.length+1)*8≤140737488355328:=by omega
     have HO5:=Lib.hid hO5
     have HR5:=Lib.hid hR5
     have HU5:=Lib.hid hU5
     clear hO5 hR5 hU5 hfew hNN hdn hl256
     have hw0:=hk3.size
     go_upto_region 11 with fail
     go_cut [] (fun wx=>Keeps ((wr.setCell ⟨g,q,none⟩ (.int .i64 x)).setCell ⟨g,q+1,none⟩ (.int .i64 y)) wx)
     case first=>
      go_region
      all_goals go_wp2_with fail
      all_goals go_meet
      all_goals(exact kp)
     case rest=>
      obtain⟨W6,hW6⟩:∃ W,W=wc:=⟨_,rfl⟩
      rw [← hW6] at hcut ⊢
      clear hW6
      have hO6:=(hcut.upd (fun _=>False)).owns (fun _ _ h=>h) HO5.out
      have hR6:=HR5.out.keeps hcut
      have hU6:=HU5.out.trans' (hcut.upd _)
      have hs6:=hU6.size
      have hk6:Keeps w W6:=hk2.new hU6 (fun k e=>by subst e;exact hgl)
      have HR6:=Lib.hid hR6
      have HO6:=Lib.hid hO6
      clear hO6 hR6 hU6 hcut ca cb fa fb
      go_wp2_with (first
       | (at_builtin;refine wpList_append_own _ rfl _ _ 38 rfl w3.heap.size 3 i0 (.int .i64 0) 1 8 Tryz.underlying38 hi hz0 hz1 hz2 rfl (by decide) (.slice lb ss2.length lcap2) ss2.length (ss2.map (fun s:Nat=>Value.int .i64 (s:Int))) rfl (HO6.out.alloc _) ⟨W6.heap.size,0,none⟩ 1 1 [.int .i64 (q:Int)] rfl rfl (cell_new _ _ _ _ rfl) (by simp [Value.oneCell']) (by exact q1) (by exact q2) (by simp;omega) ?_;intro v3 w5 hown3 hg3 _)
       | fail)
      obtain⟨lc,lcap3,rfl,-⟩:=owns_slice hown3
      have hu3:Upd (fun k=>(Value.slice lb ss2.length lcap2).ownBlock=some k) W6 w5:=Upd.grown (by repeat (first|exact Upd.refl _ _|refine Upd.alloc ?_ _|refine Upd.drew ?_)) hg3 (fun k hk=>.inl hk)
      have hbase:∀ k,(Value.slice lb ss2.length lcap2).ownBlock=some k→w3.heap.size≤k:=fun k hk2=>by
       rcases HO6.out.2 with⟨e0,_⟩|⟨g',cap',cur,e0,hbg,_⟩
       ·rw [e0] at hk2;simp [Value.ownBlock] at hk2
       ·rw [e0] at hk2;simp [Value.ownBlock] at hk2;omega
      have hs7:=hu3.size
      have hR7:=HR6.out.keep hu3 (fun e=>by have:=hbase _ e;omega)
      have hk7:=hk6.new hu3 (fun k hk2=>by have:=hbase _ hk2;omega)
      have HR7:=Lib.hid hR7
      have HOW:=Lib.hid hown3
      clear hown3 hg3 hu3 hR7
      go_wp2_with fail
      go_roundg (gk-1)
      case rel=>exact⟨q,ss2++[q],lc,lcap3,rfl,by simp,by have:=HPG.out;omega,by omega,HIN2.out.next hge,HR7.out,by have:=HOW.out;simpa using this,hk7,by omega⟩
      case measure=>have:=HPG.out;omega
    ·have hpd:p=d:=by have:=HIN2.out.low;omega
     subst hpd
     have hlt2:¬(p:Int)≤(p:Int)-1:=by omega
     have hout:=HIN2.out.out HX.out
     have HOUT:=Lib.hid hout
     clear hout
     go_wp2_with fail
     go_roundg (g0-1)
     case rel=>exact⟨p+1,ss2,lb,lcap2,by simp,rfl,by omega,HOUT.out,fun _=>⟨g,rfl,hgl,HROW2.out⟩,HO2.out,hk2,hsz2⟩
     case measure=>omega
  ·have hd2:d=N:=by omega
   subst hd2
   have hfin:runL ps ss=qs:=by
    have h0:=HST.out
    rw [HN.out] at h0
    exact h0.done HL.out
   have hfew:=HST.out.few
   rw [← HN.out] at hfew
   have hO:=HO.out
   have hb:(Value.slice la ss.length lcap).ownBlock=none∨True:=.inr trivial
   have hOl:wr.ownsRow w.heap.size 3 1 (.slice la ss.length lcap) ss.length (ss.map (fun s:Nat=>Value.int .i64 (s:Int))):=ownsRow_low hk3.size hO
   have HOL:=Lib.hid hOl
   have HFIN:=Lib.hid hfin
   have HFEW:=Lib.hid hfew
   clear hfin hfew hO hb hOl
   go_wp2_with fail
   go_ret2
   exact⟨ss,la,lcap,rfl,HOL.out,HFIN.out,fun s hs=>by rw [HN.out];exact HST.out.fit s hs,by have:=HFEW.out;exact this,hk⟩

def Fit0 (M:St):Prop:=∀ id r,look M.cs id=some r→0≤r.lo.to∧0≤r.hi.to

theorem find_fit0 {M:St}(hw:M.wf)(h:Fit0 M){q:Rec}(hq:0≤q.lo.to∧0≤q.hi.to):Fit0 (M.findSt q):=by
 unfold St.findSt
 cases M.idOf q with
 | some id=>exact h
 | none=>
  simp only []
  split
  ·exact h
  ·split
   ·exact h
   ·intro id r hr
    rcases(look_put hw.gone id r).1 hr with⟨_,rfl⟩|hr
    ·exact hq
    ·exact h id r hr

theorem view_fit0 {M:St}(hw:M.wf)(h:Fit0 M){f:Int}{e:Edge}{l:Int}(hl:M.leads f e l=true)(h0:0≤l)(h1:l<M.n)(he:0≤e.to)(hv:vErr M (viewAct M f e l)=0) :
  0≤(vLo M (viewAct M f e l)).to∧0≤(vHi M f (viewAct M f e l)).to∧Fit0 (vSt M (viewAct M f e l)):=by
 have hout:∀ a,a=(.inl (vOut f l e):(Edge×Edge×Int) ⊕ Rec)→0≤(vLo M a).to∧0≤(vHi M f a).to∧Fit0 (vSt M a):=fun a ha=>by
  subst ha
  refine⟨?_,?_,h⟩
  ·show 0≤(vOut f l e).1.to
   unfold vOut
   split
   ·exact he
   ·split<;>exact he
  ·show 0≤(vOut f l e).2.1.to
   unfold vOut
   split
   ·exact he
   ·split<;>exact Int.le_refl _
 obtain⟨va,hva⟩:∃ va,va=viewAct M f e l:=⟨_,rfl⟩
 rw [← hva] at hv ⊢
 have hva2:=hva
 unfold viewAct at hva2
 rw [if_neg (by omega),if_neg (by rw [hl];simp)] at hva2
 split at hva2
 ·rw [hva2]
  exact⟨he,he,h⟩
 ·cases hk:look M.cs e.to with
  | none=>
   rw [hk] at hva2
   exact hout va hva2
  | some r=>
   rw [hk] at hva2
   simp only [] at hva2
   obtain⟨r1,r2⟩:=h _ _ hk
   by_cases hlt:l<r.top
   ·rw [if_pos hlt] at hva2
    exact hout va hva2
   ·rw [if_neg hlt] at hva2
    split at hva2
    ·rw [hva2] at hv ⊢
     change M.findErr ⟨r.form,r.top+1,r.bot,r.lo,r.hi⟩=0 at hv
     have hid:0≤(foundE M 0 ⟨r.form,r.top+1,r.bot,r.lo,r.hi⟩).to:=by
      rw [foundE_ok hv]
      show 0≤M.findId _
      unfold St.findErr at hv
      unfold St.findId
      cases hi:M.idOf ⟨r.form,r.top+1,r.bot,r.lo,r.hi⟩ with
      | some id=>have:=(look_some (idOf_look hi)).1;simp only [];omega
      | none=>
       rename_i hcc
       have g:=hw.goodRec hk
       have hrf:r.form=f:=(leads_some hl hk).1
       have hb:M.bad ⟨r.form,r.top+1,r.bot,r.lo,r.hi⟩=false:=rest_good g hw.n16 (by have:=(leads_some hl hk).2.1;omega) (by rw [hrf];exact hcc.1) hcc.2
       have:=(find_zero hw hb (by unfold St.findErr;rw [hi] at hv ⊢;exact hv)).2.2.2.1
       unfold St.findId at this
       rw [hi] at this
       omega
     refine⟨hid,?_,find_fit0 hw h ⟨r1,r2⟩⟩
     show 0≤(if M.findErr _=0 then(if f=4 then foundE M 0 _ else r.hi) else⟨0,0⟩:Edge).to
     rw [if_pos hv]
     split
     ·exact hid
     ·exact r2
    ·rw [hva2]
     exact⟨r1,r2,h⟩

theorem right_table {f:Int}(hf:1≤f∧f≤5):∀ (k:Nat) (l:Int) (M:St) (e:Edge),M.wf→M.room=1048576→M.len+((2 ^ k:Nat):Int)≤1048576→0≤e.to→Fit0 M→M.leads f e l=true→rightK M f e l→0≤l→l+(k:Int)=M.n →
  ∃ M',Ext M M'∧M'.wf∧M'.room=1048576∧M'.len+1≤M.len+((2 ^ k:Nat):Int)∧Fit0 M'∧IsT f M' k (tabE M f e l) l e:=by
 intro k
 induction k with
 | zero=>
  intro l M e hw hr hlen he hfit hl hrt h0 hn
  have hn':l=M.n:=by simpa using hn
  have e0:(M.n-l).toNat=0:=by omega
  refine⟨M,Ext.refl M,hw,hr,by show M.len+1≤M.len+((1:Nat):Int);omega,hfit,?_⟩
  by_cases hz:e.to=0
  ·have:=(good_zero hw hf hf hl h0 hz).own hrt
   rw [e0] at this
   exact this
  ·have hok:e.ok:=by
    obtain⟨hp,hr2⟩:=leads_iff.1 hl
    obtain⟨p1,p2,p3,p4,p5,p6,p7,p8⟩:=plainB_iff.1 hp
    have ht:e.to<2:=by
     rcases hr2 with q|⟨r,a,b,c,d⟩
     ·exact q
     ·have g:=hw.goodRec a
      have:=g.tb
      have:=g.bn
      omega
    refine⟨?_,⟨he,by omega⟩⟩
    by_cases h5:f=5
    ·have:=p8 h5 hz
     omega
    ·have:=p7 (.inl h5)
     omega
   have:=(good_end hw hf hf hok hl hn' hz).own hrt
   rw [e0] at this
   exact this
 | succ k ih=>
  intro l M e hw hr hlen he hfit hl hrt h0 hn
  push_cast at hn
  have e2:2 ^ (k+1)=2 ^ k+2 ^ k:=by rw [Nat.pow_succ];omega
  have hp:0<2 ^ k:=Nat.pow_pos (by decide)
  have h1:l<M.n:=by omega
  have hv0:vErr M (viewAct M f e l)=0:=by
   by_cases hv:vErr M (viewAct M f e l)=0
   ·exact hv
   ·have:=(viewed_full hw hl h1 hv).2.2
    omega
  have hv:=viewed hw hl h1 hv0
  obtain⟨hp1,hp2,hp3⟩:=view_pair hw hl h0 h1 hv0 hrt rfl rfl rfl
  obtain⟨olo,ohi,hstep⟩:=view_fit0 hw hfit hl h0 h1 he hv0
  obtain⟨M1,hM1⟩:∃ N,N=vSt M (viewAct M f e l):=⟨_,rfl⟩
  obtain⟨lo,hlo⟩:∃ N,N=vLo M (viewAct M f e l):=⟨_,rfl⟩
  obtain⟨hi,hhi⟩:∃ N,N=vHi M f (viewAct M f e l):=⟨_,rfl⟩
  rw [← hM1,← hlo,← hhi] at hv hp1
  rw [← hM1,← hlo] at hp2
  rw [← hM1,← hhi] at hp3
  rw [← hlo] at olo
  rw [← hhi] at ohi
  rw [← hM1] at hstep
  have n1:=hv.ext.n
  obtain⟨M2,x1,x2,x3,x4,x5,x7⟩:=ih (l+1) M1 lo hv.wf (by rw [hv.room];exact hr) (by have:=hv.len;omega) olo hstep hv.llo hp2 (by omega) (by omega)
  have n2:=x1.n
  obtain⟨M3,y1,y2,y3,y4,y5,y7⟩:=ih (l+1) M2 hi x2 x3 (by have:=hv.len;omega) ohi x5 (x1.leads hv.lhi) (rightK_ext x1 hv.wf hp3) (by omega) (by omega)
  refine⟨M3,(hv.ext.trans x1).trans y1,y2,y3,by have:=hv.len;omega,y5,?_⟩
  rw [tabE_ext hv.wf x1 (Weak.of hv.lhi)] at y7
  have hk1:(M1.n-(l+1)).toNat=k:=by omega
  have tl:(tabE M1 f lo (l+1)).length=2 ^ k:=by rw [tabE_len,hk1]
  have tl2:(tabE M1 f hi (l+1)).length=2 ^ k:=by rw [tabE_len,hk1]
  rw [tab_split hv h0 h1]
  refine⟨by rw [List.length_append,tl,tl2,e2],lo,hi,?_,?_,(hp1.ext x1 hf).ext y1 hf⟩
  ·rw [List.take_left' tl]
   exact IsT.ext y1 hf _ _ _ _ x7
  ·rw [List.drop_left' tl]
   exact y7

theorem right_isT {f:Int}(hf:1≤f∧f≤5){M:St}{e:Edge}{k:Nat}{l:Int}(hw:M.wf)(hlen:M.len+((2 ^ k:Nat):Int)≤1048576)(he:0≤e.to)(hfit:Fit0 M)(hl:M.leads f e l=true)(hr:rightK M f e l)(h0:0≤l)(hn:l+(k:Int)=M.n) :
  ∃ M',Ext M M'∧M'.wf∧M'.room=1048576∧M'.len+1≤M.len+((2 ^ k:Nat):Int)∧Fit0 M'∧IsT f M' k (tabE M f e l) l e:=by
 have hE:=Ext.vast M
 obtain⟨M',x1,x2,x3,x4,x5,x6⟩:=right_table hf k l M.vast e hw.vast rfl hlen he hfit (hE.leads hl) (rightK_ext hE hw hr) h0 hn
 rw [tabE_ext hw hE (Weak.of hl)] at x6
 exact⟨M',hE.trans x1,x2,x3,x4,x5,x6⟩

theorem StoreRep.fit0 {F:Nat→Prop}{w:World}{sb:Nat}{M:St}(h:StoreRep F w sb M):Fit0 M:=fun id r hr=>by
 have:=h.fit hr
 exact⟨this.lo.2.1,this.hi.2.1⟩

theorem buildOf_calls {F Fo:Nat→Prop}{w:World}{sb ob:Nat}{M:St}{ps ws:List Int}(h:StoreRep F w sb M)(ho:OrdRep Fo w ob ps)(hd:∀ k,F k→¬Fo k)(hn:M.n=(ps.length:Int))(f:Int)(hf:isFormB f=true)
  (aw:Option Addr) (len cap:Nat) (hl:ws.length=len) (hl2:len≤1048576) (hW:WordsAt w aw ws) (hnw:∀ b off,aw=some ⟨b,off,none⟩→¬F b) (hok:setOkB (ps.length:Int) ws=true) (hroom:M.len+((2 ^ ps.length-1:Nat):Int)≤M.room) :
  Calls Tryz.prog 90 #[.pointer (some ⟨sb,0,none⟩),.pointer (some ⟨ob,0,none⟩),.int .u8 f,.agg #[.int .i64 (ps.length:Int),.slice aw len cap]] w (BldOut f F w sb M (hasB ws) ps 0 0):=by
 have hp:=permB_iff.1 ho.perm
 have hmy:=fun(W:World) (hk:Keeps w W)=>buildMay_calls (h.keeps hk) (ho.keeps hk) hn f hf
 have hw0:0<ws.length:=by have:=(setOkB_iff.1 hok).2.1;omega
 have hfr:=fun(W:World) (bb:Nat) (hk:Keeps w W) (hb:w.heap.size≤bb) (c0:W.cell? ⟨bb,0,none⟩=some (.pointer (some ⟨sb,0,none⟩))) (c1:W.cell? ⟨bb,1,none⟩=some (.pointer (some ⟨ob,0,none⟩))) (c2:W.cell? ⟨bb,2,none⟩=some (.int .u8 f)) (c3:W.cell? ⟨bb,3,none⟩=some (.int .i64 (ps.length:Int))) (c4:W.cell? ⟨bb,4,none⟩=some (.slice aw len cap))=>by
  have hnb:¬F bb:=fun hh=>by have:=h.lt _ hh;omega
  have hctx:BCtx F Fo W sb ob bb f ps.length ps ws aw len cap:=⟨c0,c1,c2,c3,c4,hnb,hW.keeps hk,hnw,ho.keeps hk,fun k h1 h2=>hd k h2 h1⟩
  have:=bfrom_calls f hf hl hl2 hok rfl hp.2.1 ps [] rfl F W M 0 (h.keeps hk) hctx (Nat.pow_pos (by decide)) hn hroom
  exact this
 have hvs:=fun(W:World) (hk:Keeps w W)=>store_vars (h.keeps hk)
 have hrt:=fun(W:World) (hk:Keeps w W)=>setRight_calls (ps.length:Int) aw len cap ws W hl hl2 (hW.keeps hk)
 rw [hok] at hrt
 rw [hn] at hvs
 have hlt:=h.lt
 have HLT:=Lib.hid hlt
 obtain⟨n,hnn⟩:∃ n,n=ps.length:=⟨_,rfl⟩
 rw [← hnn] at hfr hvs hrt ⊢
 have HMY:=Lib.hid hmy
 have HFR:=Lib.hid hfr
 have HVS:=Lib.hid hvs
 have HRT:=Lib.hid hrt
 have n16:n≤16:=by have:=hp.1;omega
 clear h ho hd hn hl hW hnw hok hroom hp hmy hw0 hfr hvs hrt hlt hnn
 go_enter Tryz.func90,Tryz.ntmps90
 go_wp2_with fail
 refine(HMY.out _ (by(exact kp))).mono ?_
 rintro r w1 ⟨rfl,hk1⟩
 have k0:=hk1.cell (a:=⟨w.heap.size,0,none⟩) (v:=.int .i64 (n:Int)) (by simp [go_sem])
 have k1:=hk1.cell (a:=⟨w.heap.size,1,none⟩) (v:=.slice aw len cap) (by simp [go_sem])
 have z0:=hk1.cell (a:=⟨w.heap.size+1,0,none⟩) (v:=.int .u8 0) (by simp [go_sem])
 have z1:=hk1.cell (a:=⟨w.heap.size+1,1,none⟩) (v:=.int .u32 0) (by simp [go_sem])
 have zf:=fun o:Nat=>hk1.frz (a:=⟨w.heap.size+1,o,none⟩) (by simp) (by simp [go_sem])
 have s1:=hk1.size
 simp only [World.size_alloc] at s1
 have hkw:Keeps w w1:=(((Keeps.refl w).alloc _).alloc _).trans hk1
 go_wp2_with fail
 have HVs:=Lib.hid (fun(W:World) (hW:Keeps w1 W)=>HVS.out W (hkw.trans hW))
 have HRt:=Lib.hid (fun(W:World) (hW:Keeps w1 W)=>HRT.out W (hkw.trans hW))
 have k0k:=KWorld.cell k0
 have k1k:=KWorld.cell k1
 refine wp_region_keeps (w1) (by kernel_rfl) (by kernel_rfl) (by(exact kp)) ?_;(repeat (go_big_quiet_step ((first|(go_at_call 151;with_reducible refine Calls.keepsK (HRt.out _ (KWorld.keep _)))|(go_at_call 67;with_reducible refine Calls.sameK (HVs.out _ (KWorld.keep _)))))));refine wpQuiet_nil ?_;rintro wq ⟨⟨_,hkq⟩,rfl⟩;try dsimp only
 replace k0:=hkq.cell k0
 replace k1:=hkq.cell k1
 replace z0:=hkq.cell z0
 replace z1:=hkq.cell z1
 replace zf:=fun o:Nat=>hkq.frz (a:=⟨w.heap.size+1,o,none⟩) (by dsimp only;omega) (zf o)
 have s2:=hkq.size
 have hkw2:=hkw.trans hkq
 clear k0k k1k
 go_wp2_with fail
 obtain⟨W4,hW4⟩:∃ W4,W4=wq.alloc (.cells #[.pointer (some ⟨sb,0,none⟩),.pointer (some ⟨ob,0,none⟩),.int .u8 f,.int .i64 (n:Int),.slice aw len cap] 228):=⟨_,rfl⟩
 have k4:Keeps wq W4:=by rw [hW4];exact(Keeps.refl _).alloc _
 have hb0:W4.cell? ⟨wq.heap.size,0,none⟩=some (.pointer (some ⟨sb,0,none⟩)):=by rw [hW4];simp [go_sem]
 have hb1:W4.cell? ⟨wq.heap.size,1,none⟩=some (.pointer (some ⟨ob,0,none⟩)):=by rw [hW4];simp [go_sem]
 have hb2:W4.cell? ⟨wq.heap.size,2,none⟩=some (.int .u8 f):=by rw [hW4];simp [go_sem]
 have hb3:W4.cell? ⟨wq.heap.size,3,none⟩=some (.int .i64 (n:Int)):=by rw [hW4];simp [go_sem]
 have hb4:W4.cell? ⟨wq.heap.size,4,none⟩=some (.slice aw len cap):=by rw [hW4];simp [go_sem]
 have s4:W4.heap.size=wq.heap.size+1:=by rw [hW4];simp
 rw [← hW4]
 clear hW4
 have y0:=k4.cell z0
 have y1:=k4.cell z1
 have yf:=fun o:Nat=>k4.frz (a:=⟨w.heap.size+1,o,none⟩) (by dsimp only;omega) (zf o)
 refine(HFR.out W4 wq.heap.size (hkw2.trans k4) hkw2.size hb0 hb1 hb2 hb3 hb4).mono ?_
 rintro r w3 ⟨e,M',rfl,hok,hbt,hgr,hst⟩
 have nF:¬F (w.heap.size+1):=fun hf=>by have:=HLT.out _ hf;omega
 replace y0:=hst.cell nF y0
 replace y1:=hst.cell nF y1
 replace yf:=fun o:Nat=>hst.frz (b:=w.heap.size+1) (o:=o) (by omega) nF (yf o)
 have hwl:w.heap.size+1<w3.heap.size:=by have:=hst.upd.size;omega
 have u3:=(Stood.after (hkw2.trans k4) hst).upd
 obtain⟨⟨F3,r3,sub3⟩,-⟩:=hst
 have nF3:¬F3 (w.heap.size+1):=fun hf=>by
  rcases sub3 _ hf with q|q
  ·exact nF q
  ·omega
 have sub3':∀ j,F3 j→F j∨w.heap.size≤j:=fun j hj=>by
  rcases sub3 j hj with q|q
  ·exact .inl q
  ·right;have:=hkw2.size;omega
 have HST:=Lib.hid (Stood.putAt r3 sub3' u3 nF3 (Nat.le_succ _))
 have HOK:=Lib.hid hok
 have HBT:=Lib.hid hbt
 have HGR:=Lib.hid hgr
 clear hok hbt hgr r3 sub3 sub3' u3 nF3
 go_wp2_with fail
 all_goals refine bodyPost_ret (v:=.tuple #[.agg #[.int .u8 e.tag,.int .u32 e.to],.int .u8 0]) (by simp [results,Tryz.results90,go_sem,hwl,y0,y1]) rfl ?_
 all_goals refine⟨e,M',rfl,HOK.out,HBT.out,HGR.out,?_⟩
 all_goals first|exact(HST.out _ _)|exact(HST.out _ _).keeps (by(exact kp))

end Go.Proofs.YtpgcbmbnognieaaGreat
