/-
  swap.Swap.
-/
import Derived.Test.YtpgcbmbnognieaaGreatPSiftP
import Derived.Test.YtpgcbmbnognieaaGreatPSwapB
namespace Go.Proofs.YtpgcbmbnognieaaGreat
set_option maxRecDepth 1000000
set_option maxHeartbeats 8000000
set_option linter.unusedSimpArgs false
set_option linter.unusedVariables false
open Go.RowKit

def SwapsOut (F Fo:Nat→Prop)(w:World)(sb ob:Nat)(M:St)(ps:List Int)(ss:List Nat)(rs:List (Int×Edge))(c code:Int)(r:Ending)(w':World):Prop:=
 (code≠0∧r=.returned (.tuple #[.slice none 0 0,.int .u8 code])∧Keeps w w')∨(code=0∧AllOut F Fo w sb ob M ps ss rs c r w')

theorem AllOut.before {F Fo:Nat→Prop}{w W w':World}{sb ob:Nat}{M:St}{ps:List Int}{ss:List Nat}{rs:List (Int×Edge)}{c:Int}{r:Ending}(h:AllOut F Fo W sb ob M ps ss rs c r w')(hk:Keeps w W):AllOut F Fo w sb ob M ps ss rs c r w':=by
 obtain⟨g,es,M',F',h1,h2,h3,h4,h5,h6,h7,h8,h9,h10⟩:=h
 have hs:=hk.size
 exact⟨g,es,M',F',h1,h2,by omega,h4,h5,fun j hj=>by rcases h6 j hj with q|q;exact .inl q;exact .inr (by omega),h7,h8,(hk.upd _).trans' h9,h10⟩

theorem all_bad {F:Nat→Prop}{w:World}{sb:Nat}{M:St}{rs:List (Int×Edge)}(h:StoreRep F w sb M)(op s2:Value)(a3:Option Addr)(cap3:Nat)(hR:IsRoots w a3 rs)(hrl:rs.length≤1048576)(hm:mayL M rs≠0) :
  Calls Tryz.prog 259 #[.pointer (some ⟨sb,0,none⟩),op,s2,.slice a3 rs.length cap3] w fun e w'=>e=.returned (.tuple #[.slice none 0 0,.int .u8 (mayL M rs)])∧Keeps w w':=by
 have hmay:=fun(W:World) (hW:Keeps w W)=>swapMay_calls (h.keeps hW) a3 cap3 rs (hR.keeps hW) hrl
 have hrg:=mayL_range M rs
 obtain⟨c,hc⟩:∃ c,c=mayL M rs:=⟨_,rfl⟩
 obtain⟨N,hN⟩:∃ N,N=rs.length:=⟨_,rfl⟩
 rw [← hc,← hN] at hmay
 rw [← hc] at hm hrg ⊢
 rw [← hN]
 have HMAY:=Lib.hid hmay
 have g0:(c != 0)=true:=by simp [hm]
 clear hmay h hR hc hN hrl
 go_enter Tryz.func259,Tryz.ntmps259
 go_wp2_with (first|(go_at_call 287;refine(HMAY.out _ (by(exact kp))).mono ?_;rintro e w1 ⟨rfl,hk1⟩)|fail)
 go_ret2
 exact⟨rfl,hk1⟩

def swapCode (M:St)(n:Nat)(lv:Int)(rs:List (Int×Edge)):Int:=if M.n=(n:Int) then(if lv<0∨M.n-1≤lv then 3 else mayL M rs) else 1

theorem swapSwap_calls {F Fo:Nat→Prop}{w:World}{sb ob:Nat}{M:St}{ps:List Int}{rs:List (Int×Edge)}{c:Int}(h:StoreRep F w sb M)(ho:OrdRep Fo w ob ps)(hd:∀ k,F k→¬Fo k)(lv:Int)
  (a3:Option Addr) (cap3:Nat) (hR:∀ W,Upd (fun j=>F j∨Fo j) w W→IsRoots W a3 rs) (hrl:rs.length≤16) (hc:0≤lv→lv+1<M.n→costS lv 0≤c) (hc0:0≤c) (hroom:M.len+(rs.length:Int)*c<M.room) (hrm:M.room<1048576) :
  Calls Tryz.prog 213 #[.pointer (some ⟨sb,0,none⟩),.pointer (some ⟨ob,0,none⟩),.int .i64 lv,.slice a3 rs.length cap3] w (SwapsOut F Fo w sb ob M ps [lv.toNat] rs c (swapCode M ps.length lv rs)):=by
 have hfit:=fun(W:World) (hW:Keeps w W)=>swapFit_calls (h.keeps hW) (ho.keeps hW)
 have hvar:=fun(W:World) (hW:Keeps w W)=>store_vars (h.keeps hW)
 have hn0:=h.wf.n0
 have hn16:=h.wf.n16
 by_cases h1:M.n=(ps.length:Int)
 ·have e1:swapCode M ps.length lv rs=if lv<0∨M.n-1≤lv then 3 else mayL M rs:=if_pos h1
  rw [if_pos h1] at hfit
  rw [e1]
  by_cases h2:lv<0∨M.n-1≤lv
  ·rw [if_pos h2]
   have HF:=Lib.hid hfit
   have HV:=Lib.hid hvar
   obtain⟨n,hn⟩:∃ n,n=M.n:=⟨_,rfl⟩
   rw [← hn] at HV h2 hn0 hn16
   clear hfit hvar h ho hd hR hrl hc hroom hrm hn h1 e1
   have hout:∀ w':World,Keeps w w'→SwapsOut F Fo w sb ob M ps [lv.toNat] rs c 3 (.returned (.tuple #[.slice none 0 0,.int .u8 3])) w':=fun w' hk=>.inl ⟨by decide,rfl,hk⟩
   have HOUT:=Lib.hid hout
   clear hout
   by_cases h3:lv<0
   ·go_enter Tryz.func213,Tryz.ntmps213
    go_wp2_with (first|(go_at_call 258;refine(HF.out _ (by(exact kp))).mono ?_;rintro e w1 ⟨rfl,hk1⟩)|(go_at_call 67;refine(HV.out _ (by(exact kp))).mono ?_;rintro e w1 ⟨rfl,rfl⟩)|fail)
    go_ret2
    exact HOUT.out _ (by(exact kp))
   ·have h4:n-1≤lv:=by omega
    go_enter Tryz.func213,Tryz.ntmps213
    go_wp2_with (first|(go_at_call 258;refine(HF.out _ (by(exact kp))).mono ?_;rintro e w1 ⟨rfl,hk1⟩)|(go_at_call 67;refine(HV.out _ (by(exact kp))).mono ?_;rintro e w1 ⟨rfl,rfl⟩)|fail)
    go_ret2
    exact HOUT.out _ (by(exact kp))
  ·rw [if_neg h2]
   obtain⟨L,rfl⟩:∃ L:Nat,lv=(L:Int):=⟨lv.toNat,by omega⟩
   have hallok:mayL M rs=0→∀ (W:World) (B:Nat),Keeps w W→w.heap.size≤B→W.cell? ⟨B,0,none⟩=some (.int .i64 (L:Int))→Calls Tryz.prog 259 #[.pointer (some ⟨sb,0,none⟩),.pointer (some ⟨ob,0,none⟩),.slice (some ⟨B,0,none⟩) 1 1,.slice a3 rs.length cap3] W (SwapsOut F Fo w sb ob M ps [(L:Int).toNat] rs c (mayL M rs)):=fun hm W B hW hB hcB=>by
    have hall:=swapAll_calls (ss:=[L]) (c:=c) (h.keeps hW) (ho.keeps hW) hd (some ⟨B,0,none⟩) a3 1 cap3 (fun W' hW' i x hx=>by
     have hnB:¬(F B∨Fo B):=fun hh=>by
      rcases hh with hh|hh
      ·have:=h.lt _ hh;omega
      ·have:=ho.lt _ hh;omega
     cases i with
     | zero=>
      simp at hx
      subst hx
      exact⟨B,0,rfl,hW'.cellAt hnB hcB⟩
     | succ i=>simp at hx) (fun W' hW'=>hR W' ((hW.upd _).trans' hW')) (by simp) hrl hm h1 (fun s hs=>by simp at hs;subst hs;omega) (fun s hs=>by simp at hs;subst hs;exact hc (by omega) (by omega)) hc0 (by simpa using hroom) hrm
    refine hall.mono fun r w' hh=>.inr ⟨hm,?_⟩
    exact hh.before hW
   have hallbad:mayL M rs≠0→∀ (W:World) (B:Nat),Keeps w W→Calls Tryz.prog 259 #[.pointer (some ⟨sb,0,none⟩),.pointer (some ⟨ob,0,none⟩),.slice (some ⟨B,0,none⟩) 1 1,.slice a3 rs.length cap3] W (SwapsOut F Fo w sb ob M ps [(L:Int).toNat] rs c (mayL M rs)):=fun hm W B hW=>
    (all_bad (h.keeps hW) _ _ a3 cap3 (hR W (hW.upd _)) (by omega) hm).mono fun r w' ⟨he,hk⟩=>.inl ⟨hm,he,hW.trans hk⟩
   have hall:∀ (W:World) (B:Nat),Keeps w W→w.heap.size≤B→W.cell? ⟨B,0,none⟩=some (.int .i64 (L:Int))→Calls Tryz.prog 259 #[.pointer (some ⟨sb,0,none⟩),.pointer (some ⟨ob,0,none⟩),.slice (some ⟨B,0,none⟩) 1 1,.slice a3 rs.length cap3] W (SwapsOut F Fo w sb ob M ps [(L:Int).toNat] rs c (mayL M rs)):=fun W B hW hB hcB=>by
    by_cases hm:mayL M rs=0
    ·exact hallok hm W B hW hB hcB
    ·exact hallbad hm W B hW
   obtain⟨code,hcode⟩:∃ code,code=mayL M rs:=⟨_,rfl⟩
   rw [← hcode] at hall ⊢
   have HALL:=Lib.hid hall
   have HF:=Lib.hid hfit
   have HV:=Lib.hid hvar
   obtain⟨n,hn⟩:∃ n,n=M.n:=⟨_,rfl⟩
   rw [← hn] at HV h2 hn0 hn16
   have h4:¬n-1≤(L:Int):=by omega
   have h5:(L:Int)≤16:=by omega
   have hshape:∀ r w',SwapsOut F Fo w sb ob M ps [(L:Int).toNat] rs c code r w'→∃ v1 v2,r=.returned (.tuple #[v1,v2]):=fun r w' hh=>by
    rcases hh with⟨_,rfl,_⟩|⟨_,g,es,M',F',rfl,_⟩
    ·exact⟨_,_,rfl⟩
    ·exact⟨_,_,rfl⟩
   have HSH:=Lib.hid hshape
   clear hfit hvar h ho hd hR hc hroom hrm hn h1 e1 hall hallok hallbad hcode h2 hshape
   go_enter Tryz.func213,Tryz.ntmps213
   go_wp2_with (first|(go_at_call 258;refine(HF.out _ (by(exact kp))).mono ?_;rintro e w1 ⟨rfl,hk1⟩)|(go_at_call 67;refine(HV.out _ (by(exact kp))).mono ?_;rintro e w2 ⟨rfl,rfl⟩)|fail)
   refine(HALL.out _ w1.heap.size (by(exact kp)) hk1.size (by simp [go_sem])).mono ?_
   rintro r w3 hh
   obtain⟨v1,v2,rfl⟩:=HSH.out _ _ hh
   have HH:=Lib.hid hh
   clear hh
   go_wp2_with fail
   go_ret2
   exact HH.out
 ·have e1:swapCode M ps.length lv rs=1:=if_neg h1
  rw [if_neg h1] at hfit
  rw [e1]
  have HF:=Lib.hid hfit
  clear hfit hvar h ho hd hR hrl hc hroom hrm h1 e1
  have hout:∀ w':World,Keeps w w'→SwapsOut F Fo w sb ob M ps [lv.toNat] rs c 1 (.returned (.tuple #[.slice none 0 0,.int .u8 1])) w':=fun w' hk=>.inl ⟨by decide,rfl,hk⟩
  have HOUT:=Lib.hid hout
  clear hout
  go_enter Tryz.func213,Tryz.ntmps213
  go_wp2_with (first|(go_at_call 258;refine(HF.out _ (by(exact kp))).mono ?_;rintro e w1 ⟨rfl,hk1⟩)|fail)
  go_ret2
  exact HOUT.out _ (by(exact kp))

structure Sit (F Fo:Nat→Prop)(w:World)(sb ob:Nat)(M:St)(ps:List Int):Prop where
 rep:StoreRep F w sb M
 ord:OrdRep Fo w ob ps
 dis:∀ k,F k→¬Fo k
 n:M.n=(ps.length:Int)
 room:M.room<1048576

theorem mayL_ok {M:St}(hw:M.wf):∀ {rs:List (Int×Edge)},(∀ r∈rs,(1≤r.1∧r.1≤5)∧M.leads r.1 r.2 0=true)→mayL M rs=0:=by
 intro rs
 induction rs with
 | nil=>intro _;rfl
 | cons r rs ih=>
  intro h
  have h1:=h r (by simp)
  have e:mayC M r.1 r.2 0=0:=by rw [mayC_0 hw,if_neg (by simp [isFormB,h1.1.1,h1.1.2]),if_neg (by rw [h1.2];simp)]
  rw [mayL_cons,if_pos e]
  exact ih (fun q hq=>h q (by simp [hq]))

theorem Sit.keeps {F Fo:Nat→Prop}{w w':World}{sb ob:Nat}{M:St}{ps:List Int}(h:Sit F Fo w sb ob M ps)(hk:Keeps w w'):Sit F Fo w' sb ob M ps:=⟨h.rep.keeps hk,h.ord.keeps hk,h.dis,h.n,h.room⟩

structure Stands (M:St)(f:Int)(ps:List Int)(has:Nat→Bool)(x:Edge):Prop where
 ok:x.ok
 lead:M.leads f x 0=true
 right:rightK M f x 0
 tab:tabP M ps f x=hasT ps.length has

theorem Stands.ext {M M':St}{f:Int}{ps:List Int}{has:Nat→Bool}{x:Edge}(h:Stands M f ps has x)(hw:M.wf)(hE:Ext M M'):Stands M' f ps has x:=
 ⟨h.ok,hE.leads h.lead,rightK_ext hE hw h.right,by rw [tabP_ext hw hE h.lead];exact h.tab⟩

theorem built_stands {M:St}{f:Int}{ps:List Int}{has:Nat→Bool}{x:Edge}(hw:M.wf)(hf:1≤f∧f≤5)(hp:permB ps=true)(hn:M.n=(ps.length:Int))(hx:x.ok)(h:BuiltAt f M has ps 0 0 x):Stands M f ps has x:=
 ⟨hx,h.1.leads hw hf (by omega),h.2,tabP_hasT hp hn (h.1.means hw hf _ _ _ _ (by omega) (Int.le_refl _))⟩

theorem root_stands {n:Nat}{ss:List Nat}{M M':St}{f:Int}{ps qs:List Int}{has:Nat→Bool}{x y:Edge}(h:Stands M f ps has x)(hl:ps.length=n)(hr:RootOk n ss M M' f x y)(hrun:runL ps ss=qs):Stands M' f qs has y:=by
 have ht:=hr.tab ps hl
 rw [hrun] at ht
 have hq:qs.length=ps.length:=by rw [← hrun,runL_len]
 exact⟨hr.ok,hr.lead,hr.right h.right,by rw [ht,h.tab,hq]⟩

theorem sweep_ext (M:St)(roots:List Int):Ext (sweepSt M roots) M:=⟨rfl,fun _ _ h=>(look_sweep_some.1 h).1⟩

theorem sweep_few {F:Nat→Prop}{w:World}{sb:Nat}{M:St}(h:StoreRep F w sb M)(roots:List Int):(sweepSt M roots).len=((reachL M.cs roots).length:Int):=by
 have h1:=part_len M roots
 have h2:=ids_len h
 rw [sweep_len]
 omega

theorem Stands.sweep {M:St}{f:Int}{ps:List Int}{has:Nat→Bool}{x:Edge}(h:Stands M f ps has x){roots:List Int}(hx:x.to∈roots)(hw:(sweepSt M roots).wf):Stands (sweepSt M roots) f ps has x:=by
 have hl:=leads_sweep (roots:=roots) h.lead (fun hn=>Reaches.root hx hn)
 exact⟨h.ok,hl,rightK_back (sweep_ext M roots) hw hl h.right,by rw [← tabP_ext hw (sweep_ext M roots) hl];exact h.tab⟩

def lvs (ps:List Int)(fs:List (Int×List Bool)):List (Int×List Bool):=fs.map (fun r=>(r.1,bldT (hasB (wordsL r.2)) ps 0))

def sizeO (fs:List (Int×List Bool))(ps:List Int):Nat:=sizeR ps.length (lvs ps fs)

def StandAll (M:St)(ps:List Int)(fs:List (Int×List Bool))(rs:List (Int×Edge)):Prop:=
 rs.length=fs.length∧∀ (i:Nat) (q:Int×List Bool) (r:Int×Edge),fs[i]?=some q→rs[i]?=some r→r.1=q.1∧(1≤r.1∧r.1≤5)∧Stands M r.1 ps (hasB (wordsL q.2)) r.2

theorem StandAll.leads {M:St}{ps:List Int}{fs:List (Int×List Bool)}{rs:List (Int×Edge)}(h:StandAll M ps fs rs):∀ r∈rs,(1≤r.1∧r.1≤5)∧M.leads r.1 r.2 0=true:=fun r hr=>by
 obtain⟨i,hi⟩:=List.mem_iff_getElem?.1 hr
 have hil:=(List.getElem?_eq_some_iff.1 hi).1
 obtain⟨h1,h2,h3⟩:=h.2 i (fs[i]'(by have:=h.1;omega)) r (List.getElem?_eq_getElem (by have:=h.1;omega)) hi
 exact⟨h2,h3.lead⟩

theorem StandAll.oks {M:St}{ps:List Int}{fs:List (Int×List Bool)}{rs:List (Int×Edge)}(h:StandAll M ps fs rs):∀ r∈rs,r.2.ok:=fun r hr=>by
 obtain⟨i,hi⟩:=List.mem_iff_getElem?.1 hr
 have hil:=(List.getElem?_eq_some_iff.1 hi).1
 obtain⟨h1,h2,h3⟩:=h.2 i (fs[i]'(by have:=h.1;omega)) r (List.getElem?_eq_getElem (by have:=h.1;omega)) hi
 exact h3.ok

theorem StandAll.at_ {F:Nat→Prop}{w:World}{sb:Nat}{M:St}{ps:List Int}{fs:List (Int×List Bool)}{rs:List (Int×Edge)}(hS:StoreRep F w sb M)(hp:permB ps=true)(hn:M.n=(ps.length:Int))(h6:ps.length≤6)(hlen:M.len+64≤1048576)(h:StandAll M ps fs rs):RootsAt M ps.length (lvs ps fs) (rs.map Prod.snd):=by
 have hp6:2 ^ ps.length≤2 ^ 6:=Nat.pow_le_pow_right (by decide) h6
 have e6:(2:Nat) ^ 6=64:=rfl
 refine⟨by simp [lvs,h.1],fun i q e h1 h2=>?_⟩
 unfold lvs at h1
 rw [List.getElem?_map] at h1 h2
 cases hf:fs[i]? with
 | none=>rw [hf] at h1;cases h1
 | some g=>
  cases hr:rs[i]? with
  | none=>rw [hr] at h2;cases h2
  | some r=>
   rw [hf] at h1
   rw [hr] at h2
   cases h1
   cases h2
   obtain⟨j1,j2,j3⟩:=h.2 i g r hf hr
   refine⟨by rw [← j1];exact j2,⟨by rw [← j1];exact j3.lead,j3.ok.2.1,by push_cast;omega⟩,?_⟩
   show unfS g.1 M (ps.length+1) r.2=termK g.1 ps.length (bldT (hasB (wordsL g.2)) ps 0) 0
   rw [← j1,right_text j2 (hS.fine _ (by omega)) j3.lead j3.right j3.ok.2.1 hS.fit0 hn (by omega),tabE_hasT hp hn j3.tab]

theorem StandAll.size {F:Nat→Prop}{w:World}{sb:Nat}{M:St}{ps:List Int}{fs:List (Int×List Bool)}{rs:List (Int×Edge)}(hS:StoreRep F w sb M)(hp:permB ps=true)(hn:M.n=(ps.length:Int))(h6:ps.length≤6)(hlen:M.len+64≤1048576)(h:StandAll M ps fs rs) :
  (reachL M.cs ((rs.map Prod.snd).map Edge.to)).length=sizeO fs ps∧sizeO fs ps≤fs.length*127:=by
 have hr:=h.at_ hS hp hn h6 hlen
 have e1:=size_reach (fun f=>hS.fine f (by omega)) hr
 have e2:=reach_few (fun f=>hS.fine f (by omega)) hr
 have hp7:2 ^ (ps.length+1)≤2 ^ 7:=Nat.pow_le_pow_right (by decide) (by omega)
 have e7:(2:Nat) ^ 7=128:=rfl
 have e3:(rs.map Prod.snd).length*(2 ^ (ps.length+1)-1)≤(rs.map Prod.snd).length*127:=Nat.mul_le_mul_left _ (by omega)
 rw [List.length_map,h.1] at e2 e3
 exact⟨e1,by unfold sizeO;omega⟩

theorem StandAll.sweep {M:St}{ps:List Int}{fs:List (Int×List Bool)}{rs:List (Int×Edge)}(h:StandAll M ps fs rs)(hw:(sweepSt M ((rs.map Prod.snd).map Edge.to)).wf):StandAll (sweepSt M ((rs.map Prod.snd).map Edge.to)) ps fs rs:=
 ⟨h.1,fun i q r h1 h2=>by
  obtain⟨j1,j2,j3⟩:=h.2 i q r h1 h2
  exact⟨j1,j2,j3.sweep (List.mem_map.2 ⟨r.2,List.mem_map.2 ⟨r,List.mem_of_getElem? h2,rfl⟩,rfl⟩) hw⟩⟩

theorem StandAll.step {M M':St}{ps:List Int}{ss:List Nat}{fs:List (Int×List Bool)}{rs rs':List (Int×Edge)}{es:List Edge}(h:StandAll M ps fs rs)(hr:RootsOk ps.length ss M M' rs es)(hl:rs'.length=rs.length)(hm:∀ (i:Nat) (r:Int×Edge) (e:Edge),rs[i]?=some r→es[i]?=some e→rs'[i]?=some (r.1,e)):StandAll M' (runL ps ss) fs rs':=
 ⟨hl.trans h.1,fun i q r h1 h2=>by
  have hil:=(List.getElem?_eq_some_iff.1 h2).1
  have hel:=hr.1
  have g1:rs[i]?=some (rs[i]'(by omega)):=List.getElem?_eq_getElem (by omega)
  have g2:es[i]?=some (es[i]'(by omega)):=List.getElem?_eq_getElem (by omega)
  obtain⟨j1,j2,j3⟩:=h.2 i q _ h1 g1
  have hro:=hr.2 i _ _ g1 g2
  rw [hm i _ _ g1 g2] at h2
  cases h2
  exact⟨j1,j2,root_stands j3 rfl hro rfl⟩⟩

def RowR (w:World)(a:Option Addr)(lb:Nat)(rs:List (Int×Edge)):Prop:=
 rs≠[]→a=some ⟨lb,0,none⟩∧∃ cur:Array Value,w.heap[lb]?=some (.cells cur 80 (0,0))∧∀ (i:Nat) (r:Int×Edge),rs[i]?=some r→cur[i*3]?=some (Value.int .u8 r.1)∧cur[i*3+1]?=some (Value.int .u8 r.2.tag)∧cur[i*3+2]?=some (Value.int .u32 r.2.to)

theorem RowR.keep {G:Nat→Prop}{w w':World}{a:Option Addr}{lb:Nat}{rs:List (Int×Edge)}(h:RowR w a lb rs)(hu:Upd G w w')(hg:¬G lb):RowR w' a lb rs:=fun hn=>by
 obtain⟨h0,cur,h1,h2⟩:=h hn
 exact⟨h0,cur,(hu.block lb (lt_of_heap h1) hg).trans h1,h2⟩

theorem RowR.keeps {w w':World}{a:Option Addr}{lb:Nat}{rs:List (Int×Edge)}(h:RowR w a lb rs)(hk:Keeps w w'):RowR w' a lb rs:=h.keep (hk.upd (fun _=>False)) (fun h=>h)

theorem RowR.cell {w:World}{a:Option Addr}{lb:Nat}{rs:List (Int×Edge)}(h:RowR w a lb rs){i:Nat}{r:Int×Edge}(hx:rs[i]?=some r) :
  a=some ⟨lb,0,none⟩∧w.cell? ⟨lb,i*3,none⟩=some (.int .u8 r.1)∧w.cell? ⟨lb,i*3+1,none⟩=some (.int .u8 r.2.tag)∧w.cell? ⟨lb,i*3+2,none⟩=some (.int .u32 r.2.to):=by
 obtain⟨h0,cur,h1,h2⟩:=h (fun e=>by rw [e] at hx;cases hx)
 obtain⟨a1,a2,a3⟩:=h2 i r hx
 exact⟨h0,by rw [cell_of_row w lb _ _ _ _ h1];simp only [a1],by rw [cell_of_row w lb _ _ _ _ h1];simp only [a2],by rw [cell_of_row w lb _ _ _ _ h1];simp only [a3]⟩

theorem RowR.frozen {w:World}{a:Option Addr}{lb:Nat}{rs:List (Int×Edge)}(h:RowR w a lb rs){j:Nat}{r:Int×Edge}(hx:rs[j]?=some r)(i:Nat):w.frozen? ⟨lb,i,none⟩=false:=by
 obtain⟨h0,cur,h1,h2⟩:=h (fun e=>by rw [e] at hx;cases hx)
 exact frozen_of_row w lb i _ _ h1

theorem RowR.roots {w:World}{a:Option Addr}{lb:Nat}{rs:List (Int×Edge)}(h:RowR w a lb rs)(hok:∀ r∈rs,(0≤r.1∧r.1≤255)∧r.2.ok):IsRoots w a rs:=fun i r hr=>by
 obtain⟨h0,c0,c1,c2⟩:=h.cell hr
 obtain⟨g1,g2⟩:=hok r (List.mem_of_getElem? hr)
 exact⟨g1,g2,lb,0,h0,by rw [Nat.zero_add];exact c0,by rw [Nat.zero_add];exact c1,by rw [Nat.zero_add];exact c2⟩

theorem RowR.set {w:World}{a:Option Addr}{lb:Nat}{rs:List (Int×Edge)}(h:RowR w a lb rs){i:Nat}{r:Int×Edge}(hx:rs[i]?=some r)(e:Edge):RowR ((w.setCell ⟨lb,i*3+1,none⟩ (.int .u8 e.tag)).setCell ⟨lb,i*3+2,none⟩ (.int .u32 e.to)) a lb (rs.set i (r.1,e)):=fun _=>by
 have hi:=(List.getElem?_eq_some_iff.1 hx).1
 obtain⟨h0,cur,h1,h2⟩:=h (fun e=>by rw [e] at hx;cases hx)
 have h3:=Go.heap_setCell_same w lb (i*3+1) _ _ (.int .u8 e.tag) h1
 refine⟨h0,_,Go.heap_setCell_same _ lb (i*3+2) _ _ (.int .u32 e.to) h3,fun j x hj=>?_⟩
 obtain⟨a1,a2,a3⟩:=h2 i r hx
 have l2:=(Array.getElem?_eq_some_iff.1 a2).1
 have l3:=(Array.getElem?_eq_some_iff.1 a3).1
 by_cases hij:i=j
 ·subst hij
  rw [List.getElem?_set_self hi] at hj
  cases hj
  refine⟨?_,?_,?_⟩
  ·rw [Array.getElem?_setIfInBounds,if_neg (by omega),Array.getElem?_setIfInBounds,if_neg (by omega)]
   exact a1
  ·rw [Array.getElem?_setIfInBounds,if_neg (by omega),Array.getElem?_setIfInBounds,if_pos rfl,if_pos l2]
  ·rw [Array.getElem?_setIfInBounds,if_pos rfl,if_pos (by simpa using l3)]
 ·rw [List.getElem?_set_ne hij] at hj
  obtain⟨b1,b2,b3⟩:=h2 j x hj
  refine⟨?_,?_,?_⟩
  ·rw [Array.getElem?_setIfInBounds,if_neg (by omega),Array.getElem?_setIfInBounds,if_neg (by omega)]
   exact b1
  ·rw [Array.getElem?_setIfInBounds,if_neg (by omega),Array.getElem?_setIfInBounds,if_neg (by omega)]
   exact b2
  ·rw [Array.getElem?_setIfInBounds,if_neg (by omega),Array.getElem?_setIfInBounds,if_neg (by omega)]
   exact b3

structure BedCells (w:World)(bb:Nat)(la:Option Addr)(N cap sb ob:Nat):Prop where
 c0:w.cell? ⟨bb,0,none⟩=some (.pointer (some ⟨sb,0,none⟩))
 c1:w.cell? ⟨bb,1,none⟩=some (.pointer (some ⟨ob,0,none⟩))
 c2:w.cell? ⟨bb,2,none⟩=some (.slice la N cap)
 c3:w.cell? ⟨bb,3,none⟩=some (.int .u8 0)

theorem BedCells.keep {G:Nat→Prop}{w w':World}{bb N cap sb ob:Nat}{la:Option Addr}(h:BedCells w bb la N cap sb ob)(hu:Upd G w w')(hg:¬G bb):BedCells w' bb la N cap sb ob:=
 ⟨hu.cellAt hg h.c0,hu.cellAt hg h.c1,hu.cellAt hg h.c2,hu.cellAt hg h.c3⟩

theorem BedCells.keeps {w w':World}{bb N cap sb ob:Nat}{la:Option Addr}(h:BedCells w bb la N cap sb ob)(hk:Keeps w w'):BedCells w' bb la N cap sb ob:=h.keep (hk.upd (fun _=>False)) (fun h=>h)

structure Bed (F Fo:Nat→Prop)(w:World)(bb lb:Nat)(la:Option Addr)(cap sb ob:Nat)(M:St)(ps:List Int)(fs:List (Int×List Bool))(rs:List (Int×Edge)):Prop where
 sit:Sit F Fo w sb ob M ps
 perm:permB ps=true
 n6:ps.length≤6
 few:fs.length≤4
 len:M.len=(sizeO fs ps:Int)
 room:(fs.length:Int)*300<M.room
 vast:M.room≤1000000
 stand:StandAll M ps fs rs
 row:RowR w la lb rs
 cells:BedCells w bb la fs.length cap sb ob
 nb:¬F bb∧¬Fo bb∧bb≠lb
 nl:¬F lb∧¬Fo lb
 lts:bb<w.heap.size∧lb<w.heap.size

theorem Bed.keeps {F Fo:Nat→Prop}{w w':World}{bb lb cap sb ob:Nat}{la:Option Addr}{M:St}{ps:List Int}{fs:List (Int×List Bool)}{rs:List (Int×Edge)}(h:Bed F Fo w bb lb la cap sb ob M ps fs rs)(hk:Keeps w w'):Bed F Fo w' bb lb la cap sb ob M ps fs rs:=
 ⟨h.sit.keeps hk,h.perm,h.n6,h.few,h.len,h.room,h.vast,h.stand,h.row.keeps hk,h.cells.keeps hk,h.nb,h.nl,by have:=hk.size;have:=h.lts;omega⟩

def BedAt (F0 Fo X:Nat→Prop)(w0 w:World)(bb lb:Nat)(la:Option Addr)(cap sb ob:Nat)(ps:List Int)(fs:List (Int×List Bool)):Prop:=
 ∃ (F:Nat→Prop) (M:St) (rs:List (Int×Edge)),Bed F Fo w bb lb la cap sb ob M ps fs rs∧(∀ j,F j→F0 j∨w0.heap.size≤j)∧Upd (fun j=>F0 j∨Fo j∨j=lb∨X j) w0 w

theorem BedAt.next {F0 F Fo X0 X:Nat→Prop}{w0 w w':World}{bb lb cap sb ob:Nat}{la:Option Addr}{ps:List Int}{fs:List (Int×List Bool)}(hF:∀ j,F j→F0 j∨w0.heap.size≤j)(hU:Upd (fun j=>F0 j∨Fo j∨j=lb∨X0 j) w0 w)(hX:∀ j,X j→X0 j∨w0.heap.size≤j)(h:BedAt F Fo X w w' bb lb la cap sb ob ps fs):BedAt F0 Fo X0 w0 w' bb lb la cap sb ob ps fs:=by
 obtain⟨F',M,rs,h1,h2,h3⟩:=h
 have hs:=hU.size
 refine⟨F',M,rs,h1,fun j hj=>?_,hU.later h3 (fun i hi hh=>?_)⟩
 ·rcases h2 j hj with q|q
  ·exact hF j q
  ·exact .inr (by omega)
 ·rcases hh with hh|hh|hh|hh
  ·rcases hF i hh with q|q
   ·exact .inl q
   ·omega
  ·exact .inr (.inl hh)
  ·exact .inr (.inr (.inl hh))
  ·rcases hX i hh with q|q
   ·exact .inr (.inr (.inr q))
   ·omega

theorem BedAt.start {F Fo:Nat→Prop}{w:World}{bb lb cap sb ob:Nat}{la:Option Addr}{M:St}{ps:List Int}{fs:List (Int×List Bool)}{rs:List (Int×Edge)}(h:Bed F Fo w bb lb la cap sb ob M ps fs rs)(X:Nat→Prop):BedAt F Fo X w w bb lb la cap sb ob ps fs:=
 ⟨F,M,rs,h,fun _ hj=>.inl hj,Upd.refl _ _⟩

theorem bedEdges_calls {w:World}{bb cap N:Nat}{la:Option Addr}{rs:List (Int×Edge)}(c2:w.cell? ⟨bb,2,none⟩=some (.slice la N cap))(hR:IsRoots w la rs)(hN:rs.length=N)(hN4:N≤1048576) :
  Calls Tryz.prog 97 #[.pointer (some ⟨bb,0,none⟩)] w fun e w'=>∃ g,e=.returned (.slice (some ⟨g,0,none⟩) N N)∧w.heap.size≤g∧RowE w' g (rs.map Prod.snd)∧Keeps w w':=by
 obtain⟨j0,hj,jz0,jz1,jz2⟩:=info_parts info_edge
 have HR:=Lib.hid hR
 have HN:=Lib.hid hN
 clear hR hN
 go_enter Tryz.func97,Tryz.ntmps97
 go_wp2_with (first
  | (at_make;refine wpList_make_full _ rfl _ _ 66 rfl w.heap.size 25 j0 (.agg #[.int .u8 0,.int .u32 0]) 2 Tryz.underlying66 hj jz0 jz1 .i64 .i64 (N:Int) (N:Int) N rfl rfl rfl rfl (by rw [jz2];omega) (by unfold maxLen;omega) (by simp) ?_;intro w2 hown2 hg2;have hkw:Keeps w w2:=⟨hg2.os,hg2.tape,hg2.output,hg2.size,fun i hi=>hg2.block i hi (by simp)⟩;have c2:=hkw.cell c2)
  | fail)
 have hB1:=rowE_made hown2
 have HKW:=Lib.hid hkw
 have HB1:=Lib.hid hB1
 have l1:=hB1.lt
 obtain⟨g,hg⟩:∃ g,g=w.heap.size:=⟨_,rfl⟩
 have sz1:w.heap.size≤g:=by omega
 rw [← hg] at HB1 l1 ⊢
 clear hown2 hg2 hkw hB1 hg
 go_loopg [17] N (fun gk s9 wr=>∃ (d:Nat) (es:List Edge),s9=.int .i64 (d:Int)∧d+gk=N∧es.length=N∧RowE wr g es∧(∀ i,i<d→∀ r,rs[i]?=some r→es[i]?=some r.2)∧Upd (fun j=>j=g) w2 wr)
 case atStart=>exact⟨0,_,rfl,by omega,by simp,HB1.out,fun i hi=>by omega,Upd.refl _ _⟩
 case round=>
  obtain⟨d,es,rfl,hd,hel,hB,hag,hu⟩:=hrel
  have HEL:=Lib.hid hel
  have HB:=Lib.hid hB
  have HAG:=Lib.hid hag
  have HU:=Lib.hid hu
  have hkr:Keeps w wr:=HKW.out.new hu (fun j hj=>by omega)
  have HKR:=Lib.hid hkr
  have lgr:=hB.lt
  clear hel hB hag hu hkr
  by_cases hlt:d<N
  ·obtain⟨r,hx⟩:∃ b,rs[d]?=some b:=⟨_,List.getElem?_eq_getElem (by rw [HN.out];exact hlt)⟩
   obtain⟨hf8,hok,b,off,ha3,c0,c1,c2'⟩:=(HR.out.keeps HKR.out) d r hx
   obtain⟨y,hy⟩:∃ b,es[d]?=some b:=⟨_,List.getElem?_eq_getElem (by rw [HEL.out];exact hlt)⟩
   obtain⟨t0,t1⟩:=HB.out.cell hy
   have ft:=HB.out.frozen (d*2)
   have ft':=HB.out.frozen (d*2+1)
   have HX:=Lib.hid hx
   have ng:wr.heap.size≠g:=by omega
   have ng':g≠wr.heap.size:=by omega
   obtain⟨f,e⟩:=r
   dsimp only at c0 c1 c2'
   subst ha3
   clear hx hy hok hf8
   go_wp2_with fail
   go_roundg (gk-1)
   case rel=>
    refine⟨d+1,es.set d e,by simp,by omega,by rw [List.length_set,HEL.out],?_,fun i hi q hq=>?_,?_⟩
    ·exact(HB.out.set d e (by rw [HEL.out];exact hlt)).keeps ((Keeps.refl _).alloc _)
    ·by_cases hid:i=d
     ·subst hid
      rw [HX.out] at hq
      cases hq
      rw [List.getElem?_set_self (by rw [HEL.out];exact hlt)]
     ·rw [List.getElem?_set_ne (fun e=>hid e.symm)]
      exact HAG.out i (by omega) q hq
    ·exact(updR2 (P:=fun j=>j=g) rfl (updR2 (P:=fun j=>j=g) rfl HU.out _ _) _ _).alloc _
   case measure=>omega
  ·have hd2:d=N:=by omega
   have hes:es=rs.map Prod.snd:=by
    apply List.ext_getElem?
    intro i
    by_cases hi:i<N
    ·have h1:rs[i]?=some (rs[i]'(by rw [HN.out];exact hi)):=List.getElem?_eq_getElem _
     rw [HAG.out i (by omega) _ h1,List.getElem?_map,h1]
     rfl
    ·rw [List.getElem?_eq_none (by rw [HEL.out];omega),List.getElem?_eq_none (by rw [List.length_map,HN.out];omega)]
   have hout:RowE wr g (rs.map Prod.snd)∧Keeps w wr:=⟨by rw [← hes];exact HB.out,HKR.out⟩
   have HOUT:=Lib.hid hout
   clear hes hout HAG HEL
   go_wp2_with fail
   go_ret
   exact⟨g,rfl,sz1,HOUT.out.1,HOUT.out.2⟩

def Mixed (rs rs':List (Int×Edge))(es:List Edge):Prop:=rs'.length=rs.length∧∀ (i:Nat) (r:Int×Edge) (e:Edge),rs[i]?=some r→es[i]?=some e→rs'[i]?=some (r.1,e)

theorem Mixed.snd {rs rs':List (Int×Edge)}{es:List Edge}(h:Mixed rs rs' es)(hl:es.length=rs.length):rs'.map Prod.snd=es:=by
 apply List.ext_getElem?
 intro i
 by_cases hi:i<rs.length
 ·have h1:rs[i]?=some (rs[i]'hi):=List.getElem?_eq_getElem _
  have h2:es[i]?=some (es[i]'(by omega)):=List.getElem?_eq_getElem _
  rw [List.getElem?_map,h.2 i _ _ h1 h2,h2]
  rfl
 ·rw [List.getElem?_eq_none (by rw [List.length_map,h.1];omega),List.getElem?_eq_none (by omega)]

theorem bedTake_calls {F:Nat→Prop}{w:World}{bb lb cap sb ob N g:Nat}{la:Option Addr}{M:St}{rs:List (Int×Edge)}{es:List Edge}(hc:BedCells w bb la N cap sb ob)(hrow:RowR w la lb rs)(hg:RowE w g es)(hN:rs.length=N)(hE:es.length=N)(hN4:N≤1048576)
  (hok:∀ e∈es,e.ok) (h:StoreRep F w sb M) (n1:g≠lb) (n2:bb≠lb) (n3:¬F g) (n4:¬F lb) (n5:¬F bb) (hlb:lb<w.heap.size) :
  Calls Tryz.prog 214 #[.pointer (some ⟨bb,0,none⟩),.slice (some ⟨g,0,none⟩) N N] w fun e w'=>∃ (F':Nat→Prop) (rs':List (Int×Edge)),e=.returned (.tuple #[])∧Mixed rs rs' es∧RowR w' la lb rs'∧StoreRep F' w' sb (sweepSt M (es.map Edge.to))∧(∀ j,F' j→F j∨w.heap.size≤j)∧Upd (fun j=>F j∨j=lb) w w':=by
 have hbb:=lt_of_cell hc.c0
 have HS:=Lib.hid h
 have HN:=Lib.hid hN
 have HE:=Lib.hid hE
 have HOK:=Lib.hid hok
 have HC:=Lib.hid hc
 have HROW:=Lib.hid hrow
 have HG:=Lib.hid hg
 have hc2:=hc.c2
 have hgl:=hg.lt
 clear h hN hE hok hc hrow hg
 go_enter Tryz.func214,Tryz.ntmps214
 go_wp2_with fail
 go_loopg [8] N (fun gk s2 wr=>∃ (d:Nat) (rs':List (Int×Edge)),s2=.int .i64 (d:Int)∧d+gk=N∧rs'.length=N∧RowR wr la lb rs'∧(∀ (i:Nat) (r:Int×Edge) (e:Edge),rs[i]?=some r→es[i]?=some e→rs'[i]?=some (r.1,if i<d then e else r.2))∧Upd (fun j=>j=lb) w wr)
 case atStart=>exact⟨0,rs,rfl,by omega,HN.out,HROW.out,fun i r e h1 h2=>by rw [if_neg (by omega)];exact h1,Upd.refl _ _⟩
 case round=>
  obtain⟨d,rs',rfl,hd,hl,hR,hag,hu⟩:=hrel
  have HL:=Lib.hid hl
  have HR:=Lib.hid hR
  have HAG:=Lib.hid hag
  have HU:=Lib.hid hu
  have szr:=hu.size
  clear hl hR hag hu
  by_cases hlt:d<N
  ·obtain⟨r,hx⟩:∃ b,rs'[d]?=some b:=⟨_,List.getElem?_eq_getElem (by rw [HL.out];exact hlt)⟩
   obtain⟨e,hy⟩:∃ b,es[d]?=some b:=⟨_,List.getElem?_eq_getElem (by rw [HE.out];exact hlt)⟩
   obtain⟨q,hq⟩:∃ b,rs[d]?=some b:=⟨_,List.getElem?_eq_getElem (by rw [HN.out];exact hlt)⟩
   obtain⟨ha,c0,c1,c2⟩:=HR.out.cell hx
   have f1:=HR.out.frozen hx (d*3+1)
   have f2:=HR.out.frozen hx (d*3+2)
   obtain⟨t0,t1⟩:=(HG.out.keep HU.out n1).cell hy
   have k2:=(HC.out.keep HU.out n2).c2
   have lgr:g<wr.heap.size:=by omega
   have lbr:lb<wr.heap.size:=by omega
   have bbr:bb<wr.heap.size:=by omega
   have m1:wr.heap.size≠g:=by omega
   have m2:wr.heap.size≠lb:=by omega
   have m3:wr.heap.size≠bb:=by omega
   have HX:=Lib.hid hx
   have HY:=Lib.hid hy
   have HQ:=Lib.hid hq
   subst ha
   clear hx hy hq
   go_wp2_with fail
   go_region
   go_wp2_with fail
   go_roundg (gk-1)
   case rel=>
    have hr1:r.1=q.1:=by
     have:=HAG.out d q e HQ.out HY.out
     rw [HX.out] at this
     cases this
     rfl
    refine⟨d+1,rs'.set d (r.1,e),by simp,by omega,by rw [List.length_set,HL.out],?_,fun i p x h1 h2=>?_,?_⟩
    ·exact(HR.out.set HX.out e).keeps (((Keeps.refl _).alloc _).drew)
    ·by_cases hid:i=d
     ·subst hid
      rw [HQ.out] at h1
      rw [HY.out] at h2
      cases h1
      cases h2
      rw [List.getElem?_set_self (by rw [HL.out];exact hlt),if_pos (by omega),hr1]
     ·rw [List.getElem?_set_ne (fun e=>hid e.symm),HAG.out i p x h1 h2]
      by_cases hlt3:i<d
      ·rw [if_pos hlt3,if_pos (by omega)]
      ·rw [if_neg hlt3,if_neg (by omega)]
    ·exact((updR2 (P:=fun j=>j=lb) rfl (updR2 (P:=fun j=>j=lb) rfl HU.out _ _) _ _).alloc _).drew
   case measure=>omega
  ·have hd2:d=N:=by omega
   have hmix:Mixed rs rs' es:=⟨by rw [HL.out,HN.out],fun i r e h1 h2=>by
    have:=HAG.out i r e h1 h2
    rw [if_pos (by have:=(List.getElem?_eq_some_iff.1 h1).1;rw [HN.out] at this;omega)] at this
    exact this⟩
   have hSr:=HS.out.keep HU.out (fun k h1 h2=>n4 (h2 ▸ h1))
   have hGr:=HG.out.keep HU.out n1
   have hes:∀ W,Keeps wr W→IsEdges W (some ⟨g,0,none⟩) N es:=fun W hW=>⟨HE.out,fun i e he=>((hGr.keeps hW).at HOK.out) i e he⟩
   have hsw:=fun(W:World) (hW:Keeps wr W)=>store_sweep (hSr.keeps hW) (some ⟨g,0,none⟩) N N es (hes W hW) hN4
   have k0:=(HC.out.keep HU.out n2).c0
   have HSW:=Lib.hid hsw
   have HMIX:=Lib.hid hmix
   have hlbr:lb<wr.heap.size:=by omega
   clear hsw hmix hes hSr hGr hd2 HAG HE HN HOK HG HC HS HROW HL
   go_wp2_with fail
   refine(HSW.out _ (by(exact kp))).mono ?_
   rintro e w2 ⟨rfl,hU2,hS2⟩
   have hUU:Upd (fun j=>F j∨j=lb) w w2:=(HU.out.mono (fun k _ hk=>.inr hk)).trans' (hU2.mono (fun k _ hk=>.inl hk))
   have HFIN:=Lib.hid (⟨HR.out.keep hU2 n4,hS2,hUU⟩:_∧_∧_)
   have hsub:∀ j,Grow F wr w2 j→F j∨w.heap.size≤j:=fun j hj=>by
    rcases hj with q|q
    ·exact .inl q
    ·exact .inr (by omega)
   have HSUB:=Lib.hid hsub
   clear hU2 hS2 hUU hsub
   go_wp2_with fail
   first|go_end0|refine bodyPost_ret (results_none rfl _ _ _) rfl ?_
   exact⟨_,rs',rfl,HMIX.out,HFIN.out.1,HFIN.out.2.1,HSUB.out,HFIN.out.2.2⟩

end Go.Proofs.YtpgcbmbnognieaaGreat
