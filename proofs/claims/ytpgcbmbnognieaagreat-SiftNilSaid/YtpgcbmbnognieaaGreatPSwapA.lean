/-
  Rows of roots, of forms; swap.may, swap.fit; ramageref26.May; law26.roots.
-/
import Derived.Test.YtpgcbmbnognieaaGreatPRightQ
import Derived.Test.YtpgcbmbnognieaaGreatPTermA
import Derived.Test.YtpgcbmbnognieaaGreatPVSA
namespace Go.Proofs.YtpgcbmbnognieaaGreat
set_option maxRecDepth 1000000
set_option maxHeartbeats 8000000
set_option linter.unusedSimpArgs false
set_option linter.unusedVariables false
open Go.RowKit

def IsRoots (w:World)(a:Option Addr)(rs:List (Int×Edge)):Prop:=
 ∀ i r,rs[i]?=some r→(0≤r.1∧r.1≤255)∧r.2.ok∧∃ b off,a=some ⟨b,off,none⟩∧w.cell? ⟨b,off+i*3,none⟩=some (.int .u8 r.1)∧w.cell? ⟨b,off+i*3+1,none⟩=some (.int .u8 r.2.tag)∧w.cell? ⟨b,off+i*3+2,none⟩=some (.int .u32 r.2.to)

theorem IsRoots.keeps {w w':World}{a:Option Addr}{rs:List (Int×Edge)}(h:IsRoots w a rs)(hk:Keeps w w'):IsRoots w' a rs:=fun i r hr=>by
 obtain⟨h1,h2,b,off,ha,c0,c1,c2⟩:=h i r hr
 exact⟨h1,h2,b,off,ha,hk.cell c0,hk.cell c1,hk.cell c2⟩

def EdgesAt (w:World)(a:Option Addr)(es:List Edge):Prop:=∀ i e,es[i]?=some e→e.ok∧∃ b off,a=some ⟨b,off,none⟩∧w.cell? ⟨b,off+i*2,none⟩=some (.int .u8 e.tag)∧w.cell? ⟨b,off+i*2+1,none⟩=some (.int .u32 e.to)

def mayL (M:St):List (Int×Edge)→Int
 | []=>0
 | r::rs=>if mayC M r.1 r.2 0=0 then mayL M rs else mayC M r.1 r.2 0

theorem mayL_cons (M:St)(r:Int×Edge)(rs:List (Int×Edge)):mayL M (r::rs)=if mayC M r.1 r.2 0=0 then mayL M rs else mayC M r.1 r.2 0:=rfl

theorem mayL_zero {M:St}:∀ {rs:List (Int×Edge)},mayL M rs=0→∀ r∈rs,(1≤r.1∧r.1≤5)∧M.leads r.1 r.2 0=true:=by
 intro rs
 induction rs with
 | nil=>intro _ r hr;cases hr
 | cons s rs ih=>
  intro h r hr
  unfold mayL at h
  split at h
  ·rename_i hc
   rcases List.mem_cons.1 hr with rfl|hr
   ·unfold mayC at hc
    split at hc
    ·cases hc
    ·rename_i hf
     split at hc
     ·cases hc
     ·split at hc
      ·cases hc
      ·rename_i hl
       have h1:isFormB r.1=true:=by cases hb:isFormB r.1 with|true=>rfl|false=>exact absurd hb hf
       unfold isFormB at h1
       exact⟨by simpa using h1,by cases hb:M.leads r.1 r.2 0 with|true=>rfl|false=>exact absurd hb hl⟩
   ·exact ih h r hr
  ·rename_i hc
   exact absurd h hc

theorem mayL_range (M:St):∀ rs:List (Int×Edge),0≤mayL M rs∧mayL M rs≤4:=by
 intro rs
 induction rs with
 | nil=>exact⟨Int.le_refl _,by show(0:Int)≤4;decide⟩
 | cons r rs ih=>
  have:=mayC_range M r.1 r.2 0
  unfold mayL
  split
  ·exact ih
  ·omega

theorem mayC_0 {M:St}(h:M.wf)(f:Int)(e:Edge):mayC M f e 0=if isFormB f=false then 4 else if M.leads f e 0=false then 1 else 0:=by
 have:=h.n0
 unfold mayC
 rw [if_neg (show ¬((0:Int)<0∨M.n<0) by omega)]

theorem swapMay_calls {F:Nat→Prop}{w:World}{sb:Nat}{M:St}(h:StoreRep F w sb M)(a:Option Addr)(cap:Nat)(rs:List (Int×Edge))(hr:IsRoots w a rs)(hl:rs.length≤1048576) :
  Calls Tryz.prog 287 #[.pointer (some ⟨sb,0,none⟩),.slice a rs.length cap] w fun e w'=>e=.returned (.int .u8 (mayL M rs))∧Keeps w w':=by
 have HL:=Lib.hid (fun(f:Int) (v:Edge) (hv:v.ok) (W:World) (hW:Keeps w W)=>store_leads (h.keeps hW) f v 0 hv)
 have HW:=Lib.hid h.wf
 obtain⟨N,hN⟩:∃ N,N=rs.length:=⟨_,rfl⟩
 rw [← hN] at hl ⊢
 have HR:=Lib.hid hr
 have HN:=Lib.hid hN
 clear h hr hN
 go_enter Tryz.func287,Tryz.ntmps287
 go_wp2
 go_loopg [9] N (fun gk s9 wr=>∃ d:Nat,s9=.int .i64 (d:Int)∧d+gk=N∧mayL M (rs.drop d)=mayL M rs∧Keeps w wr)
 case atStart=>exact⟨0,rfl,by omega,rfl,by(exact kp)⟩
 case round=>
  obtain⟨d,rfl,hd,hm,hk⟩:=hrel
  have HMM:=Lib.hid hm
  clear hm
  by_cases hlt:d<N
  ·obtain⟨r,hx⟩:∃ b,rs[d]?=some b:=⟨_,List.getElem?_eq_getElem (by rw [← HN.out];exact hlt)⟩
   obtain⟨hf8,hok,b,off,rfl,c0,c1,c2⟩:=HR.out d r hx
   replace c0:=hk.cell c0
   replace c1:=hk.cell c1
   replace c2:=hk.cell c2
   have hdr:rs.drop d=r::rs.drop (d+1):=by
    obtain⟨hi,he⟩:=List.getElem?_eq_some_iff.1 hx
    rw [List.drop_eq_getElem_cons hi,he]
   have hm:=HMM.out
   rw [hdr] at hm
   rw [mayL_cons,mayC_0 HW.out] at hm
   obtain⟨f,e⟩:=r
   have hif:=isForm_calls f
   have hle:=fun(W:World) (hW:Keeps w W)=>HL.out f e hok W hW
   dsimp only at hf8 hok c0 c1 c2 hm
   cases hfb:isFormB f with
   | false=>
    rw [hfb] at hif hm
    have HIF:=Lib.hid hif
    have hres:Hid (mayL M rs=4):=Lib.hid (by rw [← hm];simp)
    clear hm hif hle hdr hx hok hfb
    go_wp2_with (first|(go_at_call 153;refine(HIF.out _).mono ?_;rintro e' w' ⟨rfl,rfl⟩)|fail)
    go_ret
    exact⟨by rw [hres.out];rfl,by(exact kp)⟩
   | true=>
    rw [hfb] at hif hm
    have HIF:=Lib.hid hif
    cases hlb:M.leads f e 0 with
    | false=>
     rw [hlb] at hle hm
     have HLE:=Lib.hid hle
     have hres:Hid (mayL M rs=1):=Lib.hid (by rw [← hm];simp)
     clear hm hif hle hdr hx hok hfb hlb
     go_wp2_with (first|(go_at_call 153;refine(HIF.out _).mono ?_;rintro e' w' ⟨rfl,rfl⟩)|(go_at_call 130;refine(HLE.out _ (by(exact kp))).mono ?_;rintro e' w3 ⟨rfl,hk3⟩)|fail)
     go_ret
     exact⟨by rw [hres.out];rfl,by(exact kp)⟩
    | true=>
     rw [hlb] at hle hm
     have HLE:=Lib.hid hle
     have hres:Hid (mayL M (rs.drop (d+1))=mayL M rs):=Lib.hid (by rw [← hm];simp)
     clear hm hif hle hdr hx hok hfb hlb
     go_wp2_with (first|(go_at_call 153;refine(HIF.out _).mono ?_;rintro e' w' ⟨rfl,rfl⟩)|(go_at_call 130;refine(HLE.out _ (by(exact kp))).mono ?_;rintro e' w3 ⟨rfl,hk3⟩)|fail)
     go_roundg (gk-1)
     case rel=>exact⟨d+1,by simp,by omega,hres.out,by(exact kp)⟩
     case measure=>omega
  ·have hres:Hid (mayL M rs=0):=Lib.hid (by rw [← HMM.out,List.drop_of_length_le (by rw [← HN.out];omega)];rfl)
   clear HMM
   go_wp2_with fail
   go_ret
   exact⟨by rw [hres.out];rfl,hk⟩

theorem swapFit_calls {F Fo:Nat→Prop}{w:World}{sb ob:Nat}{M:St}{ps:List Int}(h:StoreRep F w sb M)(ho:OrdRep Fo w ob ps) :
  Calls Tryz.prog 258 #[.pointer (some ⟨sb,0,none⟩),.pointer (some ⟨ob,0,none⟩)] w fun e w'=>e=.returned (.int .u8 (if M.n=(ps.length:Int) then 0 else 1))∧Keeps w w':=by
 have HV:=Lib.hid (fun(W:World) (hW:Keeps w W)=>store_vars (h.keeps hW))
 have HO:=Lib.hid (fun(W:World) (hW:Keeps w W)=>ordVars_calls (ho.keeps hW))
 have hn0:=h.wf.n0
 have hn16:=h.wf.n16
 have hp16:=ho.le
 obtain⟨N,hN⟩:∃ N,N=ps.length:=⟨_,rfl⟩
 obtain⟨n,hn⟩:∃ n,n=M.n:=⟨_,rfl⟩
 rw [← hN] at HO hp16 ⊢
 rw [← hn] at HV hn0 hn16 ⊢
 clear h ho hN hn
 by_cases he:n=(N:Int)
 ·rw [if_pos he]
  subst he
  go_enter Tryz.func258,Tryz.ntmps258
  go_wp2_with (first|(go_at_call 67;refine(HV.out _ (by(exact kp))).mono ?_;rintro e' w' ⟨rfl,rfl⟩)|(go_at_call 125;refine(HO.out _ (by(exact kp))).mono ?_;rintro e' w' ⟨rfl,rfl⟩)|fail)
  go_ret
  exact⟨rfl,by(exact kp)⟩
 ·rw [if_neg he]
  have g1:(n !=(N:Int))=true:=by simp [he]
  go_enter Tryz.func258,Tryz.ntmps258
  go_wp2_with (first|(go_at_call 67;refine(HV.out _ (by(exact kp))).mono ?_;rintro e' w' ⟨rfl,rfl⟩)|(go_at_call 125;refine(HO.out _ (by(exact kp))).mono ?_;rintro e' w' ⟨rfl,rfl⟩)|fail)
  go_ret
  exact⟨rfl,by(exact kp)⟩

def kvAct (M:St)(f:Int)(e:Edge)(l:Int):(Edge×Edge×Int) ⊕ Rec:=
 if f=1 then viewAct M 1 e l else if f=2 then viewAct M 2 e l else if f=3 then viewAct M 3 e l else if f=4 then viewAct M 4 e l else if f=5 then viewAct M 5 e l else .inl (⟨0,0⟩,⟨0,0⟩,4)

theorem kview_b {F:Nat→Prop}(R:World→World→Prop)(sb:Nat)(l er:Int)(v lo hi:Edge)(w:World)(hsb:sb<w.heap.size)(hlt:∀ k,F k→k<w.heap.size)
  (hf:∀ W,Keeps w W→Calls Tryz.prog 294 #[.pointer (some ⟨sb,0,none⟩),.agg #[.int .u8 v.tag,.int .u32 v.to],.int .i64 l] W fun e w'=>e=.returned (.tuple #[.agg #[.int .u8 lo.tag,.int .u32 lo.to],.agg #[.int .u8 hi.tag,.int .u32 hi.to],.int .u8 er])∧Upd F W w'∧R W w') :
  Calls Tryz.prog 291 #[.pointer (some ⟨sb,0,none⟩),.int .u8 1,.agg #[.int .u8 v.tag,.int .u32 v.to],.int .i64 l] w fun e w'=>e=.returned (.tuple #[.agg #[.int .u8 lo.tag,.int .u32 lo.to],.agg #[.int .u8 hi.tag,.int .u32 hi.to],.int .u8 er]) ∧
   ∃ W W1,Keeps w W∧Upd F W W1∧R W W1∧Upd (fun k=>w.heap.size≤k∧k<W.heap.size) W1 w':=by
 have HF:=Lib.hid hf
 have nF:∀ k,w.heap.size≤k→¬F k:=fun k hk h=>by have:=hlt k h;omega
 have n1:=nF (w.heap.size+1) (by omega)
 have n2:=nF (w.heap.size+2) (by omega)
 clear hf hlt nF
 go_enter Tryz.func291,Tryz.ntmps291
 go_wp2_with (go_at_call 294;refine(HF.out _ (by(exact kp))).mono ?_;rintro e w3 ⟨rfl,hu,hR⟩;have hs3:=hu.size;(try simp only [World.size_alloc,World.size_setCell,World.size_drew] at hs3);have u0:=hu.cell (a:=⟨w.heap.size+1,0,none⟩) n1 (v:=.int .u8 0) (by simp [go_sem]);have u1:=hu.cell (a:=⟨w.heap.size+1,1,none⟩) n1 (v:=.int .u32 0) (by simp [go_sem]);have uf:=fun o:Nat=>hu.frozen (a:=⟨w.heap.size+1,o,none⟩) (by simp [go_sem]) n1 (by simp [go_sem]);have v0:=hu.cell (a:=⟨w.heap.size+2,0,none⟩) n2 (v:=.int .u8 0) (by simp [go_sem]);have v1:=hu.cell (a:=⟨w.heap.size+2,1,none⟩) n2 (v:=.int .u32 0) (by simp [go_sem]);have vf:=fun o:Nat=>hu.frozen (a:=⟨w.heap.size+2,o,none⟩) (by simp [go_sem]) n2 (by simp [go_sem]);have hv1:w.heap.size+1<w3.heap.size:=(by omega);have hv2:w.heap.size+2<w3.heap.size:=(by omega))
 all_goals refine bodyPost_ret (v:=.tuple #[.agg #[.int .u8 lo.tag,.int .u32 lo.to],.agg #[.int .u8 hi.tag,.int .u32 hi.to],.int .u8 er]) (by simp [results,Tryz.results291,go_sem,hv1,hv2,u0,u1,v0,v1]) rfl ⟨rfl,_,w3,by(exact kp),hu,hR,?_⟩
 all_goals(try simp only [World.size_alloc,World.size_setCell,World.size_drew])
 all_goals(repeat (first|with_reducible exact Upd.refl _ _|exact Upd.mono hu4 (fun k _ hk=>⟨hk.1,by(try simp only [World.size_alloc,World.size_setCell,World.size_drew]);have:=hk.2;omega⟩)|refine Upd.setCell ?_ (Or.inl (by dsimp only;omega)) _|refine Upd.setCell ?_ (Or.inr (by dsimp only;omega)) _|with_reducible refine Upd.drewN ?_ _|with_reducible refine Upd.drew ?_|with_reducible refine Upd.alloc ?_ _))

theorem kview_z {F:Nat→Prop}(R:World→World→Prop)(sb:Nat)(l er:Int)(v lo hi:Edge)(w:World)(hsb:sb<w.heap.size)(hlt:∀ k,F k→k<w.heap.size)
  (hf:∀ W,Keeps w W→Calls Tryz.prog 295 #[.pointer (some ⟨sb,0,none⟩),.agg #[.int .u8 v.tag,.int .u32 v.to],.int .i64 l] W fun e w'=>e=.returned (.tuple #[.agg #[.int .u8 lo.tag,.int .u32 lo.to],.agg #[.int .u8 hi.tag,.int .u32 hi.to],.int .u8 er])∧Upd F W w'∧R W w') :
  Calls Tryz.prog 291 #[.pointer (some ⟨sb,0,none⟩),.int .u8 2,.agg #[.int .u8 v.tag,.int .u32 v.to],.int .i64 l] w fun e w'=>e=.returned (.tuple #[.agg #[.int .u8 lo.tag,.int .u32 lo.to],.agg #[.int .u8 hi.tag,.int .u32 hi.to],.int .u8 er]) ∧
   ∃ W W1,Keeps w W∧Upd F W W1∧R W W1∧Upd (fun k=>w.heap.size≤k∧k<W.heap.size) W1 w':=by
 have HF:=Lib.hid hf
 have nF:∀ k,w.heap.size≤k→¬F k:=fun k hk h=>by have:=hlt k h;omega
 have n1:=nF (w.heap.size+1) (by omega)
 have n2:=nF (w.heap.size+2) (by omega)
 clear hf hlt nF
 go_enter Tryz.func291,Tryz.ntmps291
 go_wp2_with (go_at_call 295;refine(HF.out _ (by(exact kp))).mono ?_;rintro e w3 ⟨rfl,hu,hR⟩;have hs3:=hu.size;(try simp only [World.size_alloc,World.size_setCell,World.size_drew] at hs3);have u0:=hu.cell (a:=⟨w.heap.size+1,0,none⟩) n1 (v:=.int .u8 0) (by simp [go_sem]);have u1:=hu.cell (a:=⟨w.heap.size+1,1,none⟩) n1 (v:=.int .u32 0) (by simp [go_sem]);have uf:=fun o:Nat=>hu.frozen (a:=⟨w.heap.size+1,o,none⟩) (by simp [go_sem]) n1 (by simp [go_sem]);have v0:=hu.cell (a:=⟨w.heap.size+2,0,none⟩) n2 (v:=.int .u8 0) (by simp [go_sem]);have v1:=hu.cell (a:=⟨w.heap.size+2,1,none⟩) n2 (v:=.int .u32 0) (by simp [go_sem]);have vf:=fun o:Nat=>hu.frozen (a:=⟨w.heap.size+2,o,none⟩) (by simp [go_sem]) n2 (by simp [go_sem]);have hv1:w.heap.size+1<w3.heap.size:=(by omega);have hv2:w.heap.size+2<w3.heap.size:=(by omega))
 all_goals refine bodyPost_ret (v:=.tuple #[.agg #[.int .u8 lo.tag,.int .u32 lo.to],.agg #[.int .u8 hi.tag,.int .u32 hi.to],.int .u8 er]) (by simp [results,Tryz.results291,go_sem,hv1,hv2,u0,u1,v0,v1]) rfl ⟨rfl,_,w3,by(exact kp),hu,hR,?_⟩
 all_goals(try simp only [World.size_alloc,World.size_setCell,World.size_drew])
 all_goals(repeat (first|with_reducible exact Upd.refl _ _|exact Upd.mono hu4 (fun k _ hk=>⟨hk.1,by(try simp only [World.size_alloc,World.size_setCell,World.size_drew]);have:=hk.2;omega⟩)|refine Upd.setCell ?_ (Or.inl (by dsimp only;omega)) _|refine Upd.setCell ?_ (Or.inr (by dsimp only;omega)) _|with_reducible refine Upd.drewN ?_ _|with_reducible refine Upd.drew ?_|with_reducible refine Upd.alloc ?_ _))

theorem kview_c {F:Nat→Prop}(R:World→World→Prop)(sb:Nat)(l er:Int)(v lo hi:Edge)(w:World)(hsb:sb<w.heap.size)(hlt:∀ k,F k→k<w.heap.size)
  (hf:∀ W,Keeps w W→Calls Tryz.prog 296 #[.pointer (some ⟨sb,0,none⟩),.agg #[.int .u8 v.tag,.int .u32 v.to],.int .i64 l] W fun e w'=>e=.returned (.tuple #[.agg #[.int .u8 lo.tag,.int .u32 lo.to],.agg #[.int .u8 hi.tag,.int .u32 hi.to],.int .u8 er])∧Upd F W w'∧R W w') :
  Calls Tryz.prog 291 #[.pointer (some ⟨sb,0,none⟩),.int .u8 3,.agg #[.int .u8 v.tag,.int .u32 v.to],.int .i64 l] w fun e w'=>e=.returned (.tuple #[.agg #[.int .u8 lo.tag,.int .u32 lo.to],.agg #[.int .u8 hi.tag,.int .u32 hi.to],.int .u8 er]) ∧
   ∃ W W1,Keeps w W∧Upd F W W1∧R W W1∧Upd (fun k=>w.heap.size≤k∧k<W.heap.size) W1 w':=by
 have HF:=Lib.hid hf
 have nF:∀ k,w.heap.size≤k→¬F k:=fun k hk h=>by have:=hlt k h;omega
 have n1:=nF (w.heap.size+1) (by omega)
 have n2:=nF (w.heap.size+2) (by omega)
 clear hf hlt nF
 go_enter Tryz.func291,Tryz.ntmps291
 go_wp2_with (go_at_call 296;refine(HF.out _ (by(exact kp))).mono ?_;rintro e w3 ⟨rfl,hu,hR⟩;have hs3:=hu.size;(try simp only [World.size_alloc,World.size_setCell,World.size_drew] at hs3);have u0:=hu.cell (a:=⟨w.heap.size+1,0,none⟩) n1 (v:=.int .u8 0) (by simp [go_sem]);have u1:=hu.cell (a:=⟨w.heap.size+1,1,none⟩) n1 (v:=.int .u32 0) (by simp [go_sem]);have uf:=fun o:Nat=>hu.frozen (a:=⟨w.heap.size+1,o,none⟩) (by simp [go_sem]) n1 (by simp [go_sem]);have v0:=hu.cell (a:=⟨w.heap.size+2,0,none⟩) n2 (v:=.int .u8 0) (by simp [go_sem]);have v1:=hu.cell (a:=⟨w.heap.size+2,1,none⟩) n2 (v:=.int .u32 0) (by simp [go_sem]);have vf:=fun o:Nat=>hu.frozen (a:=⟨w.heap.size+2,o,none⟩) (by simp [go_sem]) n2 (by simp [go_sem]);have hv1:w.heap.size+1<w3.heap.size:=(by omega);have hv2:w.heap.size+2<w3.heap.size:=(by omega))
 all_goals refine bodyPost_ret (v:=.tuple #[.agg #[.int .u8 lo.tag,.int .u32 lo.to],.agg #[.int .u8 hi.tag,.int .u32 hi.to],.int .u8 er]) (by simp [results,Tryz.results291,go_sem,hv1,hv2,u0,u1,v0,v1]) rfl ⟨rfl,_,w3,by(exact kp),hu,hR,?_⟩
 all_goals(try simp only [World.size_alloc,World.size_setCell,World.size_drew])
 all_goals(repeat (first|with_reducible exact Upd.refl _ _|exact Upd.mono hu4 (fun k _ hk=>⟨hk.1,by(try simp only [World.size_alloc,World.size_setCell,World.size_drew]);have:=hk.2;omega⟩)|refine Upd.setCell ?_ (Or.inl (by dsimp only;omega)) _|refine Upd.setCell ?_ (Or.inr (by dsimp only;omega)) _|with_reducible refine Upd.drewN ?_ _|with_reducible refine Upd.drew ?_|with_reducible refine Upd.alloc ?_ _))

theorem kview_q {F:Nat→Prop}(R:World→World→Prop)(sb:Nat)(l er:Int)(v lo hi:Edge)(w:World)(hsb:sb<w.heap.size)(hlt:∀ k,F k→k<w.heap.size)
  (hf:∀ W,Keeps w W→Calls Tryz.prog 297 #[.pointer (some ⟨sb,0,none⟩),.agg #[.int .u8 v.tag,.int .u32 v.to],.int .i64 l] W fun e w'=>e=.returned (.tuple #[.agg #[.int .u8 lo.tag,.int .u32 lo.to],.agg #[.int .u8 hi.tag,.int .u32 hi.to],.int .u8 er])∧Upd F W w'∧R W w') :
  Calls Tryz.prog 291 #[.pointer (some ⟨sb,0,none⟩),.int .u8 4,.agg #[.int .u8 v.tag,.int .u32 v.to],.int .i64 l] w fun e w'=>e=.returned (.tuple #[.agg #[.int .u8 lo.tag,.int .u32 lo.to],.agg #[.int .u8 hi.tag,.int .u32 hi.to],.int .u8 er]) ∧
   ∃ W W1,Keeps w W∧Upd F W W1∧R W W1∧Upd (fun k=>w.heap.size≤k∧k<W.heap.size) W1 w':=by
 have HF:=Lib.hid hf
 have nF:∀ k,w.heap.size≤k→¬F k:=fun k hk h=>by have:=hlt k h;omega
 have n1:=nF (w.heap.size+1) (by omega)
 have n2:=nF (w.heap.size+2) (by omega)
 clear hf hlt nF
 go_enter Tryz.func291,Tryz.ntmps291
 go_wp2_with (go_at_call 297;refine(HF.out _ (by(exact kp))).mono ?_;rintro e w3 ⟨rfl,hu,hR⟩;have hs3:=hu.size;(try simp only [World.size_alloc,World.size_setCell,World.size_drew] at hs3);have u0:=hu.cell (a:=⟨w.heap.size+1,0,none⟩) n1 (v:=.int .u8 0) (by simp [go_sem]);have u1:=hu.cell (a:=⟨w.heap.size+1,1,none⟩) n1 (v:=.int .u32 0) (by simp [go_sem]);have uf:=fun o:Nat=>hu.frozen (a:=⟨w.heap.size+1,o,none⟩) (by simp [go_sem]) n1 (by simp [go_sem]);have v0:=hu.cell (a:=⟨w.heap.size+2,0,none⟩) n2 (v:=.int .u8 0) (by simp [go_sem]);have v1:=hu.cell (a:=⟨w.heap.size+2,1,none⟩) n2 (v:=.int .u32 0) (by simp [go_sem]);have vf:=fun o:Nat=>hu.frozen (a:=⟨w.heap.size+2,o,none⟩) (by simp [go_sem]) n2 (by simp [go_sem]);have hv1:w.heap.size+1<w3.heap.size:=(by omega);have hv2:w.heap.size+2<w3.heap.size:=(by omega))
 all_goals refine bodyPost_ret (v:=.tuple #[.agg #[.int .u8 lo.tag,.int .u32 lo.to],.agg #[.int .u8 hi.tag,.int .u32 hi.to],.int .u8 er]) (by simp [results,Tryz.results291,go_sem,hv1,hv2,u0,u1,v0,v1]) rfl ⟨rfl,_,w3,by(exact kp),hu,hR,?_⟩
 all_goals(try simp only [World.size_alloc,World.size_setCell,World.size_drew])
 all_goals(repeat (first|with_reducible exact Upd.refl _ _|exact Upd.mono hu4 (fun k _ hk=>⟨hk.1,by(try simp only [World.size_alloc,World.size_setCell,World.size_drew]);have:=hk.2;omega⟩)|refine Upd.setCell ?_ (Or.inl (by dsimp only;omega)) _|refine Upd.setCell ?_ (Or.inr (by dsimp only;omega)) _|with_reducible refine Upd.drewN ?_ _|with_reducible refine Upd.drew ?_|with_reducible refine Upd.alloc ?_ _))

theorem kview_t {F:Nat→Prop}(R:World→World→Prop)(sb:Nat)(l er:Int)(v lo hi:Edge)(w:World)(hsb:sb<w.heap.size)(hlt:∀ k,F k→k<w.heap.size)
  (hf:∀ W,Keeps w W→Calls Tryz.prog 298 #[.pointer (some ⟨sb,0,none⟩),.agg #[.int .u8 v.tag,.int .u32 v.to],.int .i64 l] W fun e w'=>e=.returned (.tuple #[.agg #[.int .u8 lo.tag,.int .u32 lo.to],.agg #[.int .u8 hi.tag,.int .u32 hi.to],.int .u8 er])∧Upd F W w'∧R W w') :
  Calls Tryz.prog 291 #[.pointer (some ⟨sb,0,none⟩),.int .u8 5,.agg #[.int .u8 v.tag,.int .u32 v.to],.int .i64 l] w fun e w'=>e=.returned (.tuple #[.agg #[.int .u8 lo.tag,.int .u32 lo.to],.agg #[.int .u8 hi.tag,.int .u32 hi.to],.int .u8 er]) ∧
   ∃ W W1,Keeps w W∧Upd F W W1∧R W W1∧Upd (fun k=>w.heap.size≤k∧k<W.heap.size) W1 w':=by
 have HF:=Lib.hid hf
 have nF:∀ k,w.heap.size≤k→¬F k:=fun k hk h=>by have:=hlt k h;omega
 have n1:=nF (w.heap.size+1) (by omega)
 have n2:=nF (w.heap.size+2) (by omega)
 clear hf hlt nF
 go_enter Tryz.func291,Tryz.ntmps291
 go_wp2_with (go_at_call 298;refine(HF.out _ (by(exact kp))).mono ?_;rintro e w3 ⟨rfl,hu,hR⟩;have hs3:=hu.size;(try simp only [World.size_alloc,World.size_setCell,World.size_drew] at hs3);have u0:=hu.cell (a:=⟨w.heap.size+1,0,none⟩) n1 (v:=.int .u8 0) (by simp [go_sem]);have u1:=hu.cell (a:=⟨w.heap.size+1,1,none⟩) n1 (v:=.int .u32 0) (by simp [go_sem]);have uf:=fun o:Nat=>hu.frozen (a:=⟨w.heap.size+1,o,none⟩) (by simp [go_sem]) n1 (by simp [go_sem]);have v0:=hu.cell (a:=⟨w.heap.size+2,0,none⟩) n2 (v:=.int .u8 0) (by simp [go_sem]);have v1:=hu.cell (a:=⟨w.heap.size+2,1,none⟩) n2 (v:=.int .u32 0) (by simp [go_sem]);have vf:=fun o:Nat=>hu.frozen (a:=⟨w.heap.size+2,o,none⟩) (by simp [go_sem]) n2 (by simp [go_sem]);have hv1:w.heap.size+1<w3.heap.size:=(by omega);have hv2:w.heap.size+2<w3.heap.size:=(by omega))
 all_goals refine bodyPost_ret (v:=.tuple #[.agg #[.int .u8 lo.tag,.int .u32 lo.to],.agg #[.int .u8 hi.tag,.int .u32 hi.to],.int .u8 er]) (by simp [results,Tryz.results291,go_sem,hv1,hv2,u0,u1,v0,v1]) rfl ⟨rfl,_,w3,by(exact kp),hu,hR,?_⟩
 all_goals(try simp only [World.size_alloc,World.size_setCell,World.size_drew])
 all_goals(repeat (first|with_reducible exact Upd.refl _ _|exact Upd.mono hu4 (fun k _ hk=>⟨hk.1,by(try simp only [World.size_alloc,World.size_setCell,World.size_drew]);have:=hk.2;omega⟩)|refine Upd.setCell ?_ (Or.inl (by dsimp only;omega)) _|refine Upd.setCell ?_ (Or.inr (by dsimp only;omega)) _|with_reducible refine Upd.drewN ?_ _|with_reducible refine Upd.drew ?_|with_reducible refine Upd.alloc ?_ _))

theorem kview_no (sb:Nat)(f l:Int)(v:Edge)(w:World)(hsb:sb<w.heap.size)(h1:f≠1)(h2:f≠2)(h3:f≠3)(h4:f≠4)(h5:f≠5) :
  Calls Tryz.prog 291 #[.pointer (some ⟨sb,0,none⟩),.int .u8 f,.agg #[.int .u8 v.tag,.int .u32 v.to],.int .i64 l] w fun e w'=>e=.returned (.tuple #[.agg #[.int .u8 0,.int .u32 0],.agg #[.int .u8 0,.int .u32 0],.int .u8 4])∧Keeps w w':=by
 have g1:(f==1)=false:=by simp [h1]
 have g2:(f==2)=false:=by simp [h2]
 have g3:(f==3)=false:=by simp [h3]
 have g4:(f==4)=false:=by simp [h4]
 have g5:(f==5)=false:=by simp [h5]
 clear h1 h2 h3 h4 h5
 go_enter Tryz.func291,Tryz.ntmps291
 go_wp2
 (try go_region)
 all_goals(try go_wp2)
 all_goals refine bodyPost_ret (v:=.tuple #[.agg #[.int .u8 0,.int .u32 0],.agg #[.int .u8 0,.int .u32 0],.int .u8 4]) (by simp [results,Tryz.results291,go_sem]) rfl ⟨rfl,by(exact kp)⟩

theorem canon_view {F:Nat→Prop}{w:World}{sb:Nat}{M:St}(h:StoreRep F w sb M)(f:Int)(e:Edge)(l:Int)(he:e.ok) :
  Calls Tryz.prog 291 #[.pointer (some ⟨sb,0,none⟩),.int .u8 f,.agg #[.int .u8 e.tag,.int .u32 e.to],.int .i64 l] w fun r w'=>
   r=.returned (.tuple #[.agg #[.int .u8 (vLo M (kvAct M f e l)).tag,.int .u32 (vLo M (kvAct M f e l)).to],.agg #[.int .u8 (vHi M f (kvAct M f e l)).tag,.int .u32 (vHi M f (kvAct M f e l)).to],.int .u8 (vErr M (kvAct M f e l))])∧Upd F w w'∧StoreRep (Grow F w w') w' sb (vSt M (kvAct M f e l)):=by
 by_cases f1:f=1
 ·subst f1
  have e1:kvAct M 1 e l=viewAct M 1 e l:=rfl
  rw [e1]
  refine(kview_b (fun W W1=>StoreRep (Grow F W W1) W1 sb (vSt M (viewAct M 1 e l))) sb l _ e _ _ w h.pos h.lt (fun W hW=>bdd_view (h.keeps hW) e l he)).mono ?_
  rintro r w' ⟨rfl,W,W1,q1,q2,q3,q4⟩
  exact⟨rfl,q3.after h.lt q1 q2 q4⟩
 by_cases f2:f=2
 ·subst f2
  have e1:kvAct M 2 e l=viewAct M 2 e l:=rfl
  rw [e1]
  refine(kview_z (fun W W1=>StoreRep (Grow F W W1) W1 sb (vSt M (viewAct M 2 e l))) sb l _ e _ _ w h.pos h.lt (fun W hW=>zdd_view (h.keeps hW) e l he)).mono ?_
  rintro r w' ⟨rfl,W,W1,q1,q2,q3,q4⟩
  exact⟨rfl,q3.after h.lt q1 q2 q4⟩
 by_cases f3:f=3
 ·subst f3
  have e1:kvAct M 3 e l=viewAct M 3 e l:=rfl
  rw [e1]
  refine(kview_c (fun W W1=>StoreRep (Grow F W W1) W1 sb (vSt M (viewAct M 3 e l))) sb l _ e _ _ w h.pos h.lt (fun W hW=>cbdd_view (h.keeps hW) e l he)).mono ?_
  rintro r w' ⟨rfl,W,W1,q1,q2,q3,q4⟩
  exact⟨rfl,q3.after h.lt q1 q2 q4⟩
 by_cases f4:f=4
 ·subst f4
  have e1:kvAct M 4 e l=viewAct M 4 e l:=rfl
  rw [e1]
  refine(kview_q (fun W W1=>StoreRep (Grow F W W1) W1 sb (vSt M (viewAct M 4 e l))) sb l _ e _ _ w h.pos h.lt (fun W hW=>czdd_view (h.keeps hW) e l he)).mono ?_
  rintro r w' ⟨rfl,W,W1,q1,q2,q3,q4⟩
  exact⟨rfl,q3.after h.lt q1 q2 q4⟩
 by_cases f5:f=5
 ·subst f5
  have e1:kvAct M 5 e l=viewAct M 5 e l:=rfl
  rw [e1]
  refine(kview_t (fun W W1=>StoreRep (Grow F W W1) W1 sb (vSt M (viewAct M 5 e l))) sb l _ e _ _ w h.pos h.lt (fun W hW=>tbdd_view (h.keeps hW) e l he)).mono ?_
  rintro r w' ⟨rfl,W,W1,q1,q2,q3,q4⟩
  exact⟨rfl,q3.after h.lt q1 q2 q4⟩
 have e1:kvAct M f e l=.inl (⟨0,0⟩,⟨0,0⟩,4):=by unfold kvAct;rw [if_neg f1,if_neg f2,if_neg f3,if_neg f4,if_neg f5]
 rw [e1]
 exact(kview_no sb f l e w h.pos f1 f2 f3 f4 f5).mono fun r w' hr=>⟨hr.1,h.stay hr.2⟩

noncomputable def kRight (M:St)(f:Int)(e:Edge)(l:Int):Bool:=
 if f=1 then M.leads 1 e l else if f=2 then M.leads 2 e l else if f=3 then rightL M 3 e l else if f=4 then rightL M 4 e l else if f=5 then rightL M 5 e l else false

theorem bdd_right {F:Nat→Prop}{w:World}{sb:Nat}{M:St}(h:StoreRep F w sb M)(v:Edge)(l:Int)(hv:v.ok) :
  Calls Tryz.prog 182 #[.pointer (some ⟨sb,0,none⟩),.agg #[.int .u8 v.tag,.int .u32 v.to],.int .i64 l] w fun r w'=>r=.returned (.bool (M.leads 1 v l))∧Keeps w w':=by
 have HL:=Lib.hid (fun(W:World) (hW:Keeps w W)=>store_leads (h.keeps hW) 1 v l hv)
 clear h
 obtain⟨b,hb⟩:∃ b,b=M.leads 1 v l:=⟨_,rfl⟩
 rw [← hb] at HL ⊢
 clear hb
 go_enter Tryz.func182,Tryz.ntmps182
 go_wp2_with fail
 refine(HL.out _ (by(exact kp))).mono ?_
 rintro e w1 ⟨rfl,hk⟩
 go_wp2_with fail
 go_ret
 exact⟨rfl,by(exact kp)⟩

theorem zdd_right {F:Nat→Prop}{w:World}{sb:Nat}{M:St}(h:StoreRep F w sb M)(v:Edge)(l:Int)(hv:v.ok) :
  Calls Tryz.prog 183 #[.pointer (some ⟨sb,0,none⟩),.agg #[.int .u8 v.tag,.int .u32 v.to],.int .i64 l] w fun r w'=>r=.returned (.bool (M.leads 2 v l))∧Keeps w w':=by
 have HL:=Lib.hid (fun(W:World) (hW:Keeps w W)=>store_leads (h.keeps hW) 2 v l hv)
 clear h
 obtain⟨b,hb⟩:∃ b,b=M.leads 2 v l:=⟨_,rfl⟩
 rw [← hb] at HL ⊢
 clear hb
 go_enter Tryz.func183,Tryz.ntmps183
 go_wp2_with fail
 refine(HL.out _ (by(exact kp))).mono ?_
 rintro e w1 ⟨rfl,hk⟩
 go_wp2_with fail
 go_ret
 exact⟨rfl,by(exact kp)⟩

theorem kright_b (sb:Nat)(l:Int)(b:Bool)(v:Edge)(w:World)
  (hf:∀ W,Keeps w W→Calls Tryz.prog 182 #[.pointer (some ⟨sb,0,none⟩),.agg #[.int .u8 v.tag,.int .u32 v.to],.int .i64 l] W fun e w'=>e=.returned (.bool b)∧Keeps W w') :
  Calls Tryz.prog 121 #[.pointer (some ⟨sb,0,none⟩),.int .u8 1,.agg #[.int .u8 v.tag,.int .u32 v.to],.int .i64 l] w fun e w'=>e=.returned (.bool b)∧Keeps w w':=by
 have HF:=Lib.hid hf
 clear hf
 go_enter Tryz.func121,Tryz.ntmps121
 go_wp2_with fail
 refine(HF.out _ (by(exact kp))).mono ?_
 rintro e w1 ⟨rfl,hk⟩
 go_wp2_with fail
 go_ret
 exact⟨rfl,by(exact kp)⟩

theorem kright_z (sb:Nat)(l:Int)(b:Bool)(v:Edge)(w:World)
  (hf:∀ W,Keeps w W→Calls Tryz.prog 183 #[.pointer (some ⟨sb,0,none⟩),.agg #[.int .u8 v.tag,.int .u32 v.to],.int .i64 l] W fun e w'=>e=.returned (.bool b)∧Keeps W w') :
  Calls Tryz.prog 121 #[.pointer (some ⟨sb,0,none⟩),.int .u8 2,.agg #[.int .u8 v.tag,.int .u32 v.to],.int .i64 l] w fun e w'=>e=.returned (.bool b)∧Keeps w w':=by
 have HF:=Lib.hid hf
 clear hf
 go_enter Tryz.func121,Tryz.ntmps121
 go_wp2_with fail
 refine(HF.out _ (by(exact kp))).mono ?_
 rintro e w1 ⟨rfl,hk⟩
 go_wp2_with fail
 go_ret
 exact⟨rfl,by(exact kp)⟩

theorem kright_c (sb:Nat)(l:Int)(b:Bool)(v:Edge)(w:World)
  (hf:∀ W,Keeps w W→Calls Tryz.prog 184 #[.pointer (some ⟨sb,0,none⟩),.agg #[.int .u8 v.tag,.int .u32 v.to],.int .i64 l] W fun e w'=>e=.returned (.bool b)∧Keeps W w') :
  Calls Tryz.prog 121 #[.pointer (some ⟨sb,0,none⟩),.int .u8 3,.agg #[.int .u8 v.tag,.int .u32 v.to],.int .i64 l] w fun e w'=>e=.returned (.bool b)∧Keeps w w':=by
 have HF:=Lib.hid hf
 clear hf
 go_enter Tryz.func121,Tryz.ntmps121
 go_wp2_with fail
 refine(HF.out _ (by(exact kp))).mono ?_
 rintro e w1 ⟨rfl,hk⟩
 go_wp2_with fail
 go_ret
 exact⟨rfl,by(exact kp)⟩

theorem kright_q (sb:Nat)(l:Int)(b:Bool)(v:Edge)(w:World)
  (hf:∀ W,Keeps w W→Calls Tryz.prog 185 #[.pointer (some ⟨sb,0,none⟩),.agg #[.int .u8 v.tag,.int .u32 v.to],.int .i64 l] W fun e w'=>e=.returned (.bool b)∧Keeps W w') :
  Calls Tryz.prog 121 #[.pointer (some ⟨sb,0,none⟩),.int .u8 4,.agg #[.int .u8 v.tag,.int .u32 v.to],.int .i64 l] w fun e w'=>e=.returned (.bool b)∧Keeps w w':=by
 have HF:=Lib.hid hf
 clear hf
 go_enter Tryz.func121,Tryz.ntmps121
 go_wp2_with fail
 refine(HF.out _ (by(exact kp))).mono ?_
 rintro e w1 ⟨rfl,hk⟩
 go_wp2_with fail
 go_ret
 exact⟨rfl,by(exact kp)⟩

theorem kright_t (sb:Nat)(l:Int)(b:Bool)(v:Edge)(w:World)
  (hf:∀ W,Keeps w W→Calls Tryz.prog 186 #[.pointer (some ⟨sb,0,none⟩),.agg #[.int .u8 v.tag,.int .u32 v.to],.int .i64 l] W fun e w'=>e=.returned (.bool b)∧Keeps W w') :
  Calls Tryz.prog 121 #[.pointer (some ⟨sb,0,none⟩),.int .u8 5,.agg #[.int .u8 v.tag,.int .u32 v.to],.int .i64 l] w fun e w'=>e=.returned (.bool b)∧Keeps w w':=by
 have HF:=Lib.hid hf
 clear hf
 go_enter Tryz.func121,Tryz.ntmps121
 go_wp2_with fail
 refine(HF.out _ (by(exact kp))).mono ?_
 rintro e w1 ⟨rfl,hk⟩
 go_wp2_with fail
 go_ret
 exact⟨rfl,by(exact kp)⟩

theorem kright_no (sb:Nat)(f l:Int)(v:Edge)(w:World)(h1:f≠1)(h2:f≠2)(h3:f≠3)(h4:f≠4)(h5:f≠5) :
  Calls Tryz.prog 121 #[.pointer (some ⟨sb,0,none⟩),.int .u8 f,.agg #[.int .u8 v.tag,.int .u32 v.to],.int .i64 l] w fun e w'=>e=.returned (.bool false)∧Keeps w w':=by
 have g1:(f==1)=false:=by simp [h1]
 have g2:(f==2)=false:=by simp [h2]
 have g3:(f==3)=false:=by simp [h3]
 have g4:(f==4)=false:=by simp [h4]
 have g5:(f==5)=false:=by simp [h5]
 clear h1 h2 h3 h4 h5
 go_enter Tryz.func121,Tryz.ntmps121
 go_wp2
 go_ret
 exact⟨rfl,by(exact kp)⟩

theorem canon_right {F:Nat→Prop}{w:World}{sb:Nat}{M:St}(h:StoreRep F w sb M)(f:Int)(e:Edge)(l:Int)(he:e.ok) :
  Calls Tryz.prog 121 #[.pointer (some ⟨sb,0,none⟩),.int .u8 f,.agg #[.int .u8 e.tag,.int .u32 e.to],.int .i64 l] w fun r w'=>r=.returned (.bool (kRight M f e l))∧Keeps w w':=by
 by_cases f1:f=1
 ·subst f1
  exact kright_b sb l _ e w (fun W hW=>bdd_right (h.keeps hW) e l he)
 by_cases f2:f=2
 ·subst f2
  exact kright_z sb l _ e w (fun W hW=>zdd_right (h.keeps hW) e l he)
 by_cases f3:f=3
 ·subst f3
  exact kright_c sb l _ e w (fun W hW=>cbdd_right (h.keeps hW) e l he)
 by_cases f4:f=4
 ·subst f4
  exact kright_q sb l _ e w (fun W hW=>czdd_right (h.keeps hW) e l he)
 by_cases f5:f=5
 ·subst f5
  exact kright_t sb l _ e w (fun W hW=>tbdd_right (h.keeps hW) e l he)
 have e1:kRight M f e l=false:=by unfold kRight;rw [if_neg f1,if_neg f2,if_neg f3,if_neg f4,if_neg f5]
 rw [e1]
 exact kright_no sb f l e w f1 f2 f3 f4 f5

end Go.Proofs.YtpgcbmbnognieaaGreat
