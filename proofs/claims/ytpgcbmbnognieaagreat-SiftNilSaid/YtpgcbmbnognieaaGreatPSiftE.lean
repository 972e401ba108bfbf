/-
  ramageref05.Value, ramageref17.Is, ramageref17.May; the rounds of ramageref17.Holds where a level is left out.
-/
import Derived.Test.YtpgcbmbnognieaaGreatPMeansA
import Derived.Test.YtpgcbmbnognieaaGreatPSwapA
import Derived.Maps.OwnSet
import Derived.Maps.Keyed
import Derived.DeepKeys4
namespace Go.Proofs.YtpgcbmbnognieaaGreat
set_option maxRecDepth 1000000
set_option maxHeartbeats 8000000
set_option linter.unusedSimpArgs false
set_option linter.unusedVariables false
open Go.RowKit

def bitI (b:Bool):Int:=if b then 1 else 0

theorem value_calls (x k:Int)(w:World)(hx0:0≤x)(hx1:x≤65535)(hk0:0≤k)(hk1:k≤16) :
  Calls Tryz.prog 74 #[.int .i64 x,.int .i64 k] w fun e w'=>e=.returned (.int .i64 (bitI (bitB x k)))∧w=w':=by
 obtain⟨n,rfl⟩:∃ n:Nat,k=(n:Int):=⟨k.toNat,by omega⟩
 have HS:=Lib.hid (size_calls n (by omega) w)
 have hp1:2 ^ n≤2 ^ 16:=Nat.pow_le_pow_right (by decide) (by omega)
 have hp0:0<2 ^ n:=Nat.pow_pos (by decide)
 have e16:(2:Nat) ^ 16=65536:=rfl
 have hv:bitI (bitB x n)=x / ((2 ^ n:Nat):Int)%2:=by
  unfold bitI bitB
  have e1:((2 ^ n:Nat):Int)=2 ^ (n:Int).toNat:=by push_cast;rfl
  rw [e1]
  by_cases h:x / 2 ^ (n:Int).toNat%2=1
  ·rw [decide_eq_true h,h];rfl
  ·rw [decide_eq_false h];show(0:Int)=_;omega
 rw [hv]
 obtain⟨p,hp⟩:∃ p,p=2 ^ n:=⟨_,rfl⟩
 rw [← hp] at HS hp1 hp0 ⊢
 rw [e16] at hp1
 clear hp hv
 have pp:(p:Int)≠0:=by omega
 have g0:((p:Int)==0)=false:=by simp;omega
 have e1:x.tdiv (p:Int)=x / (p:Int):=Int.tdiv_eq_ediv_of_nonneg hx0
 have hq0:0≤x / (p:Int):=Int.ediv_nonneg hx0 (by omega)
 have hq1:x / (p:Int)≤x:=Int.ediv_le_self _ hx0
 have e2:(x / (p:Int)).tmod 2=x / (p:Int)%2:=Int.tmod_eq_emod_of_nonneg hq0
 go_enter Tryz.func74,Tryz.ntmps74
 go_wp2_with (first|(go_at_call 52;refine HS.out.mono ?_;rintro e w' ⟨rfl,rfl⟩)|fail)
 go_ret
 exact⟨by rfl,rfl⟩

def rv:Nat→Nat→Nat→Int
 | _,0,_=>0
 | y,k+1,m=>(if y / 2 ^ k%2=1 then 2 ^ m else 0)+rv (y%2 ^ k) k (m+1)

theorem tabX_at {g:Int→Bool}:∀ (k m:Nat) (x:Int) (y:Nat),y<2 ^ k→(tabX g k m x)[y]?=some (g (x+rv y k m)):=by
 intro k
 induction k with
 | zero=>
  intro m x y hy
  have:y=0:=by simpa using hy
  subst this
  show some (g x)=some (g (x+0))
  rw [Int.add_zero]
 | succ k ih=>
  intro m x y hy
  have hp:0<2 ^ k:=Nat.pow_pos (by decide)
  have e2:2 ^ (k+1)=2 ^ k+2 ^ k:=by rw [Nat.pow_succ];omega
  show(tabX g k (m+1) x++tabX g k (m+1) (x+2 ^ m))[y]?=some (g (x+((if y / 2 ^ k%2=1 then 2 ^ m else 0)+rv (y%2 ^ k) k (m+1))))
  have hl:=tabX_len g k (m+1) x
  by_cases h:y<2 ^ k
  ·rw [List.getElem?_append_left (by rw [hl];exact h),ih _ _ _ h,Nat.div_eq_of_lt h,Nat.mod_eq_of_lt h,if_neg (by decide),Int.zero_add]
  ·have h1:y / 2 ^ k=1:=by
    rw [Nat.div_eq_iff hp]
    omega
   have h2:y%2 ^ k=y-2 ^ k:=by
    have:=Nat.div_add_mod y (2 ^ k)
    rw [h1] at this
    omega
   rw [List.getElem?_append_right (by rw [hl];omega),hl,ih _ _ _ (by omega),h1,h2,if_pos (by decide),Int.add_assoc]

theorem bitB_nat (y k:Nat):bitB (y:Int) (k:Int)=decide (y / 2 ^ k%2=1):=by
 unfold bitB
 rw [Int.toNat_natCast]
 congr 1
 have:(y:Int) / 2 ^ k%2=((y / 2 ^ k%2:Nat):Int):=by push_cast;rfl
 rw [this]
 exact propext ⟨fun h=>by exact_mod_cast h,fun h=>by exact_mod_cast h⟩

theorem laidC:laidOutB Tryz.prog=true:=by kernel_rfl

theorem types_two:2≤Tryz.prog.types.size:=of_decide_eq_true (by kernel_rfl)

theorem types_big:∃ d,Tryz.prog.types.size=d+2:=⟨Tryz.prog.types.size-2,by have:=types_two;omega⟩

def edgeD (x:Edge):DataW Unit:=.agg [.lit (.int .u8 x.tag),.lit (.int .u32 x.to)]

def edgeElem (v:Value):Option (DataW Unit×List MemPlace):=
 match v with
 | .agg a=>match a.toList with
  | [.int .u8 t,.int .u32 n]=>some (edgeD ⟨t,n⟩,[])
  | _=>none
 | _=>none

theorem edgeElem_mk (x:Edge):edgeElem (.agg #[.int .u8 x.tag,.int .u32 x.to])=some (edgeD x,[]):=rfl

theorem edgeD_inj {x y:Edge}(h:edgeD x=edgeD y):x=y:=by
 unfold edgeD at h
 cases x
 cases y
 simp at h
 obtain⟨a,b⟩:=h
 subst a b
 rfl

theorem edgeElem_inv {v:Value}{x:Edge}{ps:List MemPlace}(h:edgeElem v=some (edgeD x,ps)):v=.agg #[.int .u8 x.tag,.int .u32 x.to]:=by
 unfold edgeElem at h
 split at h
 ·rename_i a
  split at h
  ·rename_i t n ha
   have h1:=edgeD_inj (congrArg Prod.fst (Option.some.inj h))
   subst h1
   show Value.agg a=.agg #[.int .u8 t,.int .u32 n]
   congr 1
   exact Array.toList_inj.1 ha
  ·cases h
 ·cases h

theorem zeroEdge (w:World):(zeroValue 25).run Tryz.prog w=.ok (.agg #[.int .u8 (⟨0,0⟩:Edge).tag,.int .u32 (⟨0,0⟩:Edge).to]) w:=by kernel_rfl

theorem kAct_mkK {M:St}{f l:Int}{lo hi:Edge}(hf:1≤f∧f≤5):kAct M f l lo hi=mkK f M l lo hi:=by
 have hff:f=1∨f=2∨f=3∨f=4∨f=5:=by omega
 rcases hff with rfl|rfl|rfl|rfl|rfl<;>rfl

theorem mkK_ok {f:Int}{M:St}{l:Int}{lo hi:Edge}(h:M.wf)(hf:M.cs.length≤1048576)(hlo:lo.ok)(hhi:hi.ok)(h0:0≤l)(h1:l≤255)(hff:1≤f∧f≤5):(mkE f M (mkK f M l lo hi)).ok:=by
 have hc:f=1∨f=2∨f=3∨f=4∨f=5:=by omega
 rcases hc with rfl|rfl|hc|hc|hc
 ·rw [mkK1]
  show(actE0 M _).ok
  unfold makeAct bRest
  repeat' split
  all_goals first|exact edge0_ok|exact hlo|exact foundE_fit h hf 0 (by omega) _
 ·rw [mkK2]
  show(actE0 M _).ok
  unfold makeAct zRest
  repeat' split
  all_goals first|exact edge0_ok|exact hlo|exact foundE_fit h hf 0 (by omega) _
 ·have e:mkK f M l lo hi=mkA f M l lo hi:=by subst hc;rfl
  rw [e];exact mkE_ok h hf hlo hhi h0 h1 (.inl hc)
 ·have e:mkK f M l lo hi=mkA f M l lo hi:=by subst hc;rfl
  rw [e];exact mkE_ok h hf hlo hhi h0 h1 (.inr (.inl hc))
 ·have e:mkK f M l lo hi=mkA f M l lo hi:=by subst hc;rfl
  rw [e];exact mkE_ok h hf hlo hhi h0 h1 (.inr (.inr hc))

theorem kvAct_view {f:Int}(hf:1≤f∧f≤5){M:St}{e:Edge}{l:Int}:kvAct M f e l=viewAct M f e l:=by
 have hff:f=1∨f=2∨f=3∨f=4∨f=5:=by omega
 rcases hff with rfl|rfl|rfl|rfl|rfl<;>rfl

theorem upd_boxes {F:Nat→Prop}{w0 wc W:World}{fn:FuncId}{args:Array Value}{Q:Ending→World→Prop}{R:World→Prop}(hlt:∀ k,F k→k<w0.heap.size)(hs:w0.heap.size≤wc.heap.size)
  (h:Calls Tryz.prog fn args W fun r w'=>Q r w'∧Upd F W w'∧R w') :
  Calls Tryz.prog fn args W fun r w'=>(Q r w'∧Upd F W w'∧R w')∧(∀ j o,wc.heap.size≤j→j<W.heap.size→w'.cell? ⟨j,o,none⟩=W.cell? ⟨j,o,none⟩)∧(∀ j o,wc.heap.size≤j→j<W.heap.size→w'.frozen? ⟨j,o,none⟩=W.frozen? ⟨j,o,none⟩)∧(∀ j,j<W.heap.size→j<w'.heap.size)∧(∀ j,j<W.heap.size→¬j=w'.heap.size)∧(∀ j,j<W.heap.size→¬w'.heap.size=j):=by
 refine h.mono fun r w' hh=>⟨hh,fun j o h1 h2=>?_,fun j o h1 h2=>?_,fun j hj=>by have:=hh.2.1.size;omega,fun j hj=>by have:=hh.2.1.size;omega,fun j hj=>by have:=hh.2.1.size;omega⟩
 ·have:=hh.2.1.block j h2 (fun hf=>by have:=hlt _ hf;omega)
  simp only [World.cell?,this]
 ·exact World.frozen?_of_block (a:=⟨j,o,none⟩) (hh.2.1.block j h2 (fun hf=>by have:=hlt _ hf;omega))

structure Boxed2 (F:Nat→Prop)(w0 wy:World)(sb:Nat)(M1:St)(B C:Nat)(lo hi:Edge)(F1:Nat→Prop):Prop where
 a0:wy.cell? ⟨B,0,none⟩=some (.int .u8 lo.tag)
 a1:wy.cell? ⟨B,1,none⟩=some (.int .u32 lo.to)
 c0:wy.cell? ⟨C,0,none⟩=some (.int .u8 hi.tag)
 c1:wy.cell? ⟨C,1,none⟩=some (.int .u32 hi.to)
 upd:Upd F w0 wy
 rep:StoreRep F1 wy sb M1
 sub:∀ j,F1 j→F j∨w0.heap.size≤j
 nB:¬F1 B
 nC:¬F1 C
 gB:w0.heap.size≤B
 gC:w0.heap.size≤C

theorem Upd.later {F G:Nat→Prop}{a b c:World}(h:Upd F a b)(k:Upd G b c)(hG:∀ i,i<a.heap.size→G i→F i):Upd F a c:=
 ⟨k.os.trans h.os,k.tape.trans h.tape,k.output.trans h.output,Nat.le_trans h.size k.size,fun i hi hf=>(k.block i (Nat.lt_of_lt_of_le hi h.size) (fun hg=>hf (hG i hi hg))).trans (h.block i hi hf)⟩

theorem boxed2 {F:Nat→Prop}{w0 W w2 wy:World}{sb:Nat}{M1:St}{B C:Nat}{lo hi:Edge}(hlt:∀ k,F k→k<w0.heap.size)(hW:Keeps w0 W)(hu:Upd F W w2)(hS:StoreRep (Grow F W w2) w2 sb M1)(hG:Upd (fun k=>k=B∨k=C) w2 wy)
  (hB:w0.heap.size≤B∧(B<W.heap.size∨w2.heap.size≤B)) (hC:w0.heap.size≤C∧(C<W.heap.size∨w2.heap.size≤C)) (a0:wy.cell? ⟨B,0,none⟩=some (.int .u8 lo.tag)) (a1:wy.cell? ⟨B,1,none⟩=some (.int .u32 lo.to))
  (c0:wy.cell? ⟨C,0,none⟩=some (.int .u8 hi.tag)) (c1:wy.cell? ⟨C,1,none⟩=some (.int .u32 hi.to)):Boxed2 F w0 wy sb M1 B C lo hi (Grow F W w2):=by
 have hs1:=hW.size
 have no:∀ X,(w0.heap.size≤X∧(X<W.heap.size∨w2.heap.size≤X))→¬Grow F W w2 X:=fun X hX hg=>by
  rcases hg with hg|hg
  ·have:=hlt _ hg;omega
  ·omega
 refine⟨a0,a1,c0,c1,((Keeps.upd hW F).trans' hu).later hG (fun i hi hg=>?_),hS.keep hG (fun k hk hg=>?_),fun j hj=>?_,no B hB,no C hC,hB.1,hC.1⟩
 ·rcases hg with rfl|rfl<;>omega
 ·rcases hg with rfl|rfl
  ·exact no _ hB hk
  ·exact no _ hC hk
 ·rcases hj with hj|hj
  ·exact .inl hj
  ·exact .inr (by omega)

section
variable {F:Nat→Prop}{w:World}{sb wb b:Nat}{f g:Int}{M:St}{V:List (Edge×Int)}{D:DataW Unit}

theorem updR {R:Nat}{x y:World}(h:Upd (fun j=>j=R) x y)(o:Nat)(v:Value):Upd (fun j=>j=R) x (y.setCell ⟨R,o,none⟩ v):=h.setCell (Or.inl rfl) v

theorem findSt_ext {M:St}(h:M.wf)(r:Rec):Ext M (M.findSt r):=by
 cases hi:M.idOf r with
 | some id=>
  rw [(find_old h (idOf_look hi)).2.2]
  exact Ext.refl M
 | none=>
  cases hb:M.bad r with
  | true=>
   have:M.findSt r=M:=by unfold St.findSt;rw [hi];simp [hb]
   rw [this]
   exact Ext.refl M
  | false=>
   by_cases he:M.findErr r=0
   ·exact(find_zero h hb he).2.1
   ·rw [(find_full hb he).2.1]
    exact Ext.refl M

theorem act_ext {M:St}(h:M.wf)(a:(Edge×Int) ⊕ Rec):Ext M (actSt M a):=by
 cases a with
 | inl x=>exact Ext.refl M
 | inr r=>exact findSt_ext h r

end

noncomputable def mayR (M:St):List (Int×Edge)→Int
 | []=>0
 | r::rs=>if isFormB r.1=false then 4 else if kRight M r.1 r.2 0=false then 1 else mayR M rs

theorem mayR_cons (M:St)(r:Int×Edge)(rs:List (Int×Edge)):mayR M (r::rs)=if isFormB r.1=false then 4 else if kRight M r.1 r.2 0=false then 1 else mayR M rs:=rfl

theorem siftMay_calls {F:Nat→Prop}{w:World}{sb:Nat}{M:St}(h:StoreRep F w sb M)(a:Option Addr)(cap:Nat)(rs:List (Int×Edge))(hr:IsRoots w a rs)(hl:rs.length≤1048576) :
  Calls Tryz.prog 93 #[.pointer (some ⟨sb,0,none⟩),.slice a rs.length cap] w fun e w'=>e=.returned (.int .u8 (mayR M rs))∧Keeps w w':=by
 have HL:=Lib.hid (fun(f:Int) (v:Edge) (hv:v.ok) (W:World) (hW:Keeps w W)=>canon_right (h.keeps hW) f v 0 hv)
 obtain⟨N,hN⟩:∃ N,N=rs.length:=⟨_,rfl⟩
 rw [← hN] at hl ⊢
 have HR:=Lib.hid hr
 have HN:=Lib.hid hN
 clear h hr hN
 go_enter Tryz.func93,Tryz.ntmps93
 go_wp2
 go_loopg [9] N (fun gk s9 wr=>∃ d:Nat,s9=.int .i64 (d:Int)∧d+gk=N∧mayR M (rs.drop d)=mayR M rs∧Keeps w wr)
 case atStart=>exact⟨0,rfl,by omega,rfl,by(exact kp)⟩
 case round=>
  obtain⟨d,rfl,hd,hm,hk⟩:=hrel
  have HMM:=Lib.hid hm
  clear hm
  by_cases hlt:d<N
  ·obtain⟨r,hx⟩:∃ b,rs[d]?=some b:=⟨_,List.getElem?_eq_getElem (by rw [← HN.out];exact hlt)⟩
   obtain⟨hf8,hok,b,off,rfl,c0,c1,c2⟩:=HR.out d r hx
   replace c0:=hk.cell c0
   replace c1:=hk.cell c1
   replace c2:=hk.cell c2
   have hdr:rs.drop d=r::rs.drop (d+1):=by
    obtain⟨hi,he⟩:=List.getElem?_eq_some_iff.1 hx
    rw [List.drop_eq_getElem_cons hi,he]
   have hm:=HMM.out
   rw [hdr] at hm
   rw [mayR_cons] at hm
   obtain⟨f,e⟩:=r
   have hif:=isForm_calls f
   have hle:=fun(W:World) (hW:Keeps w W)=>HL.out f e hok W hW
   dsimp only at hf8 hok c0 c1 c2 hm
   cases hfb:isFormB f with
   | false=>
    rw [hfb] at hif hm
    have HIF:=Lib.hid hif
    have hres:Hid (mayR M rs=4):=Lib.hid (by rw [← hm];simp)
    clear hm hif hle hdr hx hok hfb
    go_wp2_with (first|(go_at_call 153;refine(HIF.out _).mono ?_;rintro e' w' ⟨rfl,rfl⟩)|fail)
    go_ret
    exact⟨by rw [hres.out];rfl,by(exact kp)⟩
   | true=>
    rw [hfb] at hif hm
    have HIF:=Lib.hid hif
    cases hlb:kRight M f e 0 with
    | false=>
     rw [hlb] at hle hm
     have HLE:=Lib.hid hle
     have hres:Hid (mayR M rs=1):=Lib.hid (by rw [← hm];simp)
     clear hm hif hle hdr hx hok hfb hlb
     go_wp2_with (first|(go_at_call 153;refine(HIF.out _).mono ?_;rintro e' w' ⟨rfl,rfl⟩)|(go_at_call 121;refine(HLE.out _ (by(exact kp))).mono ?_;rintro e' w3 ⟨rfl,hk3⟩)|fail)
     go_ret
     exact⟨by rw [hres.out];rfl,by(exact kp)⟩
    | true=>
     rw [hlb] at hle hm
     have HLE:=Lib.hid hle
     have hres:Hid (mayR M (rs.drop (d+1))=mayR M rs):=Lib.hid (by rw [← hm];simp)
     clear hm hif hle hdr hx hok hfb hlb
     go_wp2_with (first|(go_at_call 153;refine(HIF.out _).mono ?_;rintro e' w' ⟨rfl,rfl⟩)|(go_at_call 121;refine(HLE.out _ (by(exact kp))).mono ?_;rintro e' w3 ⟨rfl,hk3⟩)|fail)
     go_roundg (gk-1)
     case rel=>exact⟨d+1,by simp,by omega,hres.out,by(exact kp)⟩
     case measure=>omega
  ·have hres:Hid (mayR M rs=0):=Lib.hid (by rw [← HMM.out,List.drop_of_length_le (by rw [← HN.out];omega)];rfl)
   clear HMM
   go_wp2_with fail
   go_ret
   exact⟨by rw [hres.out];rfl,hk⟩

theorem siftFit_calls {F Fo:Nat→Prop}{w:World}{sb ob:Nat}{M:St}{ps:List Int}(h:StoreRep F w sb M)(ho:OrdRep Fo w ob ps) :
  Calls Tryz.prog 92 #[.pointer (some ⟨sb,0,none⟩),.pointer (some ⟨ob,0,none⟩)] w fun e w'=>e=.returned (.int .u8 (if M.n=(ps.length:Int) then 0 else 1))∧Keeps w w':=by
 have HV:=Lib.hid (fun(W:World) (hW:Keeps w W)=>store_vars (h.keeps hW))
 have HO:=Lib.hid (fun(W:World) (hW:Keeps w W)=>ordVars_calls (ho.keeps hW))
 have hn0:=h.wf.n0
 have hn16:=h.wf.n16
 have hp16:=ho.le
 obtain⟨N,hN⟩:∃ N,N=ps.length:=⟨_,rfl⟩
 obtain⟨n,hn⟩:∃ n,n=M.n:=⟨_,rfl⟩
 rw [← hN] at HO hp16 ⊢
 rw [← hn] at HV hn0 hn16 ⊢
 clear h ho hN hn
 by_cases he:n=(N:Int)
 ·rw [if_pos he]
  subst he
  go_enter Tryz.func92,Tryz.ntmps92
  go_wp2_with (first|(go_at_call 67;refine(HV.out _ (by(exact kp))).mono ?_;rintro e' w' ⟨rfl,rfl⟩)|(go_at_call 125;refine(HO.out _ (by(exact kp))).mono ?_;rintro e' w' ⟨rfl,rfl⟩)|fail)
  go_ret
  exact⟨rfl,by(exact kp)⟩
 ·rw [if_neg he]
  have g1:(n !=(N:Int))=true:=by simp [he]
  go_enter Tryz.func92,Tryz.ntmps92
  go_wp2_with (first|(go_at_call 67;refine(HV.out _ (by(exact kp))).mono ?_;rintro e' w' ⟨rfl,rfl⟩)|(go_at_call 125;refine(HO.out _ (by(exact kp))).mono ?_;rintro e' w' ⟨rfl,rfl⟩)|fail)
  go_ret
  exact⟨rfl,by(exact kp)⟩

end Go.Proofs.YtpgcbmbnognieaaGreat
