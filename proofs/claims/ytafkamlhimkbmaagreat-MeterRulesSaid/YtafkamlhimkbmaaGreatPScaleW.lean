/-
  The walk of convert.from: an edge to nothing, at the end, or kept.
-/
import Derived.Test.YtafkamlhimkbmaaGreatPCountP
import Derived.Test.YtafkamlhimkbmaaGreatPHMadeK
import Derived.Test.YtafkamlhimkbmaaGreatPKB
import Derived.Test.YtafkamlhimkbmaaGreatPNatD
import Derived.Test.YtafkamlhimkbmaaGreatPSwapP
import Derived.Maps.Views
import Derived.Maps.OwnSet
import Derived.Maps.Keyed
import Derived.DeepKeys4
import Derived.RangeFuncStops
import Derived.RangeFuncCalls
import Derived.RangeFuncLeaves
import Derived.RangeFuncBox
import Derived.Shelf.Abstract
import Derived.Shelf.RegionOpen
import Derived.OwnWalkIn
import Derived.TacticsInMore
import Derived.LoopNIn
import Derived.LoopIn
namespace Go.Proofs.YtafkamlhimkbmaaGreat
set_option maxRecDepth 1000000
set_option maxHeartbeats 8000000
set_option linter.unusedSimpArgs false
set_option linter.unusedVariables false
open Go.RowKit
theorem l9 {f:Int}(t:1≤f∧f≤5){M:St}{e:Edge}{l:Int}:eO M f e l=ao M f e l:=by
 have s:f=1∨f=2∨f=3∨f=4∨f=5:=by omega
 rcases s with rfl|rfl|rfl|rfl|rfl<;>rfl
theorem qo {F:Nat→Prop}{N wc t:World}{fn:FuncId}{args:Array Value}{I:Ending→World→Prop}{R:World→Prop}(J:∀k,F k→k<N.heap.size)(hs:N.heap.size≤wc.heap.size)
  (h:Calls Tryz.prog fn args t fun r s=>I r s∧af F t s∧R s) :
  Calls Tryz.prog fn args t fun r s=>(I r s∧af F t s∧R s)∧(∀j o,wc.heap.size≤j→j<t.heap.size→s.cell? ⟨j,o,none⟩=t.cell? ⟨j,o,none⟩)∧(∀j o,wc.heap.size≤j→j<t.heap.size→s.frozen? ⟨j,o,none⟩=t.frozen? ⟨j,o,none⟩)∧(∀j,j<t.heap.size→j<s.heap.size)∧(∀j,j<t.heap.size→¬j=s.heap.size)∧(∀j,j<t.heap.size→¬s.heap.size=j):=by
 refine h.mono fun r s u=>⟨u,fun j o s z=>?_,fun j o s z=>?_,fun j s=>by have:=u.2.1.size;omega,fun j s=>by have:=u.2.1.size;omega,fun j s=>by have:=u.2.1.size;omega⟩
 ·have:=u.2.1.block j z (fun E=>by have:=J _ E;omega);simp only[World.cell?,this]
 ·exact World.frozen?_of_block (a:=⟨j,o,none⟩) (u.2.1.block j z (fun E=>by have:=J _ E;omega))
section
variable {F:Nat→Prop}{w:World}{sb wb b:Nat}{f g:Int}{M:St}{V:List (Edge×Int)}{D:DataW Unit}
end
theorem pG {w:World}{s n:Nat}(h:w.ownsRow s 3 1 (.slice (some ⟨s,0,none⟩) n n) n (madeCells (Value.int .i64 0).cells (n*1)).toList):bF w s (List.replicate n 0):=by
 have e:(madeCells (Value.int .i64 0).cells (n*1)).toList=(List.replicate n (0:Int)).map (Value.int .i64):=by
  rw[List.map_replicate,Nat.mul_one];simp[madeCells,Value.cells,Nat.mod_one];rw[List.map_const',List.length_range]
 rw[e]at h;exact(kL h).1
def aG (ls:List Int)(k:Nat):Int:=ls.getD k 0
theorem gv {ls:List Int}{k:Nat}{x:Int}(h:ls[k]?=some x):aG ls k=x:=by
 unfold aG;rw[fU,h];rfl
theorem dV {ls:List Int}(h:aM aj ls)(k:Nat):0≤aG ls k∧aG ls k<aj:=by
 unfold aG;rw[fU];cases s:ls[k]? with
 |none=>exact⟨Int.le_refl _,by decide⟩
 |some x=>exact h x (dy s)
theorem mg {lo lo' t v:Nat}{x y:Value}{w:World}(u:aB lo w t x)(z:aB lo' w v y)(J:(ar aj t).length≤32)(N:(ar aj v).length≤32) :
  Calls Tryz.prog 245 #[x,y] w fun e E=>∃s,e=.returned s∧aB w.heap.size E (t+v) s∧ae w E:=by
 have H:=aa (wa u z J N)
 clear u z
 go_enter Tryz.func245,Tryz.ntmps245
 go_wp2_with (first|(go_at_call 260;refine H.out.mono ?_;rintro e w1 ⟨s,rfl,O,I⟩)|fail)
 go_ret
 exact⟨s,rfl,O,I⟩
theorem fL {lo lo' t v:Nat}{x y:Value}{w:World}(u:aB lo w t x)(z:aB lo' w v y)(J:(ar aj t).length≤32)(N:(ar aj v).length≤32) :
  Calls Tryz.prog 195 #[x,y] w fun e E=>∃s,e=.returned s∧aB w.heap.size E (t*v) s∧ae w E:=by
 have H:=aa (wv u z J N)
 clear u z
 go_enter Tryz.func195,Tryz.ntmps195
 go_wp2_with (first|(go_at_call 246;refine H.out.mono ?_;rintro e w1 ⟨s,rfl,O,I⟩)|fail)
 go_ret
 exact⟨s,rfl,O,I⟩
theorem vW {lo lo' s v:Nat}{x y:Value}{w:World}(u:aB lo w s x)(z:aB lo' w v y)(J:v≤s)(N:(ar aj s).length≤64)(O:(ar aj v).length≤64) :
  Calls Tryz.prog 244 #[x,y] w fun e E=>∃t,e=.returned t∧aB w.heap.size E (s-v) t∧ae w E:=by
 have H:=aa (wG u z J N O)
 clear u z
 go_enter Tryz.func244,Tryz.ntmps244
 go_wp2_with (first|(go_at_call 259;refine H.out.mono ?_;rintro e w1 ⟨t,rfl,Q,I⟩)|fail)
 go_ret
 exact⟨t,rfl,Q,I⟩
theorem aB.upd {lo:Nat}{w s:World}{v:Nat}{x:Value}{G:Nat→Prop}(h:aB lo w v x)(J:af G w s)(E:∀k,G k→k<lo):aB lo s v x:=by
 obtain⟨a,cap,s,t,z⟩:=h;refine⟨a,cap,s,t,fun I=>?_⟩;obtain⟨g,s,t,u⟩:=z I;exact⟨g,s,t,u.keep J (fun z=>by have:=E g z;omega)⟩
theorem aB.map {lo:Nat}{w z:World}{v:Nat}{x:Value}{u:Nat}(h:aB lo w v x)(hm:∃es clock,w.heap[u]?=some (.map es clock))(O:af (fun k=>k=u) w z):aB lo z v x:=by
 obtain⟨a,cap,u,z,E⟩:=h;refine⟨a,cap,u,z,fun N=>?_⟩;obtain⟨g,u,z,t⟩:=E N;refine⟨g,u,z,t.keep O (fun J=>?_)⟩;obtain⟨es,clock,I⟩:=hm;obtain⟨u,s,_⟩:=t;rw[J,I]at s;cases s
def fS (w:World)(a:Option Addr)(ls:List Int):Prop:=∀i x,ls[i]?=some x→∃b v,a=some ⟨b,0,none⟩∧w.cell? ⟨b,i,none⟩=some v∧aB 0 w x.toNat v
theorem fS.U {w t:World}{a:Option Addr}{ls:List Int}(h:fS w a ls)(s:ae w t):fS t a ls:=fun i x E=>by
 obtain⟨b,v,t,u,z⟩:=h i x E;exact⟨b,v,t,s.cell u,z.U s⟩
theorem kd {w:World}{s b o:Nat}{v:Value}(hm:∃es clock,w.heap[s]?=some (.map es clock))(h:w.cell? ⟨b,o,none⟩=some v):b≠s:=by
 obtain⟨es,clock,t⟩:=hm;intro e;subst e;simp[World.cell?,t]at h
theorem fS.map {w u:World}{a:Option Addr}{ls:List Int}{s:Nat}(h:fS w a ls)(hm:∃es clock,w.heap[s]?=some (.map es clock))(t:af (fun k=>k=s) w u):fS u a ls:=fun i x E=>by
 obtain⟨b,v,u,s,z⟩:=h i x E;exact⟨b,v,u,t.cellAt (fun e=>kd hm s e) s,z.map hm t⟩
theorem uo:(Tryz.prog.info? 103).map (fun i=>(i.zero,i.size,i.bytes))=some (some (.slice none 0 0),1,24):=by kernel_rfl
def eK (w:World)(g n d:Nat)(ls:List Int):Prop:=∃s:Array Value,w.heap[g]?=some (.cells s 103 (0,0))∧s.size=n∧∀i x,i<d→ls[i]?=some x→∃v,s[i]?=some v∧aB (g+1) w x.toNat v
theorem eK.lt {w:World}{g n d:Nat}{ls:List Int}(h:eK w g n d ls):g<w.heap.size:=by
 obtain⟨t,s,_⟩:=h;exact bu s
theorem eK.c5 {w:World}{g n d:Nat}{ls:List Int}(h:eK w g n d ls){i:Nat}(hi:i<n):(∃v,w.cell? ⟨g,i,none⟩=some v)∧w.frozen? ⟨g,i,none⟩=false:=by
 obtain⟨t,s,u,_⟩:=h;refine⟨⟨t[i]'(by omega),?_⟩,frozen_of_row w g i _ _ s⟩;rw[cell_of_row w g i _ _ _ s,Array.getElem?_eq_getElem (by omega)]
theorem eK.U {w t:World}{g n d:Nat}{ls:List Int}(h:eK w g n d ls)(s:ae w t):eK t g n d ls:=by
 have I:=h.lt;obtain⟨t,u,z,E⟩:=h;refine⟨t,(s.block g I).trans u,z,fun i x hi J=>?_⟩;obtain⟨v,t,u⟩:=E i x hi J;exact⟨v,t,u.U s⟩
theorem eK.set {w:World}{g n d:Nat}{ls:List Int}(h:eK w g n d ls)(O:d<n){x:Int}{v:Value}(N:ls[d]?=some x)(J:aB (g+1) w x.toNat v):eK (w.setCell ⟨g,d,none⟩ v) g n (d+1) ls:=by
 obtain⟨O,u,z,E⟩:=h;have t:af (fun k=>k=g) w (w.setCell ⟨g,d,none⟩ v):=af.setCell (af.refl (fun k=>k=g) w) (Or.inl rfl) _;refine⟨_,Go.heap_setCell_same w g d _ _ v u,by simp[z],fun i y hi s=>?_⟩;rw[ia];by_cases hid:d=i
 ·subst hid;rw[N]at s;cases s;rw[ai rfl,ai (by omega)];exact⟨v,rfl,J.upd t (fun k I=>by omega)⟩
 ·rw[ag hid];obtain⟨J,u,z⟩:=E i y (by omega) s;exact⟨J,u,z.upd t (fun k I=>by omega)⟩
theorem eK.hT {w:World}{g n d:Nat}{ls:List Int}(h:eK w g n d ls)(I:ls.length≤d):fS w (some ⟨g,0,none⟩) ls:=fun i x s=>by
 have hi:=(List.getElem?_eq_some_iff.1 s).1;obtain⟨I,t,J,u⟩:=h;obtain⟨v,z,E⟩:=u i x (by omega) s;refine⟨g,v,rfl,?_,E.le (Nat.zero_le _)⟩;rw[cell_of_row w g i _ _ _ t,z]
theorem wI {w:World}{s n:Nat}{ls:List Int}{E:List Value}(h:w.ownsRow s 103 1 (.slice (some ⟨s,0,none⟩) n n) n E):eK w s n 0 ls:=by
 obtain⟨E,I⟩:=cU h (k:=s) rfl;rcases h.2 with⟨h0,_⟩|⟨g',s,t,z,E,u,I,_,hs,J⟩
 ·cases h0
 ·cases z;refine⟨t,u,by omega,fun i x hi=>by omega⟩
theorem oU (a:Option Addr)(cap:Nat)(ls:List Int)(w:World)(h:bq w a ls)(a0:ls.length≤1000) :
  Calls Tryz.prog 128 #[.slice a ls.length cap] w fun e Z=>(∃b,e=.returned (.slice b ls.length ls.length)∧fS Z b ls)∧ae w Z:=by
 obtain⟨a3,ax,a4,a5,a6⟩:=info_parts uo
 obtain⟨s,I⟩:∃s,s=ls.length:=⟨_,rfl⟩
 rw[←I]at a0 ⊢
 have T:=aa I
 have al:=aa h
 clear I h
 go_enter Tryz.func128,Tryz.ntmps128
 go_wp2_with (first
  |(at_make;refine wpList_make_full _ rfl _ _ 210 rfl w.heap.size 103 a3 (.slice none 0 0) 1 Tryz.underlying210 ax a4 a5 .i64 .i64 _ _ s rfl rfl rfl rfl (by rw[a6];omega) (by unfold maxLen;omega) (by simp) ?_;intro w1 W t)
  |fail)
 have ad:=aa (wI (ls:=ls) W)
 have ay:ae w w1:=⟨t.os,t.tape,t.output,t.size,fun i hi=>t.block i hi (by simp)⟩
 clear W t
 go_wp2_with fail
 go_loopg [4,5,11] s (fun gk t t t wr=>∃d:Nat,t=.int .i64 (d:Int)∧d+gk=s∧eK wr w.heap.size s d ls∧ae w wr)
 case atStart=>exact⟨0,rfl,by omega,ad.out,ay⟩
 case round=>
  obtain⟨d,rfl,N,t,u⟩:=hrel;have z:=aa t;clear t;by_cases J:d<s
  ·obtain⟨x,b,off,X,Y,a2,av,aw⟩:=gr (al.out.U u) d (by rw[←T.out];exact J);subst av;obtain⟨n,rfl⟩:=Int.eq_ofNat_of_zero_le Y;have t:=aJ aw;have a7:(d:Int)<(s:Int):=(by omega);have a1:n<2 ^ 64:=(by omega);have am:=aa X;have Q:=aa N;clear X N Y a2;have t:=z.out.lt
   go_wp2_with (first
    |(go_at_call 192;refine(kD n _ a1).mono ?_;rintro e bd ⟨v,rfl,O,U⟩;have E:=aa (z.out.U U);have ah:=aa (O.le (show w.heap.size+1≤wr.heap.size by have:=u.size;omega));obtain⟨⟨bc,a'⟩,a9⟩:=E.out.c5 J;have bb:=E.out.lt;obtain⟨a8,ba,rfl,-,-⟩:=cG O;clear O)
    |fail)
   go_roundg (gk-1)
   case rel=>exact⟨d+1,congrArg (Value.int .i64) (by omega),by have:=Q.out;omega,E.out.set J am.out (by rw[bG];exact ah.out),(u.trans U).new ((af.refl (fun k=>k=w.heap.size) _).setCell (Or.inl rfl) _) (fun k u=>by omega)⟩
   case measure=>have:=Q.out;omega
  ·have a7:¬(d:Int)<(s:Int):=(by omega);have s:=z.out.hT (by rw[←T.out];omega);have ab:=aa s;clear s N;go_wp2_with fail;go_ret;exact⟨⟨_,rfl,ab.out⟩,u⟩
def vb (s:Nat)(v:Int):Nat:=if aO (s:Int) v=true then 1 else 0
def eI (n:Int)(ws:List Int):Bool:=decide (0≤n∧n≤16)&&(decide (ws.length=max 1 (2 ^ n.toNat / 64))&&decide (6≤n∨ws.getD 0 0<2 ^ 2 ^ n.toNat))
def hasB (ws:List Int)(x:Nat):Bool:=ws.getD (x / 64) 0 / 2 ^ (x%64)%2==1
theorem iQ {n:Int}{ws:List Int}:eI n ws=true↔(0≤n∧n≤16)∧ws.length=max 1 (2 ^ n.toNat / 64)∧(6≤n∨ws.getD 0 0<2 ^ 2 ^ n.toNat):=by
 unfold eI;rw[cA,cA,cm,cm,cm]
def ef (has:Nat→Bool):List Int→Nat→List Bool
 |[],x=>[has x]
 |v::vs,x=>ef has vs x++ef has vs (x ||| 2 ^ v.toNat)
theorem jC (has:Nat→Bool):∀(vs:List Int) (x:Nat),(ef has vs x).length=2 ^ vs.length:=by
 intro vs;induction vs with
 |nil=>intro x;rfl
 |cons v vs s=>intro x;show(ef has vs x++ef has vs _).length=2 ^ (vs.length+1);rw[fW,s,s,dA];omega
theorem yi {a:List Int}(h:a.Pairwise (·<·)):a.Nodup:=h.imp (fun s e=>by omega)
theorem wS (a:Option Addr)(cap:Nat)(ps:List Int)(w:World)(h:eo w a ps)(z:ps.length≤16)(i:Nat)(x:Int)(s:ps[i]?=some x) :
  Calls Tryz.prog 176 #[.slice a ps.length cap,.int .i64 (i:Int)] w fun e t=>e=.returned (.int .i64 x)∧w=t:=by
 obtain⟨b,off,rfl,t⟩:=h i x s
 have hi:=(List.getElem?_eq_some_iff.1 s).1
 obtain⟨t,u⟩:∃t,t=ps.length:=⟨_,rfl⟩
 rw[←u]at z hi ⊢
 clear h s u
 go_enter Tryz.func176,Tryz.ntmps176
 go_wp2
 go_ret
 exact⟨rfl,rfl⟩
theorem wT {F:Nat→Prop}{w:World}{ob:Nat}{ps:List Int}(h:dm F w ob ps)(i:Nat)(x:Int)(z:ps[i]?=some x) :
  Calls Tryz.prog 164 #[.pointer (some ⟨ob,0,none⟩),.int .i64 (i:Int)] w fun e I=>e=.returned (.int .i64 x)∧w=I:=by
 obtain⟨I,J,O,N,E,t,hi⟩:=h.cells
 have s:=aa (wS I J ps w hi h.le i x z)
 obtain⟨n,u⟩:∃n,n=ps.length:=⟨_,rfl⟩
 rw[←u]at E t s
 clear h t hi u z
 go_enter Tryz.func164,Tryz.ntmps164
 go_wp2_with (first|(go_at_call 176;refine s.out.mono ?_;rintro e w1 ⟨rfl,rfl⟩)|fail)
 go_ret
 exact⟨rfl,rfl⟩
theorem rR {F t:Nat→Prop}{w:World}{sb ob:Nat}{M:St}{ps:List Int}(h:aq F w sb M)(E:dm t w ob ps)(O:M.n=(ps.length:Int))(f:Int)(N:bZ f=true) :
  Calls Tryz.prog 96 #[.pointer (some ⟨sb,0,none⟩),.pointer (some ⟨ob,0,none⟩),.int .u8 f] w fun e u=>e=.returned (.int .u8 0)∧ae w u:=by
 have s:=aa (fun(t:World) (u:ae w t)=>cX (h.U u))
 have I:=aa (fun(t:World) (u:ae w t)=>o5 (E.U u))
 have z:=iJ f
 rw[N]at z
 have Q:=aa z
 rw[O]at s
 have T:=E.le
 obtain⟨t,J⟩:∃t,t=ps.length:=⟨_,rfl⟩
 rw[←J]at s I T
 clear h E O z N J
 go_enter Tryz.func96,Tryz.ntmps96
 go_wp2_with (first|(go_at_call 48;refine(s.out _ kp).mono ?_;rintro e w1 ⟨rfl,rfl⟩)|(go_at_call 99;refine(I.out _ kp).mono ?_;rintro e w1 ⟨rfl,rfl⟩)|(go_at_call 100;refine(Q.out _).mono ?_;rintro e w1 ⟨rfl,rfl⟩)|fail)
 go_ret
 exact⟨rfl,kp⟩
end Go.Proofs.YtafkamlhimkbmaaGreat
