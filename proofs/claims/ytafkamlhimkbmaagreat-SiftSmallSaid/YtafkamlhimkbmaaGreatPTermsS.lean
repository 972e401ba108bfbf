/-
  swap.Swap.
-/
import Derived.Test.YtafkamlhimkbmaaGreatPPermS
import Derived.Test.YtafkamlhimkbmaaGreatPSwapB
namespace Go.Proofs.YtafkamlhimkbmaaGreat
set_option maxRecDepth 1000000
set_option maxHeartbeats 8000000
set_option linter.unusedSimpArgs false
set_option linter.unusedVariables false
open Go.RowKit

def gd (F Fo:Nat→Prop)(w:World)(q j:Nat)(M:St)(ps:List Int)(ss:List Nat)(rs:List (Int×Edge))(c code:Int)(r:Ending)(w':World):Prop:=
 (code≠0∧r=.returned (.tuple #[.slice none 0 0,.int .u8 code])∧aa w w')∨(code=0∧iB F Fo w q j M ps ss rs c r w')

theorem iB.gu {F Fo:Nat→Prop}{w j w':World}{z t:Nat}{M:St}{ps:List Int}{ss:List Nat}{rs:List (Int×Edge)}{c:Int}{r:Ending}(h:iB F Fo j z t M ps ss rs c r w')(s:aa w j):iB F Fo w z t M ps ss rs c r w':=by
 obtain⟨g,es,M',F',j,t,S,z,E,I,J,K,L,A⟩:=h;have S:=s.size;exact⟨g,es,M',F',j,t,by omega,z,E,fun O N=>by rcases I O N with q|q;exact .inl q;exact .inr (by omega),J,K,(s.av _).a' L,A⟩

theorem sE {F:Nat→Prop}{w:World}{A:Nat}{M:St}{rs:List (Int×Edge)}(h:ag F w A M)(op K:Value)(j:Option Addr)(cap3:Nat)(z:dz w j rs)(I:rs.length≤1048576)(E:bP M rs≠0) :
  Calls Tryz.prog 213 #[.pointer (some ⟨A,0,none⟩),op,K,.slice j rs.length cap3] w fun e w'=>e=.returned (.tuple #[.slice none 0 0,.int .u8 (bP M rs)])∧aa w w':=by
 have t:=fun(K:World) (A:aa w K)=>rC (h.U A) j cap3 rs (z.U A) I
 have N:=xO M rs
 obtain⟨c,s⟩:∃c,c=bP M rs:=⟨_,rfl⟩
 obtain⟨j,q⟩:∃j,j=rs.length:=⟨_,rfl⟩
 rw[←s,←q]at t
 rw[←s]at E N ⊢
 rw[←q]
 have J:=Lib.hid t
 have j:(c != 0)=true:=by simp[E]
 clear t h z s q I
 go_enter Tryz.func213,Tryz.ntmps213
 go_wp2_with (first|(go_at_call 248;refine(J.out _ (by(exact kp))).mono ?_;rintro e w1 ⟨rfl,L⟩)|fail)
 go_ret2
 exact⟨rfl,L⟩

def jS (M:St)(n:Nat)(lv:Int)(rs:List (Int×Edge)):Int:=if M.n=(n:Int)then(if lv<0∨M.n-1≤lv then 3 else bP M rs)else 1

theorem AY {F Fo:Nat→Prop}{w:World}{z t:Nat}{M:St}{ps:List Int}{rs:List (Int×Edge)}{c:Int}(h:ag F w z M)(S:bC Fo w t ps)(aw:∀k,F k→¬Fo k)(lv:Int)
  (K:Option Addr) (cap3:Nat) (U:∀j,ae (fun bp=>F bp∨Fo bp) w j→dz j K rs) (a6:rs.length≤16) (av:0≤lv→lv+1<M.n→dh lv 0≤c) (bx:0≤c) (a3:M.len+(rs.length:Int)*c<M.room) (a2:M.room<1048576) :
  Calls Tryz.prog 169 #[.pointer (some ⟨z,0,none⟩),.pointer (some ⟨t,0,none⟩),.int .i64 lv,.slice K rs.length cap3] w (gd F Fo w z t M ps [lv.toNat] rs c (jS M ps.length lv rs)):=by
 have I:=fun(j:World) (q:aa w j)=>AX (h.U q) (S.U q)
 have ad:=fun(j:World) (q:aa w j)=>dw (h.U q)
 have bg:=h.wf.n0
 have bi:=h.wf.bw
 by_cases E:M.n=(ps.length:Int)
 ·have O:jS M ps.length lv rs=if lv<0∨M.n-1≤lv then 3 else bP M rs:=if_pos E;rw[if_pos E]at I;rw[O];by_cases T:lv<0∨M.n-1≤lv
  ·rw[if_pos T];have L:=Lib.hid I;have N:=Lib.hid ad;obtain⟨n,Y⟩:∃n,n=M.n:=⟨_,rfl⟩;rw[←Y]at N T bg bi;clear I ad h S aw U a6 av a3 a2 Y E O;have Z:∀w':World,aa w w'→gd F Fo w z t M ps [lv.toNat] rs c 3 (.returned (.tuple #[.slice none 0 0,.int .u8 3])) w':=fun w' X=>.inl ⟨by decide,rfl,X⟩;have am:=Lib.hid Z;clear Z;by_cases bp:lv<0
   ·go_enter Tryz.func169,Tryz.ntmps169
    go_wp2_with (first|(go_at_call 212;refine(L.out _ (by(exact kp))).mono ?_;rintro e w1 ⟨rfl,a1⟩)|(go_at_call 48;refine(N.out _ (by(exact kp))).mono ?_;rintro e w1 ⟨rfl,rfl⟩)|fail)
    go_ret2
    exact am.out _ (by(exact kp))
   ·have bw:n-1≤lv:=(by omega);go_enter Tryz.func169,Tryz.ntmps169
    go_wp2_with (first|(go_at_call 212;refine(L.out _ (by(exact kp))).mono ?_;rintro e w1 ⟨rfl,a1⟩)|(go_at_call 48;refine(N.out _ (by(exact kp))).mono ?_;rintro e w1 ⟨rfl,rfl⟩)|fail)
    go_ret2
    exact am.out _ (by(exact kp))
  ·rw[if_neg T];obtain⟨A,rfl⟩:∃A:Nat,lv=(A:Int):=⟨lv.toNat,by omega⟩
   have bb:bP M rs=0→∀(j:World) (B:Nat),aa w j→w.heap.size≤B→j.cell? ⟨B,0,none⟩=some (.int .i64 (A:Int))→Calls Tryz.prog 213 #[.pointer (some ⟨z,0,none⟩),.pointer (some ⟨t,0,none⟩),.slice (some ⟨B,0,none⟩) 1 1,.slice K rs.length cap3] j (gd F Fo w z t M ps [(A:Int).toNat] rs c (bP M rs)):=fun J j B q a8 a5=>by
    have W:=AW (ss:=[A]) (c:=c) (h.U q) (S.U q) aw (some ⟨B,0,none⟩) K 1 cap3 (fun W' a4 i x a7=>by
     have b0:¬(F B∨Fo B):=fun s=>by
      rcases s with s|s;·have:=h.lt _ s;omega
      ·have:=S.lt _ s;omega
     cases i with
     |zero=>
      simp at a7;subst a7;exact⟨B,0,rfl,a4.cellAt b0 a5⟩
     |succ i=>simp at a7) (fun W' a4=>U W' ((q.av _).a' a4)) (by simp) a6 J E (fun b1 ab=>by simp at ab;subst ab;omega) (fun b1 ab=>by simp at ab;subst ab;exact av (by omega) (by omega)) bx (by simpa using a3) a2
    refine W.mono fun r w' s=>.inr ⟨J,?_⟩;exact s.gu q
   have a':bP M rs≠0→∀(j:World) (B:Nat),aa w j→Calls Tryz.prog 213 #[.pointer (some ⟨z,0,none⟩),.pointer (some ⟨t,0,none⟩),.slice (some ⟨B,0,none⟩) 1 1,.slice K rs.length cap3] j (gd F Fo w z t M ps [(A:Int).toNat] rs c (bP M rs)):=fun J j B q=>
    (sE (h.U q) _ _ K cap3 (U j (q.av _)) (by omega) J).mono fun r w' ⟨ab,X⟩=>.inl ⟨J,ab,q.trans X⟩
   have W:∀(j:World) (B:Nat),aa w j→w.heap.size≤B→j.cell? ⟨B,0,none⟩=some (.int .i64 (A:Int))→Calls Tryz.prog 213 #[.pointer (some ⟨z,0,none⟩),.pointer (some ⟨t,0,none⟩),.slice (some ⟨B,0,none⟩) 1 1,.slice K rs.length cap3] j (gd F Fo w z t M ps [(A:Int).toNat] rs c (bP M rs)):=fun j B q a8 a5=>by
    by_cases J:bP M rs=0;·exact bb J j B q a8 a5
    ·exact a' J j B q
   obtain⟨code,be⟩:∃code,code=bP M rs:=⟨_,rfl⟩;rw[←be]at W ⊢;have bs:=Lib.hid W;have L:=Lib.hid I;have N:=Lib.hid ad;obtain⟨n,Y⟩:∃n,n=M.n:=⟨_,rfl⟩;rw[←Y]at N T bg bi;have bw:¬n-1≤(A:Int):=(by omega);have j:(A:Int)≤16:=by omega
   have bn:∀r w',gd F Fo w z t M ps [(A:Int).toNat] rs c code r w'→∃bq br,r=.returned (.tuple #[bq,br]):=fun r w' s=>by
    rcases s with⟨_,rfl,_⟩|⟨_,g,es,M',F',rfl,_⟩
    ·exact⟨_,_,rfl⟩
    ·exact⟨_,_,rfl⟩
   have bv:=Lib.hid bn;clear I ad h S aw U av a3 a2 Y E O W bb a' be T bn;go_enter Tryz.func169,Tryz.ntmps169
   go_wp2_with (first|(go_at_call 212;refine(L.out _ (by(exact kp))).mono ?_;rintro e w1 ⟨rfl,a1⟩)|(go_at_call 48;refine(N.out _ (by(exact kp))).mono ?_;rintro e j ⟨rfl,rfl⟩)|fail)
   refine(bs.out _ w1.heap.size (by(exact kp)) a1.size (by simp[go_sem])).mono ?_;rintro r j s;obtain⟨bq,br,rfl⟩:=bv.out _ _ s;have bt:=Lib.hid s;clear s;go_wp2_with fail
   go_ret2
   exact bt.out
 ·have O:jS M ps.length lv rs=1:=if_neg E;rw[if_neg E]at I;rw[O];have L:=Lib.hid I;clear I ad h S aw U a6 av a3 a2 E O;have Z:∀w':World,aa w w'→gd F Fo w z t M ps [lv.toNat] rs c 1 (.returned (.tuple #[.slice none 0 0,.int .u8 1])) w':=fun w' X=>.inl ⟨by decide,rfl,X⟩;have am:=Lib.hid Z;clear Z;go_enter Tryz.func169,Tryz.ntmps169
  go_wp2_with (first|(go_at_call 212;refine(L.out _ (by(exact kp))).mono ?_;rintro e w1 ⟨rfl,a1⟩)|fail)
  go_ret2
  exact am.out _ (by(exact kp))

theorem xW {a b j n:Nat}(q:a<n)(s:b<n)(h:j∈bA a b):j+1<n:=by
 unfold bA at h;split at h
 ·obtain⟨i,hi,rfl⟩:=List.mem_map.1 h;rw[List.mem_range]at hi;omega
 ·obtain⟨i,hi,rfl⟩:=List.mem_map.1 h;rw[List.mem_range]at hi;omega

structure eo (F Fo:Nat→Prop)(w:World)(sb ob:Nat)(M:St)(ps:List Int):Prop where
 a4:ag F w sb M
 b7:bC Fo w ob ps
 c':∀k,F k→¬Fo k
 n:M.n=(ps.length:Int)
 room:M.room<1048576

theorem xN {M:St}(s:M.wf):∀{rs:List (Int×Edge)},(∀r∈rs,(1≤r.1∧r.1≤5)∧M.leads r.1 r.2 0=true)→bP M rs=0:=by
 intro rs;induction rs with
 |nil=>intro _;rfl
 |cons r rs t=>
  intro h;have j:=h r (by simp);have e:fF M r.1 r.2 0=0:=by rw[qg s,if_neg (by simp[bG,j.1.1,j.1.2]),if_neg (by rw[j.2];simp)]
  rw[qh,if_pos e];exact t (fun j q=>h j (by simp[q]))

theorem eo.U {F Fo:Nat→Prop}{w w':World}{s q:Nat}{M:St}{ps:List Int}(h:eo F Fo w s q M ps)(j:aa w w'):eo F Fo w' s q M ps:=⟨h.a4.U j,h.b7.U j,h.c',h.n,h.room⟩

structure fr (M:St)(f:Int)(ps:List Int)(has:Nat→Bool)(x:Edge):Prop where
 ok:x.ok
 lead:M.leads f x 0=true
 right:bH M f x 0
 d':tabP M ps f x=iN ps.length has

theorem fr.ext {M M':St}{f:Int}{ps:List Int}{has:Nat→Bool}{x:Edge}(h:fr M f ps has x)(q:M.wf)(j:az M M'):fr M' f ps has x:=
 ⟨h.ok,j.leads h.lead,dv j q h.right,by rw[lC q j h.lead];exact h.d'⟩

theorem tV {M:St}{f:Int}{ps:List Int}{has:Nat→Bool}{x:Edge}(q:M.wf)(j:1≤f∧f≤5)(t:ar ps=true)(s:M.n=(ps.length:Int))(z:x.ok)(h:dH f M has ps 0 0 x):fr M f ps has x:=
 ⟨z,h.1.leads q j (by omega),h.2,A4 t s (h.1.cD q j _ _ _ _ (by omega) (Int.le_refl _))⟩

theorem zE {n:Nat}{ss:List Nat}{M M':St}{f:Int}{ps qs:List Int}{has:Nat→Bool}{x y:Edge}(h:fr M f ps has x)(t:ps.length=n)(j:eW n ss M M' f x y)(q:aJ ps ss=qs):fr M' f qs has y:=by
 have s:=j.d' ps t;rw[q]at s;have t:qs.length=ps.length:=by rw[←q,eP]
 exact⟨j.ok,j.lead,j.right h.right,by rw[s,h.d',t]⟩

theorem AJ {F:Nat→Prop}{w:World}{z:Nat}{M:St}{f:Int}{ps:List Int}{has:Nat→Bool}{x:Edge}(hS:ag F w z M)(s:1≤f∧f≤5)(t:ar ps=true)(j:M.n=(ps.length:Int))(q:ps.length≤5)(A:M.len+64≤1048576)(h:fr M f ps has x):ay f M (ps.length+1) x=bj f ps.length (bR has ps 0) 0:=by
 have z:2 ^ ps.length≤2 ^ 5:=Nat.pow_le_pow_right (by decide) q;have q:(2:Nat) ^ 5=32:=rfl;rw[qL s (hS.fa f (by omega)) h.lead h.right h.ok.2.1 hS.g1 j (by omega),rI t j h.d']

end Go.Proofs.YtafkamlhimkbmaaGreat
