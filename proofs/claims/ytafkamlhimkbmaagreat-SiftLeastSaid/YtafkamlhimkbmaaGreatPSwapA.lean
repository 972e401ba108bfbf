/-
  What an assignment has at levels: Value, clear, free, side; may.
-/
import Derived.Test.YtafkamlhimkbmaaGreatPHPlainA
import Derived.Test.YtafkamlhimkbmaaGreatPNextP
namespace Go.Proofs.YtafkamlhimkbmaaGreat
set_option maxRecDepth 1000000
set_option maxHeartbeats 8000000
set_option linter.unusedSimpArgs false
set_option linter.unusedVariables false
open Go.RowKit

def an (x k:Int):Bool:=decide (x / 2 ^ k.toNat%2=1)

def fh (x a:Int):Nat→Bool
 |0=>true
 |n+1=>!an x a&&fh x (a+1) n

def ez (x:Int)(r:Rec):Bool:=if r.ad=3 then !fh x r.I (r.J+1-r.I).toNat else an x r.J

def bF (x:Int)(r:Rec):Edge:=if ez x r then r.hi else r.lo

def cL (f:Int)(e:Edge)(l:Int):Bool:=decide (f=2)||decide (f=4)||(decide (f=5)&&decide (e.tag≤l))

def hS (M:St)(f x:Int):Nat→Int→Edge→Bool
 |0,_,e=>decide (e.to≠0)
 |k+1,l,e=>if e.to=0 then false else if M.n≤l then true else match look M.cs e.to with
  |none=>if cL f e l&&an x l then false else hS M f x k (l+1) e
  |some r=>if l<r.I then(if cL f e l&&an x l then false else hS M f x k (l+1) e)else hS M f x k (r.J+1) (bF x r)

def fr (M:St)(f:Int)(e:Edge)(l:Int):Int:=if bD f=false then 4 else if l<0∨M.n<l then 3 else if M.leads f e l=false then 1 else 0

theorem xo (M:St)(f:Int)(e:Edge)(l:Int):0≤fr M f e l∧fr M f e l≤4:=by
 unfold fr;split;·decide
 ·split;·decide
  ·split<;>decide

theorem zS {M:St}(h:M.wf){id x:Int}{r:Rec}(j:look M.cs id=some r):M.leads r.ad (bF x r) (r.J+1)=true:=by
 have g:=h.b7 j;unfold bF;split;·exact g.hi
 ·exact g.lo

def dJ (w:World)(a:Option Addr)(rs:List (Int×Edge)):Prop:=
 ∀i r,rs[i]?=some r→(0≤r.1∧r.1≤255)∧r.2.ok∧∃b off,a=some ⟨b,off,none⟩∧w.cell? ⟨b,off+i*3,none⟩=some (.int .u8 r.1)∧w.cell? ⟨b,off+i*3+1,none⟩=some (.int .u8 r.2.tag)∧w.cell? ⟨b,off+i*3+2,none⟩=some (.int .u32 r.2.to)

theorem dJ.U {w q:World}{a:Option Addr}{rs:List (Int×Edge)}(h:dJ w a rs)(j:aa w q):dJ q a rs:=fun i r I=>by
 obtain⟨z,A,b,off,E,q,s,t⟩:=h i r I;exact⟨z,A,b,off,E,j.cell q,j.cell s,j.cell t⟩

def rI (w:World)(a:Option Addr)(es:List Edge):Prop:=∀i e,es[i]?=some e→e.ok∧∃b off,a=some ⟨b,off,none⟩∧w.cell? ⟨b,off+i*2,none⟩=some (.int .u8 e.tag)∧w.cell? ⟨b,off+i*2+1,none⟩=some (.int .u32 e.to)

def bM (M:St):List (Int×Edge)→Int
 |[]=>0
 |r::rs=>if fr M r.1 r.2 0=0 then bM M rs else fr M r.1 r.2 0

theorem pI (M:St)(r:Int×Edge)(rs:List (Int×Edge)):bM M (r::rs)=if fr M r.1 r.2 0=0 then bM M rs else fr M r.1 r.2 0:=rfl

theorem xr {M:St}:∀{rs:List (Int×Edge)},bM M rs=0→∀r∈rs,(1≤r.1∧r.1≤5)∧M.leads r.1 r.2 0=true:=by
 intro rs;induction rs with
 |nil=>intro _ r q;cases q
 |cons I rs E=>
  intro h r q;unfold bM at h;split at h
  ·rename_i j;rcases List.mem_cons.1 q with rfl|q
   ·unfold fr at j;split at j;·cases j
    ·rename_i z;split at j;·cases j
     ·split at j;·cases j
      ·rename_i A;have t:bD r.1=true:=by cases s:bD r.1 with|true=>rfl|false=>exact absurd s z
       unfold bD at t;exact⟨by simpa using t,by cases s:M.leads r.1 r.2 0 with|true=>rfl|false=>exact absurd s A⟩
   ·exact E h r q
  ·rename_i j;exact absurd h j

theorem xq (M:St):∀rs:List (Int×Edge),0≤bM M rs∧bM M rs≤4:=by
 intro rs;induction rs with
 |nil=>exact⟨Int.le_refl _,by show(0:Int)≤4;decide⟩
 |cons r rs j=>
  have:=xo M r.1 r.2 0;unfold bM;split;·exact j
  ·omega

theorem pH {M:St}(h:M.wf)(f:Int)(e:Edge):fr M f e 0=if bD f=false then 4 else if M.leads f e 0=false then 1 else 0:=by
 have:=h.n0;unfold fr;rw[if_neg (show¬((0:Int)<0∨M.n<0) by omega)]

theorem qN {F:Nat→Prop}{w:World}{aw:Nat}{M:St}(h:ag F w aw M)(a:Option Addr)(cap:Nat)(rs:List (Int×Edge))(av:dJ w a rs)(a6:rs.length≤1048576) :
  Calls Tryz.prog 248 #[.pointer (some ⟨aw,0,none⟩),.slice a rs.length cap] w fun e T=>e=.returned (.int .u8 (bM M rs))∧aa w T:=by
 have a1:=Lib.hid (fun(f:Int) (v:Edge) (aw:v.ok) (K:World) (ad:aa w K)=>cV (h.U ad) f v 0 aw)
 have a3:=Lib.hid h.wf
 obtain⟨z,ab⟩:∃z,z=rs.length:=⟨_,rfl⟩
 rw[←ab]at a6 ⊢
 have a2:=Lib.hid av
 have am:=Lib.hid ab
 clear h av ab
 go_enter Tryz.func248,Tryz.ntmps248
 go_wp2
 go_loopg [9] z (fun gk ab wr=>∃d:Nat,ab=.int .i64 (d:Int)∧d+gk=z∧bM M (rs.drop d)=bM M rs∧aa w wr)
 case atStart=>exact⟨0,rfl,by omega,rfl,by(exact kp)⟩
 case round=>
  obtain⟨d,rfl,ab,j,O⟩:=hrel;have W:=Lib.hid j;clear j;by_cases a7:d<z
  ·obtain⟨r,I⟩:∃b,rs[d]?=some b:=⟨_,List.getElem?_eq_getElem (by rw[←am.out];exact a7)⟩;obtain⟨a4,E,b,off,rfl,X,Y,Z⟩:=a2.out d r I;replace X:=O.cell X;replace Y:=O.cell Y;replace Z:=O.cell Z
   have N:rs.drop d=r::rs.drop (d+1):=by
    obtain⟨hi,z⟩:=List.getElem?_eq_some_iff.1 I;rw[List.drop_eq_getElem_cons hi,z]
   have j:=W.out;rw[N]at j;rw[pI,pH a3.out]at j;obtain⟨f,e⟩:=r;have q:=ij f;have s:=fun(K:World) (ad:aa w K)=>a1.out f e E K ad;dsimp only at a4 E X Y Z j;cases A:bD f with
   |false=>
    rw[A]at q j;have J:=Lib.hid q;have t:Hid (bM M rs=4):=Lib.hid (by rw[←j];simp);clear j q s N I E A;go_wp2_with (first|(go_at_call 100;refine(J.out _).mono ?_;rintro L T ⟨rfl,rfl⟩)|fail)
    go_ret
    exact⟨by rw[t.out];rfl,by(exact kp)⟩
   |true=>
    rw[A]at q j;have J:=Lib.hid q;cases S:M.leads f e 0 with
    |false=>
     rw[S]at s j;have U:=Lib.hid s;have t:Hid (bM M rs=1):=Lib.hid (by rw[←j];simp);clear j q s N I E A S;go_wp2_with (first|(go_at_call 100;refine(J.out _).mono ?_;rintro L T ⟨rfl,rfl⟩)|(go_at_call 134;refine(U.out _ (by(exact kp))).mono ?_;rintro L a8 ⟨rfl,a5⟩)|fail)
     go_ret
     exact⟨by rw[t.out];rfl,by(exact kp)⟩
    |true=>
     rw[S]at s j;have U:=Lib.hid s;have t:Hid (bM M (rs.drop (d+1))=bM M rs):=Lib.hid (by rw[←j];simp);clear j q s N I E A S;go_wp2_with (first|(go_at_call 100;refine(J.out _).mono ?_;rintro L T ⟨rfl,rfl⟩)|(go_at_call 134;refine(U.out _ (by(exact kp))).mono ?_;rintro L a8 ⟨rfl,a5⟩)|fail)
     go_roundg (gk-1)
     case rel=>exact⟨d+1,by simp,by omega,t.out,by(exact kp)⟩
     case measure=>omega
  ·have t:Hid (bM M rs=0):=Lib.hid (by rw[←W.out,List.drop_of_length_le (by rw[←am.out];omega)];rfl);clear W;go_wp2_with fail
   go_ret
   exact⟨by rw[t.out];rfl,O⟩

theorem AA {F Fo:Nat→Prop}{w:World}{I A:Nat}{M:St}{ps:List Int}(h:ag F w I M)(J:bA Fo w A ps) :
  Calls Tryz.prog 212 #[.pointer (some ⟨I,0,none⟩),.pointer (some ⟨A,0,none⟩)] w fun e j=>e=.returned (.int .u8 (if M.n=(ps.length:Int)then 0 else 1))∧aa w j:=by
 have z:=Lib.hid (fun(A:World) (I:aa w A)=>dz (h.U I))
 have t:=Lib.hid (fun(A:World) (I:aa w A)=>mE (J.U I))
 have N:=h.wf.n0
 have O:=h.wf.br
 have S:=J.le
 obtain⟨q,K⟩:∃q,q=ps.length:=⟨_,rfl⟩
 obtain⟨n,L⟩:∃n,n=M.n:=⟨_,rfl⟩
 rw[←K]at t S ⊢
 rw[←L]at z N O ⊢
 clear h J K L
 by_cases s:n=(q:Int)
 ·rw[if_pos s];subst s;go_enter Tryz.func212,Tryz.ntmps212
  go_wp2_with (first|(go_at_call 48;refine(z.out _ (by(exact kp))).mono ?_;rintro E j ⟨rfl,rfl⟩)|(go_at_call 99;refine(t.out _ (by(exact kp))).mono ?_;rintro E j ⟨rfl,rfl⟩)|fail)
  go_ret
  exact⟨rfl,by(exact kp)⟩
 ·rw[if_neg s];have A:(n !=(q:Int))=true:=by simp[s]
  go_enter Tryz.func212,Tryz.ntmps212
  go_wp2_with (first|(go_at_call 48;refine(z.out _ (by(exact kp))).mono ?_;rintro E j ⟨rfl,rfl⟩)|(go_at_call 99;refine(t.out _ (by(exact kp))).mono ?_;rintro E j ⟨rfl,rfl⟩)|fail)
  go_ret
  exact⟨rfl,by(exact kp)⟩

end Go.Proofs.YtafkamlhimkbmaaGreat
