/-
  What an assignment has at levels: Value, clear, free, side; may.
-/
import Derived.Test.YtafkamlhimkbmaaGreatPHPlainA
import Derived.Test.YtafkamlhimkbmaaGreatPViewC
import Derived.Test.YtafkamlhimkbmaaGreatPWordsR
namespace Go.Proofs.YtafkamlhimkbmaaGreat
set_option maxRecDepth 1000000
set_option maxHeartbeats 8000000
set_option linter.unusedSimpArgs false
set_option linter.unusedVariables false
open Go.RowKit

def ao (x k:Int):Bool:=decide (x / 2 ^ k.toNat%2=1)

def fw (x a:Int):Nat→Bool
 |0=>true
 |n+1=>!ao x a&&fw x (a+1) n

def eF (x:Int)(r:Rec):Bool:=if r.ad=3 then !fw x r.I (r.J+1-r.I).toNat else ao x r.J

def bI (x:Int)(r:Rec):Edge:=if eF x r then r.hi else r.lo

def cN (f:Int)(e:Edge)(l:Int):Bool:=decide (f=2)||decide (f=4)||(decide (f=5)&&decide (e.tag≤l))

def hS (M:St)(f x:Int):Nat→Int→Edge→Bool
 |0,_,e=>decide (e.to≠0)
 |k+1,l,e=>if e.to=0 then false else if M.n≤l then true else match look M.cs e.to with
  |none=>if cN f e l&&ao x l then false else hS M f x k (l+1) e
  |some r=>if l<r.I then(if cN f e l&&ao x l then false else hS M f x k (l+1) e)else hS M f x k (r.J+1) (bI x r)

def fF (M:St)(f:Int)(e:Edge)(l:Int):Int:=if bG f=false then 4 else if l<0∨M.n<l then 3 else if M.leads f e l=false then 1 else 0

theorem xM (M:St)(f:Int)(e:Edge)(l:Int):0≤fF M f e l∧fF M f e l≤4:=by
 unfold fF;split;·decide
 ·split;·decide
  ·split<;>decide

theorem Al {M:St}(h:M.wf){id x:Int}{r:Rec}(j:look M.cs id=some r):M.leads r.ad (bI x r) (r.J+1)=true:=by
 have g:=h.b8 j;unfold bI;split;·exact g.hi
 ·exact g.lo

def jn (b:Bool):Int:=if b then 1 else 0

theorem jV (x k:Int)(w:World)(j:0≤x)(L:x≤65535)(J:0≤k)(K:k≤16) :
  Calls Tryz.prog 43 #[.int .i64 x,.int .i64 k] w fun e w'=>e=.returned (.int .i64 (jn (ao x k)))∧w=w':=by
 obtain⟨n,rfl⟩:∃n:Nat,k=(n:Int):=⟨k.toNat,by omega⟩
 have q:=Lib.hid (rj n (by omega) w)
 have z:2 ^ n≤2 ^ 16:=Nat.pow_le_pow_right (by decide) (by omega)
 have I:0<2 ^ n:=Nat.pow_pos (by decide)
 have E:(2:Nat) ^ 16=65536:=rfl
 have A:jn (ao x n)=x / ((2 ^ n:Nat):Int)%2:=by
  unfold jn ao;have s:((2 ^ n:Nat):Int)=2 ^ (n:Int).toNat:=by push_cast;rfl
  rw[s];by_cases h:x / 2 ^ (n:Int).toNat%2=1;·rw[decide_eq_true h,h];rfl
  ·rw[decide_eq_false h];show(0:Int)=_;omega
 rw[A]
 obtain⟨p,t⟩:∃p,p=2 ^ n:=⟨_,rfl⟩
 rw[←t]at q z I ⊢
 rw[E]at z
 clear t A
 have t:(p:Int)≠0:=by omega
 have t:((p:Int)==0)=false:=by simp;omega
 have s:x.tdiv (p:Int)=x / (p:Int):=Int.tdiv_eq_ediv_of_nonneg j
 have s:0≤x / (p:Int):=Int.ediv_nonneg j (by omega)
 have t:x / (p:Int)≤x:=Int.ediv_le_self _ j
 have j:(x / (p:Int)).tmod 2=x / (p:Int)%2:=Int.tmod_eq_emod_of_nonneg s
 go_enter Tryz.func43,Tryz.ntmps43
 go_wp2_with (first|(go_at_call 29;refine q.out.mono ?_;rintro e w' ⟨rfl,rfl⟩)|fail)
 go_ret
 exact⟨by rfl,rfl⟩

def dz (w:World)(a:Option Addr)(rs:List (Int×Edge)):Prop:=
 ∀i r,rs[i]?=some r→(0≤r.1∧r.1≤255)∧r.2.ok∧∃b off,a=some ⟨b,off,none⟩∧w.cell? ⟨b,off+i*3,none⟩=some (.int .u8 r.1)∧w.cell? ⟨b,off+i*3+1,none⟩=some (.int .u8 r.2.tag)∧w.cell? ⟨b,off+i*3+2,none⟩=some (.int .u32 r.2.to)

theorem dz.U {w w':World}{a:Option Addr}{rs:List (Int×Edge)}(h:dz w a rs)(j:aa w w'):dz w' a rs:=fun i r I=>by
 obtain⟨z,A,b,off,E,q,s,t⟩:=h i r I;exact⟨z,A,b,off,E,j.cell q,j.cell s,j.cell t⟩

def sq (w:World)(a:Option Addr)(es:List Edge):Prop:=∀i e,es[i]?=some e→e.ok∧∃b off,a=some ⟨b,off,none⟩∧w.cell? ⟨b,off+i*2,none⟩=some (.int .u8 e.tag)∧w.cell? ⟨b,off+i*2+1,none⟩=some (.int .u32 e.to)

def bP (M:St):List (Int×Edge)→Int
 |[]=>0
 |r::rs=>if fF M r.1 r.2 0=0 then bP M rs else fF M r.1 r.2 0

theorem qh (M:St)(r:Int×Edge)(rs:List (Int×Edge)):bP M (r::rs)=if fF M r.1 r.2 0=0 then bP M rs else fF M r.1 r.2 0:=rfl

theorem xP {M:St}:∀{rs:List (Int×Edge)},bP M rs=0→∀r∈rs,(1≤r.1∧r.1≤5)∧M.leads r.1 r.2 0=true:=by
 intro rs;induction rs with
 |nil=>intro _ r q;cases q
 |cons I rs E=>
  intro h r q;unfold bP at h;split at h
  ·rename_i j;rcases List.mem_cons.1 q with rfl|q
   ·unfold fF at j;split at j;·cases j
    ·rename_i z;split at j;·cases j
     ·split at j;·cases j
      ·rename_i A;have t:bG r.1=true:=by cases s:bG r.1 with|true=>rfl|false=>exact absurd s z
       unfold bG at t;exact⟨by simpa using t,by cases s:M.leads r.1 r.2 0 with|true=>rfl|false=>exact absurd s A⟩
   ·exact E h r q
  ·rename_i j;exact absurd h j

theorem xO (M:St):∀rs:List (Int×Edge),0≤bP M rs∧bP M rs≤4:=by
 intro rs;induction rs with
 |nil=>exact⟨Int.le_refl _,by show(0:Int)≤4;decide⟩
 |cons r rs j=>
  have:=xM M r.1 r.2 0;unfold bP;split;·exact j
  ·omega

theorem qg {M:St}(h:M.wf)(f:Int)(e:Edge):fF M f e 0=if bG f=false then 4 else if M.leads f e 0=false then 1 else 0:=by
 have:=h.n0;unfold fF;rw[if_neg (show¬((0:Int)<0∨M.n<0) by omega)]

theorem rC {F:Nat→Prop}{w:World}{av:Nat}{M:St}(h:ag F w av M)(a:Option Addr)(cap:Nat)(rs:List (Int×Edge))(am:dz w a rs)(a5:rs.length≤1048576) :
  Calls Tryz.prog 248 #[.pointer (some ⟨av,0,none⟩),.slice a rs.length cap] w fun e w'=>e=.returned (.int .u8 (bP M rs))∧aa w w':=by
 have aw:=Lib.hid (fun(f:Int) (v:Edge) (av:v.ok) (K:World) (ab:aa w K)=>cX (h.U ab) f v 0 av)
 have a2:=Lib.hid h.wf
 obtain⟨z,Z⟩:∃z,z=rs.length:=⟨_,rfl⟩
 rw[←Z]at a5 ⊢
 have a1:=Lib.hid am
 have ad:=Lib.hid Z
 clear h am Z
 go_enter Tryz.func248,Tryz.ntmps248
 go_wp2
 go_loopg [9] z (fun gk Z wr=>∃d:Nat,Z=.int .i64 (d:Int)∧d+gk=z∧bP M (rs.drop d)=bP M rs∧aa w wr)
 case atStart=>exact⟨0,rfl,by omega,rfl,by(exact kp)⟩
 case round=>
  obtain⟨d,rfl,Z,j,O⟩:=hrel;have U:=Lib.hid j;clear j;by_cases a6:d<z
  ·obtain⟨r,I⟩:∃b,rs[d]?=some b:=⟨_,List.getElem?_eq_getElem (by rw[←ad.out];exact a6)⟩;obtain⟨a3,E,b,off,rfl,W,X,Y⟩:=a1.out d r I;replace W:=O.cell W;replace X:=O.cell X;replace Y:=O.cell Y
   have N:rs.drop d=r::rs.drop (d+1):=by
    obtain⟨hi,z⟩:=List.getElem?_eq_some_iff.1 I;rw[List.drop_eq_getElem_cons hi,z]
   have j:=U.out;rw[N]at j;rw[qh,qg a2.out]at j;obtain⟨f,e⟩:=r;have q:=ik f;have s:=fun(K:World) (ab:aa w K)=>aw.out f e E K ab;dsimp only at a3 E W X Y j;cases A:bG f with
   |false=>
    rw[A]at q j;have J:=Lib.hid q;have t:Hid (bP M rs=4):=Lib.hid (by rw[←j];simp);clear j q s N I E A;go_wp2_with (first|(go_at_call 100;refine(J.out _).mono ?_;rintro L w' ⟨rfl,rfl⟩)|fail)
    go_ret
    exact⟨by rw[t.out];rfl,by(exact kp)⟩
   |true=>
    rw[A]at q j;have J:=Lib.hid q;cases S:M.leads f e 0 with
    |false=>
     rw[S]at s j;have T:=Lib.hid s;have t:Hid (bP M rs=1):=Lib.hid (by rw[←j];simp);clear j q s N I E A S;go_wp2_with (first|(go_at_call 100;refine(J.out _).mono ?_;rintro L w' ⟨rfl,rfl⟩)|(go_at_call 134;refine(T.out _ (by(exact kp))).mono ?_;rintro L a7 ⟨rfl,a4⟩)|fail)
     go_ret
     exact⟨by rw[t.out];rfl,by(exact kp)⟩
    |true=>
     rw[S]at s j;have T:=Lib.hid s;have t:Hid (bP M (rs.drop (d+1))=bP M rs):=Lib.hid (by rw[←j];simp);clear j q s N I E A S;go_wp2_with (first|(go_at_call 100;refine(J.out _).mono ?_;rintro L w' ⟨rfl,rfl⟩)|(go_at_call 134;refine(T.out _ (by(exact kp))).mono ?_;rintro L a7 ⟨rfl,a4⟩)|fail)
     go_roundg (gk-1)
     case rel=>exact⟨d+1,by simp,by omega,t.out,by(exact kp)⟩
     case measure=>omega
  ·have t:Hid (bP M rs=0):=Lib.hid (by rw[←U.out,List.drop_of_length_le (by rw[←ad.out];omega)];rfl);clear U;go_wp2_with fail
   go_ret
   exact⟨by rw[t.out];rfl,O⟩

theorem AX {F Fo:Nat→Prop}{w:World}{E z:Nat}{M:St}{ps:List Int}(h:ag F w E M)(I:bC Fo w z ps) :
  Calls Tryz.prog 212 #[.pointer (some ⟨E,0,none⟩),.pointer (some ⟨z,0,none⟩)] w fun e w'=>e=.returned (.int .u8 (if M.n=(ps.length:Int)then 0 else 1))∧aa w w':=by
 have t:=Lib.hid (fun(z:World) (E:aa w z)=>dw (h.U E))
 have s:=Lib.hid (fun(z:World) (E:aa w z)=>kW (I.U E))
 have L:=h.wf.n0
 have N:=h.wf.bw
 have O:=I.le
 obtain⟨j,J⟩:∃j,j=ps.length:=⟨_,rfl⟩
 obtain⟨n,K⟩:∃n,n=M.n:=⟨_,rfl⟩
 rw[←J]at s O ⊢
 rw[←K]at t L N ⊢
 clear h I J K
 by_cases q:n=(j:Int)
 ·rw[if_pos q];subst q;go_enter Tryz.func212,Tryz.ntmps212
  go_wp2_with (first|(go_at_call 48;refine(t.out _ (by(exact kp))).mono ?_;rintro A w' ⟨rfl,rfl⟩)|(go_at_call 99;refine(s.out _ (by(exact kp))).mono ?_;rintro A w' ⟨rfl,rfl⟩)|fail)
  go_ret
  exact⟨rfl,by(exact kp)⟩
 ·rw[if_neg q];have z:(n !=(j:Int))=true:=by simp[q]
  go_enter Tryz.func212,Tryz.ntmps212
  go_wp2_with (first|(go_at_call 48;refine(t.out _ (by(exact kp))).mono ?_;rintro A w' ⟨rfl,rfl⟩)|(go_at_call 99;refine(s.out _ (by(exact kp))).mono ?_;rintro A w' ⟨rfl,rfl⟩)|fail)
  go_ret
  exact⟨rfl,by(exact kp)⟩

end Go.Proofs.YtafkamlhimkbmaaGreat
