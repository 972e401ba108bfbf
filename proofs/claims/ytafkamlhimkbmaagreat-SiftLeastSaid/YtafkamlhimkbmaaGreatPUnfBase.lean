/-
  Texts: the digits, the tags; the same tables; no 1 in a table.
-/
import Derived.Test.YtafkamlhimkbmaaGreatPRightA
import Derived.Laws.BytesArg
namespace Go.Proofs.YtafkamlhimkbmaaGreat
set_option maxRecDepth 1000000
set_option maxHeartbeats 8000000
set_option linter.unusedSimpArgs false
set_option linter.unusedVariables false
open Go.RowKit

def ay (k:Int):ByteArray:=strOfNums [48+k]

theorem cR (k:Int)(w:World)(s:0≤k)(t:k<10):Calls Tryz.prog 214 #[.int .i64 k] w fun e q=>e=.returned (.string (ay k))∧aa w q:=by
 have q:=run_convert_bytes_arg (P:=Tryz.prog) (w.alloc (.cells #[.int .u8 (48+k)] 5)) 311 5 rfl rfl w.heap.size 0 1 1 [48+k] rfl (fun i hi=>by
  have j:i=0:=by omega
  subst j
  simp) 9 rfl
 go_enter Tryz.func214,Tryz.ntmps214
 go_wp2
 go_ret
 exact⟨rfl,by(exact kp)⟩

theorem nn (k:Int)(w:World)(s:0≤k)(t:k<10):Calls Tryz.prog 215 #[.int .i64 k] w fun e q=>e=.returned (.string (ay k++⟨#[64]⟩))∧aa w q:=by
 have j:=Lib.hid (fun q=>cR k q s t);go_enter Tryz.func215,Tryz.ntmps215
 go_wp2_with (first|(go_at_call 214;refine(j.out _).mono ?_;rintro e w1 ⟨rfl,j⟩)|fail)
 go_ret
 exact⟨rfl,by(exact kp)⟩

def aB (w:World)(B off:Nat)(ts:List Bool):Prop:=∀(i:Nat) (b:Bool),ts[i]?=some b→w.cell? ⟨B,off+i,none⟩=some (.bool b)

theorem aB.U {w j:World}{B off:Nat}{ts:List Bool}(h:aB w B off ts)(q:aa w j):aB j B off ts:=fun i b j=>q.cell (h i b j)

theorem aB.drop {w:World}{B off:Nat}{ts:List Bool}(h:aB w B off ts)(n:Nat):aB w B (off+n) (ts.drop n):=fun i b j=>by
 rw[List.getElem?_drop]at j;have:=h (n+i) b j;rwa[←Nat.add_assoc]at this

theorem aB.take {w:World}{B off:Nat}{ts:List Bool}(h:aB w B off ts)(n:Nat):aB w B off (ts.take n):=fun i b j=>by
 rw[List.getElem?_take]at j;split at j;·exact h i b j
 ·cases j

def aq:List Bool→Bool
 |[]=>true
 |b::j=>!b&&aq j

theorem mB {ts:List Bool}{i:Nat}{b:Bool}(h:ts[i]?=some b):aq (ts.drop i)=(!b&&aq (ts.drop (i+1))):=by
 obtain⟨hi,j⟩:=List.getElem?_eq_some_iff.1 h;rw[List.drop_eq_getElem_cons hi,j];rfl

def aC:List Bool→List Bool→Bool
 |[],[]=>true
 |a::j,b::q=>decide (a=b)&&aC j q
 |_,_=>false

theorem eo:∀{j q:List Bool},aC j q=true↔j=q
 |[],[]=>by simp[aC]
 |a::j,b::q=>by simp[aC,eo]
 |[],b::q=>by simp[aC]
 |a::j,[]=>by simp[aC]

theorem zs {j q:List Bool}(h:j.length≠q.length):aC j q=false:=by
 cases s:aC j q with
 |false=>rfl
 |true=>exact absurd (congrArg List.length (eo.1 s)) h

theorem zr {s t:List Bool}{i:Nat}{a b:Bool}(j:s[i]?=some a)(q:t[i]?=some b):aC (s.drop i) (t.drop i)=(decide (a=b)&&aC (s.drop (i+1)) (t.drop (i+1))):=by
 obtain⟨hi,j⟩:=List.getElem?_eq_some_iff.1 j;obtain⟨s,q⟩:=List.getElem?_eq_some_iff.1 q;rw[List.drop_eq_getElem_cons hi,List.drop_eq_getElem_cons s,j,q];rfl

theorem xG {B off:Nat}{ts:List Bool}(cap:Nat)(w:World)(h:aB w B off ts)(K:ts.length≤1048576) :
  Calls Tryz.prog 232 #[.slice (some ⟨B,off,none⟩) ts.length cap] w fun e N=>e=.returned (.bool (aq ts))∧w=N:=by
 obtain⟨j,s⟩:∃j,j=ts.length:=⟨_,rfl⟩
 rw[←s]at K ⊢
 have H:=Lib.hid h
 have z:=Lib.hid s
 clear h s
 go_enter Tryz.func232,Tryz.ntmps232
 go_wp2
 go_loopg [3] j (fun gk s wr=>∃d:Nat,s=.int .i64 (d:Int)∧d+gk=j∧aq (ts.drop d)=aq ts∧w=wr)
 case atStart=>exact⟨0,rfl,by omega,rfl,rfl⟩
 case round=>
  obtain⟨d,rfl,O,A,rfl⟩:=hrel;have q:=Lib.hid A;clear A;by_cases L:d<j
  ·obtain⟨b,s⟩:∃b,ts[d]?=some b:=⟨_,List.getElem?_eq_getElem (by rw[←z.out];exact L)⟩;have A:=H.out d b s;have A:=mB s;have t:=Lib.hid A;clear A s;cases b
   ·go_wp2_with fail
    go_roundg (gk-1)
    case rel=>exact⟨d+1,by simp,by omega,by rw[←q.out,t.out];rfl,rfl⟩
    case measure=>omega
   ·go_wp2_with fail
    go_ret
    exact⟨by rw[←q.out,t.out];rfl,rfl⟩
  ·have J:d=j:=(by omega);have E:aq ts=true:=(by rw[←q.out,List.drop_of_length_le (by rw[←z.out];omega)];rfl);have I:=Lib.hid E;clear J E;go_wp2_with fail
   go_ret
   exact⟨by rw[I.out];rfl,rfl⟩

theorem il {B off:Nat}{ts:List Bool}(cap:Nat)(w:World)(h:aB w B off ts)(K:ts.length≤1048576) :
  Calls Tryz.prog 235 #[.slice (some ⟨B,off,none⟩) ts.length cap] w fun e N=>e=.returned (.bool (aq ts))∧w=N:=by
 obtain⟨j,s⟩:∃j,j=ts.length:=⟨_,rfl⟩
 rw[←s]at K ⊢
 have H:=Lib.hid h
 have z:=Lib.hid s
 clear h s
 go_enter Tryz.func235,Tryz.ntmps235
 go_wp2
 go_loopg [3] j (fun gk s wr=>∃d:Nat,s=.int .i64 (d:Int)∧d+gk=j∧aq (ts.drop d)=aq ts∧w=wr)
 case atStart=>exact⟨0,rfl,by omega,rfl,rfl⟩
 case round=>
  obtain⟨d,rfl,O,A,rfl⟩:=hrel;have q:=Lib.hid A;clear A;by_cases L:d<j
  ·obtain⟨b,s⟩:∃b,ts[d]?=some b:=⟨_,List.getElem?_eq_getElem (by rw[←z.out];exact L)⟩;have A:=H.out d b s;have A:=mB s;have t:=Lib.hid A;clear A s;cases b
   ·go_wp2_with fail
    go_roundg (gk-1)
    case rel=>exact⟨d+1,by simp,by omega,by rw[←q.out,t.out];rfl,rfl⟩
    case measure=>omega
   ·go_wp2_with fail
    go_ret
    exact⟨by rw[←q.out,t.out];rfl,rfl⟩
  ·have J:d=j:=(by omega);have E:aq ts=true:=(by rw[←q.out,List.drop_of_length_le (by rw[←z.out];omega)];rfl);have I:=Lib.hid E;clear J E;go_wp2_with fail
   go_ret
   exact⟨by rw[I.out];rfl,rfl⟩

theorem mA {B off:Nat}{ts:List Bool}(cap:Nat)(w:World)(h:aB w B off ts)(K:ts.length≤1048576) :
  Calls Tryz.prog 237 #[.slice (some ⟨B,off,none⟩) ts.length cap] w fun e N=>e=.returned (.bool (aq ts))∧w=N:=by
 obtain⟨j,s⟩:∃j,j=ts.length:=⟨_,rfl⟩
 rw[←s]at K ⊢
 have H:=Lib.hid h
 have z:=Lib.hid s
 clear h s
 go_enter Tryz.func237,Tryz.ntmps237
 go_wp2
 go_loopg [3] j (fun gk s wr=>∃d:Nat,s=.int .i64 (d:Int)∧d+gk=j∧aq (ts.drop d)=aq ts∧w=wr)
 case atStart=>exact⟨0,rfl,by omega,rfl,rfl⟩
 case round=>
  obtain⟨d,rfl,O,A,rfl⟩:=hrel;have q:=Lib.hid A;clear A;by_cases L:d<j
  ·obtain⟨b,s⟩:∃b,ts[d]?=some b:=⟨_,List.getElem?_eq_getElem (by rw[←z.out];exact L)⟩;have A:=H.out d b s;have A:=mB s;have t:=Lib.hid A;clear A s;cases b
   ·go_wp2_with fail
    go_roundg (gk-1)
    case rel=>exact⟨d+1,by simp,by omega,by rw[←q.out,t.out];rfl,rfl⟩
    case measure=>omega
   ·go_wp2_with fail
    go_ret
    exact⟨by rw[←q.out,t.out];rfl,rfl⟩
  ·have J:d=j:=(by omega);have E:aq ts=true:=(by rw[←q.out,List.drop_of_length_le (by rw[←z.out];omega)];rfl);have I:=Lib.hid E;clear J E;go_wp2_with fail
   go_ret
   exact⟨by rw[I.out];rfl,rfl⟩

theorem kV {B J off Z:Nat}{ss ts:List Bool}(cap cap2:Nat)(w:World)(E:aB w B off ss)(I:aB w J Z ts)(X:ss.length≤1048576)(Y:ts.length≤1048576) :
  Calls Tryz.prog 229 #[.slice (some ⟨B,off,none⟩) ss.length cap,.slice (some ⟨J,Z,none⟩) ts.length cap2] w fun e aw=>e=.returned (.bool (aC ss ts))∧aa w aw:=by
 by_cases s:ss.length=ts.length
 ·obtain⟨j,q⟩:∃j,j=ss.length:=⟨_,rfl⟩;have J:j=ts.length:=q.trans s;rw[←J,←q];rw[←q]at X;have ab:=Lib.hid E;have ad:=Lib.hid I;have O:=Lib.hid q;have N:=Lib.hid J;clear E I q J s Y;go_enter Tryz.func229,Tryz.ntmps229
  go_wp2
  go_loopg [5] j (fun gk J wr=>∃d:Nat,J=.int .i64 (d:Int)∧d+gk=j∧aC (ss.drop d) (ts.drop d)=aC ss ts∧aa w wr)
  case atStart=>exact⟨0,rfl,by omega,rfl,by(exact kp)⟩
  case round=>
   obtain⟨d,rfl,Z,J,L⟩:=hrel;have t:=Lib.hid J;clear J;by_cases T:d<j
   ·obtain⟨a,K⟩:∃b,ss[d]?=some b:=⟨_,List.getElem?_eq_getElem (by rw[←O.out];exact T)⟩;obtain⟨b,J⟩:∃b,ts[d]?=some b:=⟨_,List.getElem?_eq_getElem (by rw[←N.out];exact T)⟩;have T:=L.cell (ab.out d a K);have T:=L.cell (ad.out d b J);have T:=zr K J;have z:=Lib.hid T;have Z:(0:Int)≤(d:Int):=(by omega);have Z:(d:Int)<(j:Int):=(by omega);clear T K J;cases a<;>cases b
    case false.false=>
     go_wp2_with fail
     go_quiet (fail)
     go_wp2
     go_roundg (gk-1)
     case rel=>exact⟨d+1,by simp,by omega,by rw[←t.out,z.out];rfl,by(exact kp)⟩
     case measure=>omega
    case true.true=>
     go_wp2_with fail
     go_quiet (fail)
     go_wp2
     go_roundg (gk-1)
     case rel=>exact⟨d+1,by simp,by omega,by rw[←t.out,z.out];rfl,by(exact kp)⟩
     case measure=>omega
    all_goals
     go_wp2_with fail
     go_quiet (fail)
     go_wp2
     go_ret
     exact⟨by rw[←t.out,z.out];rfl,by(exact kp)⟩
   ·have av:d=j:=(by omega);have W:aC ss ts=true:=(by rw[←t.out,List.drop_of_length_le (by rw[←O.out];omega),List.drop_of_length_le (by rw[←N.out];omega)];rfl);have am:=Lib.hid W;clear av W;go_wp2_with fail
    go_ret
    exact⟨by rw[am.out];rfl,L⟩
 ·have U:=zs s;obtain⟨j,q⟩:∃j,j=ss.length:=⟨_,rfl⟩;obtain⟨A,S⟩:∃A,A=ts.length:=⟨_,rfl⟩;rw[U];rw[←q,←S]at s ⊢;have t:((j:Int) !=(A:Int))=true:=by simp;omega
  clear E I X Y q S U s;go_enter Tryz.func229,Tryz.ntmps229
  go_wp2
  go_ret
  exact⟨rfl,by(exact kp)⟩

theorem vo {B off:Nat}(p cap:Nat)(w:World)(t:1≤p)(s:2*p≤cap)(q:cap≤1048576) :
  Calls Tryz.prog 228 #[.slice (some ⟨B,off,none⟩) (2*p) cap] w fun e j=>e=.returned (.tuple #[.slice (some ⟨B,off,none⟩) p cap,.slice (some ⟨B,off+p,none⟩) p (cap-p)])∧aa w j:=by
 have j:(2*(p:Int)) / 2=(p:Int):=by omega
 have q:((2*(p:Int)).tdiv 2)=(p:Int):=by rw[Int.tdiv_eq_ediv_of_nonneg (by omega)];exact j
 go_enter Tryz.func228,Tryz.ntmps228
 go_wp2_with fail
 go_quiet (fail)
 go_wp2
 rw[show 2*p-p=p by omega]
 go_ret2
 exact⟨rfl,by(exact kp)⟩

theorem vp {B off:Nat}(p cap:Nat)(w:World)(t:1≤p)(s:2*p≤cap)(q:cap≤1048576) :
  Calls Tryz.prog 231 #[.slice (some ⟨B,off,none⟩) (2*p) cap] w fun e j=>e=.returned (.tuple #[.slice (some ⟨B,off,none⟩) p cap,.slice (some ⟨B,off+p,none⟩) p (cap-p)])∧aa w j:=by
 have j:(2*(p:Int)) / 2=(p:Int):=by omega
 have q:((2*(p:Int)).tdiv 2)=(p:Int):=by rw[Int.tdiv_eq_ediv_of_nonneg (by omega)];exact j
 go_enter Tryz.func231,Tryz.ntmps231
 go_wp2_with fail
 go_quiet (fail)
 go_wp2
 rw[show 2*p-p=p by omega]
 go_ret2
 exact⟨rfl,by(exact kp)⟩

theorem kl {B off:Nat}(p cap:Nat)(w:World)(t:1≤p)(s:2*p≤cap)(q:cap≤1048576) :
  Calls Tryz.prog 234 #[.slice (some ⟨B,off,none⟩) (2*p) cap] w fun e j=>e=.returned (.tuple #[.slice (some ⟨B,off,none⟩) p cap,.slice (some ⟨B,off+p,none⟩) p (cap-p)])∧aa w j:=by
 have j:(2*(p:Int)) / 2=(p:Int):=by omega
 have q:((2*(p:Int)).tdiv 2)=(p:Int):=by rw[Int.tdiv_eq_ediv_of_nonneg (by omega)];exact j
 go_enter Tryz.func234,Tryz.ntmps234
 go_wp2_with fail
 go_quiet (fail)
 go_wp2
 rw[show 2*p-p=p by omega]
 go_ret2
 exact⟨rfl,by(exact kp)⟩

theorem lX {B off:Nat}(p cap:Nat)(w:World)(t:1≤p)(s:2*p≤cap)(q:cap≤1048576) :
  Calls Tryz.prog 236 #[.slice (some ⟨B,off,none⟩) (2*p) cap] w fun e j=>e=.returned (.tuple #[.slice (some ⟨B,off,none⟩) p cap,.slice (some ⟨B,off+p,none⟩) p (cap-p)])∧aa w j:=by
 have j:(2*(p:Int)) / 2=(p:Int):=by omega
 have q:((2*(p:Int)).tdiv 2)=(p:Int):=by rw[Int.tdiv_eq_ediv_of_nonneg (by omega)];exact j
 go_enter Tryz.func236,Tryz.ntmps236
 go_wp2_with fail
 go_quiet (fail)
 go_wp2
 rw[show 2*p-p=p by omega]
 go_ret2
 exact⟨rfl,by(exact kp)⟩

theorem km {B off:Nat}(p cap:Nat)(w:World)(t:1≤p)(s:2*p≤cap)(q:cap≤1048576) :
  Calls Tryz.prog 238 #[.slice (some ⟨B,off,none⟩) (2*p) cap] w fun e j=>e=.returned (.tuple #[.slice (some ⟨B,off,none⟩) p cap,.slice (some ⟨B,off+p,none⟩) p (cap-p)])∧aa w j:=by
 have j:(2*(p:Int)) / 2=(p:Int):=by omega
 have q:((2*(p:Int)).tdiv 2)=(p:Int):=by rw[Int.tdiv_eq_ediv_of_nonneg (by omega)];exact j
 go_enter Tryz.func238,Tryz.ntmps238
 go_wp2_with fail
 go_quiet (fail)
 go_wp2
 rw[show 2*p-p=p by omega]
 go_ret2
 exact⟨rfl,by(exact kp)⟩

def ar (f:Int)(M:St):Nat→Edge→ByteArray
 |0,_=>⟨#[63]⟩
 |n+1,e=>
  if f=5 then
   if e.to=0 then⟨#[48]⟩else if e.to=1 then ay e.tag++⟨#[64]⟩++⟨#[49]⟩
   else ay e.tag++⟨#[64]⟩++⟨#[40]⟩++ay (al (look M.cs e.to)).I++⟨#[32]⟩++ar f M n (al (look M.cs e.to)).lo++⟨#[32]⟩++ar f M n (al (look M.cs e.to)).hi++⟨#[41]⟩
  else if e.to<2 then ay e.to
  else if f=3∨f=4 then⟨#[40]⟩++ay (al (look M.cs e.to)).I++⟨#[58]⟩++ay (al (look M.cs e.to)).J++⟨#[32]⟩++ar f M n (al (look M.cs e.to)).lo++⟨#[32]⟩++ar f M n (al (look M.cs e.to)).hi++⟨#[41]⟩
  else⟨#[40]⟩++ay (al (look M.cs e.to)).I++⟨#[32]⟩++ar f M n (al (look M.cs e.to)).lo++⟨#[32]⟩++ar f M n (al (look M.cs e.to)).hi++⟨#[41]⟩

theorem bH (k:Int):(ay k).size=1:=rfl

theorem BW (f:Int)(M:St):∀(n:Nat) (e:Edge),(ar f M n e).size+7≤8*2 ^ n:=by
 intro n;induction n with
 |zero=>intro e;exact Nat.le_refl 8
 |succ n j=>
  intro e;have q:=j (al (look M.cs e.to)).lo;have q:=j (al (look M.cs e.to)).hi;have j:0<2 ^ n:=Nat.pow_pos (by decide);have j:2 ^ (n+1)=2*2 ^ n:=by rw[Nat.pow_succ];omega
  rw[j];unfold ar;split
  ·split;·show 1+7≤_;omega
   ·split;·simp only[ByteArray.size_append,bH];show 1+1+1+7≤_;omega
    ·simp only[ByteArray.size_append,bH];show 1+1+1+1+1+_+1+_+1+7≤_;omega
  ·split;·rw[bH];omega
   ·split
    ·simp only[ByteArray.size_append,bH];show 1+1+1+1+1+_+1+_+1+7≤_;omega
    ·simp only[ByteArray.size_append,bH];show 1+1+1+_+1+_+1+7≤_;omega

theorem fP (f:Int)(M:St){n:Nat}(j:n≤20)(e:Edge):(ar f M n e).size≤8388608:=by
 have h:=BW f M n e;have q:2 ^ n≤2 ^ 20:=Nat.pow_le_pow_right (by decide) j;have j:(2:Nat) ^ 20=1048576:=rfl;omega

theorem jw {M:St}(h:M.wf)(j:M.n≤9)(id:Int):(al (look M.cs id)).I<10∧(al (look M.cs id)).J<10:=by
 cases j:look M.cs id with
 |none=>exact⟨by decide,by decide⟩
 |some r=>
  have:=(h.b7 j).tb;have:=(h.b7 j).bn;show r.I<10∧r.J<10;omega

theorem AP {F:Nat→Prop}{w:World}{ab:Nat}{M:St}(h:ag F w ab M)(v:Edge)(l:Int)(Z:v.ok) :
  Calls Tryz.prog 153 #[.pointer (some ⟨ab,0,none⟩),.agg #[.int .u8 v.tag,.int .u32 v.to],.int .i64 l] w fun r ad=>r=.returned (.bool (ba M 5 v l))∧aa w ad:=by
 have bv:=Lib.hid h.wf
 have bg:=Lib.hid (fun(id:Int) (r:Rec) (bi:look M.cs id=some r)=>h.b1 bi)
 have bi:=h.wf.br
 have bi:=h.b0
 have br:=mN h.wf h.b0 [v.to]
 have bb:=Lib.hid (fun(j:World) (s:aa w j) (id:Int) (hid:id≤4294967295)=>dU (h.U s) id hid)
 have E:=fun(j:World) (s:aa w j)=>cV (h.U s) 5 v l Z
 have be:=Lib.hid (fun(j:World) (s:aa w j) (b:Nat) (cap:Nat) (bi:fF j (some ⟨b,0,none⟩) 1 [v])=>mO (h.U s) (some ⟨b,0,none⟩) 1 cap [v] bi (by omega))
 clear h
 rcases cI (M.leads 5 v l)with t|t
 ·rw[t]at E;have S:=Lib.hid E;have a':=Lib.hid (mT t);clear E t;go_enter Tryz.func153,Tryz.ntmps153
  go_wp2_with (first|(go_at_call 134;refine(S.out _ (by(exact kp))).mono ?_;rintro e w1 ⟨rfl,z⟩)|fail)
  go_ret
  exact⟨by rw[a'.out];rfl,by(exact kp)⟩
 ·rw[t]at E;have S:=Lib.hid E;have a7:=Lib.hid t;clear E t;go_enter Tryz.func153,Tryz.ntmps153
  go_wp2_with (first|(go_at_call 134;refine(S.out _ (by(exact kp))).mono ?_;rintro e w1 ⟨rfl,z⟩;have bx:w1.cell? ⟨w.heap.size,0,none⟩=some (.int .u8 v.tag):=z.cell (by simp);have b0:w1.cell? ⟨w.heap.size,1,none⟩=some (.int .u32 v.to):=z.cell (by simp);have bn:aa w w1:=(by(exact kp)))|fail)
  refine(be.out _ (by(exact kp)) _ _ (mc Z (by simp[go_sem]) (by simp[go_sem]))).mono ?_;rintro e am ⟨bw,rfl,Y,bp⟩;obtain⟨ids,L⟩:∃ids,ids=aN M.cs [v.to]:=⟨_,rfl⟩;have Y:iE am bw ids:=by rw[L];exact Y
  rw[←L]at br;obtain⟨a,cap,rfl,t⟩:=Y;have K:=Lib.hid L;have a8:=Lib.hid t;have A:=Lib.hid (show aa w am by(exact kp));clear L t bp z bn bx b0 Z;go_wp2_with fail
  go_loopg [21] ids.length (fun gk t wr=>∃d:Nat,d+gk=ids.length∧t=.int .i64 (d:Int)∧aa am wr∧∀(i:Nat) (id:Int),i<d→ids[i]?=some id→aR M 5 (al (look M.cs id))=false)
  case atStart=>exact⟨0,by omega,rfl,aa.refl _,fun i id hi=>absurd hi (by omega)⟩
  case round=>
   obtain⟨d,b1,rfl,z,t⟩:=hrel;have q:=Lib.hid z;have aw:=Lib.hid t;clear z t;by_cases bs:d<ids.length
   ·obtain⟨id,hid⟩:∃id,ids[d]?=some id:=⟨_,List.getElem?_eq_getElem bs⟩;obtain⟨g,rfl,a3⟩:=a8.out d id hid;have t:=q.out.cell a3;have av:=Lib.hid hid;obtain⟨x,J,W,t,z⟩:=mP bv.out (d:=d) (id:=id) (es:=[v.to]) (by rw[←K.out];exact hid);have t:=W.tb;have t:=W.bn;have N:=bg.out id x J;have tok:0≤x.I:=N.I.1;have t:0≤x.J:=N.J.1;have t:=N.lo.2.2;have t:=Lib.hid J;have bq:aa w wr:=A.out.trans q.out
    have a4:Hid (aR M 5 (al (look M.cs id))=false→∀(i:Nat) (t:Int),i<d+1→ids[i]?=some t→aR M 5 (al (look M.cs t))=false):=Lib.hid (fun X i t hi I=>by
     by_cases hid:i<d;·exact aw.out i t hid I
     ·obtain rfl:i=d:=(by omega);rw[av.out]at I;cases I
      exact X)
    have bt:Hid (aR M 5 (al (look M.cs id))=true→ba M 5 v l=false):=Lib.hid (fun X=>mR (d:=d) (id:=id) (by rw[←K.out];exact av.out) X);clear hid a3 N
    have O:Hid (∀j,aa w j→Calls Tryz.prog 78 #[.pointer (some ⟨ab,0,none⟩),.int .u32 id] j fun e ad=>e=.returned (.tuple #[.agg #[.int .u8 x.ad,.int .u8 x.I,.int .u8 x.J,.int .u8 x.lo.tag,.int .u32 x.lo.to,.int .u8 x.hi.tag,.int .u32 x.hi.to],.bool true])∧aa j ad):=
     Lib.hid (fun j s=>by have:=bb.out j s id (by omega);rw[J]at this;exact this)
    have a5:aR M 5 (al (look M.cs id))=(decide (x.hi.to=0)&&decide (x.lo.tag=x.I+1)):=(by rw[J];rfl);have T:=Lib.hid a5;clear a5;clear J bq W;by_cases U:x.hi.to=0
    ·by_cases a1:x.lo.tag=x.I+1
     ·go_wp2_with (first|(go_at_call 78;refine(O.out _ (A.out.trans q.out)).mono ?_;rintro e a6 ⟨rfl,a2⟩)|fail)
      go_ret
      exact⟨by rw[bt.out (by rw[T.out];simp[U,a1])];rfl,by have:=A.out;have:=q.out;(exact kp)⟩
     ·go_wp2_with (first|(go_at_call 78;refine(O.out _ (A.out.trans q.out)).mono ?_;rintro e a6 ⟨rfl,a2⟩)|fail)
      go_roundg (gk-1)
      case rel=>exact⟨d+1,by omega,by simp,by have:=q.out;(exact kp),a4.out (by rw[T.out];simp[U,a1])⟩
      case measure=>omega
    ·go_wp2_with (first|(go_at_call 78;refine(O.out _ (A.out.trans q.out)).mono ?_;rintro e a6 ⟨rfl,a2⟩)|fail)
     go_roundg (gk-1)
     case rel=>exact⟨d+1,by omega,by simp,by have:=q.out;(exact kp),a4.out (by rw[T.out];simp[U])⟩
     case measure=>omega
   ·go_wp2
    go_ret
    have j:d=ids.length:=(by omega);refine⟨by rw[mS a7.out (fun i id hi I=>aw.out i id (by rw[←K.out]at hi;omega) (by rw[K.out];exact I))];rfl,A.out.trans q.out⟩

end Go.Proofs.YtafkamlhimkbmaaGreat
