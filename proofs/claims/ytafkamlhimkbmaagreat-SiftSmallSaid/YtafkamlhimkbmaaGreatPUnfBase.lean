/-
  Texts: the digits, the tags; the same tables; no 1 in a table.
-/
import Derived.Test.YtafkamlhimkbmaaGreatPRightA
import Derived.Laws.BytesArg
namespace Go.Proofs.YtafkamlhimkbmaaGreat
set_option maxRecDepth 1000000
set_option maxHeartbeats 8000000
set_option linter.unusedSimpArgs false
set_option linter.unusedVariables false
open Go.RowKit

def aB (k:Int):ByteArray:=strOfNums [48+k]

theorem cU (k:Int)(w:World)(q:0≤k)(s:k<10):Calls Tryz.prog 214 #[.int .i64 k] w fun e w'=>e=.returned (.string (aB k))∧aa w w':=by
 have q:=run_convert_bytes_arg (P:=Tryz.prog) (w.alloc (.cells #[.int .u8 (48+k)] 5)) 311 5 rfl rfl w.heap.size 0 1 1 [48+k] rfl (fun i hi=>by
  have j:i=0:=by omega
  subst j
  simp) 9 rfl
 go_enter Tryz.func214,Tryz.ntmps214
 go_wp2
 go_ret
 exact⟨rfl,by(exact kp)⟩

theorem oe (k:Int)(w:World)(s:0≤k)(t:k<10):Calls Tryz.prog 215 #[.int .i64 k] w fun e w'=>e=.returned (.string (aB k++⟨#[64]⟩))∧aa w w':=by
 have j:=Lib.hid (fun q=>cU k q s t);go_enter Tryz.func215,Tryz.ntmps215
 go_wp2_with (first|(go_at_call 214;refine(j.out _).mono ?_;rintro e w1 ⟨rfl,j⟩)|fail)
 go_ret
 exact⟨rfl,by(exact kp)⟩

def aE (w:World)(B off:Nat)(ts:List Bool):Prop:=∀(i:Nat) (b:Bool),ts[i]?=some b→w.cell? ⟨B,off+i,none⟩=some (.bool b)

theorem aE.U {w j:World}{B off:Nat}{ts:List Bool}(h:aE w B off ts)(q:aa w j):aE j B off ts:=fun i b j=>q.cell (h i b j)

theorem aE.drop {w:World}{B off:Nat}{ts:List Bool}(h:aE w B off ts)(n:Nat):aE w B (off+n) (ts.drop n):=fun i b j=>by
 rw[List.getElem?_drop]at j;have:=h (n+i) b j;rwa[←Nat.add_assoc]at this

theorem aE.take {w:World}{B off:Nat}{ts:List Bool}(h:aE w B off ts)(n:Nat):aE w B off (ts.take n):=fun i b j=>by
 rw[List.getElem?_take]at j;split at j;·exact h i b j
 ·cases j

def ax:List Bool→Bool
 |[]=>true
 |b::j=>!b&&ax j

theorem mW {ts:List Bool}{i:Nat}{b:Bool}(h:ts[i]?=some b):ax (ts.drop i)=(!b&&ax (ts.drop (i+1))):=by
 obtain⟨hi,j⟩:=List.getElem?_eq_some_iff.1 h;rw[List.drop_eq_getElem_cons hi,j];rfl

def aF:List Bool→List Bool→Bool
 |[],[]=>true
 |a::j,b::q=>decide (a=b)&&aF j q
 |_,_=>false

theorem eD:∀{j q:List Bool},aF j q=true↔j=q
 |[],[]=>by simp[aF]
 |a::j,b::q=>by simp[aF,eD]
 |[],b::q=>by simp[aF]
 |a::j,[]=>by simp[aF]

theorem zN {j q:List Bool}(h:j.length≠q.length):aF j q=false:=by
 cases s:aF j q with
 |false=>rfl
 |true=>exact absurd (congrArg List.length (eD.1 s)) h

theorem zM {s t:List Bool}{i:Nat}{a b:Bool}(j:s[i]?=some a)(q:t[i]?=some b):aF (s.drop i) (t.drop i)=(decide (a=b)&&aF (s.drop (i+1)) (t.drop (i+1))):=by
 obtain⟨hi,j⟩:=List.getElem?_eq_some_iff.1 j;obtain⟨s,q⟩:=List.getElem?_eq_some_iff.1 q;rw[List.drop_eq_getElem_cons hi,List.drop_eq_getElem_cons s,j,q];rfl

theorem yb {B off:Nat}{ts:List Bool}(cap:Nat)(w:World)(h:aE w B off ts)(K:ts.length≤1048576) :
  Calls Tryz.prog 232 #[.slice (some ⟨B,off,none⟩) ts.length cap] w fun e w'=>e=.returned (.bool (ax ts))∧w=w':=by
 obtain⟨j,s⟩:∃j,j=ts.length:=⟨_,rfl⟩
 rw[←s]at K ⊢
 have H:=Lib.hid h
 have z:=Lib.hid s
 clear h s
 go_enter Tryz.func232,Tryz.ntmps232
 go_wp2
 go_loopg [3] j (fun gk s wr=>∃d:Nat,s=.int .i64 (d:Int)∧d+gk=j∧ax (ts.drop d)=ax ts∧w=wr)
 case atStart=>exact⟨0,rfl,by omega,rfl,rfl⟩
 case round=>
  obtain⟨d,rfl,N,A,rfl⟩:=hrel;have q:=Lib.hid A;clear A;by_cases L:d<j
  ·obtain⟨b,s⟩:∃b,ts[d]?=some b:=⟨_,List.getElem?_eq_getElem (by rw[←z.out];exact L)⟩;have A:=H.out d b s;have A:=mW s;have t:=Lib.hid A;clear A s;cases b
   ·go_wp2_with fail
    go_roundg (gk-1)
    case rel=>exact⟨d+1,by simp,by omega,by rw[←q.out,t.out];rfl,rfl⟩
    case measure=>omega
   ·go_wp2_with fail
    go_ret
    exact⟨by rw[←q.out,t.out];rfl,rfl⟩
  ·have J:d=j:=(by omega);have E:ax ts=true:=(by rw[←q.out,List.drop_of_length_le (by rw[←z.out];omega)];rfl);have I:=Lib.hid E;clear J E;go_wp2_with fail
   go_ret
   exact⟨by rw[I.out];rfl,rfl⟩

theorem im {B off:Nat}{ts:List Bool}(cap:Nat)(w:World)(h:aE w B off ts)(K:ts.length≤1048576) :
  Calls Tryz.prog 235 #[.slice (some ⟨B,off,none⟩) ts.length cap] w fun e w'=>e=.returned (.bool (ax ts))∧w=w':=by
 obtain⟨j,s⟩:∃j,j=ts.length:=⟨_,rfl⟩
 rw[←s]at K ⊢
 have H:=Lib.hid h
 have z:=Lib.hid s
 clear h s
 go_enter Tryz.func235,Tryz.ntmps235
 go_wp2
 go_loopg [3] j (fun gk s wr=>∃d:Nat,s=.int .i64 (d:Int)∧d+gk=j∧ax (ts.drop d)=ax ts∧w=wr)
 case atStart=>exact⟨0,rfl,by omega,rfl,rfl⟩
 case round=>
  obtain⟨d,rfl,N,A,rfl⟩:=hrel;have q:=Lib.hid A;clear A;by_cases L:d<j
  ·obtain⟨b,s⟩:∃b,ts[d]?=some b:=⟨_,List.getElem?_eq_getElem (by rw[←z.out];exact L)⟩;have A:=H.out d b s;have A:=mW s;have t:=Lib.hid A;clear A s;cases b
   ·go_wp2_with fail
    go_roundg (gk-1)
    case rel=>exact⟨d+1,by simp,by omega,by rw[←q.out,t.out];rfl,rfl⟩
    case measure=>omega
   ·go_wp2_with fail
    go_ret
    exact⟨by rw[←q.out,t.out];rfl,rfl⟩
  ·have J:d=j:=(by omega);have E:ax ts=true:=(by rw[←q.out,List.drop_of_length_le (by rw[←z.out];omega)];rfl);have I:=Lib.hid E;clear J E;go_wp2_with fail
   go_ret
   exact⟨by rw[I.out];rfl,rfl⟩

theorem mV {B off:Nat}{ts:List Bool}(cap:Nat)(w:World)(h:aE w B off ts)(K:ts.length≤1048576) :
  Calls Tryz.prog 237 #[.slice (some ⟨B,off,none⟩) ts.length cap] w fun e w'=>e=.returned (.bool (ax ts))∧w=w':=by
 obtain⟨j,s⟩:∃j,j=ts.length:=⟨_,rfl⟩
 rw[←s]at K ⊢
 have H:=Lib.hid h
 have z:=Lib.hid s
 clear h s
 go_enter Tryz.func237,Tryz.ntmps237
 go_wp2
 go_loopg [3] j (fun gk s wr=>∃d:Nat,s=.int .i64 (d:Int)∧d+gk=j∧ax (ts.drop d)=ax ts∧w=wr)
 case atStart=>exact⟨0,rfl,by omega,rfl,rfl⟩
 case round=>
  obtain⟨d,rfl,N,A,rfl⟩:=hrel;have q:=Lib.hid A;clear A;by_cases L:d<j
  ·obtain⟨b,s⟩:∃b,ts[d]?=some b:=⟨_,List.getElem?_eq_getElem (by rw[←z.out];exact L)⟩;have A:=H.out d b s;have A:=mW s;have t:=Lib.hid A;clear A s;cases b
   ·go_wp2_with fail
    go_roundg (gk-1)
    case rel=>exact⟨d+1,by simp,by omega,by rw[←q.out,t.out];rfl,rfl⟩
    case measure=>omega
   ·go_wp2_with fail
    go_ret
    exact⟨by rw[←q.out,t.out];rfl,rfl⟩
  ·have J:d=j:=(by omega);have E:ax ts=true:=(by rw[←q.out,List.drop_of_length_le (by rw[←z.out];omega)];rfl);have I:=Lib.hid E;clear J E;go_wp2_with fail
   go_ret
   exact⟨by rw[I.out];rfl,rfl⟩

theorem ln {B J off Z:Nat}{ss ts:List Bool}(cap cap2:Nat)(w:World)(E:aE w B off ss)(I:aE w J Z ts)(X:ss.length≤1048576)(Y:ts.length≤1048576) :
  Calls Tryz.prog 229 #[.slice (some ⟨B,off,none⟩) ss.length cap,.slice (some ⟨J,Z,none⟩) ts.length cap2] w fun e w'=>e=.returned (.bool (aF ss ts))∧aa w w':=by
 by_cases s:ss.length=ts.length
 ·obtain⟨j,q⟩:∃j,j=ss.length:=⟨_,rfl⟩;have J:j=ts.length:=q.trans s;rw[←J,←q];rw[←q]at X;have ab:=Lib.hid E;have ad:=Lib.hid I;have O:=Lib.hid q;have N:=Lib.hid J;clear E I q J s Y;go_enter Tryz.func229,Tryz.ntmps229
  go_wp2
  go_loopg [5] j (fun gk J wr=>∃d:Nat,J=.int .i64 (d:Int)∧d+gk=j∧aF (ss.drop d) (ts.drop d)=aF ss ts∧aa w wr)
  case atStart=>exact⟨0,rfl,by omega,rfl,by(exact kp)⟩
  case round=>
   obtain⟨d,rfl,Z,J,L⟩:=hrel;have t:=Lib.hid J;clear J;by_cases T:d<j
   ·obtain⟨a,K⟩:∃b,ss[d]?=some b:=⟨_,List.getElem?_eq_getElem (by rw[←O.out];exact T)⟩;obtain⟨b,J⟩:∃b,ts[d]?=some b:=⟨_,List.getElem?_eq_getElem (by rw[←N.out];exact T)⟩;have T:=L.cell (ab.out d a K);have T:=L.cell (ad.out d b J);have T:=zM K J;have z:=Lib.hid T;have Z:(0:Int)≤(d:Int):=(by omega);have Z:(d:Int)<(j:Int):=(by omega);clear T K J;cases a<;>cases b
    case false.false=>
     go_wp2_with fail
     go_quiet (fail)
     go_wp2
     go_roundg (gk-1)
     case rel=>exact⟨d+1,by simp,by omega,by rw[←t.out,z.out];rfl,by(exact kp)⟩
     case measure=>omega
    case true.true=>
     go_wp2_with fail
     go_quiet (fail)
     go_wp2
     go_roundg (gk-1)
     case rel=>exact⟨d+1,by simp,by omega,by rw[←t.out,z.out];rfl,by(exact kp)⟩
     case measure=>omega
    all_goals
     go_wp2_with fail
     go_quiet (fail)
     go_wp2
     go_ret
     exact⟨by rw[←t.out,z.out];rfl,by(exact kp)⟩
   ·have av:d=j:=(by omega);have W:aF ss ts=true:=(by rw[←t.out,List.drop_of_length_le (by rw[←O.out];omega),List.drop_of_length_le (by rw[←N.out];omega)];rfl);have am:=Lib.hid W;clear av W;go_wp2_with fail
    go_ret
    exact⟨by rw[am.out];rfl,L⟩
 ·have U:=zN s;obtain⟨j,q⟩:∃j,j=ss.length:=⟨_,rfl⟩;obtain⟨A,S⟩:∃A,A=ts.length:=⟨_,rfl⟩;rw[U];rw[←q,←S]at s ⊢;have t:((j:Int) !=(A:Int))=true:=by simp;omega
  clear E I X Y q S U s;go_enter Tryz.func229,Tryz.ntmps229
  go_wp2
  go_ret
  exact⟨rfl,by(exact kp)⟩

theorem vS {B off:Nat}(p cap:Nat)(w:World)(s:1≤p)(q:2*p≤cap)(j:cap≤1048576) :
  Calls Tryz.prog 228 #[.slice (some ⟨B,off,none⟩) (2*p) cap] w fun e w'=>e=.returned (.tuple #[.slice (some ⟨B,off,none⟩) p cap,.slice (some ⟨B,off+p,none⟩) p (cap-p)])∧aa w w':=by
 have j:(2*(p:Int)) / 2=(p:Int):=by omega
 have q:((2*(p:Int)).tdiv 2)=(p:Int):=by rw[Int.tdiv_eq_ediv_of_nonneg (by omega)];exact j
 go_enter Tryz.func228,Tryz.ntmps228
 go_wp2_with fail
 go_quiet (fail)
 go_wp2
 rw[show 2*p-p=p by omega]
 go_ret2
 exact⟨rfl,by(exact kp)⟩

theorem vT {B off:Nat}(p cap:Nat)(w:World)(s:1≤p)(q:2*p≤cap)(j:cap≤1048576) :
  Calls Tryz.prog 231 #[.slice (some ⟨B,off,none⟩) (2*p) cap] w fun e w'=>e=.returned (.tuple #[.slice (some ⟨B,off,none⟩) p cap,.slice (some ⟨B,off+p,none⟩) p (cap-p)])∧aa w w':=by
 have j:(2*(p:Int)) / 2=(p:Int):=by omega
 have q:((2*(p:Int)).tdiv 2)=(p:Int):=by rw[Int.tdiv_eq_ediv_of_nonneg (by omega)];exact j
 go_enter Tryz.func231,Tryz.ntmps231
 go_wp2_with fail
 go_quiet (fail)
 go_wp2
 rw[show 2*p-p=p by omega]
 go_ret2
 exact⟨rfl,by(exact kp)⟩

theorem ky {B off:Nat}(p cap:Nat)(w:World)(s:1≤p)(q:2*p≤cap)(j:cap≤1048576) :
  Calls Tryz.prog 234 #[.slice (some ⟨B,off,none⟩) (2*p) cap] w fun e w'=>e=.returned (.tuple #[.slice (some ⟨B,off,none⟩) p cap,.slice (some ⟨B,off+p,none⟩) p (cap-p)])∧aa w w':=by
 have j:(2*(p:Int)) / 2=(p:Int):=by omega
 have q:((2*(p:Int)).tdiv 2)=(p:Int):=by rw[Int.tdiv_eq_ediv_of_nonneg (by omega)];exact j
 go_enter Tryz.func234,Tryz.ntmps234
 go_wp2_with fail
 go_quiet (fail)
 go_wp2
 rw[show 2*p-p=p by omega]
 go_ret2
 exact⟨rfl,by(exact kp)⟩

theorem mu {B off:Nat}(p cap:Nat)(w:World)(s:1≤p)(q:2*p≤cap)(j:cap≤1048576) :
  Calls Tryz.prog 236 #[.slice (some ⟨B,off,none⟩) (2*p) cap] w fun e w'=>e=.returned (.tuple #[.slice (some ⟨B,off,none⟩) p cap,.slice (some ⟨B,off+p,none⟩) p (cap-p)])∧aa w w':=by
 have j:(2*(p:Int)) / 2=(p:Int):=by omega
 have q:((2*(p:Int)).tdiv 2)=(p:Int):=by rw[Int.tdiv_eq_ediv_of_nonneg (by omega)];exact j
 go_enter Tryz.func236,Tryz.ntmps236
 go_wp2_with fail
 go_quiet (fail)
 go_wp2
 rw[show 2*p-p=p by omega]
 go_ret2
 exact⟨rfl,by(exact kp)⟩

theorem kz {B off:Nat}(p cap:Nat)(w:World)(s:1≤p)(q:2*p≤cap)(j:cap≤1048576) :
  Calls Tryz.prog 238 #[.slice (some ⟨B,off,none⟩) (2*p) cap] w fun e w'=>e=.returned (.tuple #[.slice (some ⟨B,off,none⟩) p cap,.slice (some ⟨B,off+p,none⟩) p (cap-p)])∧aa w w':=by
 have j:(2*(p:Int)) / 2=(p:Int):=by omega
 have q:((2*(p:Int)).tdiv 2)=(p:Int):=by rw[Int.tdiv_eq_ediv_of_nonneg (by omega)];exact j
 go_enter Tryz.func238,Tryz.ntmps238
 go_wp2_with fail
 go_quiet (fail)
 go_wp2
 rw[show 2*p-p=p by omega]
 go_ret2
 exact⟨rfl,by(exact kp)⟩

def ay (f:Int)(M:St):Nat→Edge→ByteArray
 |0,_=>⟨#[63]⟩
 |n+1,e=>
  if f=5 then
   if e.to=0 then⟨#[48]⟩else if e.to=1 then aB e.tag++⟨#[64]⟩++⟨#[49]⟩
   else aB e.tag++⟨#[64]⟩++⟨#[40]⟩++aB (an (look M.cs e.to)).I++⟨#[32]⟩++ay f M n (an (look M.cs e.to)).lo++⟨#[32]⟩++ay f M n (an (look M.cs e.to)).hi++⟨#[41]⟩
  else if e.to<2 then aB e.to
  else if f=3∨f=4 then⟨#[40]⟩++aB (an (look M.cs e.to)).I++⟨#[58]⟩++aB (an (look M.cs e.to)).J++⟨#[32]⟩++ay f M n (an (look M.cs e.to)).lo++⟨#[32]⟩++ay f M n (an (look M.cs e.to)).hi++⟨#[41]⟩
  else⟨#[40]⟩++aB (an (look M.cs e.to)).I++⟨#[32]⟩++ay f M n (an (look M.cs e.to)).lo++⟨#[32]⟩++ay f M n (an (look M.cs e.to)).hi++⟨#[41]⟩

theorem bK (k:Int):(aB k).size=1:=rfl

theorem Co (f:Int)(M:St):∀(n:Nat) (e:Edge),(ay f M n e).size+7≤8*2 ^ n:=by
 intro n;induction n with
 |zero=>intro e;exact Nat.le_refl 8
 |succ n j=>
  intro e;have q:=j (an (look M.cs e.to)).lo;have q:=j (an (look M.cs e.to)).hi;have j:0<2 ^ n:=Nat.pow_pos (by decide);have j:2 ^ (n+1)=2*2 ^ n:=by rw[Nat.pow_succ];omega
  rw[j];unfold ay;split
  ·split;·show 1+7≤_;omega
   ·split;·simp only[ByteArray.size_append,bK];show 1+1+1+7≤_;omega
    ·simp only[ByteArray.size_append,bK];show 1+1+1+1+1+_+1+_+1+7≤_;omega
  ·split;·rw[bK];omega
   ·split
    ·simp only[ByteArray.size_append,bK];show 1+1+1+1+1+_+1+_+1+7≤_;omega
    ·simp only[ByteArray.size_append,bK];show 1+1+1+_+1+_+1+7≤_;omega

theorem fX (f:Int)(M:St){n:Nat}(j:n≤20)(e:Edge):(ay f M n e).size≤8388608:=by
 have h:=Co f M n e;have q:2 ^ n≤2 ^ 20:=Nat.pow_le_pow_right (by decide) j;have j:(2:Nat) ^ 20=1048576:=rfl;omega

theorem jy {M:St}(h:M.wf)(j:M.n≤9)(id:Int):(an (look M.cs id)).I<10∧(an (look M.cs id)).J<10:=by
 cases j:look M.cs id with
 |none=>exact⟨by decide,by decide⟩
 |some r=>
  have:=(h.b8 j).tb;have:=(h.b8 j).bn;show r.I<10∧r.J<10;omega

theorem Bb {F:Nat→Prop}{w:World}{ab:Nat}{M:St}(h:ag F w ab M)(v:Edge)(l:Int)(Z:v.ok) :
  Calls Tryz.prog 153 #[.pointer (some ⟨ab,0,none⟩),.agg #[.int .u8 v.tag,.int .u32 v.to],.int .i64 l] w fun r w'=>r=.returned (.bool (bf M 5 v l))∧aa w w':=by
 have bt:=Lib.hid h.wf
 have be:=Lib.hid (fun(id:Int) (r:Rec) (bg:look M.cs id=some r)=>h.b1 bg)
 have bg:=h.wf.bw
 have bg:=h.bx
 have bq:=nh h.wf h.bx [v.to]
 have a':=Lib.hid (fun(j:World) (s:aa w j) (id:Int) (hid:id≤4294967295)=>ef (h.U s) id hid)
 have E:=fun(j:World) (s:aa w j)=>cX (h.U s) 5 v l Z
 have bb:=Lib.hid (fun(j:World) (s:aa w j) (b:Nat) (cap:Nat) (bg:fO j (some ⟨b,0,none⟩) 1 [v])=>ld (h.U s) (some ⟨b,0,none⟩) 1 cap [v] bg (by omega))
 clear h
 rcases cL (M.leads 5 v l)with t|t
 ·rw[t]at E;have S:=Lib.hid E;have a8:=Lib.hid (nD t);clear E t;go_enter Tryz.func153,Tryz.ntmps153
  go_wp2_with (first|(go_at_call 134;refine(S.out _ (by(exact kp))).mono ?_;rintro e w1 ⟨rfl,z⟩)|fail)
  go_ret
  exact⟨by rw[a8.out];rfl,by(exact kp)⟩
 ·rw[t]at E;have S:=Lib.hid E;have a6:=Lib.hid t;clear E t;go_enter Tryz.func153,Tryz.ntmps153
  go_wp2_with (first|(go_at_call 134;refine(S.out _ (by(exact kp))).mono ?_;rintro e w1 ⟨rfl,z⟩;have bw:w1.cell? ⟨w.heap.size,0,none⟩=some (.int .u8 v.tag):=z.cell (by simp);have bx:w1.cell? ⟨w.heap.size,1,none⟩=some (.int .u32 v.to):=z.cell (by simp);have bi:aa w w1:=(by(exact kp)))|fail)
  refine(bb.out _ (by(exact kp)) _ _ (mA Z (by simp[go_sem]) (by simp[go_sem]))).mono ?_;rintro e ad ⟨bv,rfl,Y,bn⟩;obtain⟨ids,L⟩:∃ids,ids=aQ M.cs [v.to]:=⟨_,rfl⟩;have Y:iF ad bv ids:=by rw[L];exact Y
  rw[←L]at bq;obtain⟨a,cap,rfl,t⟩:=Y;have K:=Lib.hid L;have a7:=Lib.hid t;have A:=Lib.hid (show aa w ad by(exact kp));clear L t bn z bi bw bx Z;go_wp2_with fail
  go_loopg [21] ids.length (fun gk t wr=>∃d:Nat,d+gk=ids.length∧t=.int .i64 (d:Int)∧aa ad wr∧∀(i:Nat) (id:Int),i<d→ids[i]?=some id→aV M 5 (an (look M.cs id))=false)
  case atStart=>exact⟨0,by omega,rfl,aa.refl _,fun i id hi=>absurd hi (by omega)⟩
  case round=>
   obtain⟨d,b0,rfl,z,t⟩:=hrel;have q:=Lib.hid z;have av:=Lib.hid t;clear z t;by_cases br:d<ids.length
   ·obtain⟨id,hid⟩:∃id,ids[d]?=some id:=⟨_,List.getElem?_eq_getElem br⟩;obtain⟨g,rfl,a2⟩:=a7.out d id hid;have t:=q.out.cell a2;have am:=Lib.hid hid;obtain⟨x,J,W,t,z⟩:=ni bt.out (d:=d) (id:=id) (es:=[v.to]) (by rw[←K.out];exact hid);have t:=W.tb;have t:=W.bn;have N:=be.out id x J;have tok:0≤x.I:=N.I.1;have t:0≤x.J:=N.J.1;have t:=N.lo.2.2;have t:=Lib.hid J;have bp:aa w wr:=A.out.trans q.out
    have a3:Hid (aV M 5 (an (look M.cs id))=false→∀(i:Nat) (t:Int),i<d+1→ids[i]?=some t→aV M 5 (an (look M.cs t))=false):=Lib.hid (fun X i t hi I=>by
     by_cases hid:i<d;·exact av.out i t hid I
     ·obtain rfl:i=d:=(by omega);rw[am.out]at I;cases I
      exact X)
    have bs:Hid (aV M 5 (an (look M.cs id))=true→bf M 5 v l=false):=Lib.hid (fun X=>ny (d:=d) (id:=id) (by rw[←K.out];exact am.out) X);clear hid a2 N
    have O:Hid (∀j,aa w j→Calls Tryz.prog 78 #[.pointer (some ⟨ab,0,none⟩),.int .u32 id] j fun e w'=>e=.returned (.tuple #[.agg #[.int .u8 x.ad,.int .u8 x.I,.int .u8 x.J,.int .u8 x.lo.tag,.int .u32 x.lo.to,.int .u8 x.hi.tag,.int .u32 x.hi.to],.bool true])∧aa j w'):=
     Lib.hid (fun j s=>by have:=a'.out j s id (by omega);rw[J]at this;exact this)
    have a4:aV M 5 (an (look M.cs id))=(decide (x.hi.to=0)&&decide (x.lo.tag=x.I+1)):=(by rw[J];rfl);have T:=Lib.hid a4;clear a4;clear J bp W;by_cases U:x.hi.to=0
    ·by_cases aw:x.lo.tag=x.I+1
     ·go_wp2_with (first|(go_at_call 78;refine(O.out _ (A.out.trans q.out)).mono ?_;rintro e a5 ⟨rfl,a1⟩)|fail)
      go_ret
      exact⟨by rw[bs.out (by rw[T.out];simp[U,aw])];rfl,by have:=A.out;have:=q.out;(exact kp)⟩
     ·go_wp2_with (first|(go_at_call 78;refine(O.out _ (A.out.trans q.out)).mono ?_;rintro e a5 ⟨rfl,a1⟩)|fail)
      go_roundg (gk-1)
      case rel=>exact⟨d+1,by omega,by simp,by have:=q.out;(exact kp),a3.out (by rw[T.out];simp[U,aw])⟩
      case measure=>omega
    ·go_wp2_with (first|(go_at_call 78;refine(O.out _ (A.out.trans q.out)).mono ?_;rintro e a5 ⟨rfl,a1⟩)|fail)
     go_roundg (gk-1)
     case rel=>exact⟨d+1,by omega,by simp,by have:=q.out;(exact kp),a3.out (by rw[T.out];simp[U])⟩
     case measure=>omega
   ·go_wp2
    go_ret
    have j:d=ids.length:=(by omega);refine⟨by rw[nz a6.out (fun i id hi I=>av.out i id (by rw[←K.out]at hi;omega) (by rw[K.out];exact I))];rfl,A.out.trans q.out⟩

end Go.Proofs.YtafkamlhimkbmaaGreat
