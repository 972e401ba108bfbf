/-
  ramageref16.free over tables; the levels that play no part, those that are 0.
-/
import Derived.Test.YtafkamlhimkbmaaGreatPUnfBase
import Derived.Deep.CutBlock
namespace Go.Proofs.YtafkamlhimkbmaaGreat
set_option maxRecDepth 1000000
set_option maxHeartbeats 8000000
set_option linter.unusedSimpArgs false
set_option linter.unusedVariables false
open Go.RowKit

def fm:Nat→List Bool→Bool
 |0,_=>false
 |k+1,ts=>aC (ts.take (2 ^ k)) (ts.drop (2 ^ k))

theorem iZ {B off:Nat}{ts:List Bool}(p cap:Nat)(w:World)(s:1≤p)(t:p≤4096)(h:aB w B off ts)(q:ts.length=2*p) :
  Calls Tryz.prog 229 #[.slice (some ⟨B,off,none⟩) p cap,.slice (some ⟨B,off+p,none⟩) p (cap-p)] w fun e j=>e=.returned (.bool (aC (ts.take p) (ts.drop p)))∧aa w j:=by
 have q:(ts.take p).length=p:=by rw[List.length_take];omega
 have j:(ts.drop p).length=p:=by rw[List.length_drop];omega
 have:=kV cap (cap-p) w (h.take p) (h.drop p) (by omega) (by omega)
 rw[q,j]at this
 exact this

theorem uV {B off:Nat}(k:Nat)(ts:List Bool)(cap:Nat)(w:World)(K:k≤10)(h:aB w B off ts)(q:ts.length=2 ^ k)(j:2 ^ k≤cap)(J:cap≤4096) :
  Calls Tryz.prog 239 #[.slice (some ⟨B,off,none⟩) (2 ^ k) cap] w fun e s=>e=.returned (.bool (fm k ts))∧aa w s:=by
 cases k with
 |zero=>
  show Calls _ _ #[.slice (some ⟨B,off,none⟩) 1 cap] w fun e s=>e=.returned (.bool false)∧aa w s;clear h q j;go_enter Tryz.func239,Tryz.ntmps239
  go_wp2
  go_ret
  exact⟨rfl,by(exact kp)⟩
 |succ k=>
  have t:2 ^ (k+1)=2*2 ^ k:=by rw[Nat.pow_succ];omega
  have z:1≤2 ^ k:=Nat.pow_pos (by decide);rw[t]at q j ⊢;show Calls _ _ _ w fun e s=>e=.returned (.bool (aC (ts.take (2 ^ k)) (ts.drop (2 ^ k))))∧aa w s;obtain⟨p,A⟩:∃p,p=2 ^ k:=⟨_,rfl⟩;rw[←A]at q j z ⊢;have I:=Lib.hid (fun(s:World) (J:aa w s)=>iZ p cap s z (by omega) (h.U J) q);have E:=Lib.hid (fun(s:World)=>km (B:=B) (off:=off) p cap s z j (by omega));clear h q A t j;go_enter Tryz.func239,Tryz.ntmps239
  go_wp2_with (first|(go_at_call 238;refine(E.out _).mono ?_;rintro j j ⟨rfl,L⟩)|(go_at_call 229;refine(I.out _ (by(exact kp))).mono ?_;rintro t j ⟨rfl,j⟩)|fail)
  go_ret
  exact⟨rfl,by(exact kp)⟩

def aO:Nat→List Bool→Nat×List Bool
 |0,ts=>(0,ts)
 |k+1,ts=>if aC (ts.take (2 ^ k)) (ts.drop (2 ^ k))then aO k (ts.take (2 ^ k))else(k+1,ts)

def bW:Nat→List Bool→Nat×List Bool
 |0,ts=>(0,ts)
 |k+1,ts=>if aq (ts.drop (2 ^ k))&&!fm k (ts.take (2 ^ k))then bW k (ts.take (2 ^ k))else(k+1,ts)

theorem kY:∀(k:Nat) (ts:List Bool),(aO k ts).1≤k:=by
 intro k;induction k with
 |zero=>intro ts;exact Nat.le_refl 0
 |succ k j=>
  intro ts;unfold aO;split;·exact Nat.le_succ_of_le (j _)
  ·exact Nat.le_refl _

theorem kZ:∀(k:Nat) (ts:List Bool),(bW k ts).1≤k:=by
 intro k;induction k with
 |zero=>intro ts;exact Nat.le_refl 0
 |succ k j=>
  intro ts;unfold bW;split;·exact Nat.le_succ_of_le (j _)
  ·exact Nat.le_refl _

theorem As {w:World}{B off:Nat}:∀(k:Nat) (ts:List Bool),aB w B off ts→ts.length=2 ^ k→aB w B off (aO k ts).2∧(aO k ts).2.length=2 ^ (aO k ts).1:=by
 intro k;induction k with
 |zero=>intro ts h j;exact⟨h,j⟩
 |succ k q=>
  intro ts h j;unfold aO;split;·exact q _ (h.take _) (by rw[List.length_take,j,Nat.pow_succ];omega)
  ·exact⟨h,j⟩

theorem Au {w:World}{B off:Nat}:∀(k:Nat) (ts:List Bool),aB w B off ts→ts.length=2 ^ k→aB w B off (bW k ts).2∧(bW k ts).2.length=2 ^ (bW k ts).1:=by
 intro k;induction k with
 |zero=>intro ts h j;exact⟨h,j⟩
 |succ k q=>
  intro ts h j;unfold bW;split;·exact q _ (h.take _) (by rw[List.length_take,j,Nat.pow_succ];omega)
  ·exact⟨h,j⟩

def dh:Nat→Nat→List Bool→Int→ByteArray
 |0,_,_,_=>⟨#[48]⟩
 |n+1,k,ts,l=>
  if aq ts then⟨#[48]⟩else
  match bW (aO k ts).1 (aO k ts).2 with
  |(0,_)=>ay (l+(k-(aO k ts).1:Nat))++⟨#[64]⟩++⟨#[49]⟩
  |(c+1,j)=>ay (l+(k-(aO k ts).1:Nat))++⟨#[64]⟩++⟨#[40]⟩++ay (l+(k-(c+1):Nat))++⟨#[32]⟩++dh n c (j.take (2 ^ c)) (l+(k-c:Nat))++⟨#[32]⟩++dh n c (j.drop (2 ^ c)) (l+(k-c:Nat))++⟨#[41]⟩

theorem ny:∀(n k:Nat) (ts:List Bool) (l:Int),(dh n k ts l).size+7≤8*2 ^ n:=by
 intro n;induction n with
 |zero=>intro k ts l;exact Nat.le_refl 8
 |succ n j=>
  intro k ts l;have q:0<2 ^ n:=Nat.pow_pos (by decide);have q:2 ^ (n+1)=2*2 ^ n:=by rw[Nat.pow_succ];omega
  rw[q];unfold dh;split;·show 1+7≤_;omega
  ·split;·simp only[ByteArray.size_append,bH];show 1+1+1+7≤_;omega
   ·rename_i c q _;have s:=j c (q.take (2 ^ c)) (l+(k-c:Nat));have s:=j c (q.drop (2 ^ c)) (l+(k-c:Nat));simp only[ByteArray.size_append,bH];show 1+1+1+1+1+_+1+_+1+7≤_;omega

theorem A5 {n k a c:Nat}{ts q j:List Bool}{l:Int}(A:aq ts=false)(z:a=(aO k ts).1)(s:q=(aO k ts).2)(t:bW a q=(c+1,j)) :
  dh (n+1) k ts l=ay (l+(k-a:Nat))++⟨#[64]⟩++⟨#[40]⟩++ay (l+(k-(c+1):Nat))++⟨#[32]⟩++dh n c (j.take (2 ^ c)) (l+(k-c:Nat))++⟨#[32]⟩++dh n c (j.drop (2 ^ c)) (l+(k-c:Nat))++⟨#[41]⟩:=by
 show(if aq ts=true then _ else match bW (aO k ts).1 (aO k ts).2 with|(0,_)=>_|(c+1,j)=>_)=_
 rw[if_neg (by rw[A];decide),←z,←s,t]

theorem A6 {n k a:Nat}{ts j A:List Bool}{l:Int}(z:aq ts=false)(t:a=(aO k ts).1)(q:j=(aO k ts).2)(s:bW a j=(0,A)) :
  dh (n+1) k ts l=ay (l+(k-a:Nat))++⟨#[64]⟩++⟨#[49]⟩:=by
 show(if aq ts=true then _ else match bW (aO k ts).1 (aO k ts).2 with|(0,_)=>_|(c+1,j)=>_)=_
 rw[if_neg (by rw[z];decide),←t,←q,s]

def aH:Nat→List Bool→List Bool→Nat×List Bool×List Bool
 |0,lo,hi=>(0,lo,hi)
 |k+1,lo,hi=>if aC lo hi&&!aq (lo.drop (2 ^ k))then aH k (lo.take (2 ^ k)) (lo.drop (2 ^ k))else(k+1,lo,hi)

theorem lJ:∀(k:Nat) (lo hi:List Bool),(aH k lo hi).1≤k:=by
 intro k;induction k with
 |zero=>intro lo hi;exact Nat.le_refl 0
 |succ k j=>
  intro lo hi;unfold aH;split;·exact Nat.le_succ_of_le (j _ _)
  ·exact Nat.le_refl _

theorem tI {w:World}{B off:Nat}:∀(k:Nat) (lo hi:List Bool),aB w B off lo→lo.length=2 ^ k→aB w B (off+2 ^ k) hi→hi.length=2 ^ k →
  aB w B off (aH k lo hi).2.1∧(aH k lo hi).2.1.length=2 ^ (aH k lo hi).1∧aB w B (off+2 ^ (aH k lo hi).1) (aH k lo hi).2.2∧(aH k lo hi).2.2.length=2 ^ (aH k lo hi).1:=by
 intro k
 induction k with
 |zero=>intro lo hi j q s t;exact⟨j,q,s,t⟩
 |succ k z=>
  intro lo hi j q s t;unfold aH;split;·exact z _ _ (j.take _) (by rw[List.length_take,q,Nat.pow_succ];omega) (j.drop _) (by rw[List.length_drop,q,Nat.pow_succ];omega)
  ·exact⟨j,q,s,t⟩

def cm:Nat→Nat→List Bool→Int→ByteArray
 |0,_,_,_=>⟨#[48]⟩
 |_+1,0,ts,_=>if aq ts then⟨#[48]⟩else⟨#[49]⟩
 |n+1,k+1,ts,l=>
  if aq ts then⟨#[48]⟩else if aq (ts.drop (2 ^ k))then cm n k (ts.take (2 ^ k)) (l+1)
  else⟨#[40]⟩++ay l++⟨#[58]⟩++ay (l+(k-(aH k (ts.take (2 ^ k)) (ts.drop (2 ^ k))).1:Nat))++⟨#[32]⟩++cm n (aH k (ts.take (2 ^ k)) (ts.drop (2 ^ k))).1 (aH k (ts.take (2 ^ k)) (ts.drop (2 ^ k))).2.1 (l+(k-(aH k (ts.take (2 ^ k)) (ts.drop (2 ^ k))).1:Nat)+1)++⟨#[32]⟩++cm n (aH k (ts.take (2 ^ k)) (ts.drop (2 ^ k))).1 (aH k (ts.take (2 ^ k)) (ts.drop (2 ^ k))).2.2 (l+(k-(aH k (ts.take (2 ^ k)) (ts.drop (2 ^ k))).1:Nat)+1)++⟨#[41]⟩

theorem nx:∀(n k:Nat) (ts:List Bool) (l:Int),(cm n k ts l).size+9≤10*2 ^ n:=by
 intro n;induction n with
 |zero=>intro k ts l;exact Nat.le_refl 10
 |succ n j=>
  intro k ts l;have q:0<2 ^ n:=Nat.pow_pos (by decide);have q:2 ^ (n+1)=2*2 ^ n:=by rw[Nat.pow_succ];omega
  rw[q];cases k with
  |zero=>
   unfold cm;split;·show 1+9≤_;omega
   ·show 1+9≤_;omega
  |succ k=>
   unfold cm;split;·show 1+9≤_;omega
   split;·have:=j k (ts.take (2 ^ k)) (l+1);omega
   ·have q:=j (aH k (ts.take (2 ^ k)) (ts.drop (2 ^ k))).1 (aH k (ts.take (2 ^ k)) (ts.drop (2 ^ k))).2.1 (l+(k-(aH k (ts.take (2 ^ k)) (ts.drop (2 ^ k))).1:Nat)+1);have q:=j (aH k (ts.take (2 ^ k)) (ts.drop (2 ^ k))).1 (aH k (ts.take (2 ^ k)) (ts.drop (2 ^ k))).2.2 (l+(k-(aH k (ts.take (2 ^ k)) (ts.drop (2 ^ k))).1:Nat)+1);simp only[ByteArray.size_append,bH];show 1+1+1+1+1+_+1+_+1+9≤_;omega

theorem A2 {B off:Nat}{ts:List Bool}(k n cap:Nat)(l:Int)(w:World)(eb:k≤8)(h:aB w B off ts)(cf:ts.length=2*2 ^ k)(ce:2*2 ^ k≤cap)(dl:cap≤4096)(ds:0≤l)(ec:l+(k:Nat)<10)(d0:n≤19)(bq:aq ts=false)(br:aq (ts.drop (2 ^ k))=false)
  (bv:∀(c:Nat),c≤k→∀(off cap:Nat) (ts:List Bool) (l:Int) (j:World),aB j B off ts→ts.length=2 ^ c→2 ^ c≤cap→cap≤4096→0≤l→l+(c:Nat)<11→Calls Tryz.prog 183 #[.slice (some ⟨B,off,none⟩) (2 ^ c) cap,.int .i64 l] j fun e b6=>e=.returned (.string (cm n c ts l))∧aa j b6) :
  Calls Tryz.prog 183 #[.slice (some ⟨B,off,none⟩) (2*2 ^ k) cap,.int .i64 l] w fun e b6=>e=.returned (.string (cm (n+1) (k+1) ts l))∧aa w b6:=by
 have E:cm (n+1) (k+1) ts l=if aq ts then⟨#[48]⟩else if aq (ts.drop (2 ^ k))then cm n k (ts.take (2 ^ k)) (l+1)
  else⟨#[40]⟩++ay l++⟨#[58]⟩++ay (l+(k-(aH k (ts.take (2 ^ k)) (ts.drop (2 ^ k))).1:Nat))++⟨#[32]⟩++cm n (aH k (ts.take (2 ^ k)) (ts.drop (2 ^ k))).1 (aH k (ts.take (2 ^ k)) (ts.drop (2 ^ k))).2.1 (l+(k-(aH k (ts.take (2 ^ k)) (ts.drop (2 ^ k))).1:Nat)+1)++⟨#[32]⟩++cm n (aH k (ts.take (2 ^ k)) (ts.drop (2 ^ k))).1 (aH k (ts.take (2 ^ k)) (ts.drop (2 ^ k))).2.2 (l+(k-(aH k (ts.take (2 ^ k)) (ts.drop (2 ^ k))).1:Nat)+1)++⟨#[41]⟩:=rfl
 rw[if_neg (by rw[bq];decide),if_neg (by rw[br];decide)]at E
 have a1:1≤2 ^ k:=Nat.pow_pos (by decide)
 have co:(ts.drop (2 ^ k)).length=2 ^ k:=by rw[List.length_drop];omega
 have X:=fun(j:World) (q:aa w j)=>il (cap-2 ^ k) j ((h.drop (2 ^ k)).U q) (by omega)
 rw[br,co]at X
 have W:=fun(j:World) (q:aa w j)=>il cap j (h.U q) (by omega)
 rw[bq,cf]at W
 obtain⟨lo,aw⟩:∃lo,lo=ts.take (2 ^ k):=⟨_,rfl⟩
 obtain⟨hi,av⟩:∃hi,hi=ts.drop (2 ^ k):=⟨_,rfl⟩
 have b5:aB w B off lo:=by rw[aw];exact h.take _
 have b4:aB w B (off+2 ^ k) hi:=by rw[av];exact h.drop _
 have b0:lo.length=2 ^ k:=by rw[aw,List.length_take];omega
 have bx:hi.length=2 ^ k:=by rw[av,List.length_drop];omega
 rw[←aw,←av]at E
 have K:=tI k lo hi b5 b0 b4 bx
 obtain⟨c,am⟩:∃c,c=(aH k lo hi).1:=⟨_,rfl⟩
 have bg:c≤k:=by rw[am];exact lJ k lo hi
 obtain⟨s,bt⟩:∃s,s=l+((k-c:Nat):Int):=⟨_,rfl⟩
 have d9:0≤s:=by omega
 have ea:s<10:=by omega
 have ci:2 ^ c≤2 ^ k:=Nat.pow_le_pow_right (by decide) bg
 rw[←am]at E K
 rw[←bt]at E
 have a':=fun(j:World) (q:aa w j)=>bv c bg off cap (aH k lo hi).2.1 (s+1) j (K.1.U q) K.2.1 (by omega) dl (by omega) (by omega)
 have bb:=fun(j:World) (q:aa w j)=>bv c bg (off+2 ^ c) (cap-2 ^ c) (aH k lo hi).2.2 (s+1) j (K.2.2.1.U q) K.2.2.2 (by omega) (by omega) (by omega) (by omega)
 have cq:=nx n c (aH k lo hi).2.1 (s+1)
 have cv:=nx n c (aH k lo hi).2.2 (s+1)
 have d1:2 ^ n≤2 ^ 19:=Nat.pow_le_pow_right (by decide) d0
 have dj:(2:Nat) ^ 19=524288:=rfl
 obtain⟨x,cl⟩:∃x,x=cm n c (aH k lo hi).2.1 (s+1):=⟨_,rfl⟩
 obtain⟨y,cn⟩:∃y,y=cm n c (aH k lo hi).2.2 (s+1):=⟨_,rfl⟩
 simp only[←cl,←cn]at cq cv a' bb E
 have bg:=bH l
 have bg:=bH s
 have bg:x.size≤8388608:=by omega
 have bg:y.size≤8388608:=by omega
 have c0:=Lib.hid (fun j=>cR l j ds (by omega))
 have c1:=Lib.hid (fun j=>cR s j d9 ea)
 have cy:=Lib.hid E
 have c3:=Lib.hid a'
 have c4:=Lib.hid bb
 have c5:=Lib.hid bt
 have a2:=Lib.hid am
 have da:=Lib.hid b5
 have c':=Lib.hid b4
 have c9:=Lib.hid b0
 have c8:=Lib.hid bx
 have s:=Lib.hid ci
 obtain⟨P,a8⟩:∃P,P=2 ^ k:=⟨_,rfl⟩
 rw[←a8]at X W a1 ce ⊢
 have cS:=Lib.hid W
 have c2:=Lib.hid X
 have cD:=Lib.hid (fun(j:World)=>lX (B:=B) (off:=off) P cap j a1 ce (by omega))
 have L:=Lib.hid a8
 clear h cf br bq co W bv E X aw av b5 b4 b0 bx K am bt ci a' bb cq cv d1 dj cl cn a8
 go_enter Tryz.func183,Tryz.ntmps183
 go_wp2_with fail
 refine(cS.out _ (by(exact kp))).mono ?_
 rintro s s ⟨rfl,rfl⟩
 go_wp2_with fail
 refine(cD.out _).mono ?_
 rintro s s ⟨rfl,s⟩
 go_wp2_with fail
 refine(c2.out _ (by(exact kp))).mono ?_
 rintro a7 d8 ⟨rfl,rfl⟩
 go_upto_block 0 with fail
 go_cut [5,6,7,8,9]from 27 to 45 (fun b1 b2 b3 d3 d5 wd=>b1=.slice (some ⟨B,off,none⟩) (2 ^ c) cap∧b2=.slice (some ⟨B,off+2 ^ c,none⟩) (2 ^ c) (cap-2 ^ c)∧b3=.int .i64 (l+(k-c:Nat))∧aa w wd)
 case first=>
  go_wp2_with fail
  go_loopg [5,6,7,8,9] k (fun gk b1 b2 b3 d3 d5 wr=>∃(z:Nat) (a b:List Bool),b1=.slice (some ⟨B,off,none⟩) z cap∧b2=.slice (some ⟨B,off+z,none⟩) z (cap-z)∧z=2 ^ gk∧b3=.int .i64 (l+(k-gk:Nat))∧gk≤k∧a.length=2 ^ gk∧b.length=2 ^ gk∧aB w B off a∧aB w B (off+z) b∧aH gk a b=aH k lo hi∧aa w wr)
  case atStart=>exact⟨P,lo,hi,rfl,rfl,L.out,by simp,Nat.le_refl _,c9.out,c8.out,da.out,by rw[L.out];exact c'.out,rfl,by(exact kp)⟩
  case round=>
   obtain⟨z,a,b,rfl,rfl,J,rfl,bi,ab,ad,ca,cb,cj,s⟩:=hrel;obtain⟨m,bp⟩:∃m,m=l+((k-gk:Nat):Int):=⟨_,rfl⟩;have s:0≤m:=(by omega);have s:m≤20:=(by omega);rw[←bp];have S:=Lib.hid bp;have U:=Lib.hid cj;have O:=Lib.hid ca;have s:=Lib.hid cb;clear bp cj ca cb;have cg:a.length=z:=(by rw[ab,J]);have ch:b.length=z:=(by rw[ad,J]);have Z:=fun(j:World) (q:aa w j)=>kV cap (cap-z) j (O.out.U q) (s.out.U q) (by have:2 ^ gk≤2 ^ k:=Nat.pow_le_pow_right (by decide) bi;have:=L.out;omega) (by have:2 ^ gk≤2 ^ k:=Nat.pow_le_pow_right (by decide) bi;have:=L.out;omega);rw[cg,ch]at Z;obtain⟨N,be⟩:∃N,N=aC a b:=⟨_,rfl⟩;simp only[←be]at Z;have T:=Lib.hid Z;have cx:=Lib.hid be;clear Z cg ch be;cases gk with
   |zero=>
    have d2:z=1:=J;subst d2;clear ab ad J;have t:Hid (c=0):=Lib.hid (by rw[a2.out,←U.out];rfl);cases N
    all_goals
     go_wp2_with fail
     refine(T.out _ (by(exact kp))).mono ?_
     rintro a6 b7 ⟨rfl,bn⟩
     go_wp2_with fail
     go_meet
     exact⟨by rw[t.out],by rw[t.out],by rw[S.out,t.out],by(exact kp)⟩
   |succ g=>
    have a7:2 ^ (g+1)=2*2 ^ g:=(by rw[Nat.pow_succ];omega);have dB:2 ^ (g+1)≤2 ^ k:=Nat.pow_le_pow_right (by decide) bi;obtain⟨p,I⟩:∃p,p=2 ^ g:=⟨_,rfl⟩;have a1:1≤p:=(by rw[I];exact Nat.pow_pos (by decide));rw[a7,←I]at J ab ad;subst J;have s:4*p≤cap:=(by have:=L.out;rw[I];omega);have bw:(a.drop p).length=p:=(by rw[List.length_drop];omega);have cp:(a.take p).length=p:=(by rw[List.length_take];omega);have Y:=fun(j:World) (q:aa w j)=>il (cap-p) j ((O.out.drop p).U q) (by omega);rw[bw]at Y;have b8:=Lib.hid (fun(j:World)=>lX (B:=B) (off:=off) p cap j a1 (by omega) (by omega));have bs:aH (g+1) a b=if N&&!aq (a.drop p)then aH g (a.take p) (a.drop p)else(g+1,a,b):=(by rw[I,cx.out];rfl);obtain⟨a5,cd⟩:∃a5,a5=aq (a.drop p):=⟨_,rfl⟩;rw[←cd]at Y bs;have b9:=Lib.hid Y;have a4:=Lib.hid bs;have A:=Lib.hid I;have c7:=Lib.hid bw;have c6:=Lib.hid cp;clear Y bs cd ab ad a7 dB I bw cp;cases N
    ·go_wp2_with fail
     refine(T.out _ (by(exact kp))).mono ?_;rintro a6 b7 ⟨rfl,bn⟩;go_wp2_with fail
     go_meet;have t:c=g+1:=(by rw[a2.out,←U.out,a4.out];rfl);exact⟨by rw[t,A.out,Nat.pow_succ,Nat.mul_comm],by rw[t,A.out,Nat.pow_succ,Nat.mul_comm],by rw[S.out,t],by(exact kp)⟩
    ·cases a5
     ·go_wp2_with fail
      refine(T.out _ (by(exact kp))).mono ?_;rintro a6 b7 ⟨rfl,bn⟩;go_wp2_with fail
      refine(b8.out _).mono ?_;rintro db d6 ⟨rfl,dr⟩;go_wp2_with fail
      refine(b9.out _ (by(exact kp))).mono ?_;rintro dk d7 ⟨rfl,rfl⟩;go_wp2_with fail
      go_roundg g
      case rel=>exact⟨p,a.take p,a.drop p,rfl,rfl,A.out,by rw[S.out];congr 1;omega,by omega,by rw[c6.out,A.out],by rw[c7.out,A.out],O.out.take p,O.out.drop p,by rw[←U.out,a4.out];rfl,by(exact kp)⟩
      case measure=>omega
     ·go_wp2_with fail
      refine(T.out _ (by(exact kp))).mono ?_;rintro a6 b7 ⟨rfl,bn⟩;go_wp2_with fail
      refine(b8.out _).mono ?_;rintro db d6 ⟨rfl,dr⟩;go_wp2_with fail
      refine(b9.out _ (by(exact kp))).mono ?_;rintro dk d7 ⟨rfl,rfl⟩;go_wp2_with fail
      go_meet;have t:c=g+1:=(by rw[a2.out,←U.out,a4.out];rfl);exact⟨by rw[t,A.out,Nat.pow_succ,Nat.mul_comm],by rw[t,A.out,Nat.pow_succ,Nat.mul_comm],by rw[S.out,t],by(exact kp)⟩
 case rest=>
  obtain⟨rfl,rfl,rfl,j⟩:=hcut;have a3:=Lib.hid j;rw[←c5.out];clear j;go_wp2_with fail
  refine(c0.out _).mono ?_;rintro j d8 ⟨rfl,j⟩;go_wp2_with fail
  refine(c1.out _).mono ?_;rintro j j ⟨rfl,j⟩;go_wp2_with fail
  refine(c3.out _ (by have:=a3.out;(exact kp))).mono ?_;rintro j j ⟨rfl,j⟩;go_wp2_with fail
  refine(c4.out _ (by have:=a3.out;(exact kp))).mono ?_;rintro j j ⟨rfl,j⟩;go_wp2_with fail
  go_ret
  exact⟨by rw[cy.out];rfl,by have:=a3.out;(exact kp)⟩

theorem A1 {B off:Nat}{ts:List Bool}(j cap:Nat)(l:Int)(w:World)(h:aB w B off ts)(q:ts.length=j)(A:j≤4096)(s:aq ts=true) :
  Calls Tryz.prog 183 #[.slice (some ⟨B,off,none⟩) j cap,.int .i64 l] w fun e z=>e=.returned (.string ⟨#[48]⟩)∧aa w z:=by
 have t:=Lib.hid (fun(j:World) (z:aa w j)=>by have:=il cap j (h.U z) (by omega);rw[q,s]at this;exact this)
 clear h q s
 go_enter Tryz.func183,Tryz.ntmps183
 go_wp2_with (first|(go_at_call 235;refine(t.out _ (by(exact kp))).mono ?_;rintro e j ⟨rfl,rfl⟩)|fail)
 go_ret
 exact⟨rfl,by(exact kp)⟩

theorem A3 {B off:Nat}{ts:List Bool}(cap:Nat)(l:Int)(w:World)(h:aB w B off ts)(q:ts.length=1)(s:aq ts=false) :
  Calls Tryz.prog 183 #[.slice (some ⟨B,off,none⟩) 1 cap,.int .i64 l] w fun e j=>e=.returned (.string ⟨#[49]⟩)∧aa w j:=by
 have t:=Lib.hid (fun(j:World) (z:aa w j)=>by have:=il cap j (h.U z) (by omega);rw[q,s]at this;exact this)
 clear h q s
 go_enter Tryz.func183,Tryz.ntmps183
 go_wp2_with (first|(go_at_call 235;refine(t.out _ (by(exact kp))).mono ?_;rintro e j ⟨rfl,rfl⟩)|fail)
 go_ret
 exact⟨rfl,by(exact kp)⟩

theorem A0 {B off:Nat}{ts:List Bool}(p cap:Nat)(l:Int)(x:ByteArray)(w:World)(T:1≤p)(h:aB w B off ts)(E:ts.length=2*p)(A:2*p≤cap)(s:cap≤4096)(t:0≤l)(K:l<20)(I:aq ts=false)(J:aq (ts.drop p)=true)
  (z:∀j,aa w j→Calls Tryz.prog 183 #[.slice (some ⟨B,off,none⟩) p cap,.int .i64 (l+1)] j fun e q=>e=.returned (.string x)∧aa j q) :
  Calls Tryz.prog 183 #[.slice (some ⟨B,off,none⟩) (2*p) cap,.int .i64 l] w fun e q=>e=.returned (.string x)∧aa w q:=by
 have K:(ts.drop p).length=p:=by rw[List.length_drop];omega
 have s:=fun(j:World) (t:aa w j)=>il (cap-p) j ((h.drop p).U t) (by omega)
 rw[J,K]at s
 have q:=fun(j:World) (t:aa w j)=>il cap j (h.U t) (by omega)
 rw[I,E]at q
 have O:=Lib.hid s
 have N:=Lib.hid q
 have L:=Lib.hid (fun(j:World)=>lX (B:=B) (off:=off) p cap j T A (by omega))
 have S:=Lib.hid z
 clear h E J I s q z A K
 go_enter Tryz.func183,Tryz.ntmps183
 go_wp2_with fail
 refine(N.out _ (by(exact kp))).mono ?_
 rintro j j ⟨rfl,rfl⟩
 go_wp2_with fail
 refine(L.out _).mono ?_
 rintro j j ⟨rfl,j⟩
 go_wp2_with fail
 refine(O.out _ (by(exact kp))).mono ?_
 rintro j j ⟨rfl,rfl⟩
 go_wp2_with fail
 refine(S.out _ (by(exact kp))).mono ?_
 rintro j j ⟨rfl,j⟩
 go_wp2_with fail
 go_ret
 exact⟨rfl,by(exact kp)⟩

theorem AZ {B:Nat}:∀(n:Nat),n≤20→∀(k:Nat),k<n→k≤9→∀(off cap:Nat) (ts:List Bool) (l:Int) (j:World),aB j B off ts→ts.length=2 ^ k→2 ^ k≤cap→cap≤4096→0≤l→l+(k:Nat)<11 →
  Calls Tryz.prog 183 #[.slice (some ⟨B,off,none⟩) (2 ^ k) cap,.int .i64 l] j fun e z=>e=.returned (.string (cm n k ts l))∧aa j z:=by
 intro n
 induction n with
 |zero=>intro _ k z;omega
 |succ n J=>
  intro K k z z off cap ts l j h s A E I z;cases q:aq ts with
  |true=>
   have t:cm (n+1) k ts l=⟨#[48]⟩:=by
    cases k with
    |zero=>show(if aq ts=true then _ else _)=_;rw[if_pos q]
    |succ k=>show(if aq ts=true then _ else _)=_;rw[if_pos q]
   rw[t];exact A1 _ cap l j h s (by omega) q
  |false=>
   cases k with
   |zero=>
    have t:cm (n+1) 0 ts l=⟨#[49]⟩:=(by show(if aq ts=true then _ else _)=_;rw[if_neg (by rw[q];decide)]);rw[t];exact A3 cap l j h s q
   |succ k=>
    have z:2 ^ (k+1)=2*2 ^ k:=(by rw[Nat.pow_succ];omega);rw[z]at s A ⊢;cases z:aq (ts.drop (2 ^ k))with
    |true=>
     have t:cm (n+1) (k+1) ts l=cm n k (ts.take (2 ^ k)) (l+1):=by
      show(if aq ts=true then _ else if aq (ts.drop (2 ^ k))=true then _ else _)=_;rw[if_neg (by rw[q];decide),if_pos z]
     rw[t];exact A0 (2 ^ k) cap l _ j (Nat.pow_pos (by decide)) h s A E I (by omega) q z (fun t K=>J (by omega) k (by omega) (by omega) off cap _ (l+1) t ((h.take _).U K) (by rw[List.length_take];omega) (by omega) E (by omega) (by omega))
    |false=>exact A2 k n cap l j (by omega) h s A E I (by omega) (by omega) q z (fun c O off cap ts l j h s t K L N=>J (by omega) c (by omega) (by omega) off cap ts l j h s t K L N)

def kc (b:Bool):ByteArray:=if b then⟨#[49]⟩else⟨#[48]⟩

theorem ux (b:Bool)(w:World):Calls Tryz.prog 227 #[.bool b] w fun e j=>e=.returned (.string (kc b))∧w=j:=by
 cases b;all_goals go_enter Tryz.func227,Tryz.ntmps227
 all_goals go_wp2
 all_goals go_ret
 all_goals exact⟨rfl,rfl⟩

def cc:Nat→List Bool→Int→ByteArray
 |0,ts,_=>kc (ts.getD 0 false)
 |k+1,ts,l=>if aC (ts.take (2 ^ k)) (ts.drop (2 ^ k))then cc k (ts.take (2 ^ k)) (l+1)else⟨#[40]⟩++ay l++⟨#[32]⟩++cc k (ts.take (2 ^ k)) (l+1)++⟨#[32]⟩++cc k (ts.drop (2 ^ k)) (l+1)++⟨#[41]⟩

theorem ns:∀(k:Nat) (ts:List Bool) (l:Int),(cc k ts l).size+7≤8*2 ^ k:=by
 intro k;induction k with
 |zero=>intro ts l;unfold cc kc;split<;>exact Nat.le_refl 8
 |succ k j=>
  intro ts l;have q:=j (ts.take (2 ^ k)) (l+1);have q:=j (ts.drop (2 ^ k)) (l+1);have j:0<2 ^ k:=Nat.pow_pos (by decide);have j:2 ^ (k+1)=2*2 ^ k:=by rw[Nat.pow_succ];omega
  rw[j];unfold cc;split;·omega
  ·simp only[ByteArray.size_append,bH];show 1+1+1+_+1+_+1+7≤_;omega

theorem AT {B off:Nat}{ts:List Bool}(cap:Nat)(l:Int)(w:World)(h:aB w B off ts)(q:ts.length=1) :
  Calls Tryz.prog 180 #[.slice (some ⟨B,off,none⟩) 1 cap,.int .i64 l] w fun e s=>e=.returned (.string (cc 0 ts l))∧aa w s:=by
 obtain⟨b,rfl⟩:∃b,ts=[b]:=by
  match ts,q with
  |[b],_=>exact⟨b,rfl⟩
 have q:w.cell? ⟨B,off,none⟩=some (.bool b):=h 0 b rfl
 rw[show cc 0 [b] l=kc b from rfl]
 have j:=Lib.hid (fun q=>ux b q)
 clear h
 go_enter Tryz.func180,Tryz.ntmps180
 go_wp2_with (first|(go_at_call 227;refine(j.out _).mono ?_;rintro e w1 ⟨rfl,rfl⟩)|fail)
 go_ret
 exact⟨rfl,by(exact kp)⟩

theorem AS {B off:Nat}{ts:List Bool}(k p cap:Nat)(l:Int)(w:World)(O:2 ^ k=p)(a5:k≤9)(h:aB w B off ts)(a':ts.length=2*p)(ad:2*p≤cap)(a4:cap≤4096)(bb:0≤l)(be:l<10)
  (T:∀(off cap:Nat) (ts:List Bool) (j:World),aB j B off ts→ts.length=p→p≤cap→cap≤4096→Calls Tryz.prog 180 #[.slice (some ⟨B,off,none⟩) p cap,.int .i64 (l+1)] j fun e q=>e=.returned (.string (cc k ts (l+1)))∧aa j q) :
  Calls Tryz.prog 180 #[.slice (some ⟨B,off,none⟩) (2*p) cap,.int .i64 l] w fun e q=>e=.returned (.string (cc (k+1) ts l))∧aa w q:=by
 have bg:1≤p:=by rw[←O];exact Nat.pow_pos (by decide)
 have s:=bH l
 have U:=ns k (ts.take (2 ^ k)) (l+1)
 have W:=ns k (ts.drop (2 ^ k)) (l+1)
 have A:=h.take p
 have z:=h.drop p
 have t:cc (k+1) ts l=if aC (ts.take (2 ^ k)) (ts.drop (2 ^ k))then cc k (ts.take (2 ^ k)) (l+1)else⟨#[40]⟩++ay l++⟨#[32]⟩++cc k (ts.take (2 ^ k)) (l+1)++⟨#[32]⟩++cc k (ts.drop (2 ^ k)) (l+1)++⟨#[41]⟩:=rfl
 rw[t]
 rw[O]at U W ⊢
 have I:(ts.take p).length=p:=by rw[List.length_take];omega
 have E:(ts.drop p).length=p:=by rw[List.length_drop];omega
 obtain⟨lo,N⟩:∃lo,lo=ts.take p:=⟨_,rfl⟩
 obtain⟨hi,L⟩:∃hi,hi=ts.drop p:=⟨_,rfl⟩
 rw[←N]at A I U
 rw[←L]at z E W
 rw[←N,←L]
 have bq:(cc k lo (l+1)).size≤8388608:=by omega
 have br:(cc k hi (l+1)).size≤8388608:=by omega
 have S:∀j,aa w j→Calls Tryz.prog 229 #[.slice (some ⟨B,off,none⟩) p cap,.slice (some ⟨B,off+p,none⟩) p (cap-p)] j fun e q=>e=.returned (.bool (aC lo hi))∧aa j q:=fun j s=>by
  have:=kV cap (cap-p) j (A.U s) (z.U s) (by omega) (by omega);rw[I,E]at this;exact this
 have J:=fun(j:World) (s:aa w j)=>T off cap lo j (A.U s) I (by omega) a4
 have K:=fun(j:World) (s:aa w j)=>T (off+p) (cap-p) hi j (z.U s) E (by omega) (by omega)
 obtain⟨x,am⟩:∃x,x=cc k lo (l+1):=⟨_,rfl⟩
 obtain⟨y,av⟩:∃y,y=cc k hi (l+1):=⟨_,rfl⟩
 obtain⟨b,ab⟩:∃b,b=aC lo hi:=⟨_,rfl⟩
 simp only[←am,←av,←ab]at bq br S J K ⊢
 have X:=Lib.hid (fun(j:World)=>vo (B:=B) (off:=off) p cap j bg ad (by omega))
 have aw:=Lib.hid (fun j=>cR l j bb be)
 have Y:=Lib.hid S
 have Z:=Lib.hid J
 have a1:=Lib.hid K
 clear h A z S J K am av ab t T O a' I E N L U W ad a5
 cases b
 ·show Calls _ _ _ _ fun e q=>e=.returned (.string (⟨#[40]⟩++ay l++⟨#[32]⟩++x++⟨#[32]⟩++y++⟨#[41]⟩))∧aa w q;go_enter Tryz.func180,Tryz.ntmps180
  go_wp2_with (first|(go_at_call 228;refine(X.out _).mono ?_;rintro t bi ⟨rfl,a6⟩)|(go_at_call 229;refine(Y.out _ (by(exact kp))).mono ?_;rintro a2 bn ⟨rfl,a7⟩)|(go_at_call 214;refine(aw.out _).mono ?_;rintro j j ⟨rfl,j⟩)|fail)
  refine(Z.out _ (by(exact kp))).mono ?_;rintro a3 bp ⟨rfl,a8⟩;go_wp2_with fail
  refine(a1.out _ (by(exact kp))).mono ?_;rintro j j ⟨rfl,j⟩;go_wp2_with fail
  go_ret
  exact⟨rfl,by(exact kp)⟩
 ·show Calls _ _ _ _ fun e q=>e=.returned (.string x)∧aa w q;go_enter Tryz.func180,Tryz.ntmps180
  go_wp2_with (first|(go_at_call 228;refine(X.out _).mono ?_;rintro t bi ⟨rfl,a6⟩)|(go_at_call 229;refine(Y.out _ (by(exact kp))).mono ?_;rintro a2 bn ⟨rfl,a7⟩)|(go_at_call 180;refine(Z.out _ (by(exact kp))).mono ?_;rintro a3 bp ⟨rfl,a8⟩)|fail)
  go_ret
  exact⟨rfl,by(exact kp)⟩

theorem AR {B:Nat}:∀(k:Nat),k≤9→∀(off cap:Nat) (ts:List Bool) (l:Int) (j:World),aB j B off ts→ts.length=2 ^ k→2 ^ k≤cap→cap≤4096→0≤l→l+(k:Nat)<11 →
  Calls Tryz.prog 180 #[.slice (some ⟨B,off,none⟩) (2 ^ k) cap,.int .i64 l] j fun e t=>e=.returned (.string (cc k ts l))∧aa j t:=by
 intro k
 induction k with
 |zero=>intro _ off cap ts l j h q _ _ _ _;exact AT cap l j h q
 |succ k E=>
  intro t off cap ts l j h q s z A t;have t:2 ^ (k+1)=2*2 ^ k:=by rw[Nat.pow_succ];omega
  rw[t]at q s ⊢;exact AS k (2 ^ k) cap l j rfl (by omega) h q s z A (by omega) (fun off cap ts j t z q s=>E (by omega) off cap ts (l+1) j t z q s (by omega) (by omega))

def kf (b:Bool):ByteArray:=if b then⟨#[49]⟩else⟨#[48]⟩

theorem uC (b:Bool)(w:World):Calls Tryz.prog 230 #[.bool b] w fun e j=>e=.returned (.string (kf b))∧w=j:=by
 cases b;all_goals go_enter Tryz.func230,Tryz.ntmps230
 all_goals go_wp2
 all_goals go_ret
 all_goals exact⟨rfl,rfl⟩

def cr:Nat→List Bool→Int→ByteArray
 |0,ts,_=>kf (ts.getD 0 false)
 |k+1,ts,l=>if aq (ts.drop (2 ^ k))then cr k (ts.take (2 ^ k)) (l+1)else⟨#[40]⟩++ay l++⟨#[32]⟩++cr k (ts.take (2 ^ k)) (l+1)++⟨#[32]⟩++cr k (ts.drop (2 ^ k)) (l+1)++⟨#[41]⟩

theorem nz:∀(k:Nat) (ts:List Bool) (l:Int),(cr k ts l).size+7≤8*2 ^ k:=by
 intro k;induction k with
 |zero=>intro ts l;unfold cr kf;split<;>exact Nat.le_refl 8
 |succ k j=>
  intro ts l;have q:=j (ts.take (2 ^ k)) (l+1);have q:=j (ts.drop (2 ^ k)) (l+1);have j:0<2 ^ k:=Nat.pow_pos (by decide);have j:2 ^ (k+1)=2*2 ^ k:=by rw[Nat.pow_succ];omega
  rw[j];unfold cr;split;·omega
  ·simp only[ByteArray.size_append,bH];show 1+1+1+_+1+_+1+7≤_;omega

theorem Bb {B off:Nat}{ts:List Bool}(cap:Nat)(l:Int)(w:World)(h:aB w B off ts)(q:ts.length=1) :
  Calls Tryz.prog 181 #[.slice (some ⟨B,off,none⟩) 1 cap,.int .i64 l] w fun e s=>e=.returned (.string (cr 0 ts l))∧aa w s:=by
 obtain⟨b,rfl⟩:∃b,ts=[b]:=by
  match ts,q with
  |[b],_=>exact⟨b,rfl⟩
 have q:w.cell? ⟨B,off,none⟩=some (.bool b):=h 0 b rfl
 rw[show cr 0 [b] l=kf b from rfl]
 have j:=Lib.hid (fun q=>uC b q)
 clear h
 go_enter Tryz.func181,Tryz.ntmps181
 go_wp2_with (first|(go_at_call 230;refine(j.out _).mono ?_;rintro e w1 ⟨rfl,rfl⟩)|fail)
 go_ret
 exact⟨rfl,by(exact kp)⟩

theorem Ba {B off:Nat}{ts:List Bool}(k p cap:Nat)(l:Int)(w:World)(N:2 ^ k=p)(a5:k≤9)(h:aB w B off ts)(a8:ts.length=2*p)(ad:2*p≤cap)(a4:cap≤4096)(a':0≤l)(bb:l<10)
  (S:∀(off cap:Nat) (ts:List Bool) (j:World),aB j B off ts→ts.length=p→p≤cap→cap≤4096→Calls Tryz.prog 181 #[.slice (some ⟨B,off,none⟩) p cap,.int .i64 (l+1)] j fun e q=>e=.returned (.string (cr k ts (l+1)))∧aa j q) :
  Calls Tryz.prog 181 #[.slice (some ⟨B,off,none⟩) (2*p) cap,.int .i64 l] w fun e q=>e=.returned (.string (cr (k+1) ts l))∧aa w q:=by
 have be:1≤p:=by rw[←N];exact Nat.pow_pos (by decide)
 have s:=bH l
 have U:=nz k (ts.take (2 ^ k)) (l+1)
 have W:=nz k (ts.drop (2 ^ k)) (l+1)
 have K:=h.take p
 have z:=h.drop p
 have t:cr (k+1) ts l=if aq (ts.drop (2 ^ k))then cr k (ts.take (2 ^ k)) (l+1)else⟨#[40]⟩++ay l++⟨#[32]⟩++cr k (ts.take (2 ^ k)) (l+1)++⟨#[32]⟩++cr k (ts.drop (2 ^ k)) (l+1)++⟨#[41]⟩:=rfl
 rw[t]
 rw[N]at U W ⊢
 have T:(ts.take p).length=p:=by rw[List.length_take];omega
 have A:(ts.drop p).length=p:=by rw[List.length_drop];omega
 obtain⟨lo,L⟩:∃lo,lo=ts.take p:=⟨_,rfl⟩
 obtain⟨hi,J⟩:∃hi,hi=ts.drop p:=⟨_,rfl⟩
 rw[←L]at K T U
 rw[←J]at z A W
 rw[←L,←J]
 have bp:(cr k lo (l+1)).size≤8388608:=by omega
 have bq:(cr k hi (l+1)).size≤8388608:=by omega
 have O:∀j,aa w j→Calls Tryz.prog 232 #[.slice (some ⟨B,off+p,none⟩) p (cap-p)] j fun e q=>e=.returned (.bool (aq hi))∧j=q:=fun j s=>by
  have:=xG (cap-p) j (z.U s) (by omega);rw[A]at this;exact this
 have E:=fun(j:World) (s:aa w j)=>S off cap lo j (K.U s) T (by omega) a4
 have I:=fun(j:World) (s:aa w j)=>S (off+p) (cap-p) hi j (z.U s) A (by omega) (by omega)
 obtain⟨x,am⟩:∃x,x=cr k lo (l+1):=⟨_,rfl⟩
 obtain⟨y,av⟩:∃y,y=cr k hi (l+1):=⟨_,rfl⟩
 obtain⟨b,ab⟩:∃b,b=aq hi:=⟨_,rfl⟩
 simp only[←am,←av,←ab]at bp bq O E I ⊢
 have X:=Lib.hid (fun(j:World)=>vp (B:=B) (off:=off) p cap j be ad (by omega))
 have aw:=Lib.hid (fun j=>cR l j a' bb)
 have Y:=Lib.hid O
 have Z:=Lib.hid E
 have a1:=Lib.hid I
 clear h K z O E I am av ab t S N a8 T A L J U W ad a5
 cases b
 ·show Calls _ _ _ _ fun e q=>e=.returned (.string (⟨#[40]⟩++ay l++⟨#[32]⟩++x++⟨#[32]⟩++y++⟨#[41]⟩))∧aa w q;go_enter Tryz.func181,Tryz.ntmps181
  go_wp2_with (first|(go_at_call 231;refine(X.out _).mono ?_;rintro t bg ⟨rfl,a6⟩)|(go_at_call 232;refine(Y.out _ (by(exact kp))).mono ?_;rintro a2 bi ⟨rfl,rfl⟩)|(go_at_call 214;refine(aw.out _).mono ?_;rintro j j ⟨rfl,j⟩)|fail)
  refine(Z.out _ (by(exact kp))).mono ?_;rintro a3 bn ⟨rfl,a7⟩;go_wp2_with fail
  refine(a1.out _ (by(exact kp))).mono ?_;rintro j j ⟨rfl,j⟩;go_wp2_with fail
  go_ret
  exact⟨rfl,by(exact kp)⟩
 ·show Calls _ _ _ _ fun e q=>e=.returned (.string x)∧aa w q;go_enter Tryz.func181,Tryz.ntmps181
  go_wp2_with (first|(go_at_call 231;refine(X.out _).mono ?_;rintro t bg ⟨rfl,a6⟩)|(go_at_call 232;refine(Y.out _ (by(exact kp))).mono ?_;rintro a2 bi ⟨rfl,rfl⟩)|(go_at_call 181;refine(Z.out _ (by(exact kp))).mono ?_;rintro a3 bn ⟨rfl,a7⟩)|fail)
  go_ret
  exact⟨rfl,by(exact kp)⟩

theorem A9 {B:Nat}:∀(k:Nat),k≤9→∀(off cap:Nat) (ts:List Bool) (l:Int) (j:World),aB j B off ts→ts.length=2 ^ k→2 ^ k≤cap→cap≤4096→0≤l→l+(k:Nat)<11 →
  Calls Tryz.prog 181 #[.slice (some ⟨B,off,none⟩) (2 ^ k) cap,.int .i64 l] j fun e t=>e=.returned (.string (cr k ts l))∧aa j t:=by
 intro k
 induction k with
 |zero=>intro _ off cap ts l j h q _ _ _ _;exact Bb cap l j h q
 |succ k E=>
  intro t off cap ts l j h q s z A t;have t:2 ^ (k+1)=2*2 ^ k:=by rw[Nat.pow_succ];omega
  rw[t]at q s ⊢;exact Ba k (2 ^ k) cap l j rfl (by omega) h q s z A (by omega) (fun off cap ts j t z q s=>E (by omega) off cap ts (l+1) j t z q s (by omega) (by omega))

def ke (b:Bool):ByteArray:=if b then⟨#[49]⟩else⟨#[48]⟩

theorem uy (b:Bool)(w:World):Calls Tryz.prog 233 #[.bool b] w fun e j=>e=.returned (.string (ke b))∧w=j:=by
 cases b;all_goals go_enter Tryz.func233,Tryz.ntmps233
 all_goals go_wp2
 all_goals go_ret
 all_goals exact⟨rfl,rfl⟩

def aG:Nat→List Bool→List Bool→Nat×List Bool×List Bool
 |0,lo,hi=>(0,lo,hi)
 |k+1,lo,hi=>if !aC (lo.take (2 ^ k)) (lo.drop (2 ^ k))&&aC (hi.take (2 ^ k)) (hi.drop (2 ^ k))&&aC (hi.take (2 ^ k)) (lo.drop (2 ^ k))then aG k (lo.take (2 ^ k)) (lo.drop (2 ^ k))else(k+1,lo,hi)

theorem jn:∀(k:Nat) (lo hi:List Bool),(aG k lo hi).1≤k:=by
 intro k;induction k with
 |zero=>intro lo hi;exact Nat.le_refl 0
 |succ k j=>
  intro lo hi;unfold aG;split;·exact Nat.le_succ_of_le (j _ _)
  ·exact Nat.le_refl _

theorem tH {w:World}{B off:Nat}:∀(k:Nat) (lo hi:List Bool),aB w B off lo→lo.length=2 ^ k→aB w B (off+2 ^ k) hi→hi.length=2 ^ k →
  aB w B off (aG k lo hi).2.1∧(aG k lo hi).2.1.length=2 ^ (aG k lo hi).1∧aB w B (off+2 ^ (aG k lo hi).1) (aG k lo hi).2.2∧(aG k lo hi).2.2.length=2 ^ (aG k lo hi).1:=by
 intro k
 induction k with
 |zero=>intro lo hi j q s t;exact⟨j,q,s,t⟩
 |succ k z=>
  intro lo hi j q s t;unfold aG;split;·exact z _ _ (j.take _) (by rw[List.length_take,q,Nat.pow_succ];omega) (j.drop _) (by rw[List.length_drop,q,Nat.pow_succ];omega)
  ·exact⟨j,q,s,t⟩

def ck:Nat→Nat→List Bool→Int→ByteArray
 |0,_,_,_=>⟨#[48]⟩
 |_+1,0,ts,_=>ke (ts.getD 0 false)
 |n+1,k+1,ts,l=>
  if aC (ts.take (2 ^ k)) (ts.drop (2 ^ k))then ck n k (ts.take (2 ^ k)) (l+1)
  else⟨#[40]⟩++ay l++⟨#[58]⟩++ay (l+(k-(aG k (ts.take (2 ^ k)) (ts.drop (2 ^ k))).1:Nat))++⟨#[32]⟩++ck n (aG k (ts.take (2 ^ k)) (ts.drop (2 ^ k))).1 (aG k (ts.take (2 ^ k)) (ts.drop (2 ^ k))).2.1 (l+(k-(aG k (ts.take (2 ^ k)) (ts.drop (2 ^ k))).1:Nat)+1)++⟨#[32]⟩++ck n (aG k (ts.take (2 ^ k)) (ts.drop (2 ^ k))).1 (aG k (ts.take (2 ^ k)) (ts.drop (2 ^ k))).2.2 (l+(k-(aG k (ts.take (2 ^ k)) (ts.drop (2 ^ k))).1:Nat)+1)++⟨#[41]⟩

theorem nu:∀(n k:Nat) (ts:List Bool) (l:Int),(ck n k ts l).size+9≤10*2 ^ n:=by
 intro n;induction n with
 |zero=>intro k ts l;exact Nat.le_refl 10
 |succ n j=>
  intro k ts l;have q:0<2 ^ n:=Nat.pow_pos (by decide);have q:2 ^ (n+1)=2*2 ^ n:=by rw[Nat.pow_succ];omega
  rw[q];cases k with
  |zero=>
   unfold ck ke;split;·show 1+9≤_;omega
   ·show 1+9≤_;omega
  |succ k=>
   unfold ck;split;·have:=j k (ts.take (2 ^ k)) (l+1);omega
   ·have q:=j (aG k (ts.take (2 ^ k)) (ts.drop (2 ^ k))).1 (aG k (ts.take (2 ^ k)) (ts.drop (2 ^ k))).2.1 (l+(k-(aG k (ts.take (2 ^ k)) (ts.drop (2 ^ k))).1:Nat)+1);have q:=j (aG k (ts.take (2 ^ k)) (ts.drop (2 ^ k))).1 (aG k (ts.take (2 ^ k)) (ts.drop (2 ^ k))).2.2 (l+(k-(aG k (ts.take (2 ^ k)) (ts.drop (2 ^ k))).1:Nat)+1);simp only[ByteArray.size_append,bH];show 1+1+1+1+1+_+1+_+1+9≤_;omega

theorem AW {B off:Nat}{ts:List Bool}(k n cap:Nat)(l:Int)(w:World)(et:k≤8)(h:aB w B off ts)(cx:ts.length=2*2 ^ k)(cq:2*2 ^ k≤cap)(d3:cap≤4096)(d9:0≤l)(ev:l+(k:Nat)<10)(eb:n≤19)(b0:aC (ts.take (2 ^ k)) (ts.drop (2 ^ k))=false)
  (b2:∀(c:Nat),c≤k→∀(off cap:Nat) (ts:List Bool) (l:Int) (j:World),aB j B off ts→ts.length=2 ^ c→2 ^ c≤cap→cap≤4096→0≤l→l+(c:Nat)<11→Calls Tryz.prog 182 #[.slice (some ⟨B,off,none⟩) (2 ^ c) cap,.int .i64 l] j fun e cb=>e=.returned (.string (ck n c ts l))∧aa j cb) :
  Calls Tryz.prog 182 #[.slice (some ⟨B,off,none⟩) (2*2 ^ k) cap,.int .i64 l] w fun e cb=>e=.returned (.string (ck (n+1) (k+1) ts l))∧aa w cb:=by
 have I:ck (n+1) (k+1) ts l=if aC (ts.take (2 ^ k)) (ts.drop (2 ^ k))then ck n k (ts.take (2 ^ k)) (l+1)
  else⟨#[40]⟩++ay l++⟨#[58]⟩++ay (l+(k-(aG k (ts.take (2 ^ k)) (ts.drop (2 ^ k))).1:Nat))++⟨#[32]⟩++ck n (aG k (ts.take (2 ^ k)) (ts.drop (2 ^ k))).1 (aG k (ts.take (2 ^ k)) (ts.drop (2 ^ k))).2.1 (l+(k-(aG k (ts.take (2 ^ k)) (ts.drop (2 ^ k))).1:Nat)+1)++⟨#[32]⟩++ck n (aG k (ts.take (2 ^ k)) (ts.drop (2 ^ k))).1 (aG k (ts.take (2 ^ k)) (ts.drop (2 ^ k))).2.2 (l+(k-(aG k (ts.take (2 ^ k)) (ts.drop (2 ^ k))).1:Nat)+1)++⟨#[41]⟩:=rfl
 rw[if_neg (by rw[b0];decide)]at I
 have A:1≤2 ^ k:=Nat.pow_pos (by decide)
 have Z:=fun(j:World) (s:aa w j)=>iZ (2 ^ k) cap j A (by omega) (h.U s) cx
 rw[b0]at Z
 obtain⟨lo,a1⟩:∃lo,lo=ts.take (2 ^ k):=⟨_,rfl⟩
 obtain⟨hi,aw⟩:∃hi,hi=ts.drop (2 ^ k):=⟨_,rfl⟩
 have ca:aB w B off lo:=by rw[a1];exact h.take _
 have b9:aB w B (off+2 ^ k) hi:=by rw[aw];exact h.drop _
 have b5:lo.length=2 ^ k:=by rw[a1,List.length_take];omega
 have b4:hi.length=2 ^ k:=by rw[aw,List.length_drop];omega
 rw[←a1,←aw]at I
 have K:=tH k lo hi ca b5 b9 b4
 obtain⟨c,av⟩:∃c,c=(aG k lo hi).1:=⟨_,rfl⟩
 have bs:c≤k:=by rw[av];exact jn k lo hi
 obtain⟨t,b1⟩:∃t,t=l+((k-c:Nat):Int):=⟨_,rfl⟩
 have ep:0≤t:=by omega
 have er:t<10:=by omega
 have cy:2 ^ c≤2 ^ k:=Nat.pow_le_pow_right (by decide) bs
 rw[←av]at I K
 rw[←b1]at I
 have bq:=fun(j:World) (s:aa w j)=>b2 c bs off cap (aG k lo hi).2.1 (t+1) j (K.1.U s) K.2.1 (by omega) d3 (by omega) (by omega)
 have br:=fun(j:World) (s:aa w j)=>b2 c bs (off+2 ^ c) (cap-2 ^ c) (aG k lo hi).2.2 (t+1) j (K.2.2.1.U s) K.2.2.2 (by omega) (by omega) (by omega) (by omega)
 have c3:=nu n c (aG k lo hi).2.1 (t+1)
 have c4:=nu n c (aG k lo hi).2.2 (t+1)
 have ec:2 ^ n≤2 ^ 19:=Nat.pow_le_pow_right (by decide) eb
 have d1:(2:Nat) ^ 19=524288:=rfl
 obtain⟨x,cS⟩:∃x,x=ck n c (aG k lo hi).2.1 (t+1):=⟨_,rfl⟩
 obtain⟨y,c0⟩:∃y,y=ck n c (aG k lo hi).2.2 (t+1):=⟨_,rfl⟩
 simp only[←cS,←c0]at c3 c4 bq br I
 have bs:=bH l
 have bs:=bH t
 have bs:x.size≤8388608:=by omega
 have bs:y.size≤8388608:=by omega
 have c8:=Lib.hid (fun j=>cR l j d9 (by omega))
 have c9:=Lib.hid (fun j=>cR t j ep er)
 have c6:=Lib.hid I
 have da:=Lib.hid bq
 have db:=Lib.hid br
 have dj:=Lib.hid b1
 have T:=Lib.hid av
 have d0:=Lib.hid ca
 have dB:=Lib.hid b9
 have ds:=Lib.hid b5
 have dr:=Lib.hid b4
 have t:=Lib.hid cy
 obtain⟨P,bi⟩:∃P,P=2 ^ k:=⟨_,rfl⟩
 rw[←bi]at Z A cq ⊢
 have c':=Lib.hid Z
 have c7:=Lib.hid (fun(j:World)=>kl (B:=B) (off:=off) P cap j A cq (by omega))
 have a4:=Lib.hid bi
 clear h cx b0 b2 I Z a1 aw ca b9 b5 b4 K av b1 cy bq br c3 c4 ec d1 cS c0 bi
 go_enter Tryz.func182,Tryz.ntmps182
 go_upto_block 0 with(first|(go_at_call 234;refine(c7.out _).mono ?_;rintro t t ⟨rfl,eu⟩)|(go_at_call 229;refine(c'.out _ (by(exact kp))).mono ?_;rintro bg em ⟨rfl,d6⟩)|fail)
 go_cut [5,6,7,8,9,10,11]from 32 to 63 (fun b6 b7 b8 ek el ee eg wd=>b6=.slice (some ⟨B,off,none⟩) (2 ^ c) cap∧b7=.slice (some ⟨B,off+2 ^ c,none⟩) (2 ^ c) (cap-2 ^ c)∧b8=.int .i64 (l+(k-c:Nat))∧aa w wd)
 case first=>
  go_wp2_with fail
  go_loopg [5,6,7,8,9,10,11] k (fun gk b6 b7 b8 ek el ee eg wr=>∃(E:Nat) (a b:List Bool),b6=.slice (some ⟨B,off,none⟩) E cap∧b7=.slice (some ⟨B,off+E,none⟩) E (cap-E)∧E=2 ^ gk∧b8=.int .i64 (l+(k-gk:Nat))∧gk≤k∧a.length=2 ^ gk∧b.length=2 ^ gk∧aB w B off a∧aB w B (off+E) b∧aG gk a b=aG k lo hi∧aa w wr)
  case atStart=>exact⟨P,lo,hi,rfl,rfl,a4.out,by simp,Nat.le_refl _,ds.out,dr.out,d0.out,by rw[a4.out];exact dB.out,rfl,by(exact kp)⟩
  case round=>
   obtain⟨E,a,b,rfl,rfl,a2,rfl,d5,ad,am,cj,cl,cD,d8⟩:=hrel;obtain⟨m,bx⟩:∃m,m=l+((k-gk:Nat):Int):=⟨_,rfl⟩;have t:0≤m:=(by omega);have t:m≤20:=(by omega);rw[←bx];have L:=Lib.hid bx;have N:=Lib.hid cD;have S:=Lib.hid cj;have cg:=Lib.hid cl;clear bx cD cj cl;cases gk with
   |zero=>
    have ed:E=1:=a2;subst ed;clear ad am a2;go_wp2_with fail
    go_meet;have q:c=0:=(by rw[T.out,←N.out];rfl);exact⟨by rw[q],by rw[q],by rw[L.out,q],d8⟩
   |succ g=>
    have bg:2 ^ (g+1)=2*2 ^ g:=(by rw[Nat.pow_succ];omega);have ea:2 ^ (g+1)≤2 ^ k:=Nat.pow_le_pow_right (by decide) d5;obtain⟨p,J⟩:∃p,p=2 ^ g:=⟨_,rfl⟩;have A:1≤p:=(by rw[J];exact Nat.pow_pos (by decide));rw[bg,←J]at a2 ad am;subst a2;have t:4*p≤cap:=(by have:=a4.out;rw[J];omega);have bn:=fun(j:World) (s:aa w j)=>iZ p cap j A (by omega) (S.out.U s) ad;have bp:=fun(j:World) (s:aa w j)=>iZ p (cap-2*p) j A (by omega) (cg.out.U s) am;have b3:(a.drop p).length=p:=(by rw[List.length_drop];omega);have c1:(a.take p).length=p:=(by rw[List.length_take];omega);have c2:(b.take p).length=p:=(by rw[List.length_take];omega);have ab:=fun(j:World) (s:aa w j)=>kV (cap-2*p) (cap-p) j ((cg.out.take p).U s) ((S.out.drop p).U s) (by omega) (by omega);rw[b3,c2]at ab;have W:=Lib.hid (fun(j:World)=>kl (B:=B) (off:=off) p cap j A (by omega) (by omega));have U:=Lib.hid (fun(j:World)=>kl (B:=B) (off:=off+2*p) p (cap-2*p) j A (by omega) (by omega));have O:aG (g+1) a b=if !aC (a.take p) (a.drop p)&&aC (b.take p) (b.drop p)&&aC (b.take p) (a.drop p)then aG g (a.take p) (a.drop p)else(g+1,a,b):=(by rw[J];rfl);obtain⟨a6,cn⟩:∃a6,a6=aC (a.take p) (a.drop p):=⟨_,rfl⟩;obtain⟨a7,co⟩:∃a7,a7=aC (b.take p) (b.drop p):=⟨_,rfl⟩;obtain⟨a8,cp⟩:∃a8,a8=aC (b.take p) (a.drop p):=⟨_,rfl⟩;rw[←cn]at bn O;rw[←co]at bp O;rw[←cp]at ab O;have X:=Lib.hid bn;have a5:=Lib.hid bp;have ch:=Lib.hid ab;have Y:=Lib.hid O;have z:=Lib.hid J;have dl:=Lib.hid b3;have dk:=Lib.hid c1;clear bn bp ab O cn co cp ad am bg ea J b3 c1 c2;cases a6
    ·cases a7
     ·go_wp2_with fail
      refine(W.out _).mono ?_;rintro a' cd ⟨rfl,bt⟩;go_wp2_with fail
      refine(U.out _).mono ?_;rintro bb ce ⟨rfl,bv⟩;go_wp2_with fail
      refine(X.out _ (by(exact kp))).mono ?_;rintro be cf ⟨rfl,bw⟩;go_wp2_with fail
      refine(a5.out _ (by(exact kp))).mono ?_;rintro ci c5 ⟨rfl,cv⟩;go_wp2_with fail
      go_meet;have q:c=g+1:=(by rw[T.out,←N.out,Y.out];rfl);exact⟨by rw[q,z.out,Nat.pow_succ,Nat.mul_comm],by rw[q,z.out,Nat.pow_succ,Nat.mul_comm],by rw[L.out,q],by(exact kp)⟩
     ·cases a8
      ·go_wp2_with fail
       refine(W.out _).mono ?_;rintro a' cd ⟨rfl,bt⟩;go_wp2_with fail
       refine(U.out _).mono ?_;rintro bb ce ⟨rfl,bv⟩;go_wp2_with fail
       refine(X.out _ (by(exact kp))).mono ?_;rintro be cf ⟨rfl,bw⟩;go_wp2_with fail
       refine(a5.out _ (by(exact kp))).mono ?_;rintro ci c5 ⟨rfl,cv⟩;go_wp2_with fail
       refine(ch.out _ (by(exact kp))).mono ?_;rintro d2 en ⟨rfl,d7⟩;go_wp2_with fail
       go_meet;have q:c=g+1:=(by rw[T.out,←N.out,Y.out];rfl);exact⟨by rw[q,z.out,Nat.pow_succ,Nat.mul_comm],by rw[q,z.out,Nat.pow_succ,Nat.mul_comm],by rw[L.out,q],by(exact kp)⟩
      ·go_wp2_with fail
       refine(W.out _).mono ?_;rintro a' cd ⟨rfl,bt⟩;go_wp2_with fail
       refine(U.out _).mono ?_;rintro bb ce ⟨rfl,bv⟩;go_wp2_with fail
       refine(X.out _ (by(exact kp))).mono ?_;rintro be cf ⟨rfl,bw⟩;go_wp2_with fail
       refine(a5.out _ (by(exact kp))).mono ?_;rintro ci c5 ⟨rfl,cv⟩;go_wp2_with fail
       refine(ch.out _ (by(exact kp))).mono ?_;rintro d2 en ⟨rfl,d7⟩;go_wp2_with fail
       go_roundg g
       case rel=>exact⟨p,a.take p,a.drop p,rfl,rfl,z.out,by rw[L.out];congr 1;omega,by omega,by rw[dk.out,z.out],by rw[dl.out,z.out],S.out.take p,S.out.drop p,by rw[←N.out,Y.out];rfl,by(exact kp)⟩
       case measure=>omega
    ·go_wp2_with fail
     refine(W.out _).mono ?_;rintro a' cd ⟨rfl,bt⟩;go_wp2_with fail
     refine(U.out _).mono ?_;rintro bb ce ⟨rfl,bv⟩;go_wp2_with fail
     refine(X.out _ (by(exact kp))).mono ?_;rintro be cf ⟨rfl,bw⟩;go_wp2_with fail
     go_meet;have q:c=g+1:=(by rw[T.out,←N.out,Y.out];rfl);exact⟨by rw[q,z.out,Nat.pow_succ,Nat.mul_comm],by rw[q,z.out,Nat.pow_succ,Nat.mul_comm],by rw[L.out,q],by(exact kp)⟩
 case rest=>
  obtain⟨rfl,rfl,rfl,j⟩:=hcut;have a3:=Lib.hid j;rw[←dj.out];clear j;go_wp2_with fail
  refine(c8.out _).mono ?_;rintro j em ⟨rfl,d6⟩;go_wp2_with fail
  refine(c9.out _).mono ?_;rintro j j ⟨rfl,j⟩;go_wp2_with fail
  refine(da.out _ (by have:=a3.out;(exact kp))).mono ?_;rintro j j ⟨rfl,j⟩;go_wp2_with fail
  refine(db.out _ (by have:=a3.out;(exact kp))).mono ?_;rintro j j ⟨rfl,j⟩;go_wp2_with fail
  go_ret
  exact⟨by rw[c6.out];rfl,by have:=a3.out;(exact kp)⟩

theorem AX {B off:Nat}{ts:List Bool}(n cap:Nat)(l:Int)(w:World)(h:aB w B off ts)(q:ts.length=1) :
  Calls Tryz.prog 182 #[.slice (some ⟨B,off,none⟩) 1 cap,.int .i64 l] w fun e s=>e=.returned (.string (ck (n+1) 0 ts l))∧aa w s:=by
 obtain⟨b,rfl⟩:∃b,ts=[b]:=by
  match ts,q with
  |[b],_=>exact⟨b,rfl⟩
 have q:w.cell? ⟨B,off,none⟩=some (.bool b):=h 0 b rfl
 rw[show ck (n+1) 0 [b] l=ke b from rfl]
 have j:=Lib.hid (fun q=>uy b q)
 clear h
 go_enter Tryz.func182,Tryz.ntmps182
 go_wp2_with (first|(go_at_call 233;refine(j.out _).mono ?_;rintro e w1 ⟨rfl,rfl⟩)|fail)
 go_ret
 exact⟨rfl,by(exact kp)⟩

theorem AV {B off:Nat}{ts:List Bool}(p cap:Nat)(l:Int)(x:ByteArray)(w:World)(A:1≤p)(h:aB w B off ts)(z:ts.length=2*p)(t:2*p≤cap)(L:cap≤4096)(S:0≤l)(T:l<20)(E:aC (ts.take p) (ts.drop p)=true)
  (s:∀j,aa w j→Calls Tryz.prog 182 #[.slice (some ⟨B,off,none⟩) p cap,.int .i64 (l+1)] j fun e q=>e=.returned (.string x)∧aa j q) :
  Calls Tryz.prog 182 #[.slice (some ⟨B,off,none⟩) (2*p) cap,.int .i64 l] w fun e q=>e=.returned (.string x)∧aa w q:=by
 have q:=fun(j:World) (L:aa w j)=>iZ p cap j A (by omega) (h.U L) z
 rw[E]at q
 have J:=Lib.hid q
 have I:=Lib.hid (fun(j:World)=>kl (B:=B) (off:=off) p cap j A t (by omega))
 have K:=Lib.hid s
 clear h z E q s t
 go_enter Tryz.func182,Tryz.ntmps182
 go_wp2_with (first|(go_at_call 234;refine(I.out _).mono ?_;rintro j j ⟨rfl,N⟩)|(go_at_call 229;refine(J.out _ (by(exact kp))).mono ?_;rintro j j ⟨rfl,O⟩)|(go_at_call 182;refine(K.out _ (by(exact kp))).mono ?_;rintro j j ⟨rfl,j⟩)|fail)
 go_ret
 exact⟨rfl,by(exact kp)⟩

theorem AU {B:Nat}:∀(n:Nat),n≤20→∀(k:Nat),k<n→k≤9→∀(off cap:Nat) (ts:List Bool) (l:Int) (j:World),aB j B off ts→ts.length=2 ^ k→2 ^ k≤cap→cap≤4096→0≤l→l+(k:Nat)<11 →
  Calls Tryz.prog 182 #[.slice (some ⟨B,off,none⟩) (2 ^ k) cap,.int .i64 l] j fun e s=>e=.returned (.string (ck n k ts l))∧aa j s:=by
 intro n
 induction n with
 |zero=>intro _ k s;omega
 |succ n E=>
  intro I k s s off cap ts l j h q t z A s;cases k with
  |zero=>exact AX n cap l j h q
  |succ k=>
   have s:2 ^ (k+1)=2*2 ^ k:=(by rw[Nat.pow_succ];omega);rw[s]at q t ⊢;cases s:aC (ts.take (2 ^ k)) (ts.drop (2 ^ k))with
   |true=>
    have I:ck (n+1) (k+1) ts l=ck n k (ts.take (2 ^ k)) (l+1):=by
     show(if aC (ts.take (2 ^ k)) (ts.drop (2 ^ k))=true then _ else _)=_;rw[if_pos s]
    rw[I];exact AV (2 ^ k) cap l _ j (Nat.pow_pos (by decide)) h q t z A (by omega) s (fun I J=>E (by omega) k (by omega) (by omega) off cap _ (l+1) I ((h.take _).U J) (by rw[List.length_take];omega) (by omega) z (by omega) (by omega))
   |false=>exact AW k n cap l j (by omega) h q t z A (by omega) (by omega) s (fun c N off cap ts l j h q I J K L=>E (by omega) c (by omega) (by omega) off cap ts l j h q I J K L)

theorem A8 {B off:Nat}{ts:List Bool}(k n cap:Nat)(l:Int)(w:World)(ee:k≤9)(h:aB w B off ts)(bv:ts.length=2 ^ k)(c2:2 ^ k≤cap)(c3:cap≤4096)(eg:0≤l)(ek:l+(k:Nat)<10)(d7:n≤20)(cb:aq ts=false)
  (da:∀(c:Nat),c<k→∀(off cap:Nat) (ts:List Bool) (l:Int) (j:World),aB j B off ts→ts.length=2 ^ c→2 ^ c≤cap→cap≤4096→0≤l→l+(c:Nat)<10→Calls Tryz.prog 184 #[.slice (some ⟨B,off,none⟩) (2 ^ c) cap,.int .i64 l] j fun e ci=>e=.returned (.string (dh n c ts l))∧aa j ci) :
  Calls Tryz.prog 184 #[.slice (some ⟨B,off,none⟩) (2 ^ k) cap,.int .i64 l] w fun e ci=>e=.returned (.string (dh (n+1) k ts l))∧aa w ci:=by
 have cx:=Lib.hid (fun(j:World) (E:aa w j)=>by have:=mA cap j (h.U E) (by rw[bv];omega);rw[bv,cb]at this;exact this)
 obtain⟨a,b7⟩:∃a,a=(aO k ts).1:=⟨_,rfl⟩
 have d5:a≤k:=by rw[b7];exact kY k ts
 obtain⟨P,b5⟩:∃P,P=2 ^ k:=⟨_,rfl⟩
 have H:=Lib.hid h
 have cp:=Lib.hid bv
 have a6:=Lib.hid b7
 have cl:=Lib.hid c2
 have ci:P≤4096:=by omega
 rw[←b5]at cx ⊢
 have d0:=Lib.hid b5
 have cv:=Lib.hid cb
 have co:=Lib.hid da
 clear h bv b7 c2 b5 cb da
 go_enter Tryz.func184,Tryz.ntmps184
 go_upto_block 0 with(first|(go_at_call 237;refine(cx.out _ (by(exact kp))).mono ?_;rintro e av ⟨rfl,rfl⟩)|fail)
 go_cut [0,5,6,7]from 16 to 30 (fun am cg eb ec wc=>am=.slice (some ⟨B,off,none⟩) (2 ^ a) cap∧cg=.int .i64 (l+(k-a:Nat))∧aa w wc)
 case first=>
  go_wp2_with fail
  go_loopg [0,5,6,7] k (fun gk am cg eb ec wr=>∃(K:Nat) (q:List Bool),am=.slice (some ⟨B,off,none⟩) K cap∧K=2 ^ gk∧cg=.int .i64 (l+(k-gk:Nat))∧gk≤k∧q.length=2 ^ gk∧aB w B off q∧aO gk q=aO k ts∧aa w wr)
  case atStart=>exact⟨P,ts,rfl,d0.out,by simp,Nat.le_refl _,cp.out,H.out,rfl,by(exact kp)⟩
  case round=>
   obtain⟨K,q,rfl,I,rfl,b9,J,a',bg,ca⟩:=hrel;obtain⟨m,Y⟩:∃m,m=l+((k-gk:Nat):Int):=⟨_,rfl⟩;have db:0≤m:=(by omega);have dj:m≤20:=(by omega);rw[←Y];have S:=Lib.hid Y;have U:=Lib.hid bg;have a1:=Lib.hid a';have bv:=Lib.hid J;clear Y bg a';cases gk with
   |zero=>
    have ce:K=1:=I;subst ce;clear J I;go_wp2_with fail
    go_meet;have A:a=0:=(by rw[a6.out,←U.out];rfl);exact⟨by rw[A],by rw[S.out,A],ca⟩
   |succ g=>
    have z:2 ^ (g+1)=2*2 ^ g:=(by rw[Nat.pow_succ];omega);obtain⟨p,t⟩:∃p,p=2 ^ g:=⟨_,rfl⟩;have ab:1≤p:=(by rw[t];exact Nat.pow_pos (by decide));rw[z,←t]at I J;subst I;have Z:2 ^ (g+1)≤2 ^ k:=Nat.pow_le_pow_right (by decide) b9;have cd:2*p≤cap:=(by have:=cl.out;rw[t,←z];omega);have hS:=fun(j:World) (E:aa w j)=>iZ p cap j ab (by omega) (a1.out.U E) J;have O:=Lib.hid (fun(j:World)=>km (B:=B) (off:=off) p cap j ab cd (by omega));have X:aO (g+1) q=if aC (q.take p) (q.drop p)then aO g (q.take p)else(g+1,q):=(by rw[t];rfl);obtain⟨b,bb⟩:∃b,b=aC (q.take p) (q.drop p):=⟨_,rfl⟩;rw[←bb]at hS X;have cy:=Lib.hid hS;have aw:=Lib.hid X;have T:=Lib.hid t;have bv:=Lib.hid Z;have a4:(q.take p).length=p:=(by rw[List.length_take];omega);have b1:=Lib.hid a4;clear hS X bb J z Z t a4;cases b
    ·go_wp2_with (first|(go_at_call 238;refine(O.out _).mono ?_;rintro a2 av ⟨rfl,a3⟩)|(go_at_call 229;refine(cy.out _ (by(exact kp))).mono ?_;rintro z bi ⟨rfl,c4⟩)|fail)
     go_meet;have A:a=g+1:=(by rw[a6.out,←U.out,aw.out];rfl);exact⟨by rw[A,T.out,Nat.pow_succ,Nat.mul_comm],by rw[S.out,A],by(exact kp)⟩
    ·go_wp2_with (first|(go_at_call 238;refine(O.out _).mono ?_;rintro a2 av ⟨rfl,a3⟩)|(go_at_call 229;refine(cy.out _ (by(exact kp))).mono ?_;rintro z bi ⟨rfl,c4⟩)|fail)
     go_roundg g
     case rel=>exact⟨p,q.take p,rfl,T.out,by rw[S.out];congr 1;omega,by omega,by rw[b1.out,T.out],a1.out.take p,by rw[←U.out,aw.out];rfl,by(exact kp)⟩
     case measure=>omega
 case rest=>
  obtain⟨rfl,rfl,c6⟩:=hcut;obtain⟨L,cf⟩:∃L,L=(aO k ts).2:=⟨_,rfl⟩;have bw:=As k ts H.out cp.out;rw[←cf,←a6.out]at bw;obtain⟨c,b8⟩:∃c,c=(bW a L).1:=⟨_,rfl⟩;have d6:c≤a:=by rw[b8];exact kZ a L
  have d8:2 ^ a≤2 ^ k:=Nat.pow_le_pow_right (by decide) d5;obtain⟨m,Y⟩:∃m,m=l+((k-a:Nat):Int):=⟨_,rfl⟩;have db:0≤m:=by omega
  have dj:m<10:=by omega
  have bv:m+(a:Int)<10:=by omega
  obtain⟨Q,b6⟩:∃Q,Q=2 ^ a:=⟨_,rfl⟩;have bv:Q≤cap:=by have:=cl.out;omega
  rw[←Y,←b6];have cj:=Lib.hid bw.1;have cq:=Lib.hid bw.2;have a7:=Lib.hid b8;have S:=Lib.hid Y;have b3:=Lib.hid b6;have cD:=Lib.hid cf;have ds:=Lib.hid c6;clear bw b8 d8 Y b6 cf c6;go_upto_block 2 with fail
  go_cut [0,8,9,10]from 32 to 49 (fun am ch ed ea wd=>am=.slice (some ⟨B,off,none⟩) (2 ^ c) cap∧ch=.int .i64 (m+(a-c:Nat))∧aa w wd)
  case first=>
   go_wp2_with fail
   go_loopg [0,8,9,10] a (fun gk am ch ed ea wr=>∃(K:Nat) (q:List Bool),am=.slice (some ⟨B,off,none⟩) K cap∧K=2 ^ gk∧ch=.int .i64 (m+(a-gk:Nat))∧gk≤a∧q.length=2 ^ gk∧aB w B off q∧bW gk q=bW a L∧aa w wr)
   case atStart=>exact⟨Q,L,rfl,b3.out,by simp,Nat.le_refl _,cq.out,cj.out,rfl,by have:=ds.out;(exact kp)⟩
   case round=>
    obtain⟨K,q,rfl,I,rfl,b9,J,a',bg,ca⟩:=hrel;obtain⟨s,ad⟩:∃s,s=m+((a-gk:Nat):Int):=⟨_,rfl⟩;have Y:0≤s:=(by omega);have Y:s≤20:=(by omega);rw[←ad];have bn:=Lib.hid ad;have U:=Lib.hid bg;have a1:=Lib.hid a';clear ad bg a';cases gk with
    |zero=>
     have ce:K=1:=I;subst ce;clear J I;go_wp2_with fail
     go_meet;have A:c=0:=(by rw[a7.out,←U.out];rfl);exact⟨by rw[A],by rw[bn.out,A],ca⟩
    |succ g=>
     have z:2 ^ (g+1)=2*2 ^ g:=(by rw[Nat.pow_succ];omega);obtain⟨p,t⟩:∃p,p=2 ^ g:=⟨_,rfl⟩;have ab:1≤p:=(by rw[t];exact Nat.pow_pos (by decide));have Z:2 ^ (g+1)≤2 ^ a:=Nat.pow_le_pow_right (by decide) b9;have cd:2*p≤cap:=(by have:=b3.out;rw[t,←z];omega);rw[z,←t]at I J;subst I;have a4:(q.take p).length=p:=(by rw[List.length_take];omega);have c7:(q.drop p).length=p:=(by rw[List.length_drop];omega);have bp:=fun(j:World) (E:aa w j)=>mA (cap-p) j ((a1.out.drop p).U E) (by omega);rw[c7]at bp;have hF:=fun(j:World) (E:aa w j)=>uV g (q.take p) cap j (by omega) ((a1.out.take p).U E) (by rw[a4,t]) (by rw[←t];omega) c3;rw[←t]at hF;have O:=Lib.hid (fun(j:World)=>km (B:=B) (off:=off) p cap j ab cd (by omega));have X:bW (g+1) q=if aq (q.drop p)&&!fm g (q.take p)then bW g (q.take p)else(g+1,q):=(by rw[t];rfl);obtain⟨b,bb⟩:∃b,b=aq (q.drop p):=⟨_,rfl⟩;obtain⟨b4,c1⟩:∃b4,b4=fm g (q.take p):=⟨_,rfl⟩;rw[←bb]at bp X;rw[←c1]at hF X;have b2:=Lib.hid bp;have cn:=Lib.hid hF;have aw:=Lib.hid X;have T:=Lib.hid t;have b1:=Lib.hid a4;clear bp hF X bb c1 J z Z t a4 c7;cases b
     ·go_wp2_with (first|(go_at_call 238;refine(O.out _).mono ?_;rintro a2 av ⟨rfl,a3⟩)|(go_at_call 237;refine(b2.out _ (by(exact kp))).mono ?_;rintro z bi ⟨rfl,rfl⟩)|fail)
      go_meet;have A:c=g+1:=(by rw[a7.out,←U.out,aw.out];rfl);exact⟨by rw[A,T.out,Nat.pow_succ,Nat.mul_comm],by rw[bn.out,A],by(exact kp)⟩
     ·cases b4
      ·go_wp2_with (first|(go_at_call 238;refine(O.out _).mono ?_;rintro a2 av ⟨rfl,a3⟩)|(go_at_call 237;refine(b2.out _ (by(exact kp))).mono ?_;rintro z bi ⟨rfl,rfl⟩)|(go_at_call 239;refine(cn.out _ (by(exact kp))).mono ?_;rintro c0 dr ⟨rfl,c5⟩)|fail)
       go_roundg g
       case rel=>exact⟨p,q.take p,rfl,T.out,by rw[bn.out];congr 1;omega,by omega,by rw[b1.out,T.out],a1.out.take p,by rw[←U.out,aw.out];rfl,by(exact kp)⟩
       case measure=>omega
      ·go_wp2_with (first|(go_at_call 238;refine(O.out _).mono ?_;rintro a2 av ⟨rfl,a3⟩)|(go_at_call 237;refine(b2.out _ (by(exact kp))).mono ?_;rintro z bi ⟨rfl,rfl⟩)|(go_at_call 239;refine(cn.out _ (by(exact kp))).mono ?_;rintro c0 dr ⟨rfl,c5⟩)|fail)
       go_meet;have A:c=g+1:=(by rw[a7.out,←U.out,aw.out];rfl);exact⟨by rw[A,T.out,Nat.pow_succ,Nat.mul_comm],by rw[bn.out,A],by(exact kp)⟩
  case rest=>
   obtain⟨rfl,rfl,bt⟩:=hcut;obtain⟨N,bx⟩:∃N,N=(bW a L).2:=⟨_,rfl⟩;have a5:=Au a L cj.out cq.out;rw[←bx,←a7.out]at a5;have bs:bW a L=(c,N):=(by rw[a7.out,bx]);obtain⟨s,ad⟩:∃s,s=m+((a-c:Nat):Int):=⟨_,rfl⟩;have q:0≤s:=(by omega);have A:s<10:=(by omega);have c':s+(c:Int)<10:=(by omega);rw[←ad];have cS:=Lib.hid (fun j=>nn m j db dj);have dB:=Lib.hid (fun j=>cR s j q A);have q:=bH m;have q:=bH s;have Z:2 ^ c≤2 ^ a:=Nat.pow_le_pow_right (by decide) d6;have be:2 ^ c≤cap:=(by have:=b3.out;omega);have a8:=Lib.hid bt;cases c with
   |zero=>
    have W:=A6 (n:=n) (l:=l) cv.out a6.out cD.out bs;rw[←S.out]at W;have b0:=Lib.hid W;clear W a5 bs bx ad c' Z be bt;go_wp2_with (first|(go_at_call 215;refine(cS.out _).mono ?_;rintro a2 av ⟨rfl,a3⟩)|fail)
    go_ret
    exact⟨by rw[b0.out];rfl,by have:=a8.out;(exact kp)⟩
   |succ c=>
    have W:=A5 (n:=n) (l:=l) cv.out a6.out cD.out bs;rw[←S.out,show l+((k-(c+1):Nat):Int)=s by have:=S.out;omega,show l+((k-c:Nat):Int)=s+1 by have:=S.out;omega]at W;have z:2 ^ (c+1)=2*2 ^ c:=(by rw[Nat.pow_succ];omega);have ab:1≤2 ^ c:=Nat.pow_pos (by decide);rw[z]at be a5 ⊢;have bq:=fun(j:World) (E:aa w j)=>co.out c (by omega) off cap (N.take (2 ^ c)) (s+1) j ((a5.1.take _).U E) (by rw[List.length_take];omega) (by omega) c3 (by omega) (by omega);have br:=fun(j:World) (E:aa w j)=>co.out c (by omega) (off+2 ^ c) (cap-2 ^ c) (N.drop (2 ^ c)) (s+1) j ((a5.1.drop _).U E) (by rw[List.length_drop];omega) (by omega) (by omega) (by omega) (by omega);have dk:=ny n c (N.take (2 ^ c)) (s+1);have dl:=ny n c (N.drop (2 ^ c)) (s+1);have d9:2 ^ n≤2 ^ 20:=Nat.pow_le_pow_right (by decide) d7;have d3:(2:Nat) ^ 20=1048576:=rfl;obtain⟨x,c8⟩:∃x,x=dh n c (N.take (2 ^ c)) (s+1):=⟨_,rfl⟩;obtain⟨y,c9⟩:∃y,y=dh n c (N.drop (2 ^ c)) (s+1):=⟨_,rfl⟩;simp only[←c8,←c9]at dk dl bq br W;have q:x.size≤8388608:=(by omega);have q:y.size≤8388608:=(by omega);obtain⟨p,t⟩:∃p,p=2 ^ c:=⟨_,rfl⟩;rw[←t]at be ab bq br ⊢;have O:=Lib.hid (fun(j:World)=>km (B:=B) (off:=off) p cap j ab be (by omega));have b0:=Lib.hid W;have d1:=Lib.hid bq;have d2:=Lib.hid br;clear W a5 bs bx ad c' Z be bt c8 c9 dk dl d9 d3 z t bq br;go_wp2_with (first|(go_at_call 238;have bt:=a8.out;refine(O.out _).mono ?_;rintro a2 av ⟨rfl,a3⟩)|(go_at_call 215;refine(cS.out _).mono ?_;rintro j bi ⟨rfl,c4⟩)|(go_at_call 214;refine(dB.out _).mono ?_;rintro c0 dr ⟨rfl,c5⟩)|fail)
    refine(d1.out _ (by have:=a8.out;(exact kp))).mono ?_;rintro j j ⟨rfl,j⟩;go_wp2_with fail
    refine(d2.out _ (by have:=a8.out;(exact kp))).mono ?_;rintro j j ⟨rfl,j⟩;go_wp2_with fail
    go_ret
    exact⟨by rw[b0.out];rfl,by have:=a8.out;(exact kp)⟩

theorem A7 {B off:Nat}{ts:List Bool}(k cap:Nat)(l:Int)(w:World)(I:k≤9)(h:aB w B off ts)(j:ts.length=2 ^ k)(E:2 ^ k≤cap)(A:cap≤4096)(z:aq ts=true) :
  Calls Tryz.prog 184 #[.slice (some ⟨B,off,none⟩) (2 ^ k) cap,.int .i64 l] w fun e s=>e=.returned (.string ⟨#[48]⟩)∧aa w s:=by
 have q:=Lib.hid (fun(s:World) (A:aa w s)=>by have:=mA cap s (h.U A) (by rw[j];omega);rw[j,z]at this;exact this)
 obtain⟨P,t⟩:∃P,P=2 ^ k:=⟨_,rfl⟩
 rw[←t]at q ⊢
 clear h j E t z
 go_enter Tryz.func184,Tryz.ntmps184
 go_wp2_with (first|(go_at_call 237;refine(q.out _ (by(exact kp))).mono ?_;rintro e j ⟨rfl,rfl⟩)|fail)
 go_ret
 exact⟨rfl,by(exact kp)⟩

theorem A4 {B:Nat}:∀(n:Nat),n≤20→∀(k:Nat),k<n→k≤9→∀(off cap:Nat) (ts:List Bool) (l:Int) (j:World),aB j B off ts→ts.length=2 ^ k→2 ^ k≤cap→cap≤4096→0≤l→l+(k:Nat)<10 →
  Calls Tryz.prog 184 #[.slice (some ⟨B,off,none⟩) (2 ^ k) cap,.int .i64 l] j fun e s=>e=.returned (.string (dh n k ts l))∧aa j s:=by
 intro n
 induction n with
 |zero=>intro _ k s;omega
 |succ n K=>
  intro E k s A off cap ts l j h q t z I J;cases s:aq ts with
  |true=>
   have E:dh (n+1) k ts l=⟨#[48]⟩:=by
    show(if aq ts=true then _ else _)=_;rw[if_pos s]
   rw[E];exact A7 k cap l j A h q t z s
  |false=>exact A8 k n cap l j A h q t z I J (by omega) s (fun c S off cap ts l j h q E L N O=>K (by omega) c (by omega) (by omega) off cap ts l j h q E L N O)

end Go.Proofs.YtafkamlhimkbmaaGreat
