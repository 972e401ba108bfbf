/-
  ramageref16.free over tables; the levels that play no part, those that are 0.
-/
import Derived.Test.YtafkamlhimkbmaaGreatPUnfBase
import Derived.Deep.CutBlock
namespace Go.Proofs.YtafkamlhimkbmaaGreat
set_option maxRecDepth 1000000
set_option maxHeartbeats 8000000
set_option linter.unusedSimpArgs false
set_option linter.unusedVariables false
open Go.RowKit

def fA:Nat→List Bool→Bool
 |0,_=>false
 |k+1,ts=>aF (ts.take (2 ^ k)) (ts.drop (2 ^ k))

theorem jb {B off:Nat}{ts:List Bool}(p cap:Nat)(w:World)(q:1≤p)(s:p≤4096)(h:aE w B off ts)(j:ts.length=2*p) :
  Calls Tryz.prog 229 #[.slice (some ⟨B,off,none⟩) p cap,.slice (some ⟨B,off+p,none⟩) p (cap-p)] w fun e w'=>e=.returned (.bool (aF (ts.take p) (ts.drop p)))∧aa w w':=by
 have q:(ts.take p).length=p:=by rw[List.length_take];omega
 have j:(ts.drop p).length=p:=by rw[List.length_drop];omega
 have:=ln cap (cap-p) w (h.take p) (h.drop p) (by omega) (by omega)
 rw[q,j]at this
 exact this

theorem vF {B off:Nat}(k:Nat)(ts:List Bool)(cap:Nat)(w:World)(J:k≤10)(h:aE w B off ts)(q:ts.length=2 ^ k)(j:2 ^ k≤cap)(s:cap≤4096) :
  Calls Tryz.prog 239 #[.slice (some ⟨B,off,none⟩) (2 ^ k) cap] w fun e w'=>e=.returned (.bool (fA k ts))∧aa w w':=by
 cases k with
 |zero=>
  show Calls _ _ #[.slice (some ⟨B,off,none⟩) 1 cap] w fun e w'=>e=.returned (.bool false)∧aa w w';clear h q j;go_enter Tryz.func239,Tryz.ntmps239
  go_wp2
  go_ret
  exact⟨rfl,by(exact kp)⟩
 |succ k=>
  have t:2 ^ (k+1)=2*2 ^ k:=by rw[Nat.pow_succ];omega
  have z:1≤2 ^ k:=Nat.pow_pos (by decide);rw[t]at q j ⊢;show Calls _ _ _ w fun e w'=>e=.returned (.bool (aF (ts.take (2 ^ k)) (ts.drop (2 ^ k))))∧aa w w';obtain⟨p,A⟩:∃p,p=2 ^ k:=⟨_,rfl⟩;rw[←A]at q j z ⊢;have I:=Lib.hid (fun(s:World) (J:aa w s)=>jb p cap s z (by omega) (h.U J) q);have E:=Lib.hid (fun(s:World)=>kz (B:=B) (off:=off) p cap s z j (by omega));clear h q A t j;go_enter Tryz.func239,Tryz.ntmps239
  go_wp2_with (first|(go_at_call 238;refine(E.out _).mono ?_;rintro j j ⟨rfl,K⟩)|(go_at_call 229;refine(I.out _ (by(exact kp))).mono ?_;rintro t j ⟨rfl,j⟩)|fail)
  go_ret
  exact⟨rfl,by(exact kp)⟩

def aS:Nat→List Bool→Nat×List Bool
 |0,ts=>(0,ts)
 |k+1,ts=>if aF (ts.take (2 ^ k)) (ts.drop (2 ^ k))then aS k (ts.take (2 ^ k))else(k+1,ts)

def cm:Nat→List Bool→Nat×List Bool
 |0,ts=>(0,ts)
 |k+1,ts=>if ax (ts.drop (2 ^ k))&&!fA k (ts.take (2 ^ k))then cm k (ts.take (2 ^ k))else(k+1,ts)

theorem lz:∀(k:Nat) (ts:List Bool),(aS k ts).1≤k:=by
 intro k;induction k with
 |zero=>intro ts;exact Nat.le_refl 0
 |succ k j=>
  intro ts;unfold aS;split;·exact Nat.le_succ_of_le (j _)
  ·exact Nat.le_refl _

theorem lA:∀(k:Nat) (ts:List Bool),(cm k ts).1≤k:=by
 intro k;induction k with
 |zero=>intro ts;exact Nat.le_refl 0
 |succ k j=>
  intro ts;unfold cm;split;·exact Nat.le_succ_of_le (j _)
  ·exact Nat.le_refl _

theorem AQ {w:World}{B off:Nat}:∀(k:Nat) (ts:List Bool),aE w B off ts→ts.length=2 ^ k→aE w B off (aS k ts).2∧(aS k ts).2.length=2 ^ (aS k ts).1:=by
 intro k;induction k with
 |zero=>intro ts h j;exact⟨h,j⟩
 |succ k q=>
  intro ts h j;unfold aS;split;·exact q _ (h.take _) (by rw[List.length_take,j,Nat.pow_succ];omega)
  ·exact⟨h,j⟩

theorem AR {w:World}{B off:Nat}:∀(k:Nat) (ts:List Bool),aE w B off ts→ts.length=2 ^ k→aE w B off (cm k ts).2∧(cm k ts).2.length=2 ^ (cm k ts).1:=by
 intro k;induction k with
 |zero=>intro ts h j;exact⟨h,j⟩
 |succ k q=>
  intro ts h j;unfold cm;split;·exact q _ (h.take _) (by rw[List.length_take,j,Nat.pow_succ];omega)
  ·exact⟨h,j⟩

def dn:Nat→Nat→List Bool→Int→ByteArray
 |0,_,_,_=>⟨#[48]⟩
 |n+1,k,ts,l=>
  if ax ts then⟨#[48]⟩else
  match cm (aS k ts).1 (aS k ts).2 with
  |(0,_)=>aB (l+(k-(aS k ts).1:Nat))++⟨#[64]⟩++⟨#[49]⟩
  |(c+1,j)=>aB (l+(k-(aS k ts).1:Nat))++⟨#[64]⟩++⟨#[40]⟩++aB (l+(k-(c+1):Nat))++⟨#[32]⟩++dn n c (j.take (2 ^ c)) (l+(k-c:Nat))++⟨#[32]⟩++dn n c (j.drop (2 ^ c)) (l+(k-c:Nat))++⟨#[41]⟩

theorem oo:∀(n k:Nat) (ts:List Bool) (l:Int),(dn n k ts l).size+7≤8*2 ^ n:=by
 intro n;induction n with
 |zero=>intro k ts l;exact Nat.le_refl 8
 |succ n j=>
  intro k ts l;have q:0<2 ^ n:=Nat.pow_pos (by decide);have q:2 ^ (n+1)=2*2 ^ n:=by rw[Nat.pow_succ];omega
  rw[q];unfold dn;split;·show 1+7≤_;omega
  ·split;·simp only[ByteArray.size_append,bK];show 1+1+1+7≤_;omega
   ·rename_i c q _;have s:=j c (q.take (2 ^ c)) (l+(k-c:Nat));have s:=j c (q.drop (2 ^ c)) (l+(k-c:Nat));simp only[ByteArray.size_append,bK];show 1+1+1+1+1+_+1+_+1+7≤_;omega

theorem Br {n k a c:Nat}{ts q j:List Bool}{l:Int}(A:ax ts=false)(z:a=(aS k ts).1)(s:q=(aS k ts).2)(t:cm a q=(c+1,j)) :
  dn (n+1) k ts l=aB (l+(k-a:Nat))++⟨#[64]⟩++⟨#[40]⟩++aB (l+(k-(c+1):Nat))++⟨#[32]⟩++dn n c (j.take (2 ^ c)) (l+(k-c:Nat))++⟨#[32]⟩++dn n c (j.drop (2 ^ c)) (l+(k-c:Nat))++⟨#[41]⟩:=by
 show(if ax ts=true then _ else match cm (aS k ts).1 (aS k ts).2 with|(0,_)=>_|(c+1,j)=>_)=_
 rw[if_neg (by rw[A];decide),←z,←s,t]

theorem Bs {n k a:Nat}{ts j A:List Bool}{l:Int}(z:ax ts=false)(t:a=(aS k ts).1)(q:j=(aS k ts).2)(s:cm a j=(0,A)) :
  dn (n+1) k ts l=aB (l+(k-a:Nat))++⟨#[64]⟩++⟨#[49]⟩:=by
 show(if ax ts=true then _ else match cm (aS k ts).1 (aS k ts).2 with|(0,_)=>_|(c+1,j)=>_)=_
 rw[if_neg (by rw[z];decide),←t,←q,s]

def aM:Nat→List Bool→List Bool→Nat×List Bool×List Bool
 |0,lo,hi=>(0,lo,hi)
 |k+1,lo,hi=>if aF lo hi&&!ax (lo.drop (2 ^ k))then aM k (lo.take (2 ^ k)) (lo.drop (2 ^ k))else(k+1,lo,hi)

theorem mb:∀(k:Nat) (lo hi:List Bool),(aM k lo hi).1≤k:=by
 intro k;induction k with
 |zero=>intro lo hi;exact Nat.le_refl 0
 |succ k j=>
  intro lo hi;unfold aM;split;·exact Nat.le_succ_of_le (j _ _)
  ·exact Nat.le_refl _

theorem um {w:World}{B off:Nat}:∀(k:Nat) (lo hi:List Bool),aE w B off lo→lo.length=2 ^ k→aE w B (off+2 ^ k) hi→hi.length=2 ^ k →
  aE w B off (aM k lo hi).2.1∧(aM k lo hi).2.1.length=2 ^ (aM k lo hi).1∧aE w B (off+2 ^ (aM k lo hi).1) (aM k lo hi).2.2∧(aM k lo hi).2.2.length=2 ^ (aM k lo hi).1:=by
 intro k
 induction k with
 |zero=>intro lo hi j q s t;exact⟨j,q,s,t⟩
 |succ k z=>
  intro lo hi j q s t;unfold aM;split;·exact z _ _ (j.take _) (by rw[List.length_take,q,Nat.pow_succ];omega) (j.drop _) (by rw[List.length_drop,q,Nat.pow_succ];omega)
  ·exact⟨j,q,s,t⟩

def cA:Nat→Nat→List Bool→Int→ByteArray
 |0,_,_,_=>⟨#[48]⟩
 |_+1,0,ts,_=>if ax ts then⟨#[48]⟩else⟨#[49]⟩
 |n+1,k+1,ts,l=>
  if ax ts then⟨#[48]⟩else if ax (ts.drop (2 ^ k))then cA n k (ts.take (2 ^ k)) (l+1)
  else⟨#[40]⟩++aB l++⟨#[58]⟩++aB (l+(k-(aM k (ts.take (2 ^ k)) (ts.drop (2 ^ k))).1:Nat))++⟨#[32]⟩++cA n (aM k (ts.take (2 ^ k)) (ts.drop (2 ^ k))).1 (aM k (ts.take (2 ^ k)) (ts.drop (2 ^ k))).2.1 (l+(k-(aM k (ts.take (2 ^ k)) (ts.drop (2 ^ k))).1:Nat)+1)++⟨#[32]⟩++cA n (aM k (ts.take (2 ^ k)) (ts.drop (2 ^ k))).1 (aM k (ts.take (2 ^ k)) (ts.drop (2 ^ k))).2.2 (l+(k-(aM k (ts.take (2 ^ k)) (ts.drop (2 ^ k))).1:Nat)+1)++⟨#[41]⟩

theorem om:∀(n k:Nat) (ts:List Bool) (l:Int),(cA n k ts l).size+9≤10*2 ^ n:=by
 intro n;induction n with
 |zero=>intro k ts l;exact Nat.le_refl 10
 |succ n j=>
  intro k ts l;have q:0<2 ^ n:=Nat.pow_pos (by decide);have q:2 ^ (n+1)=2*2 ^ n:=by rw[Nat.pow_succ];omega
  rw[q];cases k with
  |zero=>
   unfold cA;split;·show 1+9≤_;omega
   ·show 1+9≤_;omega
  |succ k=>
   unfold cA;split;·show 1+9≤_;omega
   split;·have:=j k (ts.take (2 ^ k)) (l+1);omega
   ·have q:=j (aM k (ts.take (2 ^ k)) (ts.drop (2 ^ k))).1 (aM k (ts.take (2 ^ k)) (ts.drop (2 ^ k))).2.1 (l+(k-(aM k (ts.take (2 ^ k)) (ts.drop (2 ^ k))).1:Nat)+1);have q:=j (aM k (ts.take (2 ^ k)) (ts.drop (2 ^ k))).1 (aM k (ts.take (2 ^ k)) (ts.drop (2 ^ k))).2.2 (l+(k-(aM k (ts.take (2 ^ k)) (ts.drop (2 ^ k))).1:Nat)+1);simp only[ByteArray.size_append,bK];show 1+1+1+1+1+_+1+_+1+9≤_;omega

theorem Bo {B off:Nat}{ts:List Bool}(k n cap:Nat)(l:Int)(w:World)(ea:k≤8)(h:aE w B off ts)(ce:ts.length=2*2 ^ k)(cd:2*2 ^ k≤cap)(dk:cap≤4096)(dr:0≤l)(eb:l+(k:Nat)<10)(dB:n≤19)(bq:ax ts=false)(br:ax (ts.drop (2 ^ k))=false)
  (bv:∀(c:Nat),c≤k→∀(off cap:Nat) (ts:List Bool) (l:Int) (j:World),aE j B off ts→ts.length=2 ^ c→2 ^ c≤cap→cap≤4096→0≤l→l+(c:Nat)<11→Calls Tryz.prog 183 #[.slice (some ⟨B,off,none⟩) (2 ^ c) cap,.int .i64 l] j fun e w'=>e=.returned (.string (cA n c ts l))∧aa j w') :
  Calls Tryz.prog 183 #[.slice (some ⟨B,off,none⟩) (2*2 ^ k) cap,.int .i64 l] w fun e w'=>e=.returned (.string (cA (n+1) (k+1) ts l))∧aa w w':=by
 have E:cA (n+1) (k+1) ts l=if ax ts then⟨#[48]⟩else if ax (ts.drop (2 ^ k))then cA n k (ts.take (2 ^ k)) (l+1)
  else⟨#[40]⟩++aB l++⟨#[58]⟩++aB (l+(k-(aM k (ts.take (2 ^ k)) (ts.drop (2 ^ k))).1:Nat))++⟨#[32]⟩++cA n (aM k (ts.take (2 ^ k)) (ts.drop (2 ^ k))).1 (aM k (ts.take (2 ^ k)) (ts.drop (2 ^ k))).2.1 (l+(k-(aM k (ts.take (2 ^ k)) (ts.drop (2 ^ k))).1:Nat)+1)++⟨#[32]⟩++cA n (aM k (ts.take (2 ^ k)) (ts.drop (2 ^ k))).1 (aM k (ts.take (2 ^ k)) (ts.drop (2 ^ k))).2.2 (l+(k-(aM k (ts.take (2 ^ k)) (ts.drop (2 ^ k))).1:Nat)+1)++⟨#[41]⟩:=rfl
 rw[if_neg (by rw[bq];decide),if_neg (by rw[br];decide)]at E
 have a1:1≤2 ^ k:=Nat.pow_pos (by decide)
 have cn:(ts.drop (2 ^ k)).length=2 ^ k:=by rw[List.length_drop];omega
 have X:=fun(j:World) (q:aa w j)=>im (cap-2 ^ k) j ((h.drop (2 ^ k)).U q) (by omega)
 rw[br,cn]at X
 have W:=fun(j:World) (q:aa w j)=>im cap j (h.U q) (by omega)
 rw[bq,ce]at W
 obtain⟨lo,aw⟩:∃lo,lo=ts.take (2 ^ k):=⟨_,rfl⟩
 obtain⟨hi,av⟩:∃hi,hi=ts.drop (2 ^ k):=⟨_,rfl⟩
 have b5:aE w B off lo:=by rw[aw];exact h.take _
 have b4:aE w B (off+2 ^ k) hi:=by rw[av];exact h.drop _
 have b0:lo.length=2 ^ k:=by rw[aw,List.length_take];omega
 have bx:hi.length=2 ^ k:=by rw[av,List.length_drop];omega
 rw[←aw,←av]at E
 have K:=um k lo hi b5 b0 b4 bx
 obtain⟨c,am⟩:∃c,c=(aM k lo hi).1:=⟨_,rfl⟩
 have bg:c≤k:=by rw[am];exact mb k lo hi
 obtain⟨s,bt⟩:∃s,s=l+((k-c:Nat):Int):=⟨_,rfl⟩
 have d8:0≤s:=by omega
 have d9:s<10:=by omega
 have ch:2 ^ c≤2 ^ k:=Nat.pow_le_pow_right (by decide) bg
 rw[←am]at E K
 rw[←bt]at E
 have a':=fun(j:World) (q:aa w j)=>bv c bg off cap (aM k lo hi).2.1 (s+1) j (K.1.U q) K.2.1 (by omega) dk (by omega) (by omega)
 have bb:=fun(j:World) (q:aa w j)=>bv c bg (off+2 ^ c) (cap-2 ^ c) (aM k lo hi).2.2 (s+1) j (K.2.2.1.U q) K.2.2.2 (by omega) (by omega) (by omega) (by omega)
 have cp:=om n c (aM k lo hi).2.1 (s+1)
 have cq:=om n c (aM k lo hi).2.2 (s+1)
 have d0:2 ^ n≤2 ^ 19:=Nat.pow_le_pow_right (by decide) dB
 have db:(2:Nat) ^ 19=524288:=rfl
 obtain⟨x,cj⟩:∃x,x=cA n c (aM k lo hi).2.1 (s+1):=⟨_,rfl⟩
 obtain⟨y,cl⟩:∃y,y=cA n c (aM k lo hi).2.2 (s+1):=⟨_,rfl⟩
 simp only[←cj,←cl]at cp cq a' bb E
 have bg:=bK l
 have bg:=bK s
 have bg:x.size≤8388608:=by omega
 have bg:y.size≤8388608:=by omega
 have cS:=Lib.hid (fun j=>cU l j dr (by omega))
 have c0:=Lib.hid (fun j=>cU s j d8 d9)
 have cx:=Lib.hid E
 have c2:=Lib.hid a'
 have c3:=Lib.hid bb
 have c4:=Lib.hid bt
 have a2:=Lib.hid am
 have c':=Lib.hid b5
 have c9:=Lib.hid b4
 have c8:=Lib.hid b0
 have c7:=Lib.hid bx
 have s:=Lib.hid ch
 obtain⟨P,a8⟩:∃P,P=2 ^ k:=⟨_,rfl⟩
 rw[←a8]at X W a1 cd ⊢
 have cD:=Lib.hid W
 have c1:=Lib.hid X
 have cy:=Lib.hid (fun(j:World)=>mu (B:=B) (off:=off) P cap j a1 cd (by omega))
 have L:=Lib.hid a8
 clear h ce br bq cn W bv E X aw av b5 b4 b0 bx K am bt ch a' bb cp cq d0 db cj cl a8
 go_enter Tryz.func183,Tryz.ntmps183
 go_wp2_with fail
 refine(cD.out _ (by(exact kp))).mono ?_
 rintro s s ⟨rfl,rfl⟩
 go_wp2_with fail
 refine(cy.out _).mono ?_
 rintro s s ⟨rfl,s⟩
 go_wp2_with fail
 refine(c1.out _ (by(exact kp))).mono ?_
 rintro a7 d7 ⟨rfl,rfl⟩
 go_upto_block 0 with fail
 go_cut [5,6,7,8,9]from 27 to 45 (fun b1 b2 b3 d2 d3 wd=>b1=.slice (some ⟨B,off,none⟩) (2 ^ c) cap∧b2=.slice (some ⟨B,off+2 ^ c,none⟩) (2 ^ c) (cap-2 ^ c)∧b3=.int .i64 (l+(k-c:Nat))∧aa w wd)
 case first=>
  go_wp2_with fail
  go_loopg [5,6,7,8,9] k (fun gk b1 b2 b3 d2 d3 wr=>∃(z:Nat) (a b:List Bool),b1=.slice (some ⟨B,off,none⟩) z cap∧b2=.slice (some ⟨B,off+z,none⟩) z (cap-z)∧z=2 ^ gk∧b3=.int .i64 (l+(k-gk:Nat))∧gk≤k∧a.length=2 ^ gk∧b.length=2 ^ gk∧aE w B off a∧aE w B (off+z) b∧aM gk a b=aM k lo hi∧aa w wr)
  case atStart=>exact⟨P,lo,hi,rfl,rfl,L.out,by simp,Nat.le_refl _,c8.out,c7.out,c'.out,by rw[L.out];exact c9.out,rfl,by(exact kp)⟩
  case round=>
   obtain⟨z,a,b,rfl,rfl,J,rfl,bi,ab,ad,b9,ca,ci,s⟩:=hrel;obtain⟨m,bp⟩:∃m,m=l+((k-gk:Nat):Int):=⟨_,rfl⟩;have s:0≤m:=(by omega);have s:m≤20:=(by omega);rw[←bp];have S:=Lib.hid bp;have U:=Lib.hid ci;have O:=Lib.hid b9;have s:=Lib.hid ca;clear bp ci b9 ca;have cf:a.length=z:=(by rw[ab,J]);have cg:b.length=z:=(by rw[ad,J]);have Z:=fun(j:World) (q:aa w j)=>ln cap (cap-z) j (O.out.U q) (s.out.U q) (by have:2 ^ gk≤2 ^ k:=Nat.pow_le_pow_right (by decide) bi;have:=L.out;omega) (by have:2 ^ gk≤2 ^ k:=Nat.pow_le_pow_right (by decide) bi;have:=L.out;omega);rw[cf,cg]at Z;obtain⟨N,be⟩:∃N,N=aF a b:=⟨_,rfl⟩;simp only[←be]at Z;have T:=Lib.hid Z;have cv:=Lib.hid be;clear Z cf cg be;cases gk with
   |zero=>
    have d1:z=1:=J;subst d1;clear ab ad J;have t:Hid (c=0):=Lib.hid (by rw[a2.out,←U.out];rfl);cases N
    all_goals
     go_wp2_with fail
     refine(T.out _ (by(exact kp))).mono ?_
     rintro a6 b6 ⟨rfl,bn⟩
     go_wp2_with fail
     go_meet
     exact⟨by rw[t.out],by rw[t.out],by rw[S.out,t.out],by(exact kp)⟩
   |succ g=>
    have a7:2 ^ (g+1)=2*2 ^ g:=(by rw[Nat.pow_succ];omega);have ds:2 ^ (g+1)≤2 ^ k:=Nat.pow_le_pow_right (by decide) bi;obtain⟨p,I⟩:∃p,p=2 ^ g:=⟨_,rfl⟩;have a1:1≤p:=(by rw[I];exact Nat.pow_pos (by decide));rw[a7,←I]at J ab ad;subst J;have s:4*p≤cap:=(by have:=L.out;rw[I];omega);have bw:(a.drop p).length=p:=(by rw[List.length_drop];omega);have co:(a.take p).length=p:=(by rw[List.length_take];omega);have Y:=fun(j:World) (q:aa w j)=>im (cap-p) j ((O.out.drop p).U q) (by omega);rw[bw]at Y;have b7:=Lib.hid (fun(j:World)=>mu (B:=B) (off:=off) p cap j a1 (by omega) (by omega));have bs:aM (g+1) a b=if N&&!ax (a.drop p)then aM g (a.take p) (a.drop p)else(g+1,a,b):=(by rw[I,cv.out];rfl);obtain⟨a5,cb⟩:∃a5,a5=ax (a.drop p):=⟨_,rfl⟩;rw[←cb]at Y bs;have b8:=Lib.hid Y;have a4:=Lib.hid bs;have A:=Lib.hid I;have c6:=Lib.hid bw;have c5:=Lib.hid co;clear Y bs cb ab ad a7 ds I bw co;cases N
    ·go_wp2_with fail
     refine(T.out _ (by(exact kp))).mono ?_;rintro a6 b6 ⟨rfl,bn⟩;go_wp2_with fail
     go_meet;have t:c=g+1:=(by rw[a2.out,←U.out,a4.out];rfl);exact⟨by rw[t,A.out,Nat.pow_succ,Nat.mul_comm],by rw[t,A.out,Nat.pow_succ,Nat.mul_comm],by rw[S.out,t],by(exact kp)⟩
    ·cases a5
     ·go_wp2_with fail
      refine(T.out _ (by(exact kp))).mono ?_;rintro a6 b6 ⟨rfl,bn⟩;go_wp2_with fail
      refine(b7.out _).mono ?_;rintro da d5 ⟨rfl,dl⟩;go_wp2_with fail
      refine(b8.out _ (by(exact kp))).mono ?_;rintro dj d6 ⟨rfl,rfl⟩;go_wp2_with fail
      go_roundg g
      case rel=>exact⟨p,a.take p,a.drop p,rfl,rfl,A.out,by rw[S.out];congr 1;omega,by omega,by rw[c5.out,A.out],by rw[c6.out,A.out],O.out.take p,O.out.drop p,by rw[←U.out,a4.out];rfl,by(exact kp)⟩
      case measure=>omega
     ·go_wp2_with fail
      refine(T.out _ (by(exact kp))).mono ?_;rintro a6 b6 ⟨rfl,bn⟩;go_wp2_with fail
      refine(b7.out _).mono ?_;rintro da d5 ⟨rfl,dl⟩;go_wp2_with fail
      refine(b8.out _ (by(exact kp))).mono ?_;rintro dj d6 ⟨rfl,rfl⟩;go_wp2_with fail
      go_meet;have t:c=g+1:=(by rw[a2.out,←U.out,a4.out];rfl);exact⟨by rw[t,A.out,Nat.pow_succ,Nat.mul_comm],by rw[t,A.out,Nat.pow_succ,Nat.mul_comm],by rw[S.out,t],by(exact kp)⟩
 case rest=>
  obtain⟨rfl,rfl,rfl,j⟩:=hcut;have a3:=Lib.hid j;rw[←c4.out];clear j;go_wp2_with fail
  refine(cS.out _).mono ?_;rintro j d7 ⟨rfl,j⟩;go_wp2_with fail
  refine(c0.out _).mono ?_;rintro j j ⟨rfl,j⟩;go_wp2_with fail
  refine(c2.out _ (by have:=a3.out;(exact kp))).mono ?_;rintro j j ⟨rfl,j⟩;go_wp2_with fail
  refine(c3.out _ (by have:=a3.out;(exact kp))).mono ?_;rintro j j ⟨rfl,j⟩;go_wp2_with fail
  go_ret
  exact⟨by rw[cx.out];rfl,by have:=a3.out;(exact kp)⟩

theorem Bn {B off:Nat}{ts:List Bool}(j cap:Nat)(l:Int)(w:World)(h:aE w B off ts)(q:ts.length=j)(z:j≤4096)(s:ax ts=true) :
  Calls Tryz.prog 183 #[.slice (some ⟨B,off,none⟩) j cap,.int .i64 l] w fun e w'=>e=.returned (.string ⟨#[48]⟩)∧aa w w':=by
 have t:=Lib.hid (fun(j:World) (z:aa w j)=>by have:=im cap j (h.U z) (by omega);rw[q,s]at this;exact this)
 clear h q s
 go_enter Tryz.func183,Tryz.ntmps183
 go_wp2_with (first|(go_at_call 235;refine(t.out _ (by(exact kp))).mono ?_;rintro e j ⟨rfl,rfl⟩)|fail)
 go_ret
 exact⟨rfl,by(exact kp)⟩

theorem Bp {B off:Nat}{ts:List Bool}(cap:Nat)(l:Int)(w:World)(h:aE w B off ts)(q:ts.length=1)(s:ax ts=false) :
  Calls Tryz.prog 183 #[.slice (some ⟨B,off,none⟩) 1 cap,.int .i64 l] w fun e w'=>e=.returned (.string ⟨#[49]⟩)∧aa w w':=by
 have t:=Lib.hid (fun(j:World) (z:aa w j)=>by have:=im cap j (h.U z) (by omega);rw[q,s]at this;exact this)
 clear h q s
 go_enter Tryz.func183,Tryz.ntmps183
 go_wp2_with (first|(go_at_call 235;refine(t.out _ (by(exact kp))).mono ?_;rintro e j ⟨rfl,rfl⟩)|fail)
 go_ret
 exact⟨rfl,by(exact kp)⟩

theorem Bm {B off:Nat}{ts:List Bool}(p cap:Nat)(l:Int)(x:ByteArray)(w:World)(T:1≤p)(h:aE w B off ts)(E:ts.length=2*p)(A:2*p≤cap)(q:cap≤4096)(s:0≤l)(t:l<20)(I:ax ts=false)(J:ax (ts.drop p)=true)
  (z:∀j,aa w j→Calls Tryz.prog 183 #[.slice (some ⟨B,off,none⟩) p cap,.int .i64 (l+1)] j fun e w'=>e=.returned (.string x)∧aa j w') :
  Calls Tryz.prog 183 #[.slice (some ⟨B,off,none⟩) (2*p) cap,.int .i64 l] w fun e w'=>e=.returned (.string x)∧aa w w':=by
 have K:(ts.drop p).length=p:=by rw[List.length_drop];omega
 have s:=fun(j:World) (t:aa w j)=>im (cap-p) j ((h.drop p).U t) (by omega)
 rw[J,K]at s
 have q:=fun(j:World) (t:aa w j)=>im cap j (h.U t) (by omega)
 rw[I,E]at q
 have O:=Lib.hid s
 have N:=Lib.hid q
 have L:=Lib.hid (fun(j:World)=>mu (B:=B) (off:=off) p cap j T A (by omega))
 have S:=Lib.hid z
 clear h E J I s q z A K
 go_enter Tryz.func183,Tryz.ntmps183
 go_wp2_with fail
 refine(N.out _ (by(exact kp))).mono ?_
 rintro j j ⟨rfl,rfl⟩
 go_wp2_with fail
 refine(L.out _).mono ?_
 rintro j j ⟨rfl,j⟩
 go_wp2_with fail
 refine(O.out _ (by(exact kp))).mono ?_
 rintro j j ⟨rfl,rfl⟩
 go_wp2_with fail
 refine(S.out _ (by(exact kp))).mono ?_
 rintro j j ⟨rfl,j⟩
 go_wp2_with fail
 go_ret
 exact⟨rfl,by(exact kp)⟩

theorem Bl {B:Nat}:∀(n:Nat),n≤20→∀(k:Nat),k<n→k≤9→∀(off cap:Nat) (ts:List Bool) (l:Int) (j:World),aE j B off ts→ts.length=2 ^ k→2 ^ k≤cap→cap≤4096→0≤l→l+(k:Nat)<11 →
  Calls Tryz.prog 183 #[.slice (some ⟨B,off,none⟩) (2 ^ k) cap,.int .i64 l] j fun e w'=>e=.returned (.string (cA n k ts l))∧aa j w':=by
 intro n
 induction n with
 |zero=>intro _ k z;omega
 |succ n J=>
  intro K k z z off cap ts l j h s A E I z;cases q:ax ts with
  |true=>
   have t:cA (n+1) k ts l=⟨#[48]⟩:=by
    cases k with
    |zero=>show(if ax ts=true then _ else _)=_;rw[if_pos q]
    |succ k=>show(if ax ts=true then _ else _)=_;rw[if_pos q]
   rw[t];exact Bn _ cap l j h s (by omega) q
  |false=>
   cases k with
   |zero=>
    have t:cA (n+1) 0 ts l=⟨#[49]⟩:=(by show(if ax ts=true then _ else _)=_;rw[if_neg (by rw[q];decide)]);rw[t];exact Bp cap l j h s q
   |succ k=>
    have z:2 ^ (k+1)=2*2 ^ k:=(by rw[Nat.pow_succ];omega);rw[z]at s A ⊢;cases z:ax (ts.drop (2 ^ k))with
    |true=>
     have t:cA (n+1) (k+1) ts l=cA n k (ts.take (2 ^ k)) (l+1):=by
      show(if ax ts=true then _ else if ax (ts.drop (2 ^ k))=true then _ else _)=_;rw[if_neg (by rw[q];decide),if_pos z]
     rw[t];exact Bm (2 ^ k) cap l _ j (Nat.pow_pos (by decide)) h s A E I (by omega) q z (fun t K=>J (by omega) k (by omega) (by omega) off cap _ (l+1) t ((h.take _).U K) (by rw[List.length_take];omega) (by omega) E (by omega) (by omega))
    |false=>exact Bo k n cap l j (by omega) h s A E I (by omega) (by omega) q z (fun c O off cap ts l j h s t K L N=>J (by omega) c (by omega) (by omega) off cap ts l j h s t K L N)

def ko (b:Bool):ByteArray:=if b then⟨#[49]⟩else⟨#[48]⟩

theorem uZ (b:Bool)(w:World):Calls Tryz.prog 227 #[.bool b] w fun e w'=>e=.returned (.string (ko b))∧w=w':=by
 cases b;all_goals go_enter Tryz.func227,Tryz.ntmps227
 all_goals go_wp2
 all_goals go_ret
 all_goals exact⟨rfl,rfl⟩

def cw:Nat→List Bool→Int→ByteArray
 |0,ts,_=>ko (ts.getD 0 false)
 |k+1,ts,l=>if aF (ts.take (2 ^ k)) (ts.drop (2 ^ k))then cw k (ts.take (2 ^ k)) (l+1)else⟨#[40]⟩++aB l++⟨#[32]⟩++cw k (ts.take (2 ^ k)) (l+1)++⟨#[32]⟩++cw k (ts.drop (2 ^ k)) (l+1)++⟨#[41]⟩

theorem og:∀(k:Nat) (ts:List Bool) (l:Int),(cw k ts l).size+7≤8*2 ^ k:=by
 intro k;induction k with
 |zero=>intro ts l;unfold cw ko;split<;>exact Nat.le_refl 8
 |succ k j=>
  intro ts l;have q:=j (ts.take (2 ^ k)) (l+1);have q:=j (ts.drop (2 ^ k)) (l+1);have j:0<2 ^ k:=Nat.pow_pos (by decide);have j:2 ^ (k+1)=2*2 ^ k:=by rw[Nat.pow_succ];omega
  rw[j];unfold cw;split;·omega
  ·simp only[ByteArray.size_append,bK];show 1+1+1+_+1+_+1+7≤_;omega

theorem Bf {B off:Nat}{ts:List Bool}(cap:Nat)(l:Int)(w:World)(h:aE w B off ts)(q:ts.length=1) :
  Calls Tryz.prog 180 #[.slice (some ⟨B,off,none⟩) 1 cap,.int .i64 l] w fun e w'=>e=.returned (.string (cw 0 ts l))∧aa w w':=by
 obtain⟨b,rfl⟩:∃b,ts=[b]:=by
  match ts,q with
  |[b],_=>exact⟨b,rfl⟩
 have q:w.cell? ⟨B,off,none⟩=some (.bool b):=h 0 b rfl
 rw[show cw 0 [b] l=ko b from rfl]
 have j:=Lib.hid (fun q=>uZ b q)
 clear h
 go_enter Tryz.func180,Tryz.ntmps180
 go_wp2_with (first|(go_at_call 227;refine(j.out _).mono ?_;rintro e w1 ⟨rfl,rfl⟩)|fail)
 go_ret
 exact⟨rfl,by(exact kp)⟩

theorem Be {B off:Nat}{ts:List Bool}(k p cap:Nat)(l:Int)(w:World)(N:2 ^ k=p)(a4:k≤9)(h:aE w B off ts)(a8:ts.length=2*p)(ab:2*p≤cap)(a3:cap≤4096)(a':0≤l)(bb:l<10)
  (S:∀(off cap:Nat) (ts:List Bool) (j:World),aE j B off ts→ts.length=p→p≤cap→cap≤4096→Calls Tryz.prog 180 #[.slice (some ⟨B,off,none⟩) p cap,.int .i64 (l+1)] j fun e w'=>e=.returned (.string (cw k ts (l+1)))∧aa j w') :
  Calls Tryz.prog 180 #[.slice (some ⟨B,off,none⟩) (2*p) cap,.int .i64 l] w fun e w'=>e=.returned (.string (cw (k+1) ts l))∧aa w w':=by
 have be:1≤p:=by rw[←N];exact Nat.pow_pos (by decide)
 have q:=bK l
 have T:=og k (ts.take (2 ^ k)) (l+1)
 have U:=og k (ts.drop (2 ^ k)) (l+1)
 have z:=h.take p
 have t:=h.drop p
 have s:cw (k+1) ts l=if aF (ts.take (2 ^ k)) (ts.drop (2 ^ k))then cw k (ts.take (2 ^ k)) (l+1)else⟨#[40]⟩++aB l++⟨#[32]⟩++cw k (ts.take (2 ^ k)) (l+1)++⟨#[32]⟩++cw k (ts.drop (2 ^ k)) (l+1)++⟨#[41]⟩:=rfl
 rw[s]
 rw[N]at T U ⊢
 have E:(ts.take p).length=p:=by rw[List.length_take];omega
 have A:(ts.drop p).length=p:=by rw[List.length_drop];omega
 obtain⟨lo,L⟩:∃lo,lo=ts.take p:=⟨_,rfl⟩
 obtain⟨hi,K⟩:∃hi,hi=ts.drop p:=⟨_,rfl⟩
 rw[←L]at z E T
 rw[←K]at t A U
 rw[←L,←K]
 have bp:(cw k lo (l+1)).size≤8388608:=by omega
 have bq:(cw k hi (l+1)).size≤8388608:=by omega
 have O:∀j,aa w j→Calls Tryz.prog 229 #[.slice (some ⟨B,off,none⟩) p cap,.slice (some ⟨B,off+p,none⟩) p (cap-p)] j fun e w'=>e=.returned (.bool (aF lo hi))∧aa j w':=fun j q=>by
  have:=ln cap (cap-p) j (z.U q) (t.U q) (by omega) (by omega);rw[E,A]at this;exact this
 have I:=fun(j:World) (q:aa w j)=>S off cap lo j (z.U q) E (by omega) a3
 have J:=fun(j:World) (q:aa w j)=>S (off+p) (cap-p) hi j (t.U q) A (by omega) (by omega)
 obtain⟨x,ad⟩:∃x,x=cw k lo (l+1):=⟨_,rfl⟩
 obtain⟨y,am⟩:∃y,y=cw k hi (l+1):=⟨_,rfl⟩
 obtain⟨b,Z⟩:∃b,b=aF lo hi:=⟨_,rfl⟩
 simp only[←ad,←am,←Z]at bp bq O I J ⊢
 have W:=Lib.hid (fun(j:World)=>vS (B:=B) (off:=off) p cap j be ab (by omega))
 have av:=Lib.hid (fun j=>cU l j a' bb)
 have X:=Lib.hid O
 have Y:=Lib.hid I
 have aw:=Lib.hid J
 clear h z t O I J ad am Z s S N a8 E A L K T U ab a4
 cases b
 ·show Calls _ _ _ _ fun e w'=>e=.returned (.string (⟨#[40]⟩++aB l++⟨#[32]⟩++x++⟨#[32]⟩++y++⟨#[41]⟩))∧aa w w';go_enter Tryz.func180,Tryz.ntmps180
  go_wp2_with (first|(go_at_call 228;refine(W.out _).mono ?_;rintro s bg ⟨rfl,a5⟩)|(go_at_call 229;refine(X.out _ (by(exact kp))).mono ?_;rintro a1 bi ⟨rfl,a6⟩)|(go_at_call 214;refine(av.out _).mono ?_;rintro j j ⟨rfl,j⟩)|fail)
  refine(Y.out _ (by(exact kp))).mono ?_;rintro a2 bn ⟨rfl,a7⟩;go_wp2_with fail
  refine(aw.out _ (by(exact kp))).mono ?_;rintro j j ⟨rfl,j⟩;go_wp2_with fail
  go_ret
  exact⟨rfl,by(exact kp)⟩
 ·show Calls _ _ _ _ fun e w'=>e=.returned (.string x)∧aa w w';go_enter Tryz.func180,Tryz.ntmps180
  go_wp2_with (first|(go_at_call 228;refine(W.out _).mono ?_;rintro s bg ⟨rfl,a5⟩)|(go_at_call 229;refine(X.out _ (by(exact kp))).mono ?_;rintro a1 bi ⟨rfl,a6⟩)|(go_at_call 180;refine(Y.out _ (by(exact kp))).mono ?_;rintro a2 bn ⟨rfl,a7⟩)|fail)
  go_ret
  exact⟨rfl,by(exact kp)⟩

theorem Bd {B:Nat}:∀(k:Nat),k≤9→∀(off cap:Nat) (ts:List Bool) (l:Int) (j:World),aE j B off ts→ts.length=2 ^ k→2 ^ k≤cap→cap≤4096→0≤l→l+(k:Nat)<11 →
  Calls Tryz.prog 180 #[.slice (some ⟨B,off,none⟩) (2 ^ k) cap,.int .i64 l] j fun e w'=>e=.returned (.string (cw k ts l))∧aa j w':=by
 intro k
 induction k with
 |zero=>intro _ off cap ts l j h q _ _ _ _;exact Bf cap l j h q
 |succ k E=>
  intro t off cap ts l j h q s z A t;have t:2 ^ (k+1)=2*2 ^ k:=by rw[Nat.pow_succ];omega
  rw[t]at q s ⊢;exact Be k (2 ^ k) cap l j rfl (by omega) h q s z A (by omega) (fun off cap ts j t z q s=>E (by omega) off cap ts (l+1) j t z q s (by omega) (by omega))

def ks (b:Bool):ByteArray:=if b then⟨#[49]⟩else⟨#[48]⟩

theorem vk (b:Bool)(w:World):Calls Tryz.prog 230 #[.bool b] w fun e w'=>e=.returned (.string (ks b))∧w=w':=by
 cases b;all_goals go_enter Tryz.func230,Tryz.ntmps230
 all_goals go_wp2
 all_goals go_ret
 all_goals exact⟨rfl,rfl⟩

def cB:Nat→List Bool→Int→ByteArray
 |0,ts,_=>ks (ts.getD 0 false)
 |k+1,ts,l=>if ax (ts.drop (2 ^ k))then cB k (ts.take (2 ^ k)) (l+1)else⟨#[40]⟩++aB l++⟨#[32]⟩++cB k (ts.take (2 ^ k)) (l+1)++⟨#[32]⟩++cB k (ts.drop (2 ^ k)) (l+1)++⟨#[41]⟩

theorem oq:∀(k:Nat) (ts:List Bool) (l:Int),(cB k ts l).size+7≤8*2 ^ k:=by
 intro k;induction k with
 |zero=>intro ts l;unfold cB ks;split<;>exact Nat.le_refl 8
 |succ k j=>
  intro ts l;have q:=j (ts.take (2 ^ k)) (l+1);have q:=j (ts.drop (2 ^ k)) (l+1);have j:0<2 ^ k:=Nat.pow_pos (by decide);have j:2 ^ (k+1)=2*2 ^ k:=by rw[Nat.pow_succ];omega
  rw[j];unfold cB;split;·omega
  ·simp only[ByteArray.size_append,bK];show 1+1+1+_+1+_+1+7≤_;omega

theorem Bx {B off:Nat}{ts:List Bool}(cap:Nat)(l:Int)(w:World)(h:aE w B off ts)(q:ts.length=1) :
  Calls Tryz.prog 181 #[.slice (some ⟨B,off,none⟩) 1 cap,.int .i64 l] w fun e w'=>e=.returned (.string (cB 0 ts l))∧aa w w':=by
 obtain⟨b,rfl⟩:∃b,ts=[b]:=by
  match ts,q with
  |[b],_=>exact⟨b,rfl⟩
 have q:w.cell? ⟨B,off,none⟩=some (.bool b):=h 0 b rfl
 rw[show cB 0 [b] l=ks b from rfl]
 have j:=Lib.hid (fun q=>vk b q)
 clear h
 go_enter Tryz.func181,Tryz.ntmps181
 go_wp2_with (first|(go_at_call 230;refine(j.out _).mono ?_;rintro e w1 ⟨rfl,rfl⟩)|fail)
 go_ret
 exact⟨rfl,by(exact kp)⟩

theorem Bw {B off:Nat}{ts:List Bool}(k p cap:Nat)(l:Int)(w:World)(L:2 ^ k=p)(a4:k≤9)(h:aE w B off ts)(a7:ts.length=2*p)(ab:2*p≤cap)(a3:cap≤4096)(a8:0≤l)(a':l<10)
  (O:∀(off cap:Nat) (ts:List Bool) (j:World),aE j B off ts→ts.length=p→p≤cap→cap≤4096→Calls Tryz.prog 181 #[.slice (some ⟨B,off,none⟩) p cap,.int .i64 (l+1)] j fun e w'=>e=.returned (.string (cB k ts (l+1)))∧aa j w') :
  Calls Tryz.prog 181 #[.slice (some ⟨B,off,none⟩) (2*p) cap,.int .i64 l] w fun e w'=>e=.returned (.string (cB (k+1) ts l))∧aa w w':=by
 have bb:1≤p:=by rw[←L];exact Nat.pow_pos (by decide)
 have q:=bK l
 have T:=oq k (ts.take (2 ^ k)) (l+1)
 have U:=oq k (ts.drop (2 ^ k)) (l+1)
 have J:=h.take p
 have t:=h.drop p
 have s:cB (k+1) ts l=if ax (ts.drop (2 ^ k))then cB k (ts.take (2 ^ k)) (l+1)else⟨#[40]⟩++aB l++⟨#[32]⟩++cB k (ts.take (2 ^ k)) (l+1)++⟨#[32]⟩++cB k (ts.drop (2 ^ k)) (l+1)++⟨#[41]⟩:=rfl
 rw[s]
 rw[L]at T U ⊢
 have S:(ts.take p).length=p:=by rw[List.length_take];omega
 have z:(ts.drop p).length=p:=by rw[List.length_drop];omega
 obtain⟨lo,K⟩:∃lo,lo=ts.take p:=⟨_,rfl⟩
 obtain⟨hi,I⟩:∃hi,hi=ts.drop p:=⟨_,rfl⟩
 rw[←K]at J S T
 rw[←I]at t z U
 rw[←K,←I]
 have bn:(cB k lo (l+1)).size≤8388608:=by omega
 have bp:(cB k hi (l+1)).size≤8388608:=by omega
 have N:∀j,aa w j→Calls Tryz.prog 232 #[.slice (some ⟨B,off+p,none⟩) p (cap-p)] j fun e w'=>e=.returned (.bool (ax hi))∧j=w':=fun j q=>by
  have:=yb (cap-p) j (t.U q) (by omega);rw[z]at this;exact this
 have A:=fun(j:World) (q:aa w j)=>O off cap lo j (J.U q) S (by omega) a3
 have E:=fun(j:World) (q:aa w j)=>O (off+p) (cap-p) hi j (t.U q) z (by omega) (by omega)
 obtain⟨x,ad⟩:∃x,x=cB k lo (l+1):=⟨_,rfl⟩
 obtain⟨y,am⟩:∃y,y=cB k hi (l+1):=⟨_,rfl⟩
 obtain⟨b,Z⟩:∃b,b=ax hi:=⟨_,rfl⟩
 simp only[←ad,←am,←Z]at bn bp N A E ⊢
 have W:=Lib.hid (fun(j:World)=>vT (B:=B) (off:=off) p cap j bb ab (by omega))
 have av:=Lib.hid (fun j=>cU l j a8 a')
 have X:=Lib.hid N
 have Y:=Lib.hid A
 have aw:=Lib.hid E
 clear h J t N A E ad am Z s O L a7 S z K I T U ab a4
 cases b
 ·show Calls _ _ _ _ fun e w'=>e=.returned (.string (⟨#[40]⟩++aB l++⟨#[32]⟩++x++⟨#[32]⟩++y++⟨#[41]⟩))∧aa w w';go_enter Tryz.func181,Tryz.ntmps181
  go_wp2_with (first|(go_at_call 231;refine(W.out _).mono ?_;rintro s be ⟨rfl,a5⟩)|(go_at_call 232;refine(X.out _ (by(exact kp))).mono ?_;rintro a1 bg ⟨rfl,rfl⟩)|(go_at_call 214;refine(av.out _).mono ?_;rintro j j ⟨rfl,j⟩)|fail)
  refine(Y.out _ (by(exact kp))).mono ?_;rintro a2 bi ⟨rfl,a6⟩;go_wp2_with fail
  refine(aw.out _ (by(exact kp))).mono ?_;rintro j j ⟨rfl,j⟩;go_wp2_with fail
  go_ret
  exact⟨rfl,by(exact kp)⟩
 ·show Calls _ _ _ _ fun e w'=>e=.returned (.string x)∧aa w w';go_enter Tryz.func181,Tryz.ntmps181
  go_wp2_with (first|(go_at_call 231;refine(W.out _).mono ?_;rintro s be ⟨rfl,a5⟩)|(go_at_call 232;refine(X.out _ (by(exact kp))).mono ?_;rintro a1 bg ⟨rfl,rfl⟩)|(go_at_call 181;refine(Y.out _ (by(exact kp))).mono ?_;rintro a2 bi ⟨rfl,a6⟩)|fail)
  go_ret
  exact⟨rfl,by(exact kp)⟩

theorem Bv {B:Nat}:∀(k:Nat),k≤9→∀(off cap:Nat) (ts:List Bool) (l:Int) (j:World),aE j B off ts→ts.length=2 ^ k→2 ^ k≤cap→cap≤4096→0≤l→l+(k:Nat)<11 →
  Calls Tryz.prog 181 #[.slice (some ⟨B,off,none⟩) (2 ^ k) cap,.int .i64 l] j fun e w'=>e=.returned (.string (cB k ts l))∧aa j w':=by
 intro k
 induction k with
 |zero=>intro _ off cap ts l j h q _ _ _ _;exact Bx cap l j h q
 |succ k E=>
  intro t off cap ts l j h q s z A t;have t:2 ^ (k+1)=2*2 ^ k:=by rw[Nat.pow_succ];omega
  rw[t]at q s ⊢;exact Bw k (2 ^ k) cap l j rfl (by omega) h q s z A (by omega) (fun off cap ts j t z q s=>E (by omega) off cap ts (l+1) j t z q s (by omega) (by omega))

def kr (b:Bool):ByteArray:=if b then⟨#[49]⟩else⟨#[48]⟩

theorem u' (b:Bool)(w:World):Calls Tryz.prog 233 #[.bool b] w fun e w'=>e=.returned (.string (kr b))∧w=w':=by
 cases b;all_goals go_enter Tryz.func233,Tryz.ntmps233
 all_goals go_wp2
 all_goals go_ret
 all_goals exact⟨rfl,rfl⟩

def aK:Nat→List Bool→List Bool→Nat×List Bool×List Bool
 |0,lo,hi=>(0,lo,hi)
 |k+1,lo,hi=>if !aF (lo.take (2 ^ k)) (lo.drop (2 ^ k))&&aF (hi.take (2 ^ k)) (hi.drop (2 ^ k))&&aF (hi.take (2 ^ k)) (lo.drop (2 ^ k))then aK k (lo.take (2 ^ k)) (lo.drop (2 ^ k))else(k+1,lo,hi)

theorem jr:∀(k:Nat) (lo hi:List Bool),(aK k lo hi).1≤k:=by
 intro k;induction k with
 |zero=>intro lo hi;exact Nat.le_refl 0
 |succ k j=>
  intro lo hi;unfold aK;split;·exact Nat.le_succ_of_le (j _ _)
  ·exact Nat.le_refl _

theorem uk {w:World}{B off:Nat}:∀(k:Nat) (lo hi:List Bool),aE w B off lo→lo.length=2 ^ k→aE w B (off+2 ^ k) hi→hi.length=2 ^ k →
  aE w B off (aK k lo hi).2.1∧(aK k lo hi).2.1.length=2 ^ (aK k lo hi).1∧aE w B (off+2 ^ (aK k lo hi).1) (aK k lo hi).2.2∧(aK k lo hi).2.2.length=2 ^ (aK k lo hi).1:=by
 intro k
 induction k with
 |zero=>intro lo hi j q s t;exact⟨j,q,s,t⟩
 |succ k z=>
  intro lo hi j q s t;unfold aK;split;·exact z _ _ (j.take _) (by rw[List.length_take,q,Nat.pow_succ];omega) (j.drop _) (by rw[List.length_drop,q,Nat.pow_succ];omega)
  ·exact⟨j,q,s,t⟩

def cz:Nat→Nat→List Bool→Int→ByteArray
 |0,_,_,_=>⟨#[48]⟩
 |_+1,0,ts,_=>kr (ts.getD 0 false)
 |n+1,k+1,ts,l=>
  if aF (ts.take (2 ^ k)) (ts.drop (2 ^ k))then cz n k (ts.take (2 ^ k)) (l+1)
  else⟨#[40]⟩++aB l++⟨#[58]⟩++aB (l+(k-(aK k (ts.take (2 ^ k)) (ts.drop (2 ^ k))).1:Nat))++⟨#[32]⟩++cz n (aK k (ts.take (2 ^ k)) (ts.drop (2 ^ k))).1 (aK k (ts.take (2 ^ k)) (ts.drop (2 ^ k))).2.1 (l+(k-(aK k (ts.take (2 ^ k)) (ts.drop (2 ^ k))).1:Nat)+1)++⟨#[32]⟩++cz n (aK k (ts.take (2 ^ k)) (ts.drop (2 ^ k))).1 (aK k (ts.take (2 ^ k)) (ts.drop (2 ^ k))).2.2 (l+(k-(aK k (ts.take (2 ^ k)) (ts.drop (2 ^ k))).1:Nat)+1)++⟨#[41]⟩

theorem oh:∀(n k:Nat) (ts:List Bool) (l:Int),(cz n k ts l).size+9≤10*2 ^ n:=by
 intro n;induction n with
 |zero=>intro k ts l;exact Nat.le_refl 10
 |succ n j=>
  intro k ts l;have q:0<2 ^ n:=Nat.pow_pos (by decide);have q:2 ^ (n+1)=2*2 ^ n:=by rw[Nat.pow_succ];omega
  rw[q];cases k with
  |zero=>
   unfold cz kr;split;·show 1+9≤_;omega
   ·show 1+9≤_;omega
  |succ k=>
   unfold cz;split;·have:=j k (ts.take (2 ^ k)) (l+1);omega
   ·have q:=j (aK k (ts.take (2 ^ k)) (ts.drop (2 ^ k))).1 (aK k (ts.take (2 ^ k)) (ts.drop (2 ^ k))).2.1 (l+(k-(aK k (ts.take (2 ^ k)) (ts.drop (2 ^ k))).1:Nat)+1);have q:=j (aK k (ts.take (2 ^ k)) (ts.drop (2 ^ k))).1 (aK k (ts.take (2 ^ k)) (ts.drop (2 ^ k))).2.2 (l+(k-(aK k (ts.take (2 ^ k)) (ts.drop (2 ^ k))).1:Nat)+1);simp only[ByteArray.size_append,bK];show 1+1+1+1+1+_+1+_+1+9≤_;omega

theorem Bi {B off:Nat}{ts:List Bool}(k n cap:Nat)(l:Int)(w:World)(er:k≤8)(h:aE w B off ts)(cv:ts.length=2*2 ^ k)(cp:2*2 ^ k≤cap)(d2:cap≤4096)(d8:0≤l)(eu:l+(k:Nat)<10)(ea:n≤19)(b0:aF (ts.take (2 ^ k)) (ts.drop (2 ^ k))=false)
  (b2:∀(c:Nat),c≤k→∀(off cap:Nat) (ts:List Bool) (l:Int) (j:World),aE j B off ts→ts.length=2 ^ c→2 ^ c≤cap→cap≤4096→0≤l→l+(c:Nat)<11→Calls Tryz.prog 182 #[.slice (some ⟨B,off,none⟩) (2 ^ c) cap,.int .i64 l] j fun e w'=>e=.returned (.string (cz n c ts l))∧aa j w') :
  Calls Tryz.prog 182 #[.slice (some ⟨B,off,none⟩) (2*2 ^ k) cap,.int .i64 l] w fun e w'=>e=.returned (.string (cz (n+1) (k+1) ts l))∧aa w w':=by
 have I:cz (n+1) (k+1) ts l=if aF (ts.take (2 ^ k)) (ts.drop (2 ^ k))then cz n k (ts.take (2 ^ k)) (l+1)
  else⟨#[40]⟩++aB l++⟨#[58]⟩++aB (l+(k-(aK k (ts.take (2 ^ k)) (ts.drop (2 ^ k))).1:Nat))++⟨#[32]⟩++cz n (aK k (ts.take (2 ^ k)) (ts.drop (2 ^ k))).1 (aK k (ts.take (2 ^ k)) (ts.drop (2 ^ k))).2.1 (l+(k-(aK k (ts.take (2 ^ k)) (ts.drop (2 ^ k))).1:Nat)+1)++⟨#[32]⟩++cz n (aK k (ts.take (2 ^ k)) (ts.drop (2 ^ k))).1 (aK k (ts.take (2 ^ k)) (ts.drop (2 ^ k))).2.2 (l+(k-(aK k (ts.take (2 ^ k)) (ts.drop (2 ^ k))).1:Nat)+1)++⟨#[41]⟩:=rfl
 rw[if_neg (by rw[b0];decide)]at I
 have A:1≤2 ^ k:=Nat.pow_pos (by decide)
 have Z:=fun(j:World) (s:aa w j)=>jb (2 ^ k) cap j A (by omega) (h.U s) cv
 rw[b0]at Z
 obtain⟨lo,a1⟩:∃lo,lo=ts.take (2 ^ k):=⟨_,rfl⟩
 obtain⟨hi,aw⟩:∃hi,hi=ts.drop (2 ^ k):=⟨_,rfl⟩
 have ca:aE w B off lo:=by rw[a1];exact h.take _
 have b9:aE w B (off+2 ^ k) hi:=by rw[aw];exact h.drop _
 have b5:lo.length=2 ^ k:=by rw[a1,List.length_take];omega
 have b4:hi.length=2 ^ k:=by rw[aw,List.length_drop];omega
 rw[←a1,←aw]at I
 have K:=uk k lo hi ca b5 b9 b4
 obtain⟨c,av⟩:∃c,c=(aK k lo hi).1:=⟨_,rfl⟩
 have bs:c≤k:=by rw[av];exact jr k lo hi
 obtain⟨t,b1⟩:∃t,t=l+((k-c:Nat):Int):=⟨_,rfl⟩
 have en:0≤t:=by omega
 have ep:t<10:=by omega
 have cx:2 ^ c≤2 ^ k:=Nat.pow_le_pow_right (by decide) bs
 rw[←av]at I K
 rw[←b1]at I
 have bq:=fun(j:World) (s:aa w j)=>b2 c bs off cap (aK k lo hi).2.1 (t+1) j (K.1.U s) K.2.1 (by omega) d2 (by omega) (by omega)
 have br:=fun(j:World) (s:aa w j)=>b2 c bs (off+2 ^ c) (cap-2 ^ c) (aK k lo hi).2.2 (t+1) j (K.2.2.1.U s) K.2.2.2 (by omega) (by omega) (by omega) (by omega)
 have c2:=oh n c (aK k lo hi).2.1 (t+1)
 have c3:=oh n c (aK k lo hi).2.2 (t+1)
 have eb:2 ^ n≤2 ^ 19:=Nat.pow_le_pow_right (by decide) ea
 have d0:(2:Nat) ^ 19=524288:=rfl
 obtain⟨x,cD⟩:∃x,x=cz n c (aK k lo hi).2.1 (t+1):=⟨_,rfl⟩
 obtain⟨y,cS⟩:∃y,y=cz n c (aK k lo hi).2.2 (t+1):=⟨_,rfl⟩
 simp only[←cD,←cS]at c2 c3 bq br I
 have bs:=bK l
 have bs:=bK t
 have bs:x.size≤8388608:=by omega
 have bs:y.size≤8388608:=by omega
 have c7:=Lib.hid (fun j=>cU l j d8 (by omega))
 have c8:=Lib.hid (fun j=>cU t j en ep)
 have c5:=Lib.hid I
 have c':=Lib.hid bq
 have da:=Lib.hid br
 have db:=Lib.hid b1
 have T:=Lib.hid av
 have dB:=Lib.hid ca
 have ds:=Lib.hid b9
 have dr:=Lib.hid b5
 have dl:=Lib.hid b4
 have t:=Lib.hid cx
 obtain⟨P,bi⟩:∃P,P=2 ^ k:=⟨_,rfl⟩
 rw[←bi]at Z A cp ⊢
 have c9:=Lib.hid Z
 have c6:=Lib.hid (fun(j:World)=>ky (B:=B) (off:=off) P cap j A cp (by omega))
 have a4:=Lib.hid bi
 clear h cv b0 b2 I Z a1 aw ca b9 b5 b4 K av b1 cx bq br c2 c3 eb d0 cD cS bi
 go_enter Tryz.func182,Tryz.ntmps182
 go_upto_block 0 with(first|(go_at_call 234;refine(c6.out _).mono ?_;rintro t t ⟨rfl,et⟩)|(go_at_call 229;refine(c9.out _ (by(exact kp))).mono ?_;rintro bg el ⟨rfl,d5⟩)|fail)
 go_cut [5,6,7,8,9,10,11]from 32 to 63 (fun b6 b7 b8 eg ek ed ee wd=>b6=.slice (some ⟨B,off,none⟩) (2 ^ c) cap∧b7=.slice (some ⟨B,off+2 ^ c,none⟩) (2 ^ c) (cap-2 ^ c)∧b8=.int .i64 (l+(k-c:Nat))∧aa w wd)
 case first=>
  go_wp2_with fail
  go_loopg [5,6,7,8,9,10,11] k (fun gk b6 b7 b8 eg ek ed ee wr=>∃(E:Nat) (a b:List Bool),b6=.slice (some ⟨B,off,none⟩) E cap∧b7=.slice (some ⟨B,off+E,none⟩) E (cap-E)∧E=2 ^ gk∧b8=.int .i64 (l+(k-gk:Nat))∧gk≤k∧a.length=2 ^ gk∧b.length=2 ^ gk∧aE w B off a∧aE w B (off+E) b∧aK gk a b=aK k lo hi∧aa w wr)
  case atStart=>exact⟨P,lo,hi,rfl,rfl,a4.out,by simp,Nat.le_refl _,dr.out,dl.out,dB.out,by rw[a4.out];exact ds.out,rfl,by(exact kp)⟩
  case round=>
   obtain⟨E,a,b,rfl,rfl,a2,rfl,d3,ad,am,ci,cj,cy,d7⟩:=hrel;obtain⟨m,bx⟩:∃m,m=l+((k-gk:Nat):Int):=⟨_,rfl⟩;have t:0≤m:=(by omega);have t:m≤20:=(by omega);rw[←bx];have L:=Lib.hid bx;have N:=Lib.hid cy;have S:=Lib.hid ci;have cf:=Lib.hid cj;clear bx cy ci cj;cases gk with
   |zero=>
    have ec:E=1:=a2;subst ec;clear ad am a2;go_wp2_with fail
    go_meet;have q:c=0:=(by rw[T.out,←N.out];rfl);exact⟨by rw[q],by rw[q],by rw[L.out,q],d7⟩
   |succ g=>
    have bg:2 ^ (g+1)=2*2 ^ g:=(by rw[Nat.pow_succ];omega);have d9:2 ^ (g+1)≤2 ^ k:=Nat.pow_le_pow_right (by decide) d3;obtain⟨p,J⟩:∃p,p=2 ^ g:=⟨_,rfl⟩;have A:1≤p:=(by rw[J];exact Nat.pow_pos (by decide));rw[bg,←J]at a2 ad am;subst a2;have t:4*p≤cap:=(by have:=a4.out;rw[J];omega);have bn:=fun(j:World) (s:aa w j)=>jb p cap j A (by omega) (S.out.U s) ad;have bp:=fun(j:World) (s:aa w j)=>jb p (cap-2*p) j A (by omega) (cf.out.U s) am;have b3:(a.drop p).length=p:=(by rw[List.length_drop];omega);have c0:(a.take p).length=p:=(by rw[List.length_take];omega);have c1:(b.take p).length=p:=(by rw[List.length_take];omega);have ab:=fun(j:World) (s:aa w j)=>ln (cap-2*p) (cap-p) j ((cf.out.take p).U s) ((S.out.drop p).U s) (by omega) (by omega);rw[b3,c1]at ab;have W:=Lib.hid (fun(j:World)=>ky (B:=B) (off:=off) p cap j A (by omega) (by omega));have U:=Lib.hid (fun(j:World)=>ky (B:=B) (off:=off+2*p) p (cap-2*p) j A (by omega) (by omega));have O:aK (g+1) a b=if !aF (a.take p) (a.drop p)&&aF (b.take p) (b.drop p)&&aF (b.take p) (a.drop p)then aK g (a.take p) (a.drop p)else(g+1,a,b):=(by rw[J];rfl);obtain⟨a6,cl⟩:∃a6,a6=aF (a.take p) (a.drop p):=⟨_,rfl⟩;obtain⟨a7,cn⟩:∃a7,a7=aF (b.take p) (b.drop p):=⟨_,rfl⟩;obtain⟨a8,co⟩:∃a8,a8=aF (b.take p) (a.drop p):=⟨_,rfl⟩;rw[←cl]at bn O;rw[←cn]at bp O;rw[←co]at ab O;have X:=Lib.hid bn;have a5:=Lib.hid bp;have cg:=Lib.hid ab;have Y:=Lib.hid O;have z:=Lib.hid J;have dk:=Lib.hid b3;have dj:=Lib.hid c0;clear bn bp ab O cl cn co ad am bg d9 J b3 c0 c1;cases a6
    ·cases a7
     ·go_wp2_with fail
      refine(W.out _).mono ?_;rintro a' cb ⟨rfl,bt⟩;go_wp2_with fail
      refine(U.out _).mono ?_;rintro bb cd ⟨rfl,bv⟩;go_wp2_with fail
      refine(X.out _ (by(exact kp))).mono ?_;rintro be ce ⟨rfl,bw⟩;go_wp2_with fail
      refine(a5.out _ (by(exact kp))).mono ?_;rintro ch c4 ⟨rfl,cq⟩;go_wp2_with fail
      go_meet;have q:c=g+1:=(by rw[T.out,←N.out,Y.out];rfl);exact⟨by rw[q,z.out,Nat.pow_succ,Nat.mul_comm],by rw[q,z.out,Nat.pow_succ,Nat.mul_comm],by rw[L.out,q],by(exact kp)⟩
     ·cases a8
      ·go_wp2_with fail
       refine(W.out _).mono ?_;rintro a' cb ⟨rfl,bt⟩;go_wp2_with fail
       refine(U.out _).mono ?_;rintro bb cd ⟨rfl,bv⟩;go_wp2_with fail
       refine(X.out _ (by(exact kp))).mono ?_;rintro be ce ⟨rfl,bw⟩;go_wp2_with fail
       refine(a5.out _ (by(exact kp))).mono ?_;rintro ch c4 ⟨rfl,cq⟩;go_wp2_with fail
       refine(cg.out _ (by(exact kp))).mono ?_;rintro d1 em ⟨rfl,d6⟩;go_wp2_with fail
       go_meet;have q:c=g+1:=(by rw[T.out,←N.out,Y.out];rfl);exact⟨by rw[q,z.out,Nat.pow_succ,Nat.mul_comm],by rw[q,z.out,Nat.pow_succ,Nat.mul_comm],by rw[L.out,q],by(exact kp)⟩
      ·go_wp2_with fail
       refine(W.out _).mono ?_;rintro a' cb ⟨rfl,bt⟩;go_wp2_with fail
       refine(U.out _).mono ?_;rintro bb cd ⟨rfl,bv⟩;go_wp2_with fail
       refine(X.out _ (by(exact kp))).mono ?_;rintro be ce ⟨rfl,bw⟩;go_wp2_with fail
       refine(a5.out _ (by(exact kp))).mono ?_;rintro ch c4 ⟨rfl,cq⟩;go_wp2_with fail
       refine(cg.out _ (by(exact kp))).mono ?_;rintro d1 em ⟨rfl,d6⟩;go_wp2_with fail
       go_roundg g
       case rel=>exact⟨p,a.take p,a.drop p,rfl,rfl,z.out,by rw[L.out];congr 1;omega,by omega,by rw[dj.out,z.out],by rw[dk.out,z.out],S.out.take p,S.out.drop p,by rw[←N.out,Y.out];rfl,by(exact kp)⟩
       case measure=>omega
    ·go_wp2_with fail
     refine(W.out _).mono ?_;rintro a' cb ⟨rfl,bt⟩;go_wp2_with fail
     refine(U.out _).mono ?_;rintro bb cd ⟨rfl,bv⟩;go_wp2_with fail
     refine(X.out _ (by(exact kp))).mono ?_;rintro be ce ⟨rfl,bw⟩;go_wp2_with fail
     go_meet;have q:c=g+1:=(by rw[T.out,←N.out,Y.out];rfl);exact⟨by rw[q,z.out,Nat.pow_succ,Nat.mul_comm],by rw[q,z.out,Nat.pow_succ,Nat.mul_comm],by rw[L.out,q],by(exact kp)⟩
 case rest=>
  obtain⟨rfl,rfl,rfl,j⟩:=hcut;have a3:=Lib.hid j;rw[←db.out];clear j;go_wp2_with fail
  refine(c7.out _).mono ?_;rintro j el ⟨rfl,d5⟩;go_wp2_with fail
  refine(c8.out _).mono ?_;rintro j j ⟨rfl,j⟩;go_wp2_with fail
  refine(c'.out _ (by have:=a3.out;(exact kp))).mono ?_;rintro j j ⟨rfl,j⟩;go_wp2_with fail
  refine(da.out _ (by have:=a3.out;(exact kp))).mono ?_;rintro j j ⟨rfl,j⟩;go_wp2_with fail
  go_ret
  exact⟨by rw[c5.out];rfl,by have:=a3.out;(exact kp)⟩

theorem Bj {B off:Nat}{ts:List Bool}(n cap:Nat)(l:Int)(w:World)(h:aE w B off ts)(q:ts.length=1) :
  Calls Tryz.prog 182 #[.slice (some ⟨B,off,none⟩) 1 cap,.int .i64 l] w fun e w'=>e=.returned (.string (cz (n+1) 0 ts l))∧aa w w':=by
 obtain⟨b,rfl⟩:∃b,ts=[b]:=by
  match ts,q with
  |[b],_=>exact⟨b,rfl⟩
 have q:w.cell? ⟨B,off,none⟩=some (.bool b):=h 0 b rfl
 rw[show cz (n+1) 0 [b] l=kr b from rfl]
 have j:=Lib.hid (fun q=>u' b q)
 clear h
 go_enter Tryz.func182,Tryz.ntmps182
 go_wp2_with (first|(go_at_call 233;refine(j.out _).mono ?_;rintro e w1 ⟨rfl,rfl⟩)|fail)
 go_ret
 exact⟨rfl,by(exact kp)⟩

theorem Bh {B off:Nat}{ts:List Bool}(p cap:Nat)(l:Int)(x:ByteArray)(w:World)(A:1≤p)(h:aE w B off ts)(z:ts.length=2*p)(t:2*p≤cap)(q:cap≤4096)(L:0≤l)(S:l<20)(E:aF (ts.take p) (ts.drop p)=true)
  (s:∀j,aa w j→Calls Tryz.prog 182 #[.slice (some ⟨B,off,none⟩) p cap,.int .i64 (l+1)] j fun e w'=>e=.returned (.string x)∧aa j w') :
  Calls Tryz.prog 182 #[.slice (some ⟨B,off,none⟩) (2*p) cap,.int .i64 l] w fun e w'=>e=.returned (.string x)∧aa w w':=by
 have q:=fun(j:World) (L:aa w j)=>jb p cap j A (by omega) (h.U L) z
 rw[E]at q
 have J:=Lib.hid q
 have I:=Lib.hid (fun(j:World)=>ky (B:=B) (off:=off) p cap j A t (by omega))
 have K:=Lib.hid s
 clear h z E q s t
 go_enter Tryz.func182,Tryz.ntmps182
 go_wp2_with (first|(go_at_call 234;refine(I.out _).mono ?_;rintro j j ⟨rfl,N⟩)|(go_at_call 229;refine(J.out _ (by(exact kp))).mono ?_;rintro j j ⟨rfl,O⟩)|(go_at_call 182;refine(K.out _ (by(exact kp))).mono ?_;rintro j j ⟨rfl,j⟩)|fail)
 go_ret
 exact⟨rfl,by(exact kp)⟩

theorem Bg {B:Nat}:∀(n:Nat),n≤20→∀(k:Nat),k<n→k≤9→∀(off cap:Nat) (ts:List Bool) (l:Int) (j:World),aE j B off ts→ts.length=2 ^ k→2 ^ k≤cap→cap≤4096→0≤l→l+(k:Nat)<11 →
  Calls Tryz.prog 182 #[.slice (some ⟨B,off,none⟩) (2 ^ k) cap,.int .i64 l] j fun e w'=>e=.returned (.string (cz n k ts l))∧aa j w':=by
 intro n
 induction n with
 |zero=>intro _ k s;omega
 |succ n E=>
  intro I k s s off cap ts l j h q t z A s;cases k with
  |zero=>exact Bj n cap l j h q
  |succ k=>
   have s:2 ^ (k+1)=2*2 ^ k:=(by rw[Nat.pow_succ];omega);rw[s]at q t ⊢;cases s:aF (ts.take (2 ^ k)) (ts.drop (2 ^ k))with
   |true=>
    have I:cz (n+1) (k+1) ts l=cz n k (ts.take (2 ^ k)) (l+1):=by
     show(if aF (ts.take (2 ^ k)) (ts.drop (2 ^ k))=true then _ else _)=_;rw[if_pos s]
    rw[I];exact Bh (2 ^ k) cap l _ j (Nat.pow_pos (by decide)) h q t z A (by omega) s (fun I J=>E (by omega) k (by omega) (by omega) off cap _ (l+1) I ((h.take _).U J) (by rw[List.length_take];omega) (by omega) z (by omega) (by omega))
   |false=>exact Bi k n cap l j (by omega) h q t z A (by omega) (by omega) s (fun c N off cap ts l j h q I J K L=>E (by omega) c (by omega) (by omega) off cap ts l j h q I J K L)

theorem Bu {B off:Nat}{ts:List Bool}(k n cap:Nat)(l:Int)(w:World)(ed:k≤9)(h:aE w B off ts)(bv:ts.length=2 ^ k)(c1:2 ^ k≤cap)(c2:cap≤4096)(ee:0≤l)(eg:l+(k:Nat)<10)(d6:n≤20)(cb:ax ts=false)
  (c':∀(c:Nat),c<k→∀(off cap:Nat) (ts:List Bool) (l:Int) (j:World),aE j B off ts→ts.length=2 ^ c→2 ^ c≤cap→cap≤4096→0≤l→l+(c:Nat)<10→Calls Tryz.prog 184 #[.slice (some ⟨B,off,none⟩) (2 ^ c) cap,.int .i64 l] j fun e w'=>e=.returned (.string (dn n c ts l))∧aa j w') :
  Calls Tryz.prog 184 #[.slice (some ⟨B,off,none⟩) (2 ^ k) cap,.int .i64 l] w fun e w'=>e=.returned (.string (dn (n+1) k ts l))∧aa w w':=by
 have cv:=Lib.hid (fun(j:World) (E:aa w j)=>by have:=mV cap j (h.U E) (by rw[bv];omega);rw[bv,cb]at this;exact this)
 obtain⟨a,b7⟩:∃a,a=(aS k ts).1:=⟨_,rfl⟩
 have d3:a≤k:=by rw[b7];exact lz k ts
 obtain⟨P,b5⟩:∃P,P=2 ^ k:=⟨_,rfl⟩
 have H:=Lib.hid h
 have co:=Lib.hid bv
 have a6:=Lib.hid b7
 have cj:=Lib.hid c1
 have ed:P≤4096:=by omega
 rw[←b5]at cv ⊢
 have dB:=Lib.hid b5
 have cq:=Lib.hid cb
 have cn:=Lib.hid c'
 clear h bv b7 c1 b5 cb c'
 go_enter Tryz.func184,Tryz.ntmps184
 go_upto_block 0 with(first|(go_at_call 237;refine(cv.out _ (by(exact kp))).mono ?_;rintro e av ⟨rfl,rfl⟩)|fail)
 go_cut [0,5,6,7]from 16 to 30 (fun am cg ea eb wc=>am=.slice (some ⟨B,off,none⟩) (2 ^ a) cap∧cg=.int .i64 (l+(k-a:Nat))∧aa w wc)
 case first=>
  go_wp2_with fail
  go_loopg [0,5,6,7] k (fun gk am cg ea eb wr=>∃(K:Nat) (q:List Bool),am=.slice (some ⟨B,off,none⟩) K cap∧K=2 ^ gk∧cg=.int .i64 (l+(k-gk:Nat))∧gk≤k∧q.length=2 ^ gk∧aE w B off q∧aS gk q=aS k ts∧aa w wr)
  case atStart=>exact⟨P,ts,rfl,dB.out,by simp,Nat.le_refl _,co.out,H.out,rfl,by(exact kp)⟩
  case round=>
   obtain⟨K,q,rfl,I,rfl,b9,J,a',bg,ca⟩:=hrel;obtain⟨m,Y⟩:∃m,m=l+((k-gk:Nat):Int):=⟨_,rfl⟩;have da:0≤m:=(by omega);have db:m≤20:=(by omega);rw[←Y];have S:=Lib.hid Y;have U:=Lib.hid bg;have a1:=Lib.hid a';have bv:=Lib.hid J;clear Y bg a';cases gk with
   |zero=>
    have ce:K=1:=I;subst ce;clear J I;go_wp2_with fail
    go_meet;have A:a=0:=(by rw[a6.out,←U.out];rfl);exact⟨by rw[A],by rw[S.out,A],ca⟩
   |succ g=>
    have z:2 ^ (g+1)=2*2 ^ g:=(by rw[Nat.pow_succ];omega);obtain⟨p,t⟩:∃p,p=2 ^ g:=⟨_,rfl⟩;have ab:1≤p:=(by rw[t];exact Nat.pow_pos (by decide));rw[z,←t]at I J;subst I;have Z:2 ^ (g+1)≤2 ^ k:=Nat.pow_le_pow_right (by decide) b9;have cd:2*p≤cap:=(by have:=cj.out;rw[t,←z];omega);have hS:=fun(j:World) (E:aa w j)=>jb p cap j ab (by omega) (a1.out.U E) J;have O:=Lib.hid (fun(j:World)=>kz (B:=B) (off:=off) p cap j ab cd (by omega));have X:aS (g+1) q=if aF (q.take p) (q.drop p)then aS g (q.take p)else(g+1,q):=(by rw[t];rfl);obtain⟨b,bb⟩:∃b,b=aF (q.take p) (q.drop p):=⟨_,rfl⟩;rw[←bb]at hS X;have cx:=Lib.hid hS;have aw:=Lib.hid X;have T:=Lib.hid t;have bv:=Lib.hid Z;have a4:(q.take p).length=p:=(by rw[List.length_take];omega);have b1:=Lib.hid a4;clear hS X bb J z Z t a4;cases b
    ·go_wp2_with (first|(go_at_call 238;refine(O.out _).mono ?_;rintro a2 av ⟨rfl,a3⟩)|(go_at_call 229;refine(cx.out _ (by(exact kp))).mono ?_;rintro z bi ⟨rfl,c3⟩)|fail)
     go_meet;have A:a=g+1:=(by rw[a6.out,←U.out,aw.out];rfl);exact⟨by rw[A,T.out,Nat.pow_succ,Nat.mul_comm],by rw[S.out,A],by(exact kp)⟩
    ·go_wp2_with (first|(go_at_call 238;refine(O.out _).mono ?_;rintro a2 av ⟨rfl,a3⟩)|(go_at_call 229;refine(cx.out _ (by(exact kp))).mono ?_;rintro z bi ⟨rfl,c3⟩)|fail)
     go_roundg g
     case rel=>exact⟨p,q.take p,rfl,T.out,by rw[S.out];congr 1;omega,by omega,by rw[b1.out,T.out],a1.out.take p,by rw[←U.out,aw.out];rfl,by(exact kp)⟩
     case measure=>omega
 case rest=>
  obtain⟨rfl,rfl,c5⟩:=hcut;obtain⟨L,cf⟩:∃L,L=(aS k ts).2:=⟨_,rfl⟩;have bw:=AQ k ts H.out co.out;rw[←cf,←a6.out]at bw;obtain⟨c,b8⟩:∃c,c=(cm a L).1:=⟨_,rfl⟩;have d5:c≤a:=by rw[b8];exact lA a L
  have d7:2 ^ a≤2 ^ k:=Nat.pow_le_pow_right (by decide) d3;obtain⟨m,Y⟩:∃m,m=l+((k-a:Nat):Int):=⟨_,rfl⟩;have da:0≤m:=by omega
  have db:m<10:=by omega
  have bv:m+(a:Int)<10:=by omega
  obtain⟨Q,b6⟩:∃Q,Q=2 ^ a:=⟨_,rfl⟩;have bv:Q≤cap:=by have:=cj.out;omega
  rw[←Y,←b6];have ci:=Lib.hid bw.1;have cp:=Lib.hid bw.2;have a7:=Lib.hid b8;have S:=Lib.hid Y;have b3:=Lib.hid b6;have cy:=Lib.hid cf;have dr:=Lib.hid c5;clear bw b8 d7 Y b6 cf c5;go_upto_block 2 with fail
  go_cut [0,8,9,10]from 32 to 49 (fun am ch ec d9 wd=>am=.slice (some ⟨B,off,none⟩) (2 ^ c) cap∧ch=.int .i64 (m+(a-c:Nat))∧aa w wd)
  case first=>
   go_wp2_with fail
   go_loopg [0,8,9,10] a (fun gk am ch ec d9 wr=>∃(K:Nat) (q:List Bool),am=.slice (some ⟨B,off,none⟩) K cap∧K=2 ^ gk∧ch=.int .i64 (m+(a-gk:Nat))∧gk≤a∧q.length=2 ^ gk∧aE w B off q∧cm gk q=cm a L∧aa w wr)
   case atStart=>exact⟨Q,L,rfl,b3.out,by simp,Nat.le_refl _,cp.out,ci.out,rfl,by have:=dr.out;(exact kp)⟩
   case round=>
    obtain⟨K,q,rfl,I,rfl,b9,J,a',bg,ca⟩:=hrel;obtain⟨s,ad⟩:∃s,s=m+((a-gk:Nat):Int):=⟨_,rfl⟩;have Y:0≤s:=(by omega);have Y:s≤20:=(by omega);rw[←ad];have bn:=Lib.hid ad;have U:=Lib.hid bg;have a1:=Lib.hid a';clear ad bg a';cases gk with
    |zero=>
     have ce:K=1:=I;subst ce;clear J I;go_wp2_with fail
     go_meet;have A:c=0:=(by rw[a7.out,←U.out];rfl);exact⟨by rw[A],by rw[bn.out,A],ca⟩
    |succ g=>
     have z:2 ^ (g+1)=2*2 ^ g:=(by rw[Nat.pow_succ];omega);obtain⟨p,t⟩:∃p,p=2 ^ g:=⟨_,rfl⟩;have ab:1≤p:=(by rw[t];exact Nat.pow_pos (by decide));have Z:2 ^ (g+1)≤2 ^ a:=Nat.pow_le_pow_right (by decide) b9;have cd:2*p≤cap:=(by have:=b3.out;rw[t,←z];omega);rw[z,←t]at I J;subst I;have a4:(q.take p).length=p:=(by rw[List.length_take];omega);have c6:(q.drop p).length=p:=(by rw[List.length_drop];omega);have bp:=fun(j:World) (E:aa w j)=>mV (cap-p) j ((a1.out.drop p).U E) (by omega);rw[c6]at bp;have hF:=fun(j:World) (E:aa w j)=>vF g (q.take p) cap j (by omega) ((a1.out.take p).U E) (by rw[a4,t]) (by rw[←t];omega) c2;rw[←t]at hF;have O:=Lib.hid (fun(j:World)=>kz (B:=B) (off:=off) p cap j ab cd (by omega));have X:cm (g+1) q=if ax (q.drop p)&&!fA g (q.take p)then cm g (q.take p)else(g+1,q):=(by rw[t];rfl);obtain⟨b,bb⟩:∃b,b=ax (q.drop p):=⟨_,rfl⟩;obtain⟨b4,c0⟩:∃b4,b4=fA g (q.take p):=⟨_,rfl⟩;rw[←bb]at bp X;rw[←c0]at hF X;have b2:=Lib.hid bp;have cl:=Lib.hid hF;have aw:=Lib.hid X;have T:=Lib.hid t;have b1:=Lib.hid a4;clear bp hF X bb c0 J z Z t a4 c6;cases b
     ·go_wp2_with (first|(go_at_call 238;refine(O.out _).mono ?_;rintro a2 av ⟨rfl,a3⟩)|(go_at_call 237;refine(b2.out _ (by(exact kp))).mono ?_;rintro z bi ⟨rfl,rfl⟩)|fail)
      go_meet;have A:c=g+1:=(by rw[a7.out,←U.out,aw.out];rfl);exact⟨by rw[A,T.out,Nat.pow_succ,Nat.mul_comm],by rw[bn.out,A],by(exact kp)⟩
     ·cases b4
      ·go_wp2_with (first|(go_at_call 238;refine(O.out _).mono ?_;rintro a2 av ⟨rfl,a3⟩)|(go_at_call 237;refine(b2.out _ (by(exact kp))).mono ?_;rintro z bi ⟨rfl,rfl⟩)|(go_at_call 239;refine(cl.out _ (by(exact kp))).mono ?_;rintro cS dl ⟨rfl,c4⟩)|fail)
       go_roundg g
       case rel=>exact⟨p,q.take p,rfl,T.out,by rw[bn.out];congr 1;omega,by omega,by rw[b1.out,T.out],a1.out.take p,by rw[←U.out,aw.out];rfl,by(exact kp)⟩
       case measure=>omega
      ·go_wp2_with (first|(go_at_call 238;refine(O.out _).mono ?_;rintro a2 av ⟨rfl,a3⟩)|(go_at_call 237;refine(b2.out _ (by(exact kp))).mono ?_;rintro z bi ⟨rfl,rfl⟩)|(go_at_call 239;refine(cl.out _ (by(exact kp))).mono ?_;rintro cS dl ⟨rfl,c4⟩)|fail)
       go_meet;have A:c=g+1:=(by rw[a7.out,←U.out,aw.out];rfl);exact⟨by rw[A,T.out,Nat.pow_succ,Nat.mul_comm],by rw[bn.out,A],by(exact kp)⟩
  case rest=>
   obtain⟨rfl,rfl,bt⟩:=hcut;obtain⟨N,bx⟩:∃N,N=(cm a L).2:=⟨_,rfl⟩;have a5:=AR a L ci.out cp.out;rw[←bx,←a7.out]at a5;have bs:cm a L=(c,N):=(by rw[a7.out,bx]);obtain⟨s,ad⟩:∃s,s=m+((a-c:Nat):Int):=⟨_,rfl⟩;have q:0≤s:=(by omega);have A:s<10:=(by omega);have c9:s+(c:Int)<10:=(by omega);rw[←ad];have cD:=Lib.hid (fun j=>oe m j da db);have ds:=Lib.hid (fun j=>cU s j q A);have q:=bK m;have q:=bK s;have Z:2 ^ c≤2 ^ a:=Nat.pow_le_pow_right (by decide) d5;have be:2 ^ c≤cap:=(by have:=b3.out;omega);have a8:=Lib.hid bt;cases c with
   |zero=>
    have W:=Bs (n:=n) (l:=l) cq.out a6.out cy.out bs;rw[←S.out]at W;have b0:=Lib.hid W;clear W a5 bs bx ad c9 Z be bt;go_wp2_with (first|(go_at_call 215;refine(cD.out _).mono ?_;rintro a2 av ⟨rfl,a3⟩)|fail)
    go_ret
    exact⟨by rw[b0.out];rfl,by have:=a8.out;(exact kp)⟩
   |succ c=>
    have W:=Br (n:=n) (l:=l) cq.out a6.out cy.out bs;rw[←S.out,show l+((k-(c+1):Nat):Int)=s by have:=S.out;omega,show l+((k-c:Nat):Int)=s+1 by have:=S.out;omega]at W;have z:2 ^ (c+1)=2*2 ^ c:=(by rw[Nat.pow_succ];omega);have ab:1≤2 ^ c:=Nat.pow_pos (by decide);rw[z]at be a5 ⊢;have bq:=fun(j:World) (E:aa w j)=>cn.out c (by omega) off cap (N.take (2 ^ c)) (s+1) j ((a5.1.take _).U E) (by rw[List.length_take];omega) (by omega) c2 (by omega) (by omega);have br:=fun(j:World) (E:aa w j)=>cn.out c (by omega) (off+2 ^ c) (cap-2 ^ c) (N.drop (2 ^ c)) (s+1) j ((a5.1.drop _).U E) (by rw[List.length_drop];omega) (by omega) (by omega) (by omega) (by omega);have dj:=oo n c (N.take (2 ^ c)) (s+1);have dk:=oo n c (N.drop (2 ^ c)) (s+1);have d8:2 ^ n≤2 ^ 20:=Nat.pow_le_pow_right (by decide) d6;have d2:(2:Nat) ^ 20=1048576:=rfl;obtain⟨x,c7⟩:∃x,x=dn n c (N.take (2 ^ c)) (s+1):=⟨_,rfl⟩;obtain⟨y,c8⟩:∃y,y=dn n c (N.drop (2 ^ c)) (s+1):=⟨_,rfl⟩;simp only[←c7,←c8]at dj dk bq br W;have q:x.size≤8388608:=(by omega);have q:y.size≤8388608:=(by omega);obtain⟨p,t⟩:∃p,p=2 ^ c:=⟨_,rfl⟩;rw[←t]at be ab bq br ⊢;have O:=Lib.hid (fun(j:World)=>kz (B:=B) (off:=off) p cap j ab be (by omega));have b0:=Lib.hid W;have d0:=Lib.hid bq;have d1:=Lib.hid br;clear W a5 bs bx ad c9 Z be bt c7 c8 dj dk d8 d2 z t bq br;go_wp2_with (first|(go_at_call 238;have bt:=a8.out;refine(O.out _).mono ?_;rintro a2 av ⟨rfl,a3⟩)|(go_at_call 215;refine(cD.out _).mono ?_;rintro j bi ⟨rfl,c3⟩)|(go_at_call 214;refine(ds.out _).mono ?_;rintro cS dl ⟨rfl,c4⟩)|fail)
    refine(d0.out _ (by have:=a8.out;(exact kp))).mono ?_;rintro j j ⟨rfl,j⟩;go_wp2_with fail
    refine(d1.out _ (by have:=a8.out;(exact kp))).mono ?_;rintro j j ⟨rfl,j⟩;go_wp2_with fail
    go_ret
    exact⟨by rw[b0.out];rfl,by have:=a8.out;(exact kp)⟩

theorem Bt {B off:Nat}{ts:List Bool}(k cap:Nat)(l:Int)(w:World)(A:k≤9)(h:aE w B off ts)(j:ts.length=2 ^ k)(E:2 ^ k≤cap)(s:cap≤4096)(z:ax ts=true) :
  Calls Tryz.prog 184 #[.slice (some ⟨B,off,none⟩) (2 ^ k) cap,.int .i64 l] w fun e w'=>e=.returned (.string ⟨#[48]⟩)∧aa w w':=by
 have q:=Lib.hid (fun(s:World) (A:aa w s)=>by have:=mV cap s (h.U A) (by rw[j];omega);rw[j,z]at this;exact this)
 obtain⟨P,t⟩:∃P,P=2 ^ k:=⟨_,rfl⟩
 rw[←t]at q ⊢
 clear h j E t z
 go_enter Tryz.func184,Tryz.ntmps184
 go_wp2_with (first|(go_at_call 237;refine(q.out _ (by(exact kp))).mono ?_;rintro e j ⟨rfl,rfl⟩)|fail)
 go_ret
 exact⟨rfl,by(exact kp)⟩

theorem Bq {B:Nat}:∀(n:Nat),n≤20→∀(k:Nat),k<n→k≤9→∀(off cap:Nat) (ts:List Bool) (l:Int) (j:World),aE j B off ts→ts.length=2 ^ k→2 ^ k≤cap→cap≤4096→0≤l→l+(k:Nat)<10 →
  Calls Tryz.prog 184 #[.slice (some ⟨B,off,none⟩) (2 ^ k) cap,.int .i64 l] j fun e w'=>e=.returned (.string (dn n k ts l))∧aa j w':=by
 intro n
 induction n with
 |zero=>intro _ k s;omega
 |succ n K=>
  intro E k s A off cap ts l j h q t z I J;cases s:ax ts with
  |true=>
   have E:dn (n+1) k ts l=⟨#[48]⟩:=by
    show(if ax ts=true then _ else _)=_;rw[if_pos s]
   rw[E];exact Bt k cap l j A h q t z s
  |false=>exact Bu k n cap l j A h q t z I J (by omega) s (fun c S off cap ts l j h q E L N O=>K (by omega) c (by omega) (by omega) off cap ts l j h q E L N O)

end Go.Proofs.YtafkamlhimkbmaaGreat
