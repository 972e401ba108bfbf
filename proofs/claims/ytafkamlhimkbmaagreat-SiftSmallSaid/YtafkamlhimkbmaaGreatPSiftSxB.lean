/-
  Plainly: steps there and back; right roots come back as they were.
-/
import Derived.Test.YtafkamlhimkbmaaGreatPSiftC
namespace Go.Proofs.YtafkamlhimkbmaaGreat
set_option maxRecDepth 1000000
set_option maxHeartbeats 8000000
set_option linter.unusedSimpArgs false
set_option linter.unusedVariables false

theorem ru {ps:List Int}{i:Nat}(h:i+1<ps.length):aq (aq ps i) i=ps:=by
 apply List.ext_getElem?;intro s;have t:i+1<(aq ps i).length:=by rw[ck];exact h
 rw[eG t];by_cases j:s=i;·rw[if_pos j,eG h,if_neg (by omega),if_pos rfl,j]
 ·rw[if_neg j];by_cases q:s=i+1;·rw[if_pos q,eG h,if_pos rfl,q]
  ·rw[if_neg q,eG h,if_neg j,if_neg q]

open Go.RowKit

theorem Aq {F:Nat→Prop}{w:World}{W:Nat}{M:St}(h:ag F w W M)(a:Option Addr)(cap:Nat)(rs:List (Int×Edge))(s:dz w a rs)(q:rs.length≤1048576)(S:dX M rs=0) :
  Calls Tryz.prog 19 #[.pointer (some ⟨W,0,none⟩),.slice a rs.length cap] w fun e w'=>e=.returned (.tuple #[.int .i64 ((aQ M.cs ((rs.map Prod.snd).map Edge.to)).length:Int),.int .u8 0])∧aa w w':=by
 have E:=lq h a cap rs s q
 rw[S]at E
 have T:∀e∈rs.map Prod.snd,e.ok:=fun e A=>by
  obtain⟨r,ab,rfl⟩:=List.mem_map.1 A;obtain⟨i,hi⟩:=List.mem_iff_getElem?.1 ab;exact(s i r hi).2.1
 have N:=fun(j:World) (W:Nat) (z:aa w j) (ab:j.cell? ⟨W,2,none⟩=some (.slice a rs.length cap))=>ke ab (s.U z) rfl q
 have U:=fun(j:World) (g:Nat) (z:aa w j) (O:bJ j g (rs.map Prod.snd))=>ld (h.U z) (some ⟨g,0,none⟩) rs.length rs.length (rs.map Prod.snd) ⟨by rw[List.length_map],fun i e A=>(O.at T) i e A⟩ q
 have J:=Lib.hid E
 have I:=Lib.hid N
 have t:=Lib.hid U
 obtain⟨j,L⟩:∃j,j=rs.length:=⟨_,rfl⟩
 rw[←L]at J I t q ⊢
 obtain⟨j,K⟩:∃j,j=aQ M.cs ((rs.map Prod.snd).map Edge.to):=⟨_,rfl⟩
 rw[←K]at t ⊢
 clear h s S E T N U L K
 go_enter Tryz.func19,Tryz.ntmps19
 go_wp2_with (first|(go_at_call 49;refine J.out.mono ?_;rintro e w1 ⟨rfl,ad⟩)|fail)
 refine(I.out _ _ (by(exact kp)) (by simp[go_sem])).mono ?_
 rintro e X ⟨g,rfl,O,q,s⟩
 have j:aa w X:=(show aa w _ from ad.alloc _).trans s
 have Z:=Lib.hid (t.out X g j q)
 have Y:=Lib.hid j
 clear q s j
 go_wp2_with fail
 refine Z.out.mono ?_
 rintro e j ⟨v,rfl,⟨av,aw,rfl,-⟩,am⟩
 go_wp2_with fail
 go_ret2
 exact⟨rfl,Y.out.trans am⟩

theorem qR {ps:List Int}{a b:Nat}(j:a+1<ps.length):aJ (aq ps a) (bA (a+1) b)=aJ ps (bA a b):=by
 by_cases h:a<b;·rw[mS h];rfl
 ·rw[mT (show b<a+1 by omega),Nat.add_sub_cancel];show aJ (aq (aq ps a) a) (bA a b)=_;rw[ru j]

theorem zI {ps:List Int}{a b:Nat}(j:a+1<ps.length):aJ (aq ps a) (bA a b)=aJ ps (bA (a+1) b):=by
 have h:=qR (ps:=aq ps a) (a:=a) (b:=b) (by rw[ck];exact j);rw[ru j]at h;exact h.symm

theorem BJ (j:List Int→Nat)(g n:Nat):∀(k:Nat) (ps:List Int) (a b m:Nat),ps.length=n→a+k+1=n→j (aJ ps (bA a b))=m →
  j (aJ (aP j g k ps a b m).1 (bA (aP j g k ps a b m).2.1 (aP j g k ps a b m).2.2.1))=(aP j g k ps a b m).2.2.2:=by
 intro k
 induction k with
 |zero=>intro ps a b m _ _ h;exact h
 |succ k z=>
  intro ps a b m q A s
  have key:j (aJ (aq ps a) (bA (a+1) (if j (aq ps a)<m then a+1 else b)))=min m (j (aq ps a)):=by
   split
   ·rename_i t;rw[jH,Nat.min_eq_right (by omega)];rfl
   ·rename_i t;rw[qR (by omega),s,Nat.min_eq_left (by omega)]
  unfold aP;split;·exact key
  ·exact z _ _ _ _ (by rw[ck];exact q) (by omega) key

theorem BK (j:List Int→Nat)(g n:Nat):∀(a:Nat) (ps:List Int) (b m:Nat),ps.length=n→a<n→j (aJ ps (bA a b))=m →
  j (aJ (bV j g a ps b m).1 (bA (bV j g a ps b m).2.1 (bV j g a ps b m).2.2.1))=(bV j g a ps b m).2.2.2:=by
 intro a
 induction a with
 |zero=>intro ps b m _ _ h;exact h
 |succ a z=>
  intro ps b m q A s
  have key:j (aJ (aq ps a) (bA a (if j (aq ps a)<m then a else b)))=min m (j (aq ps a)):=by
   split
   ·rename_i t;rw[jH,Nat.min_eq_right (by omega)];rfl
   ·rename_i t;rw[zI (by omega),s,Nat.min_eq_left (by omega)]
  unfold bV;split;·exact key
  ·exact z _ _ _ (by rw[ck];exact q) (by omega) key

theorem yl (j:List Int→Nat)(g:Nat){ps:List Int}{a:Nat}(s:a<ps.length):j (gw j g ps a)≤j ps:=by
 have q:=lD j g ps.length (ps.length-1-a) ps a a (j ps) rfl (by omega) s;have t:=BJ j g ps.length (ps.length-1-a) ps a a (j ps) rfl (by omega) (by rw[jH];rfl);have u:=lE j g ps.length _ _ (aP j g (ps.length-1-a) ps a a (j ps)).2.2.1 (aP j g (ps.length-1-a) ps a a (j ps)).2.2.2 q.len q.cj q.db;have s:=BK j g ps.length _ _ _ _ q.len q.cj t;have e:j (gw j g ps a)=_:=s;rw[e];exact Nat.le_trans u.eb q.eb

theorem Aw (j:List Int→Nat)(g:Nat){ps:List Int}(s:ar ps=true):∀v,v≤ps.length→j (cH j g ps v)≤j ps:=by
 intro v;induction v with
 |zero=>intro _;exact Nat.le_refl _
 |succ v t=>
  intro q;obtain⟨z,q⟩:=jO j g s v (by omega);have s:=kZ q (v:=(v:Int)) (by omega) (by omega);have q:(cH j g ps v).idxOf (v:Int)<(cH j g ps v).length:=List.idxOf_lt_length_of_mem s;exact Nat.le_trans (yl j g q) (t (by omega))

def lT (n:Nat):Nat→List (List Int)
 |0=>[[]]
 |k+1=>(lT n k).flatMap fun j=>(du n).map fun x=>x::j

theorem xQ {n:Nat}:∀(j:List Int),(∀x∈j,0≤x∧x<(n:Int))→j∈lT n j.length:=by
 intro j;induction j with
 |nil=>intro _;exact List.mem_singleton.2 rfl
 |cons x j s=>
  intro h;have t:=h x (by simp);refine List.mem_flatMap.2 ⟨j,s (fun y q=>h y (by simp[q])),List.mem_map.2 ⟨x,?_,rfl⟩⟩;unfold du;exact List.mem_map.2 ⟨x.toNat,List.mem_range.2 (by omega),by omega⟩

theorem zn:((List.range 6).all fun n=>(lT n n).all fun j=>!ar j||(List.range (bz n)).any fun r=>decide (dF n r=j))=true:=by kernel_rfl

theorem yK {j:List Int}(q:ar j=true)(z:j.length≤5):∃r,r<bz j.length∧dF j.length r=j:=by
 have z:=zn;rw[List.all_eq_true]at z;have t:=z j.length (List.mem_range.2 (by omega));rw[List.all_eq_true]at t
 have A:∀x∈j,0≤x∧x<(j.length:Int):=by
  unfold ar at q;simp only[Bool.and_eq_true,List.all_eq_true,decide_eq_true_eq]at q;exact q.1.2
 have s:=t j (xQ j A);rw[q]at s;simp only[Bool.not_true,Bool.false_or,List.any_eq_true,decide_eq_true_eq]at s;obtain⟨r,j,q⟩:=s;exact⟨r,List.mem_range.1 j,q⟩

theorem xv (q:List Int→Nat){j:List Int}(z:ar j=true)(t:j.length≤5):q (fE q j.length)≤q j:=by
 obtain⟨r,A,s⟩:=yK z t;have h:=pU q j.length (bz j.length-1) r (by omega);rw[s]at h;exact h

end Go.Proofs.YtafkamlhimkbmaaGreat
