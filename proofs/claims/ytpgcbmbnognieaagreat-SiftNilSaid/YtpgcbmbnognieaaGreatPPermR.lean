/-
  The ids of an arena, one by one: arena.Ids, store.Ids and their closures.
-/
import Derived.Test.YtpgcbmbnognieaaGreatPOrderB
import Derived.RangeFuncBox
import Derived.Shelf.Abstract
import Derived.Shelf.RegionOpen
import Derived.OwnWalkIn
import Derived.TacticsInMore
import Derived.LoopNIn
import Derived.LoopIn
import Derived.BigRegion
namespace Go.Proofs.YtpgcbmbnognieaaGreat
set_option maxRecDepth 1000000
set_option maxHeartbeats 8000000
set_option linter.unusedSimpArgs false
set_option linter.unusedVariables false
open Go.RowKit Go.Shelf

attribute [local go_sem] Oper.semAt_some

def idsFrom:Int→List (Option Rec)→List Int
 | _,[]=>[]
 | i,some _::t=>i::idsFrom (i+1) t
 | i,none::t=>idsFrom (i+1) t

def idsL (cs:List (Option Rec)):List Int:=idsFrom 2 cs

theorem idsFrom_append (i:Int)(a b:List (Option Rec)):idsFrom i (a++b)=idsFrom i a++idsFrom (i+a.length) b:=by
 induction a generalizing i with
 | nil=>simp [idsFrom]
 | cons x a ih=>
  have e:i+1+(a.length:Int)=i+((x::a).length:Int):=by rw [List.length_cons];omega
  cases x with
  | none=>show idsFrom (i+1) (a++b)=idsFrom (i+1) a++_;rw [ih,e]
  | some r=>show i::idsFrom (i+1) (a++b)=(i::idsFrom (i+1) a)++_;rw [ih,e];rfl

theorem idsL_take_some {cs:List (Option Rec)}{k:Nat}{r:Rec}(h:cs[k]?=some (some r)):idsL (cs.take (k+1))=idsL (cs.take k)++[(k:Int)+2]:=by
 obtain⟨hk,he⟩:=List.getElem?_eq_some_iff.1 h
 unfold idsL
 rw [List.take_succ_eq_append_getElem hk,he,idsFrom_append,List.length_take,show min k cs.length=k by omega,show(2:Int)+(k:Int)=(k:Int)+2 by omega]
 rfl

theorem idsL_take_none {cs:List (Option Rec)}{k:Nat}(h:cs[k]?=some none):idsL (cs.take (k+1))=idsL (cs.take k):=by
 obtain⟨hk,he⟩:=List.getElem?_eq_some_iff.1 h
 unfold idsL
 rw [List.take_succ_eq_append_getElem hk,he,idsFrom_append]
 simp [idsFrom]

theorem idsL_prefix (cs:List (Option Rec))(k:Nat):idsL (cs.take k) <+: idsL cs:=by
 refine⟨idsFrom (2+((cs.take k).length:Int)) (cs.drop k),?_⟩
 unfold idsL
 rw [← idsFrom_append,List.take_append_drop]

theorem ids1_iter {F:Nat→Prop}{St:World→Prop}{ab bx:Nat}{cs:List (Option Rec)}{gone:List Int}{cnt room:Int}(hSt:∀ A,St A→ArenaRep F A ab cs gone cnt room∧A.cell? ⟨bx,0,none⟩=some (.pointer (some ⟨ab,0,none⟩))) :
  Iter Tryz.prog 257 #[.pointer (some ⟨bx,0,none⟩)] (idsL cs) 0 St:=by
 intro l J Jx W hJ hA hAx hR h0 n
 obtain⟨hR0,hb0⟩:=hSt _ (hJ _ _ h0)
 obtain⟨av,cap,hc0,_⟩:=hR0.cell
 have hfew:=hR0.few
 refine callsIn_of_wp Tryz.func257 rfl trivial ?_ rfl
 simp only [Tryz.ntmps257,List.size_toArray,List.length_cons,List.length_nil,Nat.reduceAdd,Nat.reduceSub,Array.replicate_succ,Array.replicate_zero,List.push_toArray,List.append_toArray,List.nil_append,List.cons_append]
 gi_wp2
 gi_loopw [11] (fun i wr=>∃ k:Nat,k≤cs.length∧i=.int .i64 k∧J (idsL (cs.take k)) wr∧W.heap.size≤wr.heap.size)
  (fun i _=>cs.length-(intOf i).toNat)
 case atStart=>exact⟨0,Nat.zero_le _,rfl,h0,Nat.le_refl _⟩
 case round=>
  obtain⟨k,hk,rfl,hJs,hsz⟩:=hrel
  obtain⟨hRr,hbr⟩:=hSt _ (hJ _ _ hJs)
  obtain⟨av,cap,hcr,hcb⟩:=hRr.cell
  by_cases hlt:k<cs.length
  ·obtain⟨cb,rfl,_,_,hcv,_⟩:=hcb (by omega)
   obtain⟨x,hx⟩:∃ x,cs[k]?=some x:=⟨_,List.getElem?_eq_getElem hlt⟩
   have hin:=hcv k x hx 7 (by decide)
   cases x with
   | none=>
    have hin':=hin.trans (show(cellVals none)[7]?=some (.bool false) from rfl)
    have hids:=idsL_take_none hx
    clear hRr hcv hcb hin
    gi_wp2
    refine⟨fun _ h=>(by cases h),?_⟩
    gi_wp2
    go_roundw
    case rel=>exact⟨k+1,by omega,by simp,by rw [hids];exact hJs,hsz⟩
    case measure=>simp [intOf];omega
   | some r=>
    have hin':=hin.trans (show(cellVals (some r))[7]?=some (.bool true) from rfl)
    have hids:=idsL_take_some hx
    obtain⟨fn,tmps,assign,body,hy,hR'⟩:=hR (n-1) _ ((k:Int)+2) wr hJs (by rw [← hids];exact idsL_prefix cs (k+1)) hsz
    clear hRr hcv hcb hin
    gi_wp2
    refine⟨fun h=>(by cases h),?_⟩
    refine hR'.mono ?_
    rintro e W3 ⟨_,hz3,(⟨rfl,hJ3⟩|⟨rfl,hJx3⟩)⟩
    ·gi_wp2
     go_roundw
     case rel=>exact⟨k+1,by omega,by simp,by rw [hids];exact hJ3,by omega⟩
     case measure=>simp [intOf];omega
    ·gi_wp2
     refine bodyPost_ret (results_none rfl _ _ _) rfl ?_
     exact⟨⟨_,rfl⟩,.inr ⟨_,by rw [← hids];exact idsL_prefix cs (k+1),hJx3⟩⟩
  ·obtain rfl:k=cs.length:=by omega
   rw [List.take_length] at hJs
   gi_wp2
   go_end0
   exact⟨⟨_,rfl⟩,.inl hJs⟩

theorem idsFrom_mem:∀ (cs:List (Option Rec)) (i x:Int),x∈idsFrom i cs↔∃ (k:Nat) (r:Rec),cs[k]?=some (some r)∧x=i+k:=by
 intro cs
 induction cs with
 | nil=>intro i x;simp [idsFrom]
 | cons c cs ih=>
  intro i x
  cases c with
  | none=>
   show x∈idsFrom (i+1) cs↔_
   rw [ih]
   constructor
   ·rintro⟨k,r,h1,h2⟩;exact⟨k+1,r,by simpa using h1,by omega⟩
   ·rintro⟨k,r,h1,h2⟩
    cases k with
    | zero=>simp at h1
    | succ k=>exact⟨k,r,by simpa using h1,by omega⟩
  | some q=>
   show x∈i::idsFrom (i+1) cs↔_
   rw [List.mem_cons,ih]
   constructor
   ·rintro(h|⟨k,r,h1,h2⟩)
    ·exact⟨0,q,rfl,by omega⟩
    ·exact⟨k+1,r,by simpa using h1,by omega⟩
   ·rintro⟨k,r,h1,h2⟩
    cases k with
    | zero=>left;omega
    | succ k=>right;exact⟨k,r,by simpa using h1,by omega⟩

theorem idsFrom_rising:∀ (cs:List (Option Rec)) (i:Int),(idsFrom i cs).Pairwise (·<·):=by
 intro cs
 induction cs with
 | nil=>intro i;simp [idsFrom]
 | cons c cs ih=>
  intro i
  cases c with
  | none=>exact ih (i+1)
  | some q=>
   show(i::idsFrom (i+1) cs).Pairwise (·<·)
   rw [List.pairwise_cons]
   refine⟨fun x hx=>?_,ih (i+1)⟩
   obtain⟨k,r,_,h2⟩:=(idsFrom_mem cs (i+1) x).1 hx
   omega

theorem idsL_mem {cs:List (Option Rec)}{x:Int}:x∈idsL cs↔look cs x≠none:=by
 unfold idsL
 rw [idsFrom_mem]
 constructor
 ·rintro⟨k,r,h1,rfl⟩ h
  have:=(look_get (cs:=cs) (i:=k) (r:=r)).2 h1
  rw [show(2:Int)+(k:Int)=(k:Int)+2 by omega,this] at h
  cases h
 ·intro h
  cases hl:look cs x with
  | none=>exact absurd hl h
  | some r=>
   obtain⟨h2,h3,h4⟩:=look_some hl
   exact⟨(x-2).toNat,r,h4,by omega⟩

theorem idsFrom_len:∀ (cs:List (Option Rec)) (i:Int),(idsFrom i cs).length=(cs.filter Option.isSome).length:=by
 intro cs
 induction cs with
 | nil=>intro i;rfl
 | cons c cs ih=>
  intro i
  cases c with
  | none=>exact ih (i+1)
  | some q=>show(idsFrom (i+1) cs).length+1=_;rw [ih];rfl

theorem nodup_len:∀ {a b:List Int},a.Nodup→(∀ x,x∈a→x∈b)→a.length≤b.length:=by
 intro a
 induction a with
 | nil=>intro b _ _;exact Nat.zero_le _
 | cons x a ih=>
  intro b hn hs
  have hx:x∈b:=hs x (List.mem_cons_self)
  have hn2:=List.nodup_cons.1 hn
  have h1:=ih (b:=b.erase x) hn2.2 (fun y hy=>by
   have hne:y≠x:=fun e=>hn2.1 (e ▸ hy)
   exact(List.mem_erase_of_ne hne).2 (hs y (List.mem_cons_of_mem _ hy)))
  have h2:=List.length_erase_of_mem hx
  have h3:0<b.length:=List.length_pos_of_mem hx
  rw [List.length_cons]
  omega

theorem rising_nodup {a:List Int}(h:a.Pairwise (·<·)):a.Nodup:=h.imp (fun hab e=>by omega)

open Go.RowKit

theorem RowI.ne {w:World}{g ob:Nat}{ps:List Int}{cs:Array Value}{q:Nat×Nat}(h:RowI w g ps)(ho:w.heap[ob]?=some (.cells cs 175 q)):g≠ob:=by
 obtain⟨cur,h1,_⟩:=h
 intro e
 subst e
 rw [h1] at ho
 have:=Option.some.inj ho
 injection this with _ e2 _
 exact absurd e2 (by decide)

theorem OrdRep.cells {F:Nat→Prop}{w:World}{ob:Nat}{ps:List Int}(h:OrdRep F w ob ps):∃ va vc lg lc,w.cell? ⟨ob,0,none⟩=some (.slice va ps.length vc)∧w.cell? ⟨ob,1,none⟩=some (.slice (some ⟨lg,0,none⟩) ps.length lc)∧IntsAt w va ps:=by
 obtain⟨⟨va,vc,lg,lc,qs,h1,h2,h3,h4,h5⟩,_⟩:=h
 refine⟨va,vc,lg,lc,by rw [cell_of_row w ob 0 _ _ _ h1];rfl,by rw [cell_of_row w ob 1 _ _ _ h1];rfl,fun i x hx=>?_⟩
 obtain⟨vg,q1,q2,_⟩:=h3 (fun e=>by rw [e] at hx;simp at hx)
 rw [q1]
 exact q2.ints i x hx

theorem OrdRep.le {F:Nat→Prop}{w:World}{ob:Nat}{ps:List Int}(h:OrdRep F w ob ps):ps.length≤16:=(permB_iff.1 h.perm).1

theorem ordVars_calls {F:Nat→Prop}{w:World}{ob:Nat}{ps:List Int}(h:OrdRep F w ob ps) :
  Calls Tryz.prog 125 #[.pointer (some ⟨ob,0,none⟩)] w fun e w'=>e=.returned (.int .i64 (ps.length:Int))∧w=w':=by
 obtain⟨va,vc,lg,lc,c0,c1,_⟩:=h.cells
 have hle:=h.le
 obtain⟨n,hn⟩:∃ n,n=ps.length:=⟨_,rfl⟩
 rw [← hn] at c0 c1 hle ⊢
 clear h c1 hn
 go_enter Tryz.func125,Tryz.ntmps125
 go_wp2
 go_ret
 exact⟨rfl,rfl⟩

theorem ordPerm_calls {F:Nat→Prop}{w:World}{ob:Nat}{ps:List Int}(h:OrdRep F w ob ps) :
  Calls Tryz.prog 37 #[.pointer (some ⟨ob,0,none⟩)] w fun e w'=>∃ a cap,e=.returned (.slice a ps.length cap)∧RowV w.heap.size w' a ps∧Keeps w w':=by
 obtain⟨va,vc,lg,lc,c0,c1,hi⟩:=h.cells
 have hle:=h.le
 have hC:=fun W (hW:Keeps w W)=>clone_calls va vc ps W (hi.keeps hW) (by omega)
 obtain⟨n,hn⟩:∃ n,n=ps.length:=⟨_,rfl⟩
 rw [← hn] at c0 c1 hC ⊢
 have HC:=Lib.hid hC
 clear h c1 hi hC hle hn
 go_enter Tryz.func37,Tryz.ntmps37
 go_wp2_with (first|(go_at_call 98;refine(HC.out _ (by(exact kp))).mono ?_;rintro e w1 ⟨a,cap,rfl,hr,hk⟩)|fail)
 go_ret
 exact⟨a,cap,rfl,hr,hk⟩

def stepL (ps:List Int)(i:Nat):List Int:=(ps.set i (ps.getD (i+1) 0)).set (i+1) (ps.getD i 0)

theorem stepL_len (ps:List Int)(i:Nat):(stepL ps i).length=ps.length:=by unfold stepL;simp

theorem stepL_get {ps:List Int}{i:Nat}(h:i+1<ps.length)(j:Nat):(stepL ps i)[j]?=if j=i then ps[i+1]? else if j=i+1 then ps[i]? else ps[j]?:=by
 unfold stepL
 rw [List.getElem?_set,List.getElem?_set]
 have e1:ps[i+1]?=some (ps.getD (i+1) 0):=by simp [List.getD,h]
 have e2:ps[i]?=some (ps.getD i 0):=by simp [List.getD,show i<ps.length by omega]
 by_cases hj:j=i
 ·subst hj
  rw [if_neg (by omega),if_pos rfl,if_pos (by omega),if_pos rfl,e1]
 ·by_cases hj2:j=i+1
  ·subst hj2
   rw [if_pos rfl,if_pos (by simpa using h),if_neg hj,if_pos rfl,e2]
  ·rw [if_neg (by omega),if_neg (by omega),if_neg hj,if_neg hj2]

theorem stepL_mem {ps:List Int}{i:Nat}(h:i+1<ps.length)(x:Int):x∈stepL ps i↔x∈ps:=by
 rw [List.mem_iff_getElem?,List.mem_iff_getElem?]
 constructor
 ·rintro⟨j,hj⟩
  rw [stepL_get h] at hj
  split at hj
  ·exact⟨_,hj⟩
  ·split at hj
   ·exact⟨_,hj⟩
   ·exact⟨_,hj⟩
 ·rintro⟨j,hj⟩
  by_cases h1:j=i
  ·refine⟨i+1,?_⟩
   rw [stepL_get h,if_neg (by omega),if_pos rfl,← h1]
   exact hj
  ·by_cases h2:j=i+1
   ·refine⟨i,?_⟩
    rw [stepL_get h,if_pos rfl,← h2]
    exact hj
   ·refine⟨j,?_⟩
    rw [stepL_get h,if_neg h1,if_neg h2]
    exact hj

theorem nodup_get {ps:List Int}(h:ps.Nodup){i j:Nat}{x:Int}(hi:ps[i]?=some x)(hj:ps[j]?=some x):i=j:=by
 obtain⟨l1,e1⟩:=List.getElem?_eq_some_iff.1 hi
 obtain⟨l2,e2⟩:=List.getElem?_eq_some_iff.1 hj
 exact(List.getElem_inj h).1 (e1.trans e2.symm)

theorem stepL_perm {ps:List Int}{i:Nat}(h:i+1<ps.length)(hp:permB ps=true):permB (stepL ps i)=true:=by
 obtain⟨h1,h2,h3⟩:=permB_iff.1 hp
 refine permB_iff.2 ⟨by rw [stepL_len];exact h1,fun x hx=>by rw [stepL_len];exact h2 x ((stepL_mem h x).1 hx),?_⟩
 refine List.pairwise_iff_getElem.2 fun a b h4 h5 hlt e=>?_
 have ha:(stepL ps i)[a]?=some (stepL ps i)[a]:=List.getElem?_eq_getElem h4
 have hb:(stepL ps i)[b]?=some (stepL ps i)[a]:=by rw [e];exact List.getElem?_eq_getElem h5
 rw [stepL_get h] at ha hb
 have key:∀ {p q:Nat},ps[p]?=some (stepL ps i)[a]→ps[q]?=some (stepL ps i)[a]→p=q:=fun hp hq=>nodup_get h3 hp hq
 split at ha
 ·split at hb
  ·omega
  ·split at hb
   ·have:=key ha hb;omega
   ·have:=key ha hb;omega
 ·split at ha
  ·split at hb
   ·have:=key ha hb;omega
   ·split at hb
    ·omega
    ·have:=key ha hb;omega
  ·split at hb
   ·have:=key ha hb;omega
   ·split at hb
    ·have:=key ha hb;omega
    ·have:=key ha hb;omega

theorem stepL_inv {ps qs:List Int}{i:Nat}{a b:Int}(h:i+1<ps.length)(hp:permB ps=true)(hq:InvOf ps qs)(ha:ps[i]?=some a)(hb:ps[i+1]?=some b) :
  InvOf (stepL ps i) ((qs.set a.toNat ((i:Int)+1)).set b.toNat (i:Int)):=by
 obtain⟨h1,h2,h3⟩:=permB_iff.1 hp
 obtain⟨q1,q2⟩:=hq
 have ra:=h2 a (List.mem_of_getElem? ha)
 have rb:=h2 b (List.mem_of_getElem? hb)
 have hne:a≠b:=fun e=>by subst e;have:=nodup_get h3 ha hb;omega
 refine⟨by rw [List.length_set,List.length_set,stepL_len,q1],fun j x hx=>?_⟩
 rw [stepL_get h] at hx
 rw [List.getElem?_set,List.getElem?_set]
 split at hx
 ·rename_i hj
  rw [hb] at hx
  cases hx
  rw [if_pos rfl,if_pos (by rw [List.length_set,q1];omega),hj]
 ·rename_i hj
  split at hx
  ·rename_i hj2
   rw [ha] at hx
   cases hx
   rw [if_neg (by omega),if_pos rfl,if_pos (by rw [q1];omega),hj2]
   push_cast
   rfl
  ·rename_i hj2
   have rx:=h2 x (List.mem_of_getElem? hx)
   have n1:x≠a:=fun e=>by subst e;exact hj (nodup_get h3 hx ha)
   have n2:x≠b:=fun e=>by subst e;exact hj2 (nodup_get h3 hx hb)
   rw [if_neg (by omega),if_neg (by omega)]
   exact q2 j x hx

theorem ordSwap_calls {F:Nat→Prop}{w:World}{ob:Nat}{ps:List Int}(h:OrdRep F w ob ps)(lv:Nat)(hlv:lv+1<ps.length) :
  Calls Tryz.prog 289 #[.pointer (some ⟨ob,0,none⟩),.int .i64 (lv:Int)] w fun e w'=>e=.returned (.int .u8 0)∧Upd F w w'∧OrdRep F w' ob (stepL ps lv):=by
 have H:=Lib.hid h
 have hle:=h.le
 obtain⟨⟨va,vc,lg,lc,qs,h1,h2,h3,h4,h5⟩,h6,h7,h8⟩:=h
 obtain⟨vg,rfl,v1,v2,v3⟩:=h3 (fun e=>by rw [e] at hlv;simp at hlv)
 obtain⟨p1,p2,p3⟩:=permB_iff.1 h8
 obtain⟨a,ha⟩:∃ b,ps[lv]?=some b:=⟨_,List.getElem?_eq_getElem (by omega)⟩
 obtain⟨b,hb⟩:∃ b,ps[lv+1]?=some b:=⟨_,List.getElem?_eq_getElem hlv⟩
 have ra:=p2 a (List.mem_of_getElem? ha)
 have rb:=p2 b (List.mem_of_getElem? hb)
 have hne:a≠b:=fun e=>by subst e;have:=nodup_get p3 ha hb;omega
 have n1:=v1.ne h1
 have n2:=h4.ne h1
 have c0:w.cell? ⟨ob,0,none⟩=some (.slice (some ⟨vg,0,none⟩) ps.length vc):=by rw [cell_of_row w ob 0 _ _ _ h1];rfl
 have c1:w.cell? ⟨ob,1,none⟩=some (.slice (some ⟨lg,0,none⟩) ps.length lc):=by rw [cell_of_row w ob 1 _ _ _ h1];rfl
 have ca:=v1.cell ha
 have cb:=v1.cell hb
 have fa:=v1.frozen lv
 have fb:=v1.frozen (lv+1)
 obtain⟨A,rfl⟩:∃ A:Nat,a=(A:Int):=⟨a.toNat,by omega⟩
 obtain⟨B,rfl⟩:∃ B:Nat,b=(B:Int):=⟨b.toNat,by omega⟩
 obtain⟨qa,hqa⟩:∃ b,qs[A]?=some b:=⟨_,List.getElem?_eq_getElem (by rw [h2.1];omega)⟩
 obtain⟨qb,hqb⟩:∃ b,qs[B]?=some b:=⟨_,List.getElem?_eq_getElem (by rw [h2.1];omega)⟩
 have da:=h4.cell hqa
 have db:=h4.cell hqb
 have ga:=h4.frozen A
 have gb:=h4.frozen B
 have hAB:A≠B:=by omega
 have hfin:∀ d W',W'=(((((w.drewN d).setCell ⟨vg,lv,none⟩ (.int .i64 (B:Int))).setCell ⟨vg,lv+1,none⟩ (.int .i64 (A:Int))).setCell ⟨lg,A,none⟩ (.int .i64 ((lv:Int)+1))).setCell ⟨lg,B,none⟩ (.int .i64 (lv:Int))).drew→Upd F w W'∧OrdRep F W' ob (stepL ps lv):=by
  rintro d W' rfl
  have kd:Keeps w (w.drewN d):=(Keeps.refl w).drewN d
  obtain⟨w0,hw0⟩:∃ w0,w0=w.drewN d:=⟨_,rfl⟩
  rw [← hw0] at kd ⊢
  replace v1:=v1.keeps kd
  replace h4:=h4.keeps kd
  replace h1:=kd.heap h1
  have u1:Upd (fun k=>k=vg) w0 ((w0.setCell ⟨vg,lv,none⟩ (.int .i64 (B:Int))).setCell ⟨vg,lv+1,none⟩ (.int .i64 (A:Int))):=Upd.setCell (F:=fun k=>k=vg) (p:=⟨vg,lv+1,none⟩) (Upd.setCell (F:=fun k=>k=vg) (p:=⟨vg,lv,none⟩) (Upd.refl _ _) (.inl rfl) _) (.inl rfl) _
  obtain⟨w2,hw2⟩:∃ w2,w2=(w0.setCell ⟨vg,lv,none⟩ (.int .i64 (B:Int))).setCell ⟨vg,lv+1,none⟩ (.int .i64 (A:Int)):=⟨_,rfl⟩
  have r1:RowI w2 vg (stepL ps lv):=by
   rw [hw2]
   unfold stepL
   have e1:ps.getD (lv+1) 0=(B:Int):=by simp [List.getD,hb]
   have e2:ps.getD lv 0=(A:Int):=by simp [List.getD,ha]
   rw [e1,e2]
   exact(v1.set lv (B:Int) (by omega)).set (lv+1) (A:Int) (by simpa using hlv)
  rw [← hw2] at u1 ⊢
  have r2:RowI ((w2.setCell ⟨lg,A,none⟩ (.int .i64 ((lv:Int)+1))).setCell ⟨lg,B,none⟩ (.int .i64 (lv:Int))) lg ((qs.set A ((lv:Int)+1)).set B (lv:Int)):=
   ((h4.keep u1 (fun e=>v3 e.symm)).set A _ (by rw [h2.1];omega)).set B _ (by rw [List.length_set,h2.1];omega)
  have u2:Upd (fun k=>k=lg) w2 ((w2.setCell ⟨lg,A,none⟩ (.int .i64 ((lv:Int)+1))).setCell ⟨lg,B,none⟩ (.int .i64 (lv:Int))):=Upd.setCell (F:=fun k=>k=lg) (p:=⟨lg,B,none⟩) (Upd.setCell (F:=fun k=>k=lg) (p:=⟨lg,A,none⟩) (Upd.refl _ _) (.inl rfl) _) (.inl rfl) _
  have u3:=(kd.upd F).trans' ((u1.mono (G:=F) (fun k _ e=>by subst e;exact v2)).trans' (u2.mono (G:=F) (fun k _ e=>by subst e;exact h5)))
  have hO:OrdRep F ((w2.setCell ⟨lg,A,none⟩ (.int .i64 ((lv:Int)+1))).setCell ⟨lg,B,none⟩ (.int .i64 (lv:Int))) ob (stepL ps lv):=by
   refine⟨⟨some ⟨vg,0,none⟩,vc,lg,lc,_,?_,stepL_inv hlv h8 h2 ha hb,fun _=>⟨vg,rfl,r1.keep u2 v3,v2,v3⟩,r2,h5⟩,h6,fun k hk=>by have:=h7 k hk;have:=u3.size;omega,stepL_perm hlv h8⟩
   rw [stepL_len]
   have q1:=u1.block ob (lt_of_heap h1) (fun e=>n1 e.symm)
   have q2:=u2.block ob (by have:=u1.size;have:=lt_of_heap h1;omega) (fun e=>n2 e.symm)
   rw [q2,q1]
   exact h1
  exact⟨u3.drew,hO.keeps (Keeps.refl _).drew⟩
 have HFIN:=Lib.hid hfin
 obtain⟨n,hn⟩:∃ n,n=ps.length:=⟨_,rfl⟩
 rw [← hn] at c0 c1 hle hlv ra rb
 have hA:A<n:=by omega
 have hB:B<n:=by omega
 have nvl:vg≠lg:=v3
 have nlv:lg≠vg:=fun e=>v3 e.symm
 have n1':ob≠vg:=fun e=>n1 e.symm
 have n2':ob≠lg:=fun e=>n2 e.symm
 clear H h1 h2 h3 h4 h5 h6 h7 h8 v1 v2 v3 p1 p2 p3 ha hb ra rb hne hqa hqb hfin hn
 go_enter Tryz.func289,Tryz.ntmps289
 go_wp2_with fail
 go_quiet (fail)
 go_wp2_with fail
 go_region
 go_wp2_with fail
 go_region
 go_wp2_with fail
 go_ret
 exact⟨rfl,HFIN.out _ _ rfl⟩

theorem perm_of_sub:∀ (R ps:List Int),R.Nodup→(∀ x∈R,x∈ps)→ps.length≤R.length→ps.Perm R:=by
 intro R
 induction R with
 | nil=>
  intro ps _ _ hl
  rw [List.length_nil,Nat.le_zero,List.length_eq_zero_iff] at hl
  rw [hl]
 | cons x R ih=>
  intro ps hn hs hl
  rw [List.nodup_cons] at hn
  have hx:=hs x (by simp)
  have hp:=List.perm_cons_erase hx
  refine hp.trans (List.Perm.cons x (ih _ hn.2 (fun y hy=>?_) ?_))
  ·have hyx:y≠x:=fun e=>hn.1 (e ▸ hy)
   exact(List.mem_erase_of_ne hyx).2 (hs y (by simp [hy]))
  ·have:=hp.length_eq
   simp at this hl
   omega

def numsI (n:Nat):List Int:=(List.range n).map (fun i:Nat=>(i:Int))

theorem numsI_len (n:Nat):(numsI n).length=n:=by unfold numsI;simp

theorem mem_numsI {n:Nat}{x:Int}:x∈numsI n↔0≤x∧x<(n:Int):=by
 unfold numsI
 rw [List.mem_map]
 constructor
 ·rintro⟨a,ha,rfl⟩
  rw [List.mem_range] at ha
  omega
 ·intro h
  exact⟨x.toNat,by rw [List.mem_range];omega,by omega⟩

theorem nodup_numsI (n:Nat):(numsI n).Nodup:=by
 unfold numsI
 exact List.Pairwise.map _ (fun a b (h:a≠b) e=>h (by omega)) List.nodup_range

theorem permB_perm {ps:List Int}:permB ps=true↔(ps.length≤16∧ps.Perm (numsI ps.length)):=by
 rw [permB_iff]
 constructor
 ·rintro⟨h1,h2,h3⟩
  exact⟨h1,(perm_of_sub ps (numsI ps.length) h3 (fun x hx=>mem_numsI.2 (h2 x hx)) (by rw [numsI_len];omega)).symm⟩
 ·rintro⟨h1,h2⟩
  exact⟨h1,fun x hx=>mem_numsI.1 (h2.mem_iff.1 hx),h2.nodup_iff.2 (nodup_numsI _)⟩

end Go.Proofs.YtpgcbmbnognieaaGreat
