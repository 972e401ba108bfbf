/-
  sift.Least.
-/
import Derived.Test.YtpgcbmbnognieaaGreatPSiftF
import Derived.Test.YtpgcbmbnognieaaGreatPSiftH
namespace Go.Proofs.YtpgcbmbnognieaaGreat
set_option maxRecDepth 1000000
set_option maxHeartbeats 8000000
set_option linter.unusedSimpArgs false
set_option linter.unusedVariables false
open Go.RowKit

theorem mayR_stand {M:St}{ps:List Int}{fs:List (Int×List Bool)}{rs:List (Int×Edge)}(h:StandAll M ps fs rs):mayR M rs=0:=by
 have key:∀ r∈rs,isFormB r.1=true∧kRight M r.1 r.2 0=true:=fun r hr=>by
  obtain⟨i,hi⟩:=List.mem_iff_getElem?.1 hr
  have hil:=(List.getElem?_eq_some_iff.1 hi).1
  obtain⟨h1,h2,h3⟩:=h.2 i (fs[i]'(by have:=h.1;omega)) r (List.getElem?_eq_getElem (by have:=h.1;omega)) hi
  exact⟨by simp [isFormB];omega,kRight_of h2 h3.lead h3.right⟩
 clear h
 induction rs with
 | nil=>rfl
 | cons r rs ih=>
  obtain⟨k1,k2⟩:=key r (by simp)
  rw [mayR_cons,if_neg (by rw [k1];simp),if_neg (by rw [k2];simp)]
  exact ih (fun q hq=>key q (by simp [hq]))

def Away (w:World)(F Fo:Nat→Prop)(lb:Nat)(a:Option Addr)(xs:List Int):Prop:=IntsAt w a xs∧∀ b off,a=some ⟨b,off,none⟩→b<w.heap.size∧¬F b∧¬Fo b∧b≠lb

theorem Away.keeps {w w':World}{F Fo:Nat→Prop}{lb:Nat}{a:Option Addr}{xs:List Int}(h:Away w F Fo lb a xs)(hk:Keeps w w'):Away w' F Fo lb a xs:=
 ⟨h.1.keeps hk,fun b off e=>by
  obtain⟨h1,h2,h3,h4⟩:=h.2 b off e
  have:=hk.size
  exact⟨by omega,h2,h3,h4⟩⟩

theorem Away.step {w w':World}{F F' Fo:Nat→Prop}{lb:Nat}{a:Option Addr}{xs:List Int}(h:Away w F Fo lb a xs)(hs:∀ j,F' j→F j∨w.heap.size≤j)(hu:Upd (fun j=>F j∨Fo j∨j=lb∨False) w w'):Away w' F' Fo lb a xs:=by
 refine⟨fun i x hx=>?_,fun b off e=>?_⟩
 ·obtain⟨b,off,e,c⟩:=h.1 i x hx
  obtain⟨h1,h2,h3,h4⟩:=h.2 b off e
  exact⟨b,off,e,hu.cellAt (fun hh=>by rcases hh with q|q|q|q;exact h2 q;exact h3 q;exact h4 q;exact q) c⟩
 ·obtain⟨h1,h2,h3,h4⟩:=h.2 b off e
  have:=hu.size
  refine⟨by omega,fun hh=>?_,h3,h4⟩
  rcases hs b hh with q|q
  ·exact h2 q
  ·omega

theorem away_owns {w:World}{F Fo:Nat→Prop}{base n cap lb:Nat}{a:Option Addr}{xs:List Int}(h:w.ownsRow base 3 1 (.slice a n cap) n (xs.map (Value.int .i64)))(hn:n=xs.length)(hF:∀ k,F k∨Fo k∨k=lb→k<base):Away w F Fo lb a xs:=by
 refine⟨ints_owns h hn,fun b off e=>?_⟩
 rcases h.2 with⟨e0,hz⟩|⟨g2,cap2,cur,e0,hbg,hc,_⟩
 ·cases e0;cases e
 ·cases e0
  cases e
  exact⟨lt_of_heap hc,fun hh=>by have:=hF b (.inl hh);omega,fun hh=>by have:=hF b (.inr (.inl hh));omega,fun hh=>by have:=hF b (.inr (.inr hh));omega⟩

theorem run_next {F F1 F2 Fo:Nat→Prop}{w wr w1 w2:World}{lb:Nat}(hs:∀ j,F1 j→F j∨w.heap.size≤j)(hu:Upd (fun j=>F j∨Fo j) w wr)(hlb:w.heap.size≤lb)(hk:Keeps wr w1)(hs2:∀ j,F2 j→F1 j∨w1.heap.size≤j)(hu2:Upd (fun j=>F1 j∨Fo j∨j=lb∨False) w1 w2) :
  (∀ j,F2 j→F j∨w.heap.size≤j)∧Upd (fun j=>F j∨Fo j) w w2:=by
 have s1:=hu.size
 have s2:=hk.size
 refine⟨fun j hj=>?_,(hu.trans' (hk.upd _)).later hu2 (fun i hi hh=>?_)⟩
 ·rcases hs2 j hj with q|q
  ·exact hs j q
  ·exact .inr (by omega)
 ·rcases hh with q|q|q|q
  ·rcases hs i q with q2|q2
   ·exact .inl q2
   ·omega
  ·exact .inr q
  ·omega
  ·exact q.elim

theorem run_start {F F1 Fo:Nat→Prop}{w w1:World}{lb:Nat}(hlb:w.heap.size≤lb)(hs:∀ j,F1 j→F j∨w.heap.size≤j)(hu:Upd (fun j=>F j∨Fo j∨j=lb∨False) w w1):(∀ j,F1 j→F j∨w.heap.size≤j)∧Upd (fun j=>F j∨Fo j) w w1:=
 ⟨hs,hu.mono (fun k hk hh=>by
  rcases hh with q|q|q|q
  ·exact .inl q
  ·exact .inr q
  ·omega
  ·exact q.elim)⟩

def SiftOut (F Fo:Nat→Prop)(w:World)(sb ob:Nat)(fs:List (Int×List Bool))(qs:List Int)(r:Ending)(w':World):Prop:=
 ∃ (g:Nat) (F':Nat→Prop) (M':St) (rs':List (Int×Edge)),r=.returned (.tuple #[.slice (some ⟨g,0,none⟩) fs.length fs.length,.int .u8 0])∧Sit F' Fo w' sb ob M' qs∧permB qs=true∧StandAll M' qs fs rs'∧M'.len=(sizeO fs qs:Int)∧((fs.length:Int)*300<M'.room∧M'.room≤1000000) ∧
  RowE w' g (rs'.map Prod.snd)∧(¬F' g∧¬Fo g∧w.heap.size≤g)∧(∀ j,F' j→F j∨w.heap.size≤j)∧Upd (fun j=>F j∨Fo j) w w'

theorem bed_end {F F1 Fo:Nat→Prop}{w wr:World}{bb lb cap sb ob:Nat}{la:Option Addr}{M:St}{qs:List Int}{fs:List (Int×List Bool)}{rs:List (Int×Edge)}(h:Bed F1 Fo wr bb lb la cap sb ob M qs fs rs)(hs:∀ j,F1 j→F j∨w.heap.size≤j)(hu:Upd (fun j=>F j∨Fo j) w wr)(W:World)(hW:Keeps wr W) :
  Calls Tryz.prog 97 #[.pointer (some ⟨bb,0,none⟩)] W fun e w'=>(∃ g,e=.returned (.slice (some ⟨g,0,none⟩) fs.length fs.length)∧∀ W',Keeps w' W'→SiftOut F Fo w sb ob fs qs (.returned (.tuple #[.slice (some ⟨g,0,none⟩) fs.length fs.length,.int .u8 0])) W')∧Keeps W w':=by
 have hok:∀ r∈rs,(0≤r.1∧r.1≤255)∧r.2.ok:=fun r hr=>⟨by have:=(h.stand.leads r hr).1;omega,h.stand.oks r hr⟩
 have h4:=h.few
 refine(bedEdges_calls (h.cells.keeps hW).c2 ((h.row.keeps hW).roots hok) h.stand.1 (by omega)).mono ?_
 rintro e w' ⟨g,rfl,hg,hR,hk⟩
 refine⟨⟨g,rfl,fun W' hW'=>⟨g,F1,M,rs,rfl,((h.sit.keeps hW).keeps hk).keeps hW',h.perm,h.stand,h.len,⟨h.room,h.vast⟩,hR.keeps hW',⟨fun hh=>?_,fun hh=>?_,?_⟩,hs,((hu.trans' (hW.upd _)).trans' (hk.upd _)).trans' (hW'.upd _)⟩⟩,hk⟩
 ·have:=h.sit.rep.lt g hh;have:=hW.size;omega
 ·have:=h.sit.ord.lt g hh;have:=hW.size;omega
 ·have:=hu.size;have:=hW.size;omega

end Go.Proofs.YtpgcbmbnognieaaGreat
