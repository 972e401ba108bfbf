/-
  Plainly: what an edge means, level by level; View tells the two halves of what it means.
-/
import Derived.Test.YtpgcbmbnognieaaGreatPKPlain
import Derived.Test.YtpgcbmbnognieaaGreatPSoundP
import Derived.Test.YtpgcbmbnognieaaGreatPTermA
import Derived.Maps.Views
namespace Go.Proofs.YtpgcbmbnognieaaGreat
set_option maxRecDepth 1000000
set_option maxHeartbeats 8000000
set_option linter.unusedSimpArgs false
set_option linter.unusedVariables false

def Weak (M:St)(f l:Int)(e:Edge):Prop:=l≤M.n∧(e.to<2∨∃ r,look M.cs e.to=some r∧r.form=f∧l≤r.top)

theorem Weak.of {M:St}{f l:Int}{e:Edge}(h:M.leads f e l=true):Weak M f l e:=by
 obtain⟨hp,hr⟩:=leads_iff.1 h
 obtain⟨p1,p2,p3,p4,p5,p6,p7,p8⟩:=plainB_iff.1 hp
 exact⟨p6,hr.imp id (fun⟨r,a,b,c,_⟩=>⟨r,a,b,c⟩)⟩

theorem Weak.next {M:St}{f l:Int}{e:Edge}(hw:Weak M f l e)(hl:l<M.n):(look M.cs e.to=none∧Weak M f (l+1) e)∨∃ r,look M.cs e.to=some r∧r.form=f∧((l<r.top∧Weak M f (l+1) e)∨l=r.top):=by
 obtain⟨h1,h2⟩:=hw
 rcases h2 with h2|⟨r,a,b,c⟩
 ·exact .inl ⟨look_low h2,by omega,.inl h2⟩
 ·right
  refine⟨r,a,b,?_⟩
  by_cases hc:l<r.top
  ·exact .inl ⟨hc,by omega,.inr ⟨r,a,b,by omega⟩⟩
  ·exact .inr (by omega)

theorem hS_no {M:St}{f x l:Int}{e:Edge}(hz:e.to=0):∀ K,hS M f x K l e=false:=by
 intro K
 cases K with
 | zero=>show decide (e.to≠0)=false;simp [hz]
 | succ K=>show(if e.to=0 then false else _)=false;rw [if_pos hz]

theorem hS_end {M:St}{f x l:Int}{e:Edge}(hz:e.to≠0)(hl:M.n≤l):∀ K,hS M f x K l e=true:=by
 intro K
 cases K with
 | zero=>exact decide_eq_true hz
 | succ K=>show(if e.to=0 then false else if M.n≤l then true else _)=true;rw [if_neg hz,if_pos hl]

theorem hS_skip {M:St}{f x l:Int}{e:Edge}{K:Nat}(hz:e.to≠0)(hl:l<M.n)(hk:look M.cs e.to=none∨∃ r,look M.cs e.to=some r∧l<r.top):hS M f x (K+1) l e=(if zeroAt f e l&&bitB x l then false else hS M f x K (l+1) e):=by
 show(if e.to=0 then false else if M.n≤l then true else match look M.cs e.to with|none=>_|some r=>_)=_
 rw [if_neg hz,if_neg (by omega)]
 rcases hk with hk|⟨r,hk,hr⟩
 ·rw [hk]
 ·rw [hk]
  simp only []
  rw [if_pos hr]

theorem hS_node {M:St}{f x l:Int}{e:Edge}{r:Rec}{K:Nat}(hl:l<M.n)(hk:look M.cs e.to=some r)(hr:¬l<r.top):hS M f x (K+1) l e=hS M f x K (r.bot+1) (sideE x r):=by
 have hz:e.to≠0:=by have:=(look_some hk).1;omega
 show(if e.to=0 then false else if M.n≤l then true else match look M.cs e.to with|none=>_|some r=>_)=_
 rw [if_neg hz,if_neg (by omega),hk]
 simp only []
 rw [if_neg hr]

theorem weak_side {M:St}(h:M.wf){f x:Int}{e:Edge}{r:Rec}(hk:look M.cs e.to=some r)(hf:r.form=f):Weak M f (r.bot+1) (sideE x r):=by
 have:=side_leads h hk (x:=x)
 rw [hf] at this
 exact Weak.of this

theorem hS_fuel {M:St}(h:M.wf){f x:Int}:∀ (K K':Nat) (l:Int) (e:Edge),Weak M f l e→M.n-l≤(K:Int)→M.n-l≤(K':Int)→hS M f x K l e=hS M f x K' l e:=by
 intro K
 induction K with
 | zero=>
  intro K' l e hw h1 h2
  by_cases hz:e.to=0
  ·rw [hS_no hz,hS_no hz]
  ·rw [hS_end hz (by omega),hS_end hz (by omega)]
 | succ K ih=>
  intro K' l e hw h1 h2
  by_cases hz:e.to=0
  ·rw [hS_no hz,hS_no hz]
  ·by_cases hl:M.n≤l
   ·rw [hS_end hz hl,hS_end hz hl]
   ·cases K' with
    | zero=>omega
    | succ K'=>
     push_cast at h1 h2
     rcases hw.next (by omega) with⟨hk,hw'⟩|⟨r,hk,hf,⟨hr,hw'⟩|hr⟩
     ·rw [hS_skip hz (by omega) (.inl hk),hS_skip hz (by omega) (.inl hk),ih K' (l+1) e hw' (by omega) (by omega)]
     ·rw [hS_skip hz (by omega) (.inr ⟨r,hk,hr⟩),hS_skip hz (by omega) (.inr ⟨r,hk,hr⟩),ih K' (l+1) e hw' (by omega) (by omega)]
     ·have tb:=(h.goodRec hk).tb
      rw [hS_node (by omega) hk (by omega),hS_node (by omega) hk (by omega),ih K' _ _ (weak_side h hk hf) (by omega) (by omega)]

theorem clear_bits {x x':Int}:∀ (n:Nat) (a:Int),(∀ j,a≤j→bitB x j=bitB x' j)→clearN x a n=clearN x' a n:=by
 intro n
 induction n with
 | zero=>intro a _;rfl
 | succ n ih=>
  intro a hb
  show(!bitB x a&&clearN x (a+1) n)=(!bitB x' a&&clearN x' (a+1) n)
  rw [hb a (Int.le_refl _),ih (a+1) (fun j hj=>hb j (by omega))]

theorem hS_bits {M:St}(h:M.wf){f x x':Int}:∀ (K:Nat) (l:Int) (e:Edge),Weak M f l e→(∀ j,l≤j→bitB x j=bitB x' j)→hS M f x K l e=hS M f x' K l e:=by
 intro K
 induction K with
 | zero=>intro l e _ _;rfl
 | succ K ih=>
  intro l e hw hb
  by_cases hz:e.to=0
  ·rw [hS_no hz,hS_no hz]
  ·by_cases hl:M.n≤l
   ·rw [hS_end hz hl,hS_end hz hl]
   ·rcases hw.next (by omega) with⟨hk,hw'⟩|⟨r,hk,hf,⟨hr,hw'⟩|hr⟩
    ·rw [hS_skip hz (by omega) (.inl hk),hS_skip hz (by omega) (.inl hk),hb l (Int.le_refl _),ih (l+1) e hw' (fun j hj=>hb j (by omega))]
    ·rw [hS_skip hz (by omega) (.inr ⟨r,hk,hr⟩),hS_skip hz (by omega) (.inr ⟨r,hk,hr⟩),hb l (Int.le_refl _),ih (l+1) e hw' (fun j hj=>hb j (by omega))]
    ·have tb:=(h.goodRec hk).tb
     have hs:sideE x r=sideE x' r:=by
      unfold sideE someB
      rw [clear_bits _ r.top (fun j hj=>hb j (by omega)),hb r.bot (by omega)]
     rw [hS_node (by omega) hk (by omega),hS_node (by omega) hk (by omega),hs,ih _ _ (weak_side h hk hf) (fun j hj=>hb j (by omega))]

theorem hS_ext {M M':St}(h:M.wf)(hE:Ext M M'){f x:Int}:∀ (K:Nat) (l:Int) (e:Edge),Weak M f l e→hS M' f x K l e=hS M f x K l e:=by
 intro K
 have hn:=hE.n
 induction K with
 | zero=>intro l e _;rfl
 | succ K ih=>
  intro l e hw
  by_cases hz:e.to=0
  ·rw [hS_no hz,hS_no hz]
  ·by_cases hl:M.n≤l
   ·rw [hS_end hz hl,hS_end hz (by omega)]
   ·have hl':=hw
    rcases hw.next (by omega) with⟨hk,hw'⟩|⟨r,hk,hf,⟨hr,hw'⟩|hr⟩
    ·have hk':look M'.cs e.to=none:=by
      rcases hl'.2 with h2|⟨r,h2,_⟩
      ·exact look_low h2
      ·rw [hk] at h2;cases h2
     rw [hS_skip hz (by omega) (.inl hk),hS_skip hz (by omega) (.inl hk'),ih (l+1) e hw']
    ·have hk':=hE.sub _ _ hk
     rw [hS_skip hz (by omega) (.inr ⟨r,hk,hr⟩),hS_skip hz (by omega) (.inr ⟨r,hk',hr⟩),ih (l+1) e hw']
    ·have hk':=hE.sub _ _ hk
     rw [hS_node (by omega) hk (by omega),hS_node (by omega) hk' (by omega),ih _ _ (weak_side h hk hf)]

theorem hS_tag {M:St}{f x:Int}:∀ (K:Nat) (l:Int) (e e':Edge),Weak M f l e→e.to=e'.to→(∀ j,l≤j→zeroAt f e j=zeroAt f e' j)→hS M f x K l e=hS M f x K l e':=by
 intro K
 induction K with
 | zero=>intro l e e' _ ht _;show decide (e.to≠0)=decide (e'.to≠0);rw [ht]
 | succ K ih=>
  intro l e e' hw ht hj
  by_cases hz:e.to=0
  ·rw [hS_no hz,hS_no (ht ▸ hz)]
  ·have hz':e'.to≠0:=ht ▸ hz
   by_cases hl:M.n≤l
   ·rw [hS_end hz hl,hS_end hz' hl]
   ·rcases hw.next (by omega) with⟨hk,hw'⟩|⟨r,hk,hf,⟨hr,hw'⟩|hr⟩
    ·rw [hS_skip hz (by omega) (.inl hk),hS_skip hz' (by omega) (.inl (ht ▸ hk)),hj l (Int.le_refl _),ih (l+1) e e' hw' ht (fun j hh=>hj j (by omega))]
    ·rw [hS_skip hz (by omega) (.inr ⟨r,hk,hr⟩),hS_skip hz' (by omega) (.inr ⟨r,ht ▸ hk,hr⟩),hj l (Int.le_refl _),ih (l+1) e e' hw' ht (fun j hh=>hj j (by omega))]
    ·rw [hS_node (by omega) hk (by omega),hS_node (by omega) (ht ▸ hk) (by omega)]

def tv (M:St)(f x l:Int)(e:Edge):Bool:=hS M f x (M.n-l).toNat l e

theorem tv_ext {M M':St}(h:M.wf)(hE:Ext M M'){f x l:Int}{e:Edge}(hw:Weak M f l e):tv M' f x l e=tv M f x l e:=by
 unfold tv
 rw [hE.n]
 exact hS_ext h hE _ l e hw

theorem tv_bits {M:St}(h:M.wf){f x x' l:Int}{e:Edge}(hw:Weak M f l e)(hb:∀ j,l≤j→bitB x j=bitB x' j):tv M f x l e=tv M f x' l e:=hS_bits h _ l e hw hb

theorem tv_no {M:St}{f x l:Int}{e:Edge}(hz:e.to=0):tv M f x l e=false:=hS_no hz _

theorem tv_end {M:St}{f x l:Int}{e:Edge}(hz:e.to≠0)(hl:M.n≤l):tv M f x l e=true:=hS_end hz hl _

theorem tv_skip {M:St}{f x l:Int}{e:Edge}(hz:e.to≠0)(hl:l<M.n)(hk:look M.cs e.to=none∨∃ r,look M.cs e.to=some r∧l<r.top):tv M f x l e=(if zeroAt f e l&&bitB x l then false else tv M f x (l+1) e):=by
 unfold tv
 rw [show(M.n-l).toNat=(M.n-(l+1)).toNat+1 by omega]
 exact hS_skip hz hl hk

theorem tv_node {M:St}(h:M.wf){f x l:Int}{e:Edge}{r:Rec}(hl:l<M.n)(hk:look M.cs e.to=some r)(hf:r.form=f)(hr:¬l<r.top)(hle:r.top=l):tv M f x l e=tv M f x (r.bot+1) (sideE x r):=by
 have tb:=(h.goodRec hk).tb
 unfold tv
 rw [show(M.n-l).toNat=(M.n-(l+1)).toNat+1 by omega,hS_node hl hk hr]
 exact hS_fuel h _ _ _ _ (weak_side h hk hf) (by omega) (by omega)

theorem tv_tag {M:St}{f x l:Int}{e e':Edge}(hw:Weak M f l e)(ht:e.to=e'.to)(hj:∀ j,l≤j→zeroAt f e j=zeroAt f e' j):tv M f x l e=tv M f x l e':=hS_tag _ l e e' hw ht hj

theorem tv_free {M:St}{f x:Int}{e:Edge}(hf:f=3){b:Int}(hb:b≤M.n)(hk:e.to<2∨∃ r,look M.cs e.to=some r∧b≤r.top):∀ (d:Nat) (l:Int),l+(d:Int)=b→tv M f x l e=tv M f x b e:=by
 subst hf
 intro d
 induction d with
 | zero=>intro l hl;rw [show l=b by omega]
 | succ d ih=>
  intro l hl
  push_cast at hl
  by_cases hz:e.to=0
  ·rw [tv_no hz,tv_no hz]
  ·rw [tv_skip hz (by omega) (hk.imp look_low (fun⟨r,a,c⟩=>⟨r,a,by omega⟩)),show zeroAt 3 e l=false from rfl,Bool.false_and,ih (l+1) (by omega)]
   rfl

theorem find_zero {M:St}(h:M.wf){r:Rec}(hb:M.bad r=false)(he:M.findErr r=0) :
  look (M.findSt r).cs (M.findId r)=some r∧Ext M (M.findSt r)∧(M.findSt r).wf∧2≤M.findId r∧(M.findSt r).len≤M.len+1∧(M.findSt r).room=M.room:=by
 cases hi:M.idOf r with
 | some id=>
  have hl:=(idOf_iff h.once r id).2 hi
  obtain⟨a,b,c⟩:=find_old h hl
  rw [b,c]
  exact⟨hl,Ext.refl M,h,(look_some hl).1,by omega,rfl⟩
 | none=>
  have hroom:M.len<M.room:=by
   unfold St.findErr at he
   rw [hi] at he
   simp only [] at he
   rw [if_neg (by rw [hb];simp)] at he
   split at he
   ·cases he
   ·omega
  obtain⟨a,b,c,d,e,g⟩:=find_good h hb hroom
  have hg:=grown_find h hb hroom
  exact⟨b,hg.ext,hg.wf,g,hg.len,hg.room⟩

theorem find_full {M:St}{r:Rec}(hb:M.bad r=false)(he:M.findErr r≠0):M.findErr r=6∧M.findSt r=M∧M.room≤M.len:=by
 unfold St.findErr at he ⊢
 unfold St.findSt
 cases hi:M.idOf r with
 | some id=>rw [hi] at he;exact absurd rfl he
 | none=>
  rw [hi] at he
  simp only [] at he ⊢
  rw [if_neg (by rw [hb];simp)] at he ⊢
  split at he
  ·rename_i hc
   rw [if_pos hc,if_neg (by rw [hb];simp),if_pos hc]
   exact⟨rfl,rfl,hc⟩
  ·exact absurd rfl he

structure Viewed (f:Int)(M:St)(l:Int)(e:Edge)(M':St)(lo hi:Edge):Prop where
 ext:Ext M M'
 wf:M'.wf
 len:M'.len≤M.len+1
 room:M'.room=M.room
 llo:M'.leads f lo (l+1)=true
 lhi:M'.leads f hi (l+1)=true
 means:∀ x,tv M f x l e=tv M' f x (l+1) (if bitB x l then hi else lo)

theorem leads_zero {M:St}{f l l':Int}{e:Edge}(h:M.leads f e l=true)(h0:0≤l')(h1:l'≤M.n):M.leads f ⟨0,0⟩ l'=true:=by
 obtain⟨hp,hr⟩:=leads_iff.1 h
 obtain⟨p1,p2,p3,p4,p5,p6,p7,p8⟩:=plainB_iff.1 hp
 exact leads_iff.2 ⟨plainB_iff.2 ⟨p1,p2,p3,p4,h0,h1,fun _=>rfl,fun _ hh=>absurd rfl hh⟩,.inl (by show(0:Int)<2;omega)⟩

theorem viewed_out {f:Int}{M:St}(h:M.wf){l:Int}{e:Edge}(hl:M.leads f e l=true)(h1:l<M.n)(hk:look M.cs e.to=none∨∃ r,look M.cs e.to=some r∧l<r.top)(hnt:¬(f=5∧(e.to=0∨l<e.tag))) :
  Viewed f M l e M (vOut f l e).1 (vOut f l e).2.1∧(vOut f l e).2.2=0:=by
 have hl':=hl
 obtain⟨hp,hr⟩:=leads_iff.1 hl
 obtain⟨p1,p2,p3,p4,p5,p6,p7,p8⟩:=plainB_iff.1 hp
 have hw:=Weak.of hl
 have hw':Weak M f (l+1) e:=by
  rcases hw.next h1 with⟨_,q⟩|⟨r,hr',_,⟨_,q⟩|q⟩
  ·exact q
  ·exact q
  ·rcases hk with hk|⟨r2,hk,hlt⟩
   ·rw [hk] at hr';cases hr'
   ·rw [hk] at hr';cases hr';omega
 have hr1:e.to<2∨∃ r,look M.cs e.to=some r∧r.form=f∧l+1≤r.top∧e.tag≤r.top:=by
  rcases hr with hr|⟨r,a,b,c,d⟩
  ·exact .inl hr
  ·rcases hk with hk|⟨r2,hk,hlt⟩
   ·rw [hk] at a;cases a
   ·rw [hk] at a;cases a;exact .inr ⟨_,hk,b,by omega,d⟩
 have hz0:=leads_zero hl (l':=l+1) (by omega) (by omega)
 have hf:f=1∨f=2∨f=3∨f=4∨f=5:=by omega
 have plain:f≠5→M.leads f e (l+1)=true:=fun hh=>leads_iff.2 ⟨plainB_iff.2 ⟨p1,p2,p3,p4,by omega,by omega,p7,fun a=>absurd a hh⟩,hr1⟩
 have free:(f=1∨f=3)→∀ x,tv M f x l e=tv M f x (l+1) (if bitB x l then e else e):=fun hh x=>by
  rw [ite_self]
  by_cases hz:e.to=0
  ·rw [tv_no hz,tv_no hz]
  ·rw [tv_skip hz h1 hk]
   have:zeroAt f e l=false:=by rcases hh with rfl|rfl<;>rfl
   rw [this,Bool.false_and]
   rfl
 have zero:(f=2∨f=4)→∀ x,tv M f x l e=tv M f x (l+1) (if bitB x l then⟨0,0⟩ else e):=fun hh x=>by
  by_cases hz:e.to=0
  ·rw [tv_no hz]
   split
   ·rw [tv_no rfl]
   ·rw [tv_no hz]
  ·rw [tv_skip hz h1 hk]
   have:zeroAt f e l=true:=by rcases hh with rfl|rfl<;>rfl
   rw [this,Bool.true_and]
   cases hb:bitB x l with
   | true=>rw [if_pos rfl,if_pos rfl,tv_no rfl]
   | false=>rw [if_neg (by simp),if_neg (by simp)]
 unfold vOut
 rcases hf with rfl|rfl|rfl|rfl|rfl
 ·rw [if_pos (.inl rfl)]
  exact⟨⟨Ext.refl _,h,by omega,rfl,plain (by omega),plain (by omega),free (.inl rfl)⟩,rfl⟩
 ·rw [if_neg (by omega),if_neg (by omega)]
  exact⟨⟨Ext.refl _,h,by omega,rfl,plain (by omega),hz0,zero (.inl rfl)⟩,rfl⟩
 ·rw [if_pos (.inr rfl)]
  exact⟨⟨Ext.refl _,h,by omega,rfl,plain (by omega),plain (by omega),free (.inr rfl)⟩,rfl⟩
 ·rw [if_neg (by omega),if_neg (by omega)]
  exact⟨⟨Ext.refl _,h,by omega,rfl,plain (by omega),hz0,zero (.inr rfl)⟩,rfl⟩
 ·rw [if_neg (by omega),if_pos rfl]
  have hz:e.to≠0:=fun hh=>hnt ⟨rfl,.inl hh⟩
  have ht:e.tag≤l:=by have:¬l<e.tag:=fun hh=>hnt ⟨rfl,.inr hh⟩;omega
  have hlo:M.leads 5 ⟨l+1,e.to⟩ (l+1)=true:=by
   refine leads_iff.2 ⟨plainB_iff.2 ⟨p1,p2,p3,p4,by omega,by omega,fun hh=>absurd hh (by simp [hz]),fun _ _=>⟨Int.le_refl _,by show l+1≤M.n;omega⟩⟩,?_⟩
   rcases hr1 with hr1|⟨r,a,b,c,d⟩
   ·exact .inl hr1
   ·exact .inr ⟨r,a,b,c,c⟩
  refine⟨⟨Ext.refl _,h,by omega,rfl,hlo,hz0,fun x=>?_⟩,rfl⟩
  rw [tv_skip hz h1 hk]
  have:zeroAt 5 e l=true:=by unfold zeroAt;rw [decide_eq_true ht];rfl
  rw [this,Bool.true_and]
  cases hb:bitB x l with
  | true=>rw [if_pos rfl,if_pos rfl,tv_no rfl]
  | false=>
   rw [if_neg (by simp),if_neg (by simp)]
   refine tv_tag hw' rfl (fun j hj=>?_)
   unfold zeroAt
   rw [decide_eq_true (show e.tag≤j by omega),decide_eq_true (show(⟨l+1,e.to⟩:Edge).tag≤j from hj)]

theorem viewed {f:Int}{M:St}(h:M.wf){l:Int}{e:Edge}(hl:M.leads f e l=true)(h1:l<M.n)(he:vErr M (viewAct M f e l)=0) :
  Viewed f M l e (vSt M (viewAct M f e l)) (vLo M (viewAct M f e l)) (vHi M f (viewAct M f e l)):=by
 obtain⟨hp,hr⟩:=leads_iff.1 hl
 obtain⟨p1,p2,p3,p4,p5,p6,p7,p8⟩:=plainB_iff.1 hp
 have hw:=Weak.of hl
 unfold viewAct at he ⊢
 rw [if_neg (by omega),if_neg (by rw [hl];simp)] at he ⊢
 split at he
 ·rename_i hc
  rw [if_pos hc]
  obtain⟨rfl,hc⟩:=hc
  show Viewed 5 M l e M e e
  have hled:M.leads 5 e (l+1)=true:=by
   by_cases hz:e.to=0
   ·have ht:e.tag=0:=p7 (.inr hz)
    have:e=⟨0,0⟩:=by cases e;simp only at hz ht;rw [hz,ht]
    rw [this]
    exact leads_zero hl (by omega) (by omega)
   ·have hlt:l<e.tag:=by rcases hc with hc|hc;exact absurd hc hz;exact hc
    have:=p8 rfl hz
    refine leads_iff.2 ⟨plainB_iff.2 ⟨p1,p2,p3,p4,by omega,by omega,p7,fun _ _=>by omega⟩,?_⟩
    rcases hr with hr|⟨r,a,b,c,d⟩
    ·exact .inl hr
    ·exact .inr ⟨r,a,b,by omega,d⟩
  refine⟨Ext.refl _,h,by omega,rfl,hled,hled,fun x=>?_⟩
  rw [ite_self]
  by_cases hz:e.to=0
  ·rw [tv_no hz,tv_no hz]
  ·have hlt:l<e.tag:=by rcases hc with hc|hc;exact absurd hc hz;exact hc
   have hk:look M.cs e.to=none∨∃ r,look M.cs e.to=some r∧l<r.top:=by
    rcases hr with hr|⟨r,a,b,c,d⟩
    ·exact .inl (look_low hr)
    ·exact .inr ⟨r,a,by omega⟩
   rw [tv_skip hz h1 hk]
   have:zeroAt 5 e l=false:=by unfold zeroAt;rw [decide_eq_false (show ¬e.tag≤l by omega)];rfl
   rw [this,Bool.false_and]
   rfl
 ·rename_i hc
  rw [if_neg hc]
  cases hk:look M.cs e.to with
  | none=>exact(viewed_out h hl h1 (.inl hk) hc).1
  | some r=>
   rw [hk] at he
   simp only [] at he ⊢
   have g:=h.goodRec hk
   have g1:=g.tb
   have g2:=g.bn
   have hrf:r.form=f∧l≤r.top:=by
    rcases hr with hr|⟨r2,a,b,c,d⟩
    ·rw [look_low hr] at hk;cases hk
    ·rw [hk] at a;cases a;exact⟨b,c⟩
   by_cases hlt:l<r.top
   ·rw [if_pos hlt]
    exact(viewed_out h hl h1 (.inr ⟨r,hk,hlt⟩) hc).1
   ·rw [if_neg hlt] at he ⊢
    have htop:r.top=l:=by omega
    obtain⟨hrf,_⟩:=hrf
    split at he
    ·rename_i hch
     rw [if_pos hch]
     obtain⟨h34,hne⟩:=hch
     have hb:M.bad ⟨r.form,r.top+1,r.bot,r.lo,r.hi⟩=false:=rest_good g h.n16 (by omega) (by rw [hrf];exact h34) hne
     obtain⟨q,hq⟩:∃ q:Rec,q=⟨r.form,r.top+1,r.bot,r.lo,r.hi⟩:=⟨_,rfl⟩
     rw [← hq] at he hb ⊢
     change M.findErr q=0 at he
     obtain⟨k1,k2,k3,k4,k5,k6⟩:=find_zero h hb he
     have e1:vLo M (.inr q)=⟨0,M.findId q⟩:=foundE_ok he
     have e2:vHi M f (.inr q)=if f=4 then⟨0,M.findId q⟩ else r.hi:=by
      show(if M.findErr q=0 then(if f=4 then foundE M 0 q else q.hi) else⟨0,0⟩:Edge)=_
      rw [if_pos he,foundE_ok he,hq]
     rw [e1,e2]
     show Viewed f M l e (M.findSt q) _ _
     have hn:=k2.n
     have hfn:f≠5:=by omega
     have llo:(M.findSt q).leads f ⟨0,M.findId q⟩ (l+1)=true:=by
      refine leads_iff.2 ⟨plainB_iff.2 ⟨p1,p2,by omega,by omega,by omega,by omega,fun _=>rfl,fun a=>absurd a hfn⟩,.inr ⟨q,k1,by rw [hq];exact hrf,by rw [hq];show l+1≤r.top+1;omega,by rw [hq];show(0:Int)≤r.top+1;omega⟩⟩
     have lhi:(M.findSt q).leads f r.hi (l+1)=true:=by
      have:=k2.leads g.hi
      rw [hrf] at this
      exact leads_down this (by omega) (by omega)
     have hstep:∀ x,tv (M.findSt q) f x (l+1) ⟨0,M.findId q⟩=tv M f x (r.bot+1) (sideE x q):=fun x=>by
      have hq1:q.top=l+1:=by rw [hq];show r.top+1=_;omega
      have hq2:q.bot=r.bot:=by rw [hq]
      rw [tv_node k3 (by omega) k1 (by rw [hq];exact hrf) (by omega) hq1,hq2]
      refine tv_ext h k2 ?_
      unfold sideE
      split
      ·rw [hq,← hrf];exact Weak.of g.hi
      ·rw [hq,← hrf];exact Weak.of g.lo
     have hown:∀ x,tv M f x l e=tv M f x (r.bot+1) (sideE x r):=fun x=>tv_node h h1 hk hrf hlt htop
     refine⟨k2,k3,k5,k6,llo,?_,fun x=>?_⟩
     ·split
      ·exact llo
      ·exact lhi
     ·rw [hown x]
      rcases h34 with h3|h4
      ·rw [if_neg (show ¬f=4 by omega)]
       have hsl:someB x r=(bitB x l||someB x q):=by
        unfold someB
        rw [if_pos (by omega),if_pos (by rw [hq];show r.form=3;omega),hq]
        show(!clearN x r.top (r.bot+1-r.top).toNat)=(bitB x l||!clearN x (r.top+1) (r.bot+1-(r.top+1)).toNat)
        rw [show(r.bot+1-r.top).toNat=(r.bot+1-(r.top+1)).toNat+1 by omega]
        show(!(!bitB x r.top&&clearN x (r.top+1) _))=_
        rw [htop]
        cases bitB x l<;>simp
       cases hb2:bitB x l with
       | true=>
        rw [if_pos rfl]
        have:sideE x r=r.hi:=by unfold sideE;rw [hsl,hb2];rfl
        rw [this,← tv_ext h k2 (by rw [← hrf];exact Weak.of g.hi)]
        refine(tv_free h3 (by omega) ?_ (r.bot-l).toNat (l+1) (by omega)).symm
        rcases(leads_iff.1 (k2.leads g.hi)).2 with q2|⟨r2,a,b,c,_⟩
        ·exact .inl q2
        ·exact .inr ⟨r2,a,c⟩
       | false=>
        rw [if_neg (by simp),hstep x]
        have:sideE x r=sideE x q:=by unfold sideE;rw [hsl,hb2,Bool.false_or,hq]
        rw [this]
      ·rw [if_pos h4,ite_self,hstep x]
       have:sideE x r=sideE x q:=by
        have s1:someB x r=bitB x r.bot:=by unfold someB;rw [if_neg (show ¬r.form=3 by omega)]
        have s2:someB x q=bitB x r.bot:=by unfold someB;rw [if_neg (show ¬q.form=3 by rw [hq];show ¬r.form=3;omega),hq]
        unfold sideE
        rw [s1,s2,hq]
       rw [this]
    ·rename_i hch
     rw [if_neg hch]
     show Viewed f M l e M r.lo r.hi
     have hbt:r.bot=r.top:=by
      rcases g.chain with hcc|hcc
      ·exact hcc.symm
      ·unfold chainedB at hcc
       simp only [Bool.or_eq_true,beq_iff_eq] at hcc
       by_cases hx:r.bot=r.top
       ·exact hx
       ·exact absurd ⟨by omega,hx⟩ hch
     have glo:=g.lo
     have ghi:=g.hi
     rw [hrf,hbt,htop] at glo ghi
     refine⟨Ext.refl _,h,by omega,rfl,glo,ghi,fun x=>?_⟩
     rw [tv_node h h1 hk hrf hlt htop,hbt,htop]
     have hs:someB x r=bitB x l:=by
      unfold someB
      split
      ·rw [hbt,htop,show(l+1-l).toNat=1 by omega]
       show(!(!bitB x l&&true))=_
       simp
      ·rw [hbt,htop]
     unfold sideE
     rw [hs]

theorem viewed_full {f:Int}{M:St}(h:M.wf){l:Int}{e:Edge}(hl:M.leads f e l=true)(h1:l<M.n)(he:vErr M (viewAct M f e l)≠0) :
  vErr M (viewAct M f e l)=6∧vSt M (viewAct M f e l)=M∧M.room≤M.len:=by
 obtain⟨hp,hr⟩:=leads_iff.1 hl
 obtain⟨p1,p2,p3,p4,p5,p6,p7,p8⟩:=plainB_iff.1 hp
 have hvo:(vOut f l e).2.2=0:=by
  unfold vOut
  split
  ·rfl
  ·split<;>rfl
 unfold viewAct at he ⊢
 rw [if_neg (by omega),if_neg (by rw [hl];simp)] at he ⊢
 split at he
 ·exact absurd rfl he
 ·rename_i hc
  rw [if_neg hc]
  cases hk:look M.cs e.to with
  | none=>rw [hk] at he;exact absurd hvo he
  | some r=>
   rw [hk] at he
   simp only [] at he ⊢
   have g:=h.goodRec hk
   have hrf:r.form=f∧l≤r.top:=by
    rcases hr with hr|⟨r2,a,b,c,d⟩
    ·rw [look_low hr] at hk;cases hk
    ·rw [hk] at a;cases a;exact⟨b,c⟩
   split at he
   ·exact absurd hvo he
   ·rename_i hlt
    rw [if_neg hlt]
    split at he
    ·rename_i hch
     rw [if_pos hch]
     exact find_full (rest_good g h.n16 (by omega) (by rw [hrf.1];exact hch.1) hch.2) he
    ·exact absurd rfl he

def tabX (g:Int→Bool):Nat→Nat→Int→List Bool
 | 0,_,x=>[g x]
 | k+1,m,x=>tabX g k (m+1) x++tabX g k (m+1) (x+2 ^ m)

theorem tabX_len (g:Int→Bool):∀ (k m:Nat) (x:Int),(tabX g k m x).length=2 ^ k:=by
 intro k
 induction k with
 | zero=>intro m x;rfl
 | succ k ih=>
  intro m x
  show(tabX g k (m+1) x++tabX g k (m+1) (x+2 ^ m)).length=_
  rw [List.length_append,ih,ih,Nat.pow_succ]
  omega

theorem tabX_same {g g':Int→Bool}:∀ (k m:Nat) (x x':Int),(∀ t:Nat,g (x+2 ^ m*(t:Int))=g' (x'+2 ^ m*(t:Int)))→tabX g k m x=tabX g' k m x':=by
 intro k
 induction k with
 | zero=>
  intro m x x' h
  have:=h 0
  simp at this
  show [g x]=[g' x']
  rw [this]
 | succ k ih=>
  intro m x x' h
  show tabX g k (m+1) x++tabX g k (m+1) (x+2 ^ m)=tabX g' k (m+1) x'++tabX g' k (m+1) (x'+2 ^ m)
  rw [ih (m+1) x x' (fun t=>?_),ih (m+1) (x+2 ^ m) (x'+2 ^ m) (fun t=>?_)]
  ·have:=h (1+2*t)
   push_cast at this
   rw [show x+2 ^ m+2 ^ (m+1)*(t:Int)=x+2 ^ m*(1+2*(t:Int)) by rw [Int.pow_succ];rw [Int.mul_add,Int.mul_one,← Int.mul_assoc];omega,
    show x'+2 ^ m+2 ^ (m+1)*(t:Int)=x'+2 ^ m*(1+2*(t:Int)) by rw [Int.pow_succ];rw [Int.mul_add,Int.mul_one,← Int.mul_assoc];omega]
   exact this
  ·have:=h (2*t)
   push_cast at this
   rw [show x+2 ^ (m+1)*(t:Int)=x+2 ^ m*(2*(t:Int)) by rw [Int.pow_succ,← Int.mul_assoc],
    show x'+2 ^ (m+1)*(t:Int)=x'+2 ^ m*(2*(t:Int)) by rw [Int.pow_succ,← Int.mul_assoc]]
   exact this

theorem tabX_replicate {g:Int→Bool}(h:∀ x,g x=false):∀ (k m:Nat) (x:Int),tabX g k m x=List.replicate (2 ^ k) false:=by
 intro k
 induction k with
 | zero=>intro m x;show [g x]=_;rw [h x];rfl
 | succ k ih=>
  intro m x
  show tabX g k (m+1) x++tabX g k (m+1) (x+2 ^ m)=_
  rw [ih,ih,List.replicate_append_replicate,Nat.pow_succ]
  congr 1
  omega

def tabE (M:St)(f:Int)(e:Edge)(l:Int):List Bool:=tabX (fun x=>tv M f x l e) (M.n-l).toNat l.toNat 0

theorem tabE_len {M:St}{f:Int}{e:Edge}{l:Int}:(tabE M f e l).length=2 ^ (M.n-l).toNat:=tabX_len _ _ _ _

theorem tabE_ext {M M':St}(h:M.wf)(hE:Ext M M'){f l:Int}{e:Edge}(hw:Weak M f l e):tabE M' f e l=tabE M f e l:=by
 unfold tabE
 rw [hE.n]
 exact tabX_same _ _ _ _ (fun t=>tv_ext h hE hw)

theorem tabE_no {M:St}{f l:Int}{e:Edge}(hz:e.to=0):tabE M f e l=List.replicate (2 ^ (M.n-l).toNat) false:=tabX_replicate (fun _=>tv_no hz) _ _ _

theorem tabE_end {M:St}{f l:Int}{e:Edge}(hz:e.to≠0)(hl:M.n=l):tabE M f e l=[true]:=by
 unfold tabE
 rw [show(M.n-l).toNat=0 by omega]
 show [tv M f 0 l e]=_
 rw [tv_end hz (by omega)]

theorem bit_low (m t:Nat):bitB (0+2 ^ (m+1)*(t:Int)) (m:Int)=false:=by
 unfold bitB
 rw [Int.toNat_natCast,Int.zero_add,Int.pow_succ,show(2:Int) ^ m*2*(t:Int)=2 ^ m*(2*(t:Int)) by rw [Int.mul_assoc],Int.mul_ediv_cancel_left _ (Int.ne_of_gt (Int.pow_pos (by decide)))]
 rw [decide_eq_false]
 omega

theorem bit_high (m t:Nat):bitB (0+2 ^ m+2 ^ (m+1)*(t:Int)) (m:Int)=true:=by
 unfold bitB
 rw [Int.toNat_natCast,Int.zero_add,Int.pow_succ,show(2:Int) ^ m+2 ^ m*2*(t:Int)=2 ^ m*(1+2*(t:Int)) by rw [Int.mul_add,Int.mul_one,← Int.mul_assoc],Int.mul_ediv_cancel_left _ (Int.ne_of_gt (Int.pow_pos (by decide)))]
 rw [decide_eq_true]
 omega

theorem bit_above (m t:Nat)(j:Int)(hj:(m:Int)+1≤j):bitB (0+2 ^ m+2 ^ (m+1)*(t:Int)) j=bitB (0+2 ^ (m+1)*(t:Int)) j:=by
 obtain⟨d,hd⟩:∃ d:Nat,j.toNat=(m+1)+d:=⟨j.toNat-(m+1),by omega⟩
 have hp:(0:Int)<2 ^ m:=Int.pow_pos (by decide)
 have e1:(0+2 ^ m+2 ^ (m+1)*(t:Int)) / 2 ^ (m+1)=(t:Int):=by
  rw [Int.add_mul_ediv_left _ _ (Int.ne_of_gt (Int.pow_pos (by decide)))]
  rw [Int.ediv_eq_zero_of_lt (by omega) (by rw [Int.pow_succ];omega)]
  omega
 have e2:(0+2 ^ (m+1)*(t:Int)) / 2 ^ (m+1)=(t:Int):=by
  rw [Int.zero_add,Int.mul_ediv_cancel_left _ (Int.ne_of_gt (Int.pow_pos (by decide)))]
 have key:∀ a:Int,a / 2 ^ (m+1+d)=a / 2 ^ (m+1) / 2 ^ d:=fun a=>by
  rw [Int.ediv_ediv_of_nonneg (Int.le_of_lt (Int.pow_pos (by decide))),← Int.pow_add]
 unfold bitB
 rw [hd,key,key,e1,e2]

theorem tab_split {f:Int}{M M':St}{l:Int}{e lo hi:Edge}(hv:Viewed f M l e M' lo hi)(h0:0≤l)(h1:l<M.n):tabE M f e l=tabE M' f lo (l+1)++tabE M' f hi (l+1):=by
 have hn:=hv.ext.n
 obtain⟨m,rfl⟩:∃ m:Nat,l=(m:Int):=⟨l.toNat,by omega⟩
 unfold tabE
 rw [show(M.n-(m:Int)).toNat=(M'.n-((m:Int)+1)).toNat+1 by omega,Int.toNat_natCast,show((m:Int)+1).toNat=m+1 by omega]
 show tabX _ _ (m+1) 0++tabX _ _ (m+1) (0+2 ^ m)=_
 congr 1
 ·refine tabX_same _ _ _ _ (fun t=>?_)
  have:=hv.means (0+2 ^ (m+1)*(t:Int))
  rw [bit_low,if_neg (by simp)] at this
  exact this
 ·refine tabX_same _ _ _ _ (fun t=>?_)
  have:=hv.means (0+2 ^ m+2 ^ (m+1)*(t:Int))
  rw [bit_high,if_pos rfl] at this
  refine this.trans ?_
  exact tv_bits hv.wf (Weak.of hv.lhi) (fun j hj=>bit_above m t j hj)

theorem Pair.viewed {f:Int}{M:St}(h:M.wf){l:Int}{lo hi e:Edge}(hp:Pair f M l lo hi e):vErr M (viewAct M f e l)=0∧vSt M (viewAct M f e l)=M∧vLo M (viewAct M f e l)=lo∧vHi M f (viewAct M f e l)=hi:=by
 rcases hp.down with hd|⟨q,hd,hq,ht,hh⟩
 ·rw [hd]
  exact⟨rfl,rfl,rfl,rfl⟩
 ·rw [hd]
  obtain⟨a,b,c⟩:=find_old h hq
  have e1:foundE M 0 q=lo:=by
   rw [foundE_ok a,b]
   cases lo
   simp only at ht
   rw [ht]
  refine⟨a,c,e1,?_⟩
  show(if M.findErr q=0 then(if f=4 then foundE M 0 q else q.hi) else⟨0,0⟩:Edge)=hi
  rw [if_pos a,hh,e1]

theorem IsT.means {f:Int}{M:St}(hw:M.wf)(hf:1≤f∧f≤5):∀ (k:Nat) (ts:List Bool) (l:Int) (e:Edge),IsT f M k ts l e→l+(k:Int)=M.n→0≤l→tabE M f e l=ts:=by
 intro k
 induction k with
 | zero=>
  intro ts l e h hl h0
  obtain⟨b,rfl,rfl⟩:=h
  cases b with
  | false=>
   rw [tabE_no (show(endE f false l).to=0 from rfl),show(M.n-l).toNat=0 by omega]
   rfl
  | true=>exact tabE_end (by unfold endE;rw [if_pos rfl];split<;>(show(1:Int)≠0;decide)) (by omega)
 | succ k ih=>
  intro ts l e h hl h0
  obtain⟨hlen,lo,hi,h1,h2,hp⟩:=h
  push_cast at hl
  obtain⟨v1,v2,v3,v4⟩:=hp.viewed hw
  have hv:=viewed hw hp.leads (by omega) v1
  rw [v2,v3,v4] at hv
  rw [tab_split hv h0 (by omega),ih _ _ _ h1 (by omega) (by omega),ih _ _ _ h2 (by omega) (by omega),List.take_append_drop]

def St.vast (M:St):St:={ M with room:=1048576 }

theorem St.wf.vast {M:St}(h:M.wf):M.vast.wf:=⟨h.n0,h.n16,h.gone,h.nodup,h.good,h.once,h.len0,by show(0:Int)≤1048576;omega,by show(1048576:Int)≤1048576;omega,by have:=h.full;have:=h.room1;show M.len≤1048576;omega⟩

theorem Ext.vast (M:St):Ext M M.vast:=⟨rfl,fun _ _ h=>h⟩

theorem Ext.unvast (M:St):Ext M.vast M:=⟨rfl,fun _ _ h=>h⟩

theorem right_back {M M':St}(hE:Ext M M')(h:M.wf){f:Int}{e:Edge}{l:Int}(hl:M.leads f e l=true)(hr:rightL M' f e l=true):rightL M f e l=true:=by
 refine right_iff.2 ⟨hl,fun x hx=>?_⟩
 have h1:=(right_iff.1 hr).2 x (reaches_ext hE hx)
 cases hk:look M.cs x with
 | none=>exact absurd hk hx.some
 | some r=>
  rw [hE.sub _ _ hk] at h1
  show wrongB M f r=false
  rw [← wrong_ext hE h hk]
  exact h1

theorem rightK_back {M M':St}(hE:Ext M M')(h:M.wf){f:Int}{e:Edge}{l:Int}(hl:M.leads f e l=true)(hr:rightK M' f e l):rightK M f e l:=fun hf=>right_back hE h hl (hr hf)

def OkF (M:St)(f a:Int):Prop:=f=3∨f=4∨f=5→okReach M f a

theorem rightK_iff {M:St}{f:Int}{e:Edge}{l:Int}(hl:M.leads f e l=true):rightK M f e l↔OkF M f e.to:=
 ⟨fun h hf=>(right_iff.1 (h hf)).2,fun h hf=>right_iff.2 ⟨hl,h hf⟩⟩

theorem view_pair {f:Int}{M M':St}(h:M.wf){l:Int}{e lo hi:Edge}(hl:M.leads f e l=true)(h0:0≤l)(h1:l<M.n)(he:vErr M (viewAct M f e l)=0)(hR:rightK M f e l)
  (hM:M'=vSt M (viewAct M f e l)) (hlo:lo=vLo M (viewAct M f e l)) (hhi:hi=vHi M f (viewAct M f e l)) :
  Pair f M' l lo hi e∧rightK M' f lo (l+1)∧rightK M' f hi (l+1):=by
 have hv:=viewed h hl h1 he
 rw [← hM,← hlo,← hhi] at hv
 obtain⟨hp,hr⟩:=leads_iff.1 hl
 obtain⟨p1,p2,p3,p4,p5,p6,p7,p8⟩:=plainB_iff.1 hp
 have hok:=(rightK_iff hl).1 hR
 have hff:f=1∨f=2∨f=3∨f=4∨f=5:=by omega
 have hn:=hv.ext.n
 have hve:=view_ext hv.ext hl
 have nm:¬(l<0∨M'.n≤l):=by omega
 have nl:¬(M'.leads f lo (l+1)=false∨M'.leads f hi (l+1)=false):=by rw [hv.llo,hv.lhi];simp
 have hle:=hv.ext.leads hl
 suffices hs:(mkK f M' l lo hi=.inl (e,0)∨∃ r,mkK f M' l lo hi=.inr r∧look M'.cs e.to=some r∧e.tag=tagOf f r) ∧
   (viewAct M f e l=.inl (lo,hi,0)∨∃ q,viewAct M f e l=.inr q∧look M'.cs lo.to=some q∧lo.tag=0∧hi=(if f=4 then lo else q.hi))∧OkF M' f lo.to∧OkF M' f hi.to by
  obtain⟨s1,s2,s3,s4⟩:=hs
  exact⟨⟨s1,by rw [hve];exact s2,hle,hv.llo,hv.lhi⟩,(rightK_iff hv.llo).2 s3,(rightK_iff hv.lhi).2 s4⟩
 have hz0:OkF M' f 0:=fun _=>okReach_low (look_low (by decide))
 -- no node at the level
 have hout:∀ (_:look M.cs e.to=none∨∃ r,look M.cs e.to=some r∧l<r.top) (_:¬(f=5∧(e.to=0∨l<e.tag))),viewAct M f e l=.inl (vOut f l e) →
   (mkK f M' l lo hi=.inl (e,0)∨∃ r,mkK f M' l lo hi=.inr r∧look M'.cs e.to=some r∧e.tag=tagOf f r) ∧
   (viewAct M f e l=.inl (lo,hi,0)∨∃ q,viewAct M f e l=.inr q∧look M'.cs lo.to=some q∧lo.tag=0∧hi=(if f=4 then lo else q.hi))∧OkF M' f lo.to∧OkF M' f hi.to:=by
  intro hk hnt hva
  rw [hva] at hM hlo hhi ⊢
  have hM':M'=M:=hM
  have hlo':lo=(vOut f l e).1:=hlo
  have hhi':hi=(vOut f l e).2.1:=hhi
  have hto:lo.to=e.to:=by
   rw [hlo']
   unfold vOut
   split
   ·rfl
   ·split<;>rfl
  have hk1:OkF M' f lo.to:=by rw [hto,hM'];exact hok
  subst hM'
  refine⟨.inl ?_,.inl ?_,hk1,?_⟩
  ·rcases hff with rfl|rfl|rfl|rfl|rfl
   ·obtain rfl:lo=e:=hlo'
    obtain rfl:hi=lo:=hhi'
    rw [mkK1];unfold makeAct bRest;rw [if_neg nm,if_neg nl,if_pos rfl]
   ·obtain rfl:lo=e:=hlo'
    obtain rfl:hi=⟨0,0⟩:=hhi'
    rw [mkK2];unfold makeAct zRest;rw [if_neg nm,if_neg nl,if_pos rfl]
   ·obtain rfl:lo=e:=hlo'
    obtain rfl:hi=lo:=hhi'
    rw [mkK3];unfold makeAct cRest;rw [if_neg nm,if_neg nl,if_pos rfl]
   ·obtain rfl:lo=e:=hlo'
    obtain rfl:hi=⟨0,0⟩:=hhi'
    rw [mkK4];unfold makeAct qRest;rw [if_neg nm,if_neg nl,if_pos rfl]
   ·have hz:e.to≠0:=fun hh=>hnt ⟨rfl,.inl hh⟩
    have ht:e.tag=l:=by
     have:¬l<e.tag:=fun hh=>hnt ⟨rfl,.inr hh⟩
     have:=p8 rfl hz
     omega
    obtain rfl:lo=⟨l+1,e.to⟩:=hlo'
    obtain rfl:hi=⟨0,0⟩:=hhi'
    rw [mkK5]
    unfold tAct
    rw [if_neg nm,if_neg nl,if_neg (fun hh=>hz (congrArg Edge.to hh)),if_pos ⟨rfl,rfl⟩]
    cases e
    simp only at ht
    rw [ht]
  ·rw [hlo',hhi']
   have:(vOut f l e).2.2=0:=by
    unfold vOut
    split
    ·rfl
    ·split<;>rfl
   rw [← this]
  ·have:hi.to=e.to∨hi.to=0:=by
    rw [hhi']
    unfold vOut
    split
    ·exact .inl rfl
    ·split<;>exact .inr rfl
   rcases this with hh|hh
   ·rw [hh,← hto];exact hk1
   ·rw [hh];exact hz0
 obtain⟨va,hva⟩:∃ va,va=viewAct M f e l:=⟨_,rfl⟩
 have hva2:=hva
 unfold viewAct at hva2
 rw [if_neg (by omega),if_neg (by rw [hl];simp)] at hva2
 split at hva2
 ·rename_i hc
  obtain⟨rfl,hc⟩:=hc
  rw [← hva,hva2] at hM hlo hhi ⊢
  obtain rfl:M'=M:=hM
  obtain rfl:lo=e:=hlo
  obtain rfl:hi=lo:=hhi
  refine⟨.inl ?_,.inl rfl,hok,hok⟩
  rw [mkK5]
  unfold tAct
  rw [if_neg nm,if_neg nl,if_pos rfl]
 ·rename_i hc
  cases hk:look M.cs e.to with
  | none=>
   rw [hk] at hva2
   exact hout (.inl hk) hc (hva ▸ hva2)
  | some r=>
   rw [hk] at hva2
   simp only [] at hva2
   have g:=h.goodRec hk
   have g1:=g.tb
   have g2:=g.bn
   have hrf:r.form=f∧l≤r.top∧e.tag≤r.top:=by
    rcases hr with hr|⟨r2,a,b,c,d⟩
    ·rw [look_low hr] at hk;cases hk
    ·rw [hk] at a;cases a;exact⟨b,c,d⟩
   obtain⟨hrf,hlt0,htg⟩:=hrf
   by_cases hlt:l<r.top
   ·rw [if_pos hlt] at hva2
    exact hout (.inr ⟨r,hk,hlt⟩) hc (hva ▸ hva2)
   ·rw [if_neg hlt] at hva2
    have htop:r.top=l:=by omega
    have hk':=hv.ext.sub _ _ hk
    have hwr:(f=3∨f=4∨f=5)→wrongB M' f r=false:=fun hh=>by
     rw [wrong_ext hv.ext h hk]
     have:=hok hh e.to (Reaches.root (by simp) (by rw [hk];simp))
     rw [hk] at this
     exact this
    have hch:OkF M' f r.lo.to∧OkF M' f r.hi.to:=by
     refine⟨fun hh=>?_,fun hh=>?_⟩
     ·exact okReach_ext hv.ext h (leads_there g.lo) (okReach_child (hok hh) hk).1
     ·exact okReach_ext hv.ext h (leads_there g.hi) (okReach_child (hok hh) hk).2
    have htag:f≠5→e.tag=0:=fun hh=>p7 (.inl hh)
    split at hva2
    ·rename_i hcc
     obtain⟨h34,hne⟩:=hcc
     have hb:M.bad ⟨r.form,r.top+1,r.bot,r.lo,r.hi⟩=false:=rest_good g h.n16 (by omega) (by rw [hrf];exact h34) hne
     obtain⟨q,hq⟩:∃ q:Rec,q=⟨r.form,r.top+1,r.bot,r.lo,r.hi⟩:=⟨_,rfl⟩
     rw [← hq] at hva2 hb
     rw [← hva,hva2] at hM hlo hhi he ⊢
     change M.findErr q=0 at he
     obtain⟨k1,k2,k3,k4,k5,k6⟩:=find_zero h hb he
     have hM':M'=M.findSt q:=hM
     have elo:lo=⟨0,M.findId q⟩:=by rw [hlo];exact foundE_ok he
     have ehi:hi=if f=4 then lo else r.hi:=by
      rw [hhi]
      show(if M.findErr q=0 then(if f=4 then foundE M 0 q else q.hi) else⟨0,0⟩:Edge)=_
      rw [if_pos he,foundE_ok he,elo,hq]
     have hkq:look M'.cs lo.to=some q:=by rw [hM',elo];exact k1
     have q1:q.top=l+1:=by rw [hq];show r.top+1=_;omega
     have q2:q.bot=r.bot:=by rw [hq]
     have q3:q.lo=r.lo:=by rw [hq]
     have q4:q.hi=r.hi:=by rw [hq]
     have hokq:OkF M' f lo.to:=fun hh=>by
      refine okReach_node hkq ?_ (by rw [q3];exact hch.1 hh) (by rw [q4];exact hch.2 hh)
      rw [← hwr hh]
      have h5:¬f=5:=by omega
      unfold wrongB
      rw [if_neg h5,if_neg h5,q2,q3,q4]
     refine⟨.inr ⟨r,?_,hk',by rw [htag (by omega)];unfold tagOf;rw [if_neg (by omega)]⟩,.inr ⟨q,rfl,hkq,by rw [elo],by rw [ehi,q4]⟩,hokq,?_⟩
     ·rcases h34 with rfl|rfl
      ·rw [if_neg (by omega)] at ehi
       rw [mkK3]
       unfold makeAct cRest
       rw [if_neg nm,if_neg nl,if_neg (fun hh=>?_),hkq]
       ·simp only []
        rw [if_pos q1,if_pos (by rw [q4,ehi])]
        rw [q2,q3,ehi]
        exact congrArg _ (by cases r;simp only at hrf htop ⊢;rw [hrf,htop])
       ·rw [ehi] at hh
        rw [hh] at hkq
        rcases(leads_iff.1 (hv.ext.leads g.hi)).2 with c|⟨r2,a,b,c,_⟩
        ·rw [look_low c] at hkq;cases hkq
        ·rw [hkq] at a
         have e9:=Option.some.inj a
         rw [← e9,q1] at c
         exact absurd hne (by have:=g.tb;intro _;clear hr;omega)
      ·rw [if_pos rfl] at ehi
       rw [mkK4]
       unfold makeAct qRest
       rw [if_neg nm,if_neg nl,if_neg (by rw [ehi,elo];show ¬M.findId q=0;omega),hkq]
       simp only []
       rw [if_pos ehi.symm,if_pos q1,q2,q3,q4]
       exact congrArg _ (by cases r;simp only at hrf htop ⊢;rw [hrf,htop])
     ·rw [ehi]
      split
      ·exact hokq
      ·exact hch.2
    ·rename_i hcc
     have hbt:r.bot=r.top:=by
      rcases g.chain with hx|hx
      ·exact hx.symm
      ·unfold chainedB at hx
       simp only [Bool.or_eq_true,beq_iff_eq] at hx
       by_cases hy:r.bot=r.top
       ·exact hy
       ·exact absurd ⟨by omega,hy⟩ hcc
     rw [← hva,hva2] at hM hlo hhi ⊢
     obtain rfl:M'=M:=hM
     obtain rfl:lo=r.lo:=hlo
     obtain rfl:hi=r.hi:=hhi
     have hself:(⟨f,l,l,r.lo,r.hi⟩:Rec)=r:=by cases r;simp only at hrf htop hbt ⊢;rw [hrf,hbt,htop]
     refine⟨.inr ⟨r,?_,hk',?_⟩,.inl rfl,hch.1,hch.2⟩
     ·rcases hff with rfl|rfl|rfl|rfl|rfl
      ·rw [mkK1]
       unfold makeAct bRest
       rw [if_neg nm,if_neg nl,if_neg (g.apart (by omega) (by omega)),hself]
      ·rw [mkK2]
       unfold makeAct zRest
       rw [if_neg nm,if_neg nl,if_neg (g.zero (.inl hrf)),hself]
      ·have hw:=hwr (.inl rfl)
       unfold wrongB at hw
       rw [if_neg (by omega)] at hw
       rw [mkK3]
       unfold makeAct cRest
       rw [if_neg nm,if_neg nl,if_neg (g.apart (by omega) (by omega))]
       cases hx:look M'.cs r.lo.to with
       | none=>simp only [];rw [hself]
       | some x=>
        rw [hx] at hw
        simp only [] at hw ⊢
        rw [if_neg (by omega)] at hw
        split
        ·rename_i hx1
         rw [decide_eq_true (show x.top=r.bot+1 by omega),Bool.true_and] at hw
         rw [if_neg (of_decide_eq_false hw),hself]
        ·rw [hself]
      ·have hw:=hwr (.inr (.inl rfl))
       unfold wrongB at hw
       rw [if_neg (by omega)] at hw
       rw [mkK4]
       unfold makeAct qRest
       rw [if_neg nm,if_neg nl,if_neg (g.zero (.inr hrf))]
       cases hx:look M'.cs r.lo.to with
       | none=>simp only [];rw [hself]
       | some x=>
        rw [hx] at hw
        simp only [if_true] at hw ⊢
        split
        ·rename_i hx1
         rw [decide_eq_true hx1,Bool.and_true] at hw
         have hx2:=of_decide_eq_false hw
         rw [if_neg (by omega),hself]
        ·rw [hself]
      ·have hw:=hwr (.inr (.inr rfl))
       unfold wrongB at hw
       rw [if_pos rfl] at hw
       rw [mkK5]
       unfold tAct
       rw [if_neg nm,if_neg nl,if_neg (g.apart (by omega) (by omega)),if_neg (fun hh=>?_),hself]
       rw [decide_eq_true hh.1,decide_eq_true (by rw [hh.2];omega)] at hw
       cases hw
     ·by_cases h5:f=5
      ·subst h5
       have hnt:¬(e.to=0∨l<e.tag):=fun hh=>hc ⟨rfl,hh⟩
       have hz:e.to≠0:=fun hh=>hnt (.inl hh)
       have:=p8 rfl hz
       unfold tagOf
       rw [if_pos rfl]
       omega
      ·rw [htag h5]
       unfold tagOf
       rw [if_neg h5]

def MadeAny (g:Int)(M:St)(l:Int)(lo hi:Edge):Prop:=
 (actErr M (mkK g M l lo hi)=0∧Pair g (actSt M (mkK g M l lo hi)) l lo hi (mkE g M (mkK g M l lo hi))∧GrownBy M (actSt M (mkK g M l lo hi)) 1∧rightK (actSt M (mkK g M l lo hi)) g (mkE g M (mkK g M l lo hi)) l) ∨
 (actErr M (mkK g M l lo hi)=6∧actSt M (mkK g M l lo hi)=M∧mkE g M (mkK g M l lo hi)=⟨0,0⟩∧M.room≤M.len)

theorem make_any {g:Int}{M:St}(h:M.wf){l:Int}{lo hi:Edge}(hg:1≤g∧g≤5)(h0:0≤l)(h1:l<M.n)(hlen:M.len<1048576)(a1:M.leads g lo (l+1)=true)(b1:M.leads g hi (l+1)=true)
  (hlo:rightK M g lo (l+1)) (hhi:rightK M g hi (l+1)):MadeAny g M l lo hi:=by
 have hE:=Ext.vast M
 have hm:=makesK h.vast hg h0 h1 hlen (hE.leads a1) (hE.leads b1) (rightK_ext hE h hlo) (rightK_ext hE h hhi)
 have e1:mkK g M.vast l lo hi=mkK g M l lo hi:=rfl
 obtain⟨m1,m2,m3,m4⟩:=hm
 rw [e1] at m1 m2 m3 m4
 unfold MadeAny
 cases ha:mkK g M l lo hi with
 | inl x=>
  rw [ha] at m1 m2 m3 m4
  have k1:mkE g M.vast (.inl x)=mkE g M (.inl x):=by unfold mkE;split<;>rfl
  rw [k1] at m2 m4
  exact .inl ⟨m1,m2.ext (Ext.unvast M) hg,⟨Ext.refl _,h,by show M.len≤M.len+1;omega,rfl⟩,rightK_ext (Ext.unvast M) h.vast m4⟩
 | inr r=>
  rw [ha] at m1 m2 m3 m4
  change M.vast.findErr r=0 at m1
  have hidv:M.vast.idOf r=M.idOf r:=rfl
  have hbv:M.vast.bad r=M.bad r:=rfl
  by_cases he:M.findErr r=0
  ·left
   have hid:M.vast.findId r=M.findId r:=by
    unfold St.findErr at m1 he
    unfold St.findId
    rw [hidv] at m1 ⊢
    cases hi:M.idOf r with
    | some id=>rfl
    | none=>
     rw [hi] at m1 he
     simp only [] at m1 he ⊢
     have hb:M.bad r=false:=by
      cases hb:M.bad r with
      | false=>rfl
      | true=>rw [hb] at he;cases he
     rw [hbv,hb] at m1 ⊢
     rw [hb] at he
     rw [if_neg (by simp)] at m1 he
     simp only [Bool.false_eq_true,if_false]
     have q1:¬M.room≤M.len:=fun hh=>by rw [if_pos hh] at he;cases he
     have q2:¬M.vast.room≤M.vast.len:=fun hh=>by rw [if_pos hh] at m1;cases m1
     rw [if_neg q1,if_neg q2]
     rfl
   have hcs:(M.vast.findSt r).cs=(M.findSt r).cs∧(M.vast.findSt r).n=(M.findSt r).n:=by
    unfold St.findErr at m1 he
    unfold St.findSt
    rw [hidv] at m1 ⊢
    cases hi:M.idOf r with
    | some id=>exact⟨rfl,rfl⟩
    | none=>
     rw [hi] at m1 he
     simp only [] at m1 he ⊢
     have hb:M.bad r=false:=by
      cases hb:M.bad r with
      | false=>rfl
      | true=>rw [hb] at he;cases he
     rw [hbv,hb] at m1 ⊢
     rw [hb] at he
     rw [if_neg (by simp)] at m1 he
     simp only [Bool.false_eq_true,if_false]
     have q1:¬M.room≤M.len:=fun hh=>by rw [if_pos hh] at he;cases he
     have q2:¬M.vast.room≤M.vast.len:=fun hh=>by rw [if_pos hh] at m1;cases m1
     rw [if_neg q1,if_neg q2]
     exact⟨rfl,rfl⟩
   have hEx:Ext (M.vast.findSt r) (M.findSt r):=⟨hcs.2.symm,fun _ _ hh=>by rw [← hcs.1];exact hh⟩
   have k1:mkE g M.vast (.inr r)=mkE g M (.inr r):=by
    unfold mkE
    split
    ·show foundE M.vast r.top r=foundE M r.top r
     rw [foundE_ok m1,foundE_ok he,hid]
    ·show foundE M.vast 0 r=foundE M 0 r
     rw [foundE_ok m1,foundE_ok he,hid]
   rw [k1] at m2 m4
   have hwv:(M.vast.findSt r).wf:=m3.wf
   have hgr:GrownBy M (M.findSt r) 1:=by
    cases hb:M.bad r with
    | false=>
     obtain⟨z1,z2,z3,z4,z5,z6⟩:=find_zero h hb he
     exact⟨z2,z3,z5,z6⟩
    | true=>
     have hid2:∃ id,M.idOf r=some id:=by
      unfold St.findErr at he
      cases hi:M.idOf r with
      | some id=>exact⟨id,rfl⟩
      | none=>rw [hi] at he;simp only [] at he;rw [hb,if_pos rfl] at he;cases he
     obtain⟨id,hi⟩:=hid2
     have:=(find_old h ((idOf_iff h.once r id).2 hi)).2.2
     rw [this]
     exact GrownBy.refl h (by decide)
   exact⟨he,m2.ext hEx hg,hgr,rightK_ext hEx hwv m4⟩
  ·right
   have hb:M.bad r=false:=by
    cases hb:M.bad r with
    | false=>rfl
    | true=>
     exfalso
     unfold St.findErr at m1 he
     rw [hidv,hbv,hb] at m1
     cases hi:M.idOf r with
     | some id=>rw [hi] at he;exact he rfl
     | none=>rw [hi] at m1;simp at m1
   obtain⟨f1,f2,f3⟩:=find_full hb he
   refine⟨f1,f2,?_,f3⟩
   unfold mkE
   split
   ·exact foundE_bad he
   ·exact foundE_bad he

theorem isT_zero {g:Int}{M:St}(h:M.wf)(hg:1≤g∧g≤5):∀ (k:Nat) (l:Int),0≤l→l+(k:Int)=M.n→IsT g M k (List.replicate (2 ^ k) false) l ⟨0,0⟩:=by
 have hn:=h.n0
 have hn16:=h.n16
 have hld:∀ l:Int,0≤l→l≤M.n→M.leads g ⟨0,0⟩ l=true:=fun l h0 h1=>
  leads_iff.2 ⟨plainB_iff.2 ⟨hg.1,hg.2,hn,hn16,h0,h1,fun _=>rfl,fun _ hh=>absurd rfl hh⟩,.inl (by show(0:Int)<2;omega)⟩
 intro k
 induction k with
 | zero=>intro l _ _;exact⟨false,rfl,rfl⟩
 | succ k ih=>
  intro l h0 hl
  push_cast at hl
  have hh:=ih (l+1) (by omega) (by omega)
  have e2:2 ^ (k+1)=2 ^ k+2 ^ k:=by rw [Nat.pow_succ];omega
  have ht:(List.replicate (2 ^ (k+1)) false).take (2 ^ k)=List.replicate (2 ^ k) false:=by rw [List.take_replicate,e2,Nat.min_eq_left (Nat.le_add_right _ _)]
  have hd:(List.replicate (2 ^ (k+1)) false).drop (2 ^ k)=List.replicate (2 ^ k) false:=by rw [List.drop_replicate,e2,Nat.add_sub_cancel]
  have l1:=hld l h0 (by omega)
  have l2:=hld (l+1) (by omega) (by omega)
  refine⟨by simp,⟨0,0⟩,⟨0,0⟩,by rw [ht];exact hh,by rw [hd];exact hh,⟨.inl ?_,.inl ?_,l1,l2,l2⟩⟩
  ·have nm:¬(l<0∨M.n≤l):=by omega
   have nl:∀ f:Int,f=g→¬(M.leads f ⟨0,0⟩ (l+1)=false∨M.leads f ⟨0,0⟩ (l+1)=false):=fun f hf=>by rw [hf,l2];simp
   have hgg:g=1∨g=2∨g=3∨g=4∨g=5:=by omega
   rcases hgg with rfl|rfl|rfl|rfl|rfl
   ·rw [mkK1];unfold makeAct bRest;rw [if_neg nm,if_neg (nl _ rfl),if_pos rfl]
   ·rw [mkK2];unfold makeAct zRest;rw [if_neg nm,if_neg (nl _ rfl),if_pos rfl]
   ·rw [mkK3];unfold makeAct cRest;rw [if_neg nm,if_neg (nl _ rfl),if_pos rfl]
   ·rw [mkK4];unfold makeAct qRest;rw [if_neg nm,if_neg (nl _ rfl),if_pos rfl]
   ·rw [mkK5];unfold tAct;rw [if_neg nm,if_neg (nl _ rfl),if_pos rfl]
  ·unfold viewAct
   rw [if_neg (by omega),if_neg (by rw [l1];simp)]
   by_cases h5:g=5
   ·rw [if_pos ⟨h5,.inl rfl⟩]
   ·rw [if_neg (fun hh=>h5 hh.1),look_low (by decide)]
    show Sum.inl (vOut g l ⟨0,0⟩)=_
    unfold vOut
    rw [if_neg h5]
    split<;>rfl

structure GoodC (f g:Int)(M:St)(e:Edge)(l:Int)(x:Edge):Prop where
 isT:IsT g M (M.n-l).toNat (tabE M f e l) l x
 right:rightK M g x l
 ok:x.ok
 own:rightK M f e l→IsT f M (M.n-l).toNat (tabE M f e l) l e

section
variable {f g:Int}{M:St}{V:List (Edge×Int)}{e:Edge}{l:Int}

theorem good_zero (hw:M.wf)(hf:1≤f∧f≤5)(hg:1≤g∧g≤5)(hl:M.leads f e l=true)(h0:0≤l)(hz:e.to=0):GoodC f g M e l ⟨0,0⟩:=by
 obtain⟨hp,hr⟩:=leads_iff.1 hl
 obtain⟨p1,p2,p3,p4,p5,p6,p7,p8⟩:=plainB_iff.1 hp
 have ht:e=⟨0,0⟩:=by
  have:=p7 (.inr hz)
  cases e
  simp only at hz this
  rw [hz,this]
 have hk:l+((M.n-l).toNat:Int)=M.n:=by omega
 have hl2:M.leads g ⟨0,0⟩ l=true:=leads_iff.2 ⟨plainB_iff.2 ⟨hg.1,hg.2,p3,p4,p5,p6,fun _=>rfl,fun _ hh=>absurd rfl hh⟩,.inl (by show(0:Int)<2;omega)⟩
 refine⟨by rw [tabE_no hz];exact isT_zero hw hg _ l h0 hk,(rightK_iff hl2).2 (fun _=>okReach_low (look_low (by decide))),edge0_ok,fun _=>by rw [tabE_no hz,ht];exact isT_zero hw hf _ l h0 hk⟩

theorem good_end (hw:M.wf)(hf:1≤f∧f≤5)(hg:1≤g∧g≤5)(he:e.ok)(hl:M.leads f e l=true)(hn:l=M.n)(hz:e.to≠0):GoodC f g M e l (endE g true M.n):=by
 obtain⟨hp,hr⟩:=leads_iff.1 hl
 obtain⟨p1,p2,p3,p4,p5,p6,p7,p8⟩:=plainB_iff.1 hp
 have h1:e.to=1:=by
  have:=he.2.1
  rcases hr with hr|⟨r,a,b,c,d⟩
  ·omega
  ·have g:=hw.goodRec a
   have:=g.tb
   have:=g.bn
   omega
 have hE:e=endE f true M.n:=by
  unfold endE
  rw [if_pos rfl]
  split
  ·rename_i h5
   have:=p8 h5 hz
   cases e
   simp only at h1 this
   rw [h1]
   congr 1
   omega
  ·rename_i h5
   have:=p7 (.inl h5)
   cases e
   simp only at h1 this
   rw [h1,this]
 have ht:tabE M f e l=[true]:=tabE_end hz hn.symm
 have hk:(M.n-l).toNat=0:=by omega
 refine⟨?_,?_,endE_ok (by have:=hw.n0;omega) (by have:=hw.n16;omega),fun _=>?_⟩
 ·rw [ht,hk,hn];exact⟨true,rfl,rfl⟩
 ·rw [hn];exact endE_rightK hw
 ·rw [ht,hk,hn];exact⟨true,rfl,hE⟩

end

end Go.Proofs.YtpgcbmbnognieaaGreat
