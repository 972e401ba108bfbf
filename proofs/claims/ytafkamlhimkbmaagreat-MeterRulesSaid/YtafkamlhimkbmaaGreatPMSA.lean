/-
  Make of form 1 over the state: the program's and the document's (printed by wip/mk_mstore.py).
-/
import Derived.Test.YtafkamlhimkbmaaGreatPMakeBZ
import Derived.Test.YtafkamlhimkbmaaGreatPMakeC
import Derived.Test.YtafkamlhimkbmaaGreatPMakeQ
namespace Go.Proofs.YtafkamlhimkbmaaGreat
set_option maxRecDepth 1000000
set_option maxHeartbeats 8000000
set_option linter.unusedSimpArgs false
set_option linter.unusedVariables false
open Go.RowKit
theorem rz {F:Nat→Prop}{w:World}{sb:Nat}{M:St}(h:aq F w sb M)(l:Int)(lo hi:Edge)(Y:lo.ok)(X:hi.ok) :
  Calls Tryz.prog 121 #[.pointer (some ⟨sb,0,none⟩),.int .i64 l,.agg #[.int .u8 lo.tag,.int .u32 lo.to],.agg #[.int .u8 hi.tag,.int .u32 hi.to]] w fun r z=>
   r=.returned (.tuple #[.agg #[.int .u8 (dx M (aC M 1 l lo hi (cK M l lo hi))).tag,.int .u32 (dx M (aC M 1 l lo hi (cK M l lo hi))).to],.int .u8 (fB M (aC M 1 l lo hi (cK M l lo hi)))])∧af F w z∧aq (aH F w z) z sb (bT M (aC M 1 l lo hi (cK M l lo hi))):=by
 have J:=h.wf.b0
 have N:=fun(t:World) (E:ae w t)=>cX (h.U E)
 have I:=fun(t:World) (E:ae w t)=>df (h.U E) 1 lo (l+1) Y
 have Q:=fun(t:World) (E:ae w t)=>df (h.U E) 1 hi (l+1) X
 by_cases W:l<0∨M.n≤l
 ·have O:aC M 1 l lo hi (cK M l lo hi)=.inl (⟨0,0⟩,3):=ai W;rw[O];by_cases Z:l<0;·exact(rN sb l M.n lo hi w J h.a8 N Z).mono fun r z s=>⟨s.1,h.bc s.2⟩
  ·exact(rJ sb l M.n lo hi w J h.a8 N (by omega) (by omega)).mono fun r z s=>⟨s.1,h.bc s.2⟩
 ·have h0:0≤l:=by omega
  have T:l<M.n:=by omega
  by_cases u:M.leads 1 lo (l+1)=false∨M.leads 1 hi (l+1)=false
  ·have O:aC M 1 l lo hi (cK M l lo hi)=.inl (⟨0,0⟩,1):=(by unfold aC;rw[ag W,ai u]);rw[O];rcases cS (M.leads 1 lo (l+1))with D|D
   ·rw[D]at I;exact(rM sb l M.n lo hi w J h.a8 N h0 T I).mono fun r z s=>⟨s.1,h.bc s.2⟩
   ·have V:M.leads 1 hi (l+1)=false:=(by rcases u with u|u;rw[u]at D;cases D;exact u);rw[D]at I;rw[V]at Q;exact(rL sb l M.n lo hi w J h.a8 N h0 T I Q).mono fun r z s=>⟨s.1,h.bc s.2⟩
  ·have D:M.leads 1 lo (l+1)=true:=(by rcases cS (M.leads 1 lo (l+1))with b|b;exact(u (.inl b)).elim;exact b);have V:M.leads 1 hi (l+1)=true:=(by rcases cS (M.leads 1 hi (l+1))with b|b;exact(u (.inr b)).elim;exact b);have O:aC M 1 l lo hi (cK M l lo hi)=cK M l lo hi:=(by unfold aC;rw[ag W,ag u]);rw[O];rw[D]at I;rw[V]at Q;by_cases u:lo=hi
   ·have D:cK M l lo hi=.inl (lo,0):=ai u;rw[D];exact(rO sb l M.n lo hi w J h.a8 N h0 T I Q u).mono fun r z s=>⟨s.1,h.bc s.2⟩
   have s:(⟨1,l,l,lo,hi⟩:Rec).ok:=jo (by decide) h0 (by omega) ⟨h0,by omega⟩ Y X;have D:cK M l lo hi=.inr ⟨1,l,l,lo,hi⟩:=ag u;rw[D];have D:=fun(t:World) (E:ae w t)=>rv (h.U E) ⟨1,l,l,lo,hi⟩ s;refine(rK (fun t U=>aq (aH F t U) U sb (M.ba ⟨1,l,l,lo,hi⟩)) sb l M.n lo hi _ _ _ w J h.a8 N h0 T I Q u h.lt D).mono ?_;rintro e z ⟨rfl,t,U,ab,ad,ah,al⟩;exact⟨rfl,ah.after h.lt ab ad al⟩
theorem AA {F:Nat→Prop}{w:World}{sb:Nat}{M:St}(h:aq F w sb M)(l:Int)(lo hi:Edge)(ab:lo.ok)(Z:hi.ok) :
  Calls Tryz.prog 122 #[.pointer (some ⟨sb,0,none⟩),.int .i64 l,.agg #[.int .u8 lo.tag,.int .u32 lo.to],.agg #[.int .u8 hi.tag,.int .u32 hi.to]] w fun r z=>
   r=.returned (.tuple #[.agg #[.int .u8 (dx M (aC M 2 l lo hi (cO M l lo hi))).tag,.int .u32 (dx M (aC M 2 l lo hi (cO M l lo hi))).to],.int .u8 (fB M (aC M 2 l lo hi (cO M l lo hi)))])∧af F w z∧aq (aH F w z) z sb (bT M (aC M 2 l lo hi (cO M l lo hi))):=by
 have J:=h.wf.b0
 have N:=fun(t:World) (E:ae w t)=>cX (h.U E)
 have I:=fun(t:World) (E:ae w t)=>df (h.U E) 2 lo (l+1) ab
 have Q:=fun(t:World) (E:ae w t)=>df (h.U E) 2 hi (l+1) Z
 by_cases X:l<0∨M.n≤l
 ·have O:aC M 2 l lo hi (cO M l lo hi)=.inl (⟨0,0⟩,3):=ai X;rw[O];by_cases ad:l<0;·exact(AK sb l M.n lo hi w J h.a8 N ad).mono fun r z s=>⟨s.1,h.bc s.2⟩
  ·exact(AG sb l M.n lo hi w J h.a8 N (by omega) (by omega)).mono fun r z s=>⟨s.1,h.bc s.2⟩
 ·have h0:0≤l:=by omega
  have U:l<M.n:=by omega
  by_cases u:M.leads 2 lo (l+1)=false∨M.leads 2 hi (l+1)=false
  ·have O:aC M 2 l lo hi (cO M l lo hi)=.inl (⟨0,0⟩,1):=(by unfold aC;rw[ag X,ai u]);rw[O];rcases cS (M.leads 2 lo (l+1))with D|D
   ·rw[D]at I;exact(AJ sb l M.n lo hi w J h.a8 N h0 U I).mono fun r z s=>⟨s.1,h.bc s.2⟩
   ·have W:M.leads 2 hi (l+1)=false:=(by rcases u with u|u;rw[u]at D;cases D;exact u);rw[D]at I;rw[W]at Q;exact(AI sb l M.n lo hi w J h.a8 N h0 U I Q).mono fun r z s=>⟨s.1,h.bc s.2⟩
  ·have D:M.leads 2 lo (l+1)=true:=(by rcases cS (M.leads 2 lo (l+1))with b|b;exact(u (.inl b)).elim;exact b);have W:M.leads 2 hi (l+1)=true:=(by rcases cS (M.leads 2 hi (l+1))with b|b;exact(u (.inr b)).elim;exact b);have O:aC M 2 l lo hi (cO M l lo hi)=cO M l lo hi:=(by unfold aC;rw[ag X,ag u]);rw[O];rw[D]at I;rw[W]at Q;by_cases T:hi.to=0
   ·have Y:cO M l lo hi=.inl (lo,0):=ai T;rw[Y];obtain⟨aw,u⟩:=hi;dsimp only at T;subst T;exact(AL sb l M.n lo aw w J h.a8 N h0 U I Q).mono fun r z s=>⟨s.1,h.bc s.2⟩
   have s:(⟨2,l,l,lo,hi⟩:Rec).ok:=jo (by decide) h0 (by omega) ⟨h0,by omega⟩ ab Z;have Y:cO M l lo hi=.inr ⟨2,l,l,lo,hi⟩:=ag T;rw[Y];have u:=fun(t:World) (E:ae w t)=>Az (h.U E) ⟨2,l,l,lo,hi⟩ s;refine(AH (fun t V=>aq (aH F t V) V sb (M.ba ⟨2,l,l,lo,hi⟩)) sb l M.n lo hi _ _ _ w J h.a8 N h0 U I Q T h.lt u).mono ?_;rintro e z ⟨rfl,t,V,ah,al,am,av⟩;exact⟨rfl,am.after h.lt ah al av⟩
theorem sj {F:Nat→Prop}{w:World}{sb:Nat}{M:St}(h:aq F w sb M)(l:Int)(lo hi:Edge)(a4:lo.ok)(a3:hi.ok) :
  Calls Tryz.prog 123 #[.pointer (some ⟨sb,0,none⟩),.int .i64 l,.agg #[.int .u8 lo.tag,.int .u32 lo.to],.agg #[.int .u8 hi.tag,.int .u32 hi.to]] w fun r D=>
   r=.returned (.tuple #[.agg #[.int .u8 (dx M (aC M 3 l lo hi (bk M l lo hi))).tag,.int .u32 (dx M (aC M 3 l lo hi (bk M l lo hi))).to],.int .u8 (fB M (aC M 3 l lo hi (bk M l lo hi)))])∧af F w D∧aq (aH F w D) D sb (bT M (aC M 3 l lo hi (bk M l lo hi))):=by
 have O:=h.wf.b0
 have Q:=fun(s:World) (z:ae w s)=>cX (h.U z)
 have E:=fun(s:World) (z:ae w s)=>df (h.U z) 3 lo (l+1) a4
 have U:=fun(s:World) (z:ae w s)=>df (h.U z) 3 hi (l+1) a3
 by_cases a2:l<0∨M.n≤l
 ·have aw:aC M 3 l lo hi (bk M l lo hi)=.inl (⟨0,0⟩,3):=ai a2;rw[aw];by_cases a6:l<0;·exact(sD sb l M.n lo hi w O h.a8 Q a6).mono fun r D t=>⟨t.1,h.bc t.2⟩
  ·exact(sy sb l M.n lo hi w O h.a8 Q (by omega) (by omega)).mono fun r D t=>⟨t.1,h.bc t.2⟩
 ·have h0:0≤l:=by omega
  have W:l<M.n:=by omega
  by_cases J:M.leads 3 lo (l+1)=false∨M.leads 3 hi (l+1)=false
  ·have aw:aC M 3 l lo hi (bk M l lo hi)=.inl (⟨0,0⟩,1):=(by unfold aC;rw[ag a2,ai J]);rw[aw];rcases cS (M.leads 3 lo (l+1))with V|V
   ·rw[V]at E;exact(sC sb l M.n lo hi w O h.a8 Q h0 W E).mono fun r D t=>⟨t.1,h.bc t.2⟩
   ·have a1:M.leads 3 hi (l+1)=false:=(by rcases J with J|J;rw[J]at V;cases V;exact J);rw[V]at E;rw[a1]at U;exact(sA sb l M.n lo hi w O h.a8 Q h0 W E U).mono fun r D t=>⟨t.1,h.bc t.2⟩
  ·have V:M.leads 3 lo (l+1)=true:=(by rcases cS (M.leads 3 lo (l+1))with b|b;exact(J (.inl b)).elim;exact b);have a1:M.leads 3 hi (l+1)=true:=(by rcases cS (M.leads 3 hi (l+1))with b|b;exact(J (.inr b)).elim;exact b);have aw:aC M 3 l lo hi (bk M l lo hi)=bk M l lo hi:=(by unfold aC;rw[ag a2,ag J]);rw[aw];rw[V]at E;rw[a1]at U;by_cases I:lo=hi
   ·have N:bk M l lo hi=.inl (lo,0):=ai I;rw[N];exact(sF sb l M.n lo hi w O h.a8 Q h0 W E U I).mono fun r D t=>⟨t.1,h.bc t.2⟩
   have t:(⟨3,l,l,lo,hi⟩:Rec).ok:=jo (by decide) h0 (by omega) ⟨h0,by omega⟩ a4 a3;have am:=fun(s:World) (z:ae w s)=>fO (h.U z) lo.to a4.2.2;cases Y:look M.cs lo.to with
   |none=>
    rw[Y]at am;have N:bk M l lo hi=.inr ⟨3,l,l,lo,hi⟩:=(by unfold bk;rw[ag I,Y]);rw[N];have X:=fun(s:World) (z:ae w s)=>jE (h.U z) ⟨3,l,l,lo,hi⟩ t;refine(sE (fun s u=>aq (aH F s u) u sb (M.ba ⟨3,l,l,lo,hi⟩)) sb l M.n lo hi Rec.zero _ _ _ w O h.a8 Q h0 W E U I am h.lt X).mono ?_;rintro e D ⟨rfl,s,u,Z,ab,ad,ah⟩;exact⟨rfl,ad.after h.lt Z ab ah⟩
   |some r=>
    have a0:=h.b7 Y;rw[Y]at am;by_cases T:r.top=l+1
    ·by_cases al:r.hi=hi
     ·have N:bk M l lo hi=.inr ⟨3,l,r.J,r.lo,hi⟩:=(by unfold bk;rw[ag I,Y];show(if r.top=l+1 then _ else _)=_;rw[ai T,ai al]);rw[N];clear t;have t:(⟨3,l,r.J,r.lo,hi⟩:Rec).ok:=jo (by decide) h0 (by omega) a0.J a0.lo a3;obtain⟨a5,rt,ax,ay,av⟩:=r;dsimp only at T al t ⊢;subst al;subst T;have X:=fun(s:World) (z:ae w s)=>jE (h.U z) ⟨3,l,ax,ay,av⟩ t;refine(sz (fun s u=>aq (aH F s u) u sb (M.ba ⟨3,l,ax,ay,av⟩)) sb l M.n lo av ⟨a5,l+1,ax,ay,av⟩ _ _ _ w O h.a8 Q h0 W E U I am h.lt X).mono ?_;rintro e D ⟨rfl,s,u,Z,ab,ad,ah⟩;exact⟨rfl,ad.after h.lt Z ab ah⟩
     ·have N:bk M l lo hi=.inr ⟨3,l,l,lo,hi⟩:=(by unfold bk;rw[ag I,Y];show(if r.top=l+1 then _ else _)=_;rw[ai T,ag al]);rw[N];obtain⟨a5,rt,ax,ay,av⟩:=r;dsimp only at T al;subst T;have X:=fun(s:World) (z:ae w s)=>jE (h.U z) ⟨3,l,l,lo,hi⟩ t;refine(sB (fun s u=>aq (aH F s u) u sb (M.ba ⟨3,l,l,lo,hi⟩)) sb l M.n lo hi ⟨a5,l+1,ax,ay,av⟩ _ _ _ w O h.a8 Q h0 W E U I al am h.lt X).mono ?_;rintro e D ⟨rfl,s,u,Z,ab,ad,ah⟩;exact⟨rfl,ad.after h.lt Z ab ah⟩
    ·have N:bk M l lo hi=.inr ⟨3,l,l,lo,hi⟩:=(by unfold bk;rw[ag I,Y];show(if r.top=l+1 then _ else _)=_;rw[ag T]);rw[N];have X:=fun(s:World) (z:ae w s)=>jE (h.U z) ⟨3,l,l,lo,hi⟩ t;refine(sG (fun s u=>aq (aH F s u) u sb (M.ba ⟨3,l,l,lo,hi⟩)) sb l M.n lo hi r _ _ _ w O h.a8 Q h0 W E U I T a0.top.1 a0.top.2 am h.lt X).mono ?_;rintro e D ⟨rfl,s,u,Z,ab,ad,ah⟩;exact⟨rfl,ad.after h.lt Z ab ah⟩
theorem sU {F:Nat→Prop}{w:World}{sb:Nat}{M:St}(h:aq F w sb M)(l:Int)(lo hi:Edge)(a0:lo.ok)(a4:hi.ok) :
  Calls Tryz.prog 124 #[.pointer (some ⟨sb,0,none⟩),.int .i64 l,.agg #[.int .u8 lo.tag,.int .u32 lo.to],.agg #[.int .u8 hi.tag,.int .u32 hi.to]] w fun r D=>
   r=.returned (.tuple #[.agg #[.int .u8 (dx M (aC M 4 l lo hi (bo M l lo hi))).tag,.int .u32 (dx M (aC M 4 l lo hi (bo M l lo hi))).to],.int .u8 (fB M (aC M 4 l lo hi (bo M l lo hi)))])∧af F w D∧aq (aH F w D) D sb (bT M (aC M 4 l lo hi (bo M l lo hi))):=by
 have O:=h.wf.b0
 have Q:=fun(s:World) (z:ae w s)=>cX (h.U z)
 have I:=fun(s:World) (z:ae w s)=>df (h.U z) 4 lo (l+1) a0
 have T:=fun(s:World) (z:ae w s)=>df (h.U z) 4 hi (l+1) a4
 by_cases ay:l<0∨M.n≤l
 ·have aw:aC M 4 l lo hi (bo M l lo hi)=.inl (⟨0,0⟩,3):=ai ay;rw[aw];by_cases a5:l<0;·exact(xL sb l M.n lo hi w O h.a8 Q a5).mono fun r D t=>⟨t.1,h.bc t.2⟩
  ·exact(xG sb l M.n lo hi w O h.a8 Q (by omega) (by omega)).mono fun r D t=>⟨t.1,h.bc t.2⟩
 ·have h0:0≤l:=by omega
  have W:l<M.n:=by omega
  by_cases J:M.leads 4 lo (l+1)=false∨M.leads 4 hi (l+1)=false
  ·have aw:aC M 4 l lo hi (bo M l lo hi)=.inl (⟨0,0⟩,1):=(by unfold aC;rw[ag ay,ai J]);rw[aw];rcases cS (M.leads 4 lo (l+1))with U|U
   ·rw[U]at I;exact(xJ sb l M.n lo hi w O h.a8 Q h0 W I).mono fun r D t=>⟨t.1,h.bc t.2⟩
   ·have ax:M.leads 4 hi (l+1)=false:=(by rcases J with J|J;rw[J]at U;cases U;exact J);rw[U]at I;rw[ax]at T;exact(xI sb l M.n lo hi w O h.a8 Q h0 W I T).mono fun r D t=>⟨t.1,h.bc t.2⟩
  ·have U:M.leads 4 lo (l+1)=true:=(by rcases cS (M.leads 4 lo (l+1))with b|b;exact(J (.inl b)).elim;exact b);have ax:M.leads 4 hi (l+1)=true:=(by rcases cS (M.leads 4 hi (l+1))with b|b;exact(J (.inr b)).elim;exact b);have aw:aC M 4 l lo hi (bo M l lo hi)=bo M l lo hi:=(by unfold aC;rw[ag ay,ag J]);rw[aw];rw[U]at I;rw[ax]at T;by_cases E:hi.to=0
   ·have N:bo M l lo hi=.inl (lo,0):=ai E;rw[N];obtain⟨a7,J⟩:=hi;dsimp only at E;subst E;exact(xO sb l M.n lo a7 w O h.a8 Q h0 W I T).mono fun r D t=>⟨t.1,h.bc t.2⟩
   have t:(⟨4,l,l,lo,hi⟩:Rec).ok:=jo (by decide) h0 (by omega) ⟨h0,by omega⟩ a0 a4;have am:=fun(s:World) (z:ae w s)=>fO (h.U z) lo.to a0.2.2;cases Y:look M.cs lo.to with
   |none=>
    rw[Y]at am;have N:bo M l lo hi=.inr ⟨4,l,l,lo,hi⟩:=(by unfold bo;rw[ag E,Y]);rw[N];have X:=fun(s:World) (z:ae w s)=>jF (h.U z) ⟨4,l,l,lo,hi⟩ t;refine(xM (fun s u=>aq (aH F s u) u sb (M.ba ⟨4,l,l,lo,hi⟩)) sb l M.n lo hi Rec.zero _ _ _ w O h.a8 Q h0 W I T E am h.lt X).mono ?_;rintro e D ⟨rfl,s,u,ab,ad,ah,al⟩;exact⟨rfl,ah.after h.lt ab ad al⟩
   |some r=>
    have Z:=h.b7 Y;rw[Y]at am;by_cases V:lo=hi
    ·by_cases av:r.top=l+1
     ·have N:bo M l lo hi=.inr ⟨4,l,r.J,r.lo,r.hi⟩:=(by unfold bo;rw[ag E,Y];show(if lo=hi then _ else _)=_;rw[ai V,ai av]);rw[N];clear t;have t:(⟨4,l,r.J,r.lo,r.hi⟩:Rec).ok:=jo (by decide) h0 (by omega) Z.J Z.lo Z.hi;obtain⟨a6,rt,a1,a3,a2⟩:=r;dsimp only at av V t ⊢;subst V;subst av;have X:=fun(s:World) (z:ae w s)=>jF (h.U z) ⟨4,l,a1,a3,a2⟩ t;refine(xH (fun s u=>aq (aH F s u) u sb (M.ba ⟨4,l,a1,a3,a2⟩)) sb l M.n lo ⟨a6,l+1,a1,a3,a2⟩ _ _ _ w O h.a8 Q h0 W I T E am h.lt X).mono ?_;rintro e D ⟨rfl,s,u,ab,ad,ah,al⟩;exact⟨rfl,ah.after h.lt ab ad al⟩
     ·have N:bo M l lo hi=.inr ⟨4,l,l,lo,hi⟩:=(by unfold bo;rw[ag E,Y];show(if lo=hi then _ else _)=_;rw[ai V,ag av]);rw[N];subst V;have X:=fun(s:World) (z:ae w s)=>jF (h.U z) ⟨4,l,l,lo,lo⟩ t;refine(xN (fun s u=>aq (aH F s u) u sb (M.ba ⟨4,l,l,lo,lo⟩)) sb l M.n lo r _ _ _ w O h.a8 Q h0 W I T E av Z.top.1 Z.top.2 am h.lt X).mono ?_;rintro e D ⟨rfl,s,u,ab,ad,ah,al⟩;exact⟨rfl,ah.after h.lt ab ad al⟩
    ·have N:bo M l lo hi=.inr ⟨4,l,l,lo,hi⟩:=(by unfold bo;rw[ag E,Y];show(if lo=hi then _ else _)=_;rw[ag V]);rw[N];have X:=fun(s:World) (z:ae w s)=>jF (h.U z) ⟨4,l,l,lo,hi⟩ t;refine(xK (fun s u=>aq (aH F s u) u sb (M.ba ⟨4,l,l,lo,hi⟩)) sb l M.n lo hi r _ _ _ w O h.a8 Q h0 W I T E V Z.top.1 Z.top.2 am h.lt X).mono ?_;rintro e D ⟨rfl,s,u,ab,ad,ah,al⟩;exact⟨rfl,ah.after h.lt ab ad al⟩
end Go.Proofs.YtafkamlhimkbmaaGreat
