/-
  View of form 1 over the state: the program's and the document's (printed by wip/mk_vstore.py).
-/
import Derived.Test.YtafkamlhimkbmaaGreatPCube
import Derived.Test.YtafkamlhimkbmaaGreatPViewBZ
import Derived.Test.YtafkamlhimkbmaaGreatPViewC
import Derived.Test.YtafkamlhimkbmaaGreatPViewQ
import Derived.Test.YtafkamlhimkbmaaGreatPViewT
namespace Go.Proofs.YtafkamlhimkbmaaGreat
set_option maxRecDepth 1000000
set_option maxHeartbeats 8000000
set_option linter.unusedSimpArgs false
set_option linter.unusedVariables false
open Go.RowKit
theorem rA {F:Nat→Prop}{w:World}{sb:Nat}{M:St}(h:aq F w sb M)(e:Edge)(l:Int)(he:e.ok) :
  Calls Tryz.prog 267 #[.pointer (some ⟨sb,0,none⟩),.agg #[.int .u8 e.tag,.int .u32 e.to],.int .i64 l] w fun r u=>
   r=.returned (.tuple #[.agg #[.int .u8 (dh M (ao M 1 e l)).tag,.int .u32 (dh M (ao M 1 e l)).to],.agg #[.int .u8 (cF M 1 (ao M 1 e l)).tag,.int .u32 (cF M 1 (ao M 1 e l)).to],.int .u8 (fe M (ao M 1 e l))])∧af F w u∧aq (aH F w u) u sb (dI M (ao M 1 e l)):=by
 have I:=h.wf.b0
 have J:=fun(N:World) (Q:ae w N)=>cX (h.U Q)
 have T:=fun(N:World) (Q:ae w N)=>fO (h.U Q) e.to he.2.2
 have E:=fun(N:World) (Q:ae w N)=>df (h.U Q) 1 e l he
 by_cases O:l<0∨M.n≤l
 ·have t:ao M 1 e l=.inl (⟨0,0⟩,⟨0,0⟩,3):=ai O;rw[t];by_cases N:l<0;·exact(rV sb l M.n e w I h.a8 J N).mono fun r u s=>⟨s.1,h.bc s.2⟩
  ·exact(rU sb l M.n e w I h.a8 J (by omega) (by omega)).mono fun r u s=>⟨s.1,h.bc s.2⟩
 ·have h0:0≤l:=by omega
  have U:l<M.n:=by omega
  rcases cS (M.leads 1 e l)with b|b
  ·have t:ao M 1 e l=.inl (⟨0,0⟩,⟨0,0⟩,1):=(by unfold ao;rw[ag O,ai b]);rw[t];rw[b]at E;exact(rW sb l M.n e w I h.a8 J h0 U E).mono fun r u s=>⟨s.1,h.bc s.2⟩
  ·have nb:¬M.leads 1 e l=false:=(by rw[b];simp);rw[b]at E;have W:¬((1:Int)=5∧(e.to=0∨l<e.tag)):=(by omega);have X:aZ 1 l e=(e,e,0):=(by simp[aZ]);cases D:look M.cs e.to with
   |none=>
    have t:ao M 1 e l=.inl (e,e,0):=(by unfold ao;rw[ag O,ag nb,ag W,D];show Sum.inl (aZ 1 l e)=_;rw[X]);rw[t];rw[D]at T;exact(rX sb l M.n e Rec.zero w I h.a8 J h0 U E T).mono fun r u s=>⟨s.1,h.bc s.2⟩
   |some r=>
    obtain⟨N,Q,al⟩:=dQ b D;have z:=h.b7 D;rw[D]at T;by_cases V:l<r.top
    ·have t:ao M 1 e l=.inl (e,e,0):=(by unfold ao;rw[ag O,ag nb,ag W,D];show(if l<r.top then Sum.inl (aZ 1 l e)else _)=_;rw[ai V,X]);rw[t];exact(rY sb l M.n e r w I h.a8 J h0 U E V z.top.1 z.top.2 z.J.1 z.J.2 T).mono fun r u s=>⟨s.1,h.bc s.2⟩
    ·have Y:r.top=l:=(by omega);have t:ao M 1 e l=.inl (r.lo,r.hi,0):=(by unfold ao;rw[ag O,ag nb,ag W,D];show(if l<r.top then Sum.inl (aZ 1 l e)else _)=_;rw[ag V,ag (by omega)]);rw[t];obtain⟨ab,rt,Z,ah,ad⟩:=r;dsimp only at Y;subst Y;exact(rT sb rt M.n e ⟨ab,rt,Z,ah,ad⟩ w I h.a8 J h0 U E z.top.1 z.top.2 z.J.1 z.J.2 T).mono fun r u s=>⟨s.1,h.bc s.2⟩
theorem AB {F:Nat→Prop}{w:World}{sb:Nat}{M:St}(h:aq F w sb M)(e:Edge)(l:Int)(he:e.ok) :
  Calls Tryz.prog 268 #[.pointer (some ⟨sb,0,none⟩),.agg #[.int .u8 e.tag,.int .u32 e.to],.int .i64 l] w fun r u=>
   r=.returned (.tuple #[.agg #[.int .u8 (dh M (ao M 2 e l)).tag,.int .u32 (dh M (ao M 2 e l)).to],.agg #[.int .u8 (cF M 2 (ao M 2 e l)).tag,.int .u32 (cF M 2 (ao M 2 e l)).to],.int .u8 (fe M (ao M 2 e l))])∧af F w u∧aq (aH F w u) u sb (dI M (ao M 2 e l)):=by
 have I:=h.wf.b0
 have J:=fun(N:World) (Q:ae w N)=>cX (h.U Q)
 have T:=fun(N:World) (Q:ae w N)=>fO (h.U Q) e.to he.2.2
 have E:=fun(N:World) (Q:ae w N)=>df (h.U Q) 2 e l he
 by_cases O:l<0∨M.n≤l
 ·have t:ao M 2 e l=.inl (⟨0,0⟩,⟨0,0⟩,3):=ai O;rw[t];by_cases N:l<0;·exact(AO sb l M.n e w I h.a8 J N).mono fun r u s=>⟨s.1,h.bc s.2⟩
  ·exact(AN sb l M.n e w I h.a8 J (by omega) (by omega)).mono fun r u s=>⟨s.1,h.bc s.2⟩
 ·have h0:0≤l:=by omega
  have U:l<M.n:=by omega
  rcases cS (M.leads 2 e l)with b|b
  ·have t:ao M 2 e l=.inl (⟨0,0⟩,⟨0,0⟩,1):=(by unfold ao;rw[ag O,ai b]);rw[t];rw[b]at E;exact(AP sb l M.n e w I h.a8 J h0 U E).mono fun r u s=>⟨s.1,h.bc s.2⟩
  ·have nb:¬M.leads 2 e l=false:=(by rw[b];simp);rw[b]at E;have W:¬((2:Int)=5∧(e.to=0∨l<e.tag)):=(by omega);have X:aZ 2 l e=(e,⟨0,0⟩,0):=(by simp[aZ]);cases D:look M.cs e.to with
   |none=>
    have t:ao M 2 e l=.inl (e,⟨0,0⟩,0):=(by unfold ao;rw[ag O,ag nb,ag W,D];show Sum.inl (aZ 2 l e)=_;rw[X]);rw[t];rw[D]at T;exact(AQ sb l M.n e Rec.zero w I h.a8 J h0 U E T).mono fun r u s=>⟨s.1,h.bc s.2⟩
   |some r=>
    obtain⟨N,Q,al⟩:=dQ b D;have z:=h.b7 D;rw[D]at T;by_cases V:l<r.top
    ·have t:ao M 2 e l=.inl (e,⟨0,0⟩,0):=(by unfold ao;rw[ag O,ag nb,ag W,D];show(if l<r.top then Sum.inl (aZ 2 l e)else _)=_;rw[ai V,X]);rw[t];exact(AR sb l M.n e r w I h.a8 J h0 U E V z.top.1 z.top.2 z.J.1 z.J.2 T).mono fun r u s=>⟨s.1,h.bc s.2⟩
    ·have Y:r.top=l:=(by omega);have t:ao M 2 e l=.inl (r.lo,r.hi,0):=(by unfold ao;rw[ag O,ag nb,ag W,D];show(if l<r.top then Sum.inl (aZ 2 l e)else _)=_;rw[ag V,ag (by omega)]);rw[t];obtain⟨ab,rt,Z,ah,ad⟩:=r;dsimp only at Y;subst Y;exact(AM sb rt M.n e ⟨ab,rt,Z,ah,ad⟩ w I h.a8 J h0 U E z.top.1 z.top.2 z.J.1 z.J.2 T).mono fun r u s=>⟨s.1,h.bc s.2⟩
theorem sk {F:Nat→Prop}{w:World}{sb:Nat}{M:St}(h:aq F w sb M)(e:Edge)(l:Int)(he:e.ok) :
  Calls Tryz.prog 269 #[.pointer (some ⟨sb,0,none⟩),.agg #[.int .u8 e.tag,.int .u32 e.to],.int .i64 l] w fun r J=>
   r=.returned (.tuple #[.agg #[.int .u8 (dh M (ao M 3 e l)).tag,.int .u32 (dh M (ao M 3 e l)).to],.agg #[.int .u8 (cF M 3 (ao M 3 e l)).tag,.int .u32 (cF M 3 (ao M 3 e l)).to],.int .u8 (fe M (ao M 3 e l))])∧af F w J∧aq (aH F w J) J sb (dI M (ao M 3 e l)):=by
 have Q:=h.wf.b0
 have T:=fun(D:World) (W:ae w D)=>cX (h.U W)
 have X:=fun(D:World) (W:ae w D)=>fO (h.U W) e.to he.2.2
 have O:=fun(D:World) (W:ae w D)=>df (h.U W) 3 e l he
 by_cases Y:l<0∨M.n≤l
 ·have I:ao M 3 e l=.inl (⟨0,0⟩,⟨0,0⟩,3):=ai Y;rw[I];by_cases a4:l<0;·exact(sQ sb l M.n e w Q h.a8 T a4).mono fun r J s=>⟨s.1,h.bc s.2⟩
  ·exact(sN sb l M.n e w Q h.a8 T (by omega) (by omega)).mono fun r J s=>⟨s.1,h.bc s.2⟩
 ·have h0:0≤l:=by omega
  have Z:l<M.n:=by omega
  rcases cS (M.leads 3 e l)with b|b
  ·have I:ao M 3 e l=.inl (⟨0,0⟩,⟨0,0⟩,1):=(by unfold ao;rw[ag Y,ai b]);rw[I];rw[b]at O;exact(sR sb l M.n e w Q h.a8 T h0 Z O).mono fun r J s=>⟨s.1,h.bc s.2⟩
  ·have nb:¬M.leads 3 e l=false:=(by rw[b];simp);rw[b]at O;have al:¬((3:Int)=5∧(e.to=0∨l<e.tag)):=(by omega);have a1:aZ 3 l e=(e,e,0):=(by simp[aZ]);cases N:look M.cs e.to with
   |none=>
    have I:ao M 3 e l=.inl (e,e,0):=(by unfold ao;rw[ag Y,ag nb,ag al,N];show Sum.inl (aZ 3 l e)=_;rw[a1]);rw[I];rw[N]at X;exact(sS sb l M.n e Rec.zero w Q h.a8 T h0 Z O X).mono fun r J s=>⟨s.1,h.bc s.2⟩
   |some r=>
    obtain⟨a2,a4,a6⟩:=dQ b N;have t:=h.b7 N;rw[N]at X;by_cases ad:l<r.top
    ·have I:ao M 3 e l=.inl (e,e,0):=(by unfold ao;rw[ag Y,ag nb,ag al,N];show(if l<r.top then Sum.inl (aZ 3 l e)else _)=_;rw[ai ad,a1]);rw[I];exact(sT sb l M.n e r w Q h.a8 T h0 Z O ad t.top.1 t.top.2 t.J.1 t.J.2 X).mono fun r J s=>⟨s.1,h.bc s.2⟩
    ·have ah:r.top=l:=(by omega);by_cases V:r.J=r.top
     ·have I:ao M 3 e l=.inl (r.lo,r.hi,0):=(by unfold ao;rw[ag Y,ag nb,ag al,N];show(if l<r.top then Sum.inl (aZ 3 l e)else _)=_;rw[ag ad,ag (fun a1=>a1.2 V)]);rw[I];obtain⟨a3,rt,u,E,z⟩:=r;dsimp only at ah V;subst V;subst ah;exact(sM sb u M.n e ⟨a3,u,u,E,z⟩ w Q h.a8 T h0 Z O t.top.1 t.top.2 t.J.1 t.J.2 X).mono fun r J s=>⟨s.1,h.bc s.2⟩
     ·have I:ao M 3 e l=.inr ⟨r.ad,r.top+1,r.J,r.lo,r.hi⟩:=(by unfold ao;rw[ag Y,ag nb,ag al,N];show(if l<r.top then Sum.inl (aZ 3 l e)else _)=_;rw[ag ad,ai ⟨.inl rfl,V⟩]);rw[I];have s:=nu (M:=M) (f:=3) t h0 (by omega) (by decide);obtain⟨a3,rt,u,E,z⟩:=r;dsimp only at a2 ah V s ⊢;subst a2;subst ah;have av:=fun(D:World) (W:ae w D)=>jE (h.U W) ⟨3,rt+1,u,E,z⟩ s;by_cases ab:M.bh ⟨3,rt+1,u,E,z⟩=0
      ·have am:cF M 3 (.inr ⟨3,rt+1,u,E,z⟩)=z:=(by simp[cF,ab]);have s:fe M (.inr ⟨3,rt+1,u,E,z⟩)=0:=ab;rw[am,s];rw[ab]at av;refine(sO (fun D U=>aq (aH F D U) U sb (M.ba ⟨3,rt+1,u,E,z⟩)) sb rt M.n e ⟨3,rt,u,E,z⟩ _ _ w Q h.a8 T h0 Z O V t.top.1 t.top.2 t.J.1 t.J.2 X h.lt av).mono ?_;rintro r J ⟨rfl,D,U,aw,ax,ay,a0⟩;exact⟨rfl,ay.after h.lt aw ax a0⟩
      ·have a5:dh M (.inr ⟨3,rt+1,u,E,z⟩)=⟨0,0⟩:=kq ab;have am:cF M 3 (.inr ⟨3,rt+1,u,E,z⟩)=⟨0,0⟩:=(by simp[cF,ab]);rw[a5,am];refine(sP (fun D U=>aq (aH F D U) U sb (M.ba ⟨3,rt+1,u,E,z⟩)) sb rt M.n e ⟨3,rt,u,E,z⟩ _ _ (M.bh ⟨3,rt+1,u,E,z⟩) ab w Q h.a8 T h0 Z O V t.top.1 t.top.2 t.J.1 t.J.2 X h.lt av).mono ?_;rintro r J ⟨rfl,D,U,aw,ax,ay,a0⟩;exact⟨rfl,ay.after h.lt aw ax a0⟩
theorem sV {F:Nat→Prop}{w:World}{sb:Nat}{M:St}(h:aq F w sb M)(e:Edge)(l:Int)(he:e.ok) :
  Calls Tryz.prog 270 #[.pointer (some ⟨sb,0,none⟩),.agg #[.int .u8 e.tag,.int .u32 e.to],.int .i64 l] w fun r J=>
   r=.returned (.tuple #[.agg #[.int .u8 (dh M (ao M 4 e l)).tag,.int .u32 (dh M (ao M 4 e l)).to],.agg #[.int .u8 (cF M 4 (ao M 4 e l)).tag,.int .u32 (cF M 4 (ao M 4 e l)).to],.int .u8 (fe M (ao M 4 e l))])∧af F w J∧aq (aH F w J) J sb (dI M (ao M 4 e l)):=by
 have Q:=h.wf.b0
 have T:=fun(E:World) (W:ae w E)=>cX (h.U W)
 have X:=fun(E:World) (W:ae w E)=>fO (h.U W) e.to he.2.2
 have O:=fun(E:World) (W:ae w E)=>df (h.U W) 4 e l he
 by_cases Y:l<0∨M.n≤l
 ·have I:ao M 4 e l=.inl (⟨0,0⟩,⟨0,0⟩,3):=ai Y;rw[I];by_cases a4:l<0;·exact(xT sb l M.n e w Q h.a8 T a4).mono fun r J s=>⟨s.1,h.bc s.2⟩
  ·exact(xQ sb l M.n e w Q h.a8 T (by omega) (by omega)).mono fun r J s=>⟨s.1,h.bc s.2⟩
 ·have h0:0≤l:=by omega
  have Z:l<M.n:=by omega
  rcases cS (M.leads 4 e l)with b|b
  ·have I:ao M 4 e l=.inl (⟨0,0⟩,⟨0,0⟩,1):=(by unfold ao;rw[ag Y,ai b]);rw[I];rw[b]at O;exact(xU sb l M.n e w Q h.a8 T h0 Z O).mono fun r J s=>⟨s.1,h.bc s.2⟩
  ·have nb:¬M.leads 4 e l=false:=(by rw[b];simp);rw[b]at O;have al:¬((4:Int)=5∧(e.to=0∨l<e.tag)):=(by omega);have a1:aZ 4 l e=(e,⟨0,0⟩,0):=(by simp[aZ]);cases N:look M.cs e.to with
   |none=>
    have I:ao M 4 e l=.inl (e,⟨0,0⟩,0):=(by unfold ao;rw[ag Y,ag nb,ag al,N];show Sum.inl (aZ 4 l e)=_;rw[a1]);rw[I];rw[N]at X;exact(xV sb l M.n e Rec.zero w Q h.a8 T h0 Z O X).mono fun r J s=>⟨s.1,h.bc s.2⟩
   |some r=>
    obtain⟨a2,a4,a6⟩:=dQ b N;have t:=h.b7 N;rw[N]at X;by_cases ad:l<r.top
    ·have I:ao M 4 e l=.inl (e,⟨0,0⟩,0):=(by unfold ao;rw[ag Y,ag nb,ag al,N];show(if l<r.top then Sum.inl (aZ 4 l e)else _)=_;rw[ai ad,a1]);rw[I];exact(xW sb l M.n e r w Q h.a8 T h0 Z O ad t.top.1 t.top.2 t.J.1 t.J.2 X).mono fun r J s=>⟨s.1,h.bc s.2⟩
    ·have ah:r.top=l:=(by omega);by_cases V:r.J=r.top
     ·have I:ao M 4 e l=.inl (r.lo,r.hi,0):=(by unfold ao;rw[ag Y,ag nb,ag al,N];show(if l<r.top then Sum.inl (aZ 4 l e)else _)=_;rw[ag ad,ag (fun a1=>a1.2 V)]);rw[I];obtain⟨a3,rt,u,D,z⟩:=r;dsimp only at ah V;subst V;subst ah;exact(xP sb u M.n e ⟨a3,u,u,D,z⟩ w Q h.a8 T h0 Z O t.top.1 t.top.2 t.J.1 t.J.2 X).mono fun r J s=>⟨s.1,h.bc s.2⟩
     ·have I:ao M 4 e l=.inr ⟨r.ad,r.top+1,r.J,r.lo,r.hi⟩:=(by unfold ao;rw[ag Y,ag nb,ag al,N];show(if l<r.top then Sum.inl (aZ 4 l e)else _)=_;rw[ag ad,ai ⟨.inr rfl,V⟩]);rw[I];have s:=nu (M:=M) (f:=4) t h0 (by omega) (by decide);obtain⟨a3,rt,u,D,z⟩:=r;dsimp only at a2 ah V s ⊢;subst a2;subst ah;have av:=fun(E:World) (W:ae w E)=>jF (h.U W) ⟨4,rt+1,u,D,z⟩ s;by_cases ab:M.bh ⟨4,rt+1,u,D,z⟩=0
      ·have am:cF M 4 (.inr ⟨4,rt+1,u,D,z⟩)=bN M 0 ⟨4,rt+1,u,D,z⟩:=(by simp[cF,ab]);have s:fe M (.inr ⟨4,rt+1,u,D,z⟩)=0:=ab;rw[am,s];rw[ab]at av;refine(xR (fun E U=>aq (aH F E U) U sb (M.ba ⟨4,rt+1,u,D,z⟩)) sb rt M.n e ⟨4,rt,u,D,z⟩ _ _ w Q h.a8 T h0 Z O V t.top.1 t.top.2 t.J.1 t.J.2 X h.lt av).mono ?_;rintro r J ⟨rfl,E,U,aw,ax,ay,a0⟩;exact⟨rfl,ay.after h.lt aw ax a0⟩
      ·have a5:dh M (.inr ⟨4,rt+1,u,D,z⟩)=⟨0,0⟩:=kq ab;have am:cF M 4 (.inr ⟨4,rt+1,u,D,z⟩)=⟨0,0⟩:=(by simp[cF,ab]);rw[a5,am];refine(xS (fun E U=>aq (aH F E U) U sb (M.ba ⟨4,rt+1,u,D,z⟩)) sb rt M.n e ⟨4,rt,u,D,z⟩ _ _ (M.bh ⟨4,rt+1,u,D,z⟩) ab w Q h.a8 T h0 Z O V t.top.1 t.top.2 t.J.1 t.J.2 X h.lt av).mono ?_;rintro r J ⟨rfl,E,U,aw,ax,ay,a0⟩;exact⟨rfl,ay.after h.lt aw ax a0⟩
theorem zr {F:Nat→Prop}{w:World}{sb:Nat}{M:St}(h:aq F w sb M)(e:Edge)(l:Int)(he:e.ok) :
  Calls Tryz.prog 271 #[.pointer (some ⟨sb,0,none⟩),.agg #[.int .u8 e.tag,.int .u32 e.to],.int .i64 l] w fun r u=>
   r=.returned (.tuple #[.agg #[.int .u8 (dh M (ao M 5 e l)).tag,.int .u32 (dh M (ao M 5 e l)).to],.agg #[.int .u8 (cF M 5 (ao M 5 e l)).tag,.int .u32 (cF M 5 (ao M 5 e l)).to],.int .u8 (fe M (ao M 5 e l))])∧af F w u∧aq (aH F w u) u sb (dI M (ao M 5 e l)):=by
 have D:=h.wf.b0
 have I:=fun(T:World) (U:ae w T)=>cX (h.U U)
 have V:=fun(T:World) (U:ae w T)=>fO (h.U U) e.to he.2.2
 have z:=fun(T:World) (U:ae w T)=>df (h.U U) 5 e l he
 by_cases J:l<0∨M.n≤l
 ·have t:ao M 5 e l=.inl (⟨0,0⟩,⟨0,0⟩,3):=ai J;rw[t];by_cases T:l<0;·exact(zK sb l M.n e w D h.a8 I T).mono fun r u s=>⟨s.1,h.bc s.2⟩
  ·exact(zJ sb l M.n e w D h.a8 I (by omega) (by omega)).mono fun r u s=>⟨s.1,h.bc s.2⟩
 ·have h0:0≤l:=by omega
  have Q:l<M.n:=by omega
  rcases cS (M.leads 5 e l)with b|b
  ·have t:ao M 5 e l=.inl (⟨0,0⟩,⟨0,0⟩,1):=(by unfold ao;rw[ag J,ai b]);rw[t];rw[b]at z;exact(zL sb l M.n e w D h.a8 I h0 Q z).mono fun r u s=>⟨s.1,h.bc s.2⟩
  ·have nb:¬M.leads 5 e l=false:=(by rw[b];simp);rw[b]at z;by_cases O:e.to=0
   ·have t:ao M 5 e l=.inl (e,e,0):=(by unfold ao;rw[ag J,ag nb,ai ⟨rfl,.inl O⟩]);rw[t];obtain⟨ah,T⟩:=e;dsimp only at O;subst O;exact(zP sb l M.n ah w D h.a8 I h0 Q z).mono fun r u s=>⟨s.1,h.bc s.2⟩
   by_cases ad:l<e.tag
   ·have t:ao M 5 e l=.inl (e,e,0):=(by unfold ao;rw[ag J,ag nb,ai ⟨rfl,.inr ad⟩]);rw[t];exact(zN sb l M.n e w D h.a8 I h0 Q z he.1.1 he.1.2 O ad).mono fun r u s=>⟨s.1,h.bc s.2⟩
   have X:¬((5:Int)=5∧(e.to=0∨l<e.tag)):=(by omega);have Y:e.tag≤l:=(by omega);have Z:aZ 5 l e=(⟨l+1,e.to⟩,⟨0,0⟩,0):=(by simp[aZ]);cases N:look M.cs e.to with
   |none=>
    have t:ao M 5 e l=.inl (⟨l+1,e.to⟩,⟨0,0⟩,0):=(by unfold ao;rw[ag J,ag nb,ag X,N];show Sum.inl (aZ 5 l e)=_;rw[Z]);rw[t];rw[N]at V;exact(zM sb l M.n e Rec.zero w D h.a8 I h0 Q z he.1.1 he.1.2 O Y V).mono fun r u s=>⟨s.1,h.bc s.2⟩
   |some r=>
    obtain⟨T,U,ad⟩:=dQ b N;have E:=h.b7 N;rw[N]at V;by_cases W:l<r.top
    ·have t:ao M 5 e l=.inl (⟨l+1,e.to⟩,⟨0,0⟩,0):=(by unfold ao;rw[ag J,ag nb,ag X,N];show(if l<r.top then Sum.inl (aZ 5 l e)else _)=_;rw[ai W,Z]);rw[t];exact(zO sb l M.n e r w D h.a8 I h0 Q z he.1.1 he.1.2 O Y W E.top.1 E.top.2 E.J.1 E.J.2 V).mono fun r u s=>⟨s.1,h.bc s.2⟩
    ·have ab:r.top=l:=(by omega);have t:ao M 5 e l=.inl (r.lo,r.hi,0):=(by unfold ao;rw[ag J,ag nb,ag X,N];show(if l<r.top then Sum.inl (aZ 5 l e)else _)=_;rw[ag W,ag (by omega)]);rw[t];obtain⟨am,rt,al,aw,av⟩:=r;dsimp only at ab;subst ab;exact(zI sb rt M.n e ⟨am,rt,al,aw,av⟩ w D h.a8 I h0 Q z he.1.1 he.1.2 O Y E.top.1 E.top.2 E.J.1 E.J.2 V).mono fun r u s=>⟨s.1,h.bc s.2⟩
def eO (M:St)(f:Int)(e:Edge)(l:Int):(Edge×Edge×Int) ⊕ Rec:=
 if f=1 then ao M 1 e l else if f=2 then ao M 2 e l else if f=3 then ao M 3 e l else if f=4 then ao M 4 e l else if f=5 then ao M 5 e l else .inl (⟨0,0⟩,⟨0,0⟩,4)
theorem uP {F:Nat→Prop}(R:World→World→Prop)(sb:Nat)(l D:Int)(v lo hi:Edge)(w:World)(ah:sb<w.heap.size)(Q:∀k,F k→k<w.heap.size)
  (O:∀s,ae w s→Calls Tryz.prog 267 #[.pointer (some ⟨sb,0,none⟩),.agg #[.int .u8 v.tag,.int .u32 v.to],.int .i64 l] s fun e u=>e=.returned (.tuple #[.agg #[.int .u8 lo.tag,.int .u32 lo.to],.agg #[.int .u8 hi.tag,.int .u32 hi.to],.int .u8 D])∧af F s u∧R s u) :
  Calls Tryz.prog 258 #[.pointer (some ⟨sb,0,none⟩),.int .u8 1,.agg #[.int .u8 v.tag,.int .u32 v.to],.int .i64 l] w fun e u=>e=.returned (.tuple #[.agg #[.int .u8 lo.tag,.int .u32 lo.to],.agg #[.int .u8 hi.tag,.int .u32 hi.to],.int .u8 D]) ∧
   ∃s z,ae w s∧af F s z∧R s z∧af (fun k=>w.heap.size≤k∧k<s.heap.size) z u:=by
 have T:=aa O
 have s:∀k,w.heap.size≤k→¬F k:=fun k E h=>by have:=Q k h;omega
 have I:=s (w.heap.size+1) (by omega)
 have J:=s (w.heap.size+2) (by omega)
 clear O Q s
 go_enter Tryz.func258,Tryz.ntmps258
 go_wp2_with (go_at_call 267;refine(T.out _ kp).mono ?_;rintro e N ⟨rfl,t,U⟩;have V:=t.size;(try simp only[ak,aA,World.a6]at V);have Y:=t.cell (a:=⟨w.heap.size+1,0,none⟩) I (v:=.int .u8 0) (by simp[go_sem]);have Z:=t.cell (a:=⟨w.heap.size+1,1,none⟩) I (v:=.int .u32 0) (by simp[go_sem]);have s:=fun o:Nat=>t.frozen (a:=⟨w.heap.size+1,o,none⟩) (by simp[go_sem]) I (by simp[go_sem]);have ab:=t.cell (a:=⟨w.heap.size+2,0,none⟩) J (v:=.int .u8 0) (by simp[go_sem]);have ad:=t.cell (a:=⟨w.heap.size+2,1,none⟩) J (v:=.int .u32 0) (by simp[go_sem]);have s:=fun o:Nat=>t.frozen (a:=⟨w.heap.size+2,o,none⟩) (by simp[go_sem]) J (by simp[go_sem]);have W:w.heap.size+1<N.heap.size:=(by omega);have X:w.heap.size+2<N.heap.size:=(by omega))
 all_goals refine an (v:=.tuple #[.agg #[.int .u8 lo.tag,.int .u32 lo.to],.agg #[.int .u8 hi.tag,.int .u32 hi.to],.int .u8 D]) (by simp[results,Tryz.results258,go_sem,W,X,Y,Z,ab,ad]) rfl ⟨rfl,_,N,kp,t,U,?_⟩
 all_goals(try simp only[ak,aA,World.a6])
 all_goals(repeat (first|with_reducible exact af.refl _ _|exact af.mono s (fun k _ E=>⟨E.1,by(try simp only[ak,aA,World.a6]);have:=E.2;omega⟩)|refine af.setCell ?_ (Or.inl (by dsimp only;omega)) _|refine af.setCell ?_ (Or.inr (by dsimp only;omega)) _|with_reducible refine af.drewN ?_ _|with_reducible refine af.drew ?_|with_reducible refine af.alloc ?_ _))
theorem uU {F:Nat→Prop}(R:World→World→Prop)(sb:Nat)(l D:Int)(v lo hi:Edge)(w:World)(ah:sb<w.heap.size)(Q:∀k,F k→k<w.heap.size)
  (O:∀s,ae w s→Calls Tryz.prog 268 #[.pointer (some ⟨sb,0,none⟩),.agg #[.int .u8 v.tag,.int .u32 v.to],.int .i64 l] s fun e u=>e=.returned (.tuple #[.agg #[.int .u8 lo.tag,.int .u32 lo.to],.agg #[.int .u8 hi.tag,.int .u32 hi.to],.int .u8 D])∧af F s u∧R s u) :
  Calls Tryz.prog 258 #[.pointer (some ⟨sb,0,none⟩),.int .u8 2,.agg #[.int .u8 v.tag,.int .u32 v.to],.int .i64 l] w fun e u=>e=.returned (.tuple #[.agg #[.int .u8 lo.tag,.int .u32 lo.to],.agg #[.int .u8 hi.tag,.int .u32 hi.to],.int .u8 D]) ∧
   ∃s z,ae w s∧af F s z∧R s z∧af (fun k=>w.heap.size≤k∧k<s.heap.size) z u:=by
 have T:=aa O
 have s:∀k,w.heap.size≤k→¬F k:=fun k E h=>by have:=Q k h;omega
 have I:=s (w.heap.size+1) (by omega)
 have J:=s (w.heap.size+2) (by omega)
 clear O Q s
 go_enter Tryz.func258,Tryz.ntmps258
 go_wp2_with (go_at_call 268;refine(T.out _ kp).mono ?_;rintro e N ⟨rfl,t,U⟩;have V:=t.size;(try simp only[ak,aA,World.a6]at V);have Y:=t.cell (a:=⟨w.heap.size+1,0,none⟩) I (v:=.int .u8 0) (by simp[go_sem]);have Z:=t.cell (a:=⟨w.heap.size+1,1,none⟩) I (v:=.int .u32 0) (by simp[go_sem]);have s:=fun o:Nat=>t.frozen (a:=⟨w.heap.size+1,o,none⟩) (by simp[go_sem]) I (by simp[go_sem]);have ab:=t.cell (a:=⟨w.heap.size+2,0,none⟩) J (v:=.int .u8 0) (by simp[go_sem]);have ad:=t.cell (a:=⟨w.heap.size+2,1,none⟩) J (v:=.int .u32 0) (by simp[go_sem]);have s:=fun o:Nat=>t.frozen (a:=⟨w.heap.size+2,o,none⟩) (by simp[go_sem]) J (by simp[go_sem]);have W:w.heap.size+1<N.heap.size:=(by omega);have X:w.heap.size+2<N.heap.size:=(by omega))
 all_goals refine an (v:=.tuple #[.agg #[.int .u8 lo.tag,.int .u32 lo.to],.agg #[.int .u8 hi.tag,.int .u32 hi.to],.int .u8 D]) (by simp[results,Tryz.results258,go_sem,W,X,Y,Z,ab,ad]) rfl ⟨rfl,_,N,kp,t,U,?_⟩
 all_goals(try simp only[ak,aA,World.a6])
 all_goals(repeat (first|with_reducible exact af.refl _ _|exact af.mono s (fun k _ E=>⟨E.1,by(try simp only[ak,aA,World.a6]);have:=E.2;omega⟩)|refine af.setCell ?_ (Or.inl (by dsimp only;omega)) _|refine af.setCell ?_ (Or.inr (by dsimp only;omega)) _|with_reducible refine af.drewN ?_ _|with_reducible refine af.drew ?_|with_reducible refine af.alloc ?_ _))
theorem uQ {F:Nat→Prop}(R:World→World→Prop)(sb:Nat)(l D:Int)(v lo hi:Edge)(w:World)(ah:sb<w.heap.size)(Q:∀k,F k→k<w.heap.size)
  (O:∀s,ae w s→Calls Tryz.prog 269 #[.pointer (some ⟨sb,0,none⟩),.agg #[.int .u8 v.tag,.int .u32 v.to],.int .i64 l] s fun e u=>e=.returned (.tuple #[.agg #[.int .u8 lo.tag,.int .u32 lo.to],.agg #[.int .u8 hi.tag,.int .u32 hi.to],.int .u8 D])∧af F s u∧R s u) :
  Calls Tryz.prog 258 #[.pointer (some ⟨sb,0,none⟩),.int .u8 3,.agg #[.int .u8 v.tag,.int .u32 v.to],.int .i64 l] w fun e u=>e=.returned (.tuple #[.agg #[.int .u8 lo.tag,.int .u32 lo.to],.agg #[.int .u8 hi.tag,.int .u32 hi.to],.int .u8 D]) ∧
   ∃s z,ae w s∧af F s z∧R s z∧af (fun k=>w.heap.size≤k∧k<s.heap.size) z u:=by
 have T:=aa O
 have s:∀k,w.heap.size≤k→¬F k:=fun k E h=>by have:=Q k h;omega
 have I:=s (w.heap.size+1) (by omega)
 have J:=s (w.heap.size+2) (by omega)
 clear O Q s
 go_enter Tryz.func258,Tryz.ntmps258
 go_wp2_with (go_at_call 269;refine(T.out _ kp).mono ?_;rintro e N ⟨rfl,t,U⟩;have V:=t.size;(try simp only[ak,aA,World.a6]at V);have Y:=t.cell (a:=⟨w.heap.size+1,0,none⟩) I (v:=.int .u8 0) (by simp[go_sem]);have Z:=t.cell (a:=⟨w.heap.size+1,1,none⟩) I (v:=.int .u32 0) (by simp[go_sem]);have s:=fun o:Nat=>t.frozen (a:=⟨w.heap.size+1,o,none⟩) (by simp[go_sem]) I (by simp[go_sem]);have ab:=t.cell (a:=⟨w.heap.size+2,0,none⟩) J (v:=.int .u8 0) (by simp[go_sem]);have ad:=t.cell (a:=⟨w.heap.size+2,1,none⟩) J (v:=.int .u32 0) (by simp[go_sem]);have s:=fun o:Nat=>t.frozen (a:=⟨w.heap.size+2,o,none⟩) (by simp[go_sem]) J (by simp[go_sem]);have W:w.heap.size+1<N.heap.size:=(by omega);have X:w.heap.size+2<N.heap.size:=(by omega))
 all_goals refine an (v:=.tuple #[.agg #[.int .u8 lo.tag,.int .u32 lo.to],.agg #[.int .u8 hi.tag,.int .u32 hi.to],.int .u8 D]) (by simp[results,Tryz.results258,go_sem,W,X,Y,Z,ab,ad]) rfl ⟨rfl,_,N,kp,t,U,?_⟩
 all_goals(try simp only[ak,aA,World.a6])
 all_goals(repeat (first|with_reducible exact af.refl _ _|exact af.mono s (fun k _ E=>⟨E.1,by(try simp only[ak,aA,World.a6]);have:=E.2;omega⟩)|refine af.setCell ?_ (Or.inl (by dsimp only;omega)) _|refine af.setCell ?_ (Or.inr (by dsimp only;omega)) _|with_reducible refine af.drewN ?_ _|with_reducible refine af.drew ?_|with_reducible refine af.alloc ?_ _))
theorem uS {F:Nat→Prop}(R:World→World→Prop)(sb:Nat)(l D:Int)(v lo hi:Edge)(w:World)(ah:sb<w.heap.size)(Q:∀k,F k→k<w.heap.size)
  (O:∀s,ae w s→Calls Tryz.prog 270 #[.pointer (some ⟨sb,0,none⟩),.agg #[.int .u8 v.tag,.int .u32 v.to],.int .i64 l] s fun e u=>e=.returned (.tuple #[.agg #[.int .u8 lo.tag,.int .u32 lo.to],.agg #[.int .u8 hi.tag,.int .u32 hi.to],.int .u8 D])∧af F s u∧R s u) :
  Calls Tryz.prog 258 #[.pointer (some ⟨sb,0,none⟩),.int .u8 4,.agg #[.int .u8 v.tag,.int .u32 v.to],.int .i64 l] w fun e u=>e=.returned (.tuple #[.agg #[.int .u8 lo.tag,.int .u32 lo.to],.agg #[.int .u8 hi.tag,.int .u32 hi.to],.int .u8 D]) ∧
   ∃s z,ae w s∧af F s z∧R s z∧af (fun k=>w.heap.size≤k∧k<s.heap.size) z u:=by
 have T:=aa O
 have s:∀k,w.heap.size≤k→¬F k:=fun k E h=>by have:=Q k h;omega
 have I:=s (w.heap.size+1) (by omega)
 have J:=s (w.heap.size+2) (by omega)
 clear O Q s
 go_enter Tryz.func258,Tryz.ntmps258
 go_wp2_with (go_at_call 270;refine(T.out _ kp).mono ?_;rintro e N ⟨rfl,t,U⟩;have V:=t.size;(try simp only[ak,aA,World.a6]at V);have Y:=t.cell (a:=⟨w.heap.size+1,0,none⟩) I (v:=.int .u8 0) (by simp[go_sem]);have Z:=t.cell (a:=⟨w.heap.size+1,1,none⟩) I (v:=.int .u32 0) (by simp[go_sem]);have s:=fun o:Nat=>t.frozen (a:=⟨w.heap.size+1,o,none⟩) (by simp[go_sem]) I (by simp[go_sem]);have ab:=t.cell (a:=⟨w.heap.size+2,0,none⟩) J (v:=.int .u8 0) (by simp[go_sem]);have ad:=t.cell (a:=⟨w.heap.size+2,1,none⟩) J (v:=.int .u32 0) (by simp[go_sem]);have s:=fun o:Nat=>t.frozen (a:=⟨w.heap.size+2,o,none⟩) (by simp[go_sem]) J (by simp[go_sem]);have W:w.heap.size+1<N.heap.size:=(by omega);have X:w.heap.size+2<N.heap.size:=(by omega))
 all_goals refine an (v:=.tuple #[.agg #[.int .u8 lo.tag,.int .u32 lo.to],.agg #[.int .u8 hi.tag,.int .u32 hi.to],.int .u8 D]) (by simp[results,Tryz.results258,go_sem,W,X,Y,Z,ab,ad]) rfl ⟨rfl,_,N,kp,t,U,?_⟩
 all_goals(try simp only[ak,aA,World.a6])
 all_goals(repeat (first|with_reducible exact af.refl _ _|exact af.mono s (fun k _ E=>⟨E.1,by(try simp only[ak,aA,World.a6]);have:=E.2;omega⟩)|refine af.setCell ?_ (Or.inl (by dsimp only;omega)) _|refine af.setCell ?_ (Or.inr (by dsimp only;omega)) _|with_reducible refine af.drewN ?_ _|with_reducible refine af.drew ?_|with_reducible refine af.alloc ?_ _))
theorem uT {F:Nat→Prop}(R:World→World→Prop)(sb:Nat)(l D:Int)(v lo hi:Edge)(w:World)(ah:sb<w.heap.size)(Q:∀k,F k→k<w.heap.size)
  (O:∀s,ae w s→Calls Tryz.prog 271 #[.pointer (some ⟨sb,0,none⟩),.agg #[.int .u8 v.tag,.int .u32 v.to],.int .i64 l] s fun e u=>e=.returned (.tuple #[.agg #[.int .u8 lo.tag,.int .u32 lo.to],.agg #[.int .u8 hi.tag,.int .u32 hi.to],.int .u8 D])∧af F s u∧R s u) :
  Calls Tryz.prog 258 #[.pointer (some ⟨sb,0,none⟩),.int .u8 5,.agg #[.int .u8 v.tag,.int .u32 v.to],.int .i64 l] w fun e u=>e=.returned (.tuple #[.agg #[.int .u8 lo.tag,.int .u32 lo.to],.agg #[.int .u8 hi.tag,.int .u32 hi.to],.int .u8 D]) ∧
   ∃s z,ae w s∧af F s z∧R s z∧af (fun k=>w.heap.size≤k∧k<s.heap.size) z u:=by
 have T:=aa O
 have s:∀k,w.heap.size≤k→¬F k:=fun k E h=>by have:=Q k h;omega
 have I:=s (w.heap.size+1) (by omega)
 have J:=s (w.heap.size+2) (by omega)
 clear O Q s
 go_enter Tryz.func258,Tryz.ntmps258
 go_wp2_with (go_at_call 271;refine(T.out _ kp).mono ?_;rintro e N ⟨rfl,t,U⟩;have V:=t.size;(try simp only[ak,aA,World.a6]at V);have Y:=t.cell (a:=⟨w.heap.size+1,0,none⟩) I (v:=.int .u8 0) (by simp[go_sem]);have Z:=t.cell (a:=⟨w.heap.size+1,1,none⟩) I (v:=.int .u32 0) (by simp[go_sem]);have s:=fun o:Nat=>t.frozen (a:=⟨w.heap.size+1,o,none⟩) (by simp[go_sem]) I (by simp[go_sem]);have ab:=t.cell (a:=⟨w.heap.size+2,0,none⟩) J (v:=.int .u8 0) (by simp[go_sem]);have ad:=t.cell (a:=⟨w.heap.size+2,1,none⟩) J (v:=.int .u32 0) (by simp[go_sem]);have s:=fun o:Nat=>t.frozen (a:=⟨w.heap.size+2,o,none⟩) (by simp[go_sem]) J (by simp[go_sem]);have W:w.heap.size+1<N.heap.size:=(by omega);have X:w.heap.size+2<N.heap.size:=(by omega))
 all_goals refine an (v:=.tuple #[.agg #[.int .u8 lo.tag,.int .u32 lo.to],.agg #[.int .u8 hi.tag,.int .u32 hi.to],.int .u8 D]) (by simp[results,Tryz.results258,go_sem,W,X,Y,Z,ab,ad]) rfl ⟨rfl,_,N,kp,t,U,?_⟩
 all_goals(try simp only[ak,aA,World.a6])
 all_goals(repeat (first|with_reducible exact af.refl _ _|exact af.mono s (fun k _ E=>⟨E.1,by(try simp only[ak,aA,World.a6]);have:=E.2;omega⟩)|refine af.setCell ?_ (Or.inl (by dsimp only;omega)) _|refine af.setCell ?_ (Or.inr (by dsimp only;omega)) _|with_reducible refine af.drewN ?_ _|with_reducible refine af.drew ?_|with_reducible refine af.alloc ?_ _))
theorem uR (sb:Nat)(f l:Int)(v:Edge)(w:World)(I:sb<w.heap.size)(s:f≠1)(t:f≠2)(u:f≠3)(z:f≠4)(D:f≠5) :
  Calls Tryz.prog 258 #[.pointer (some ⟨sb,0,none⟩),.int .u8 f,.agg #[.int .u8 v.tag,.int .u32 v.to],.int .i64 l] w fun e E=>e=.returned (.tuple #[.agg #[.int .u8 0,.int .u32 0],.agg #[.int .u8 0,.int .u32 0],.int .u8 4])∧ae w E:=by
 have g1:(f==1)=false:=by simp[s]
 have E:(f==2)=false:=by simp[t]
 have E:(f==3)=false:=by simp[u]
 have E:(f==4)=false:=by simp[z]
 have E:(f==5)=false:=by simp[D]
 clear s t u z D
 go_enter Tryz.func258,Tryz.ntmps258
 go_wp2
 (try go_region)
 all_goals(try go_wp2)
 all_goals refine an (v:=.tuple #[.agg #[.int .u8 0,.int .u32 0],.agg #[.int .u8 0,.int .u32 0],.int .u8 4]) (by simp[results,Tryz.results258,go_sem]) rfl ⟨rfl,kp⟩
theorem lA {F:Nat→Prop}{w:World}{sb:Nat}{M:St}(h:aq F w sb M)(f:Int)(e:Edge)(l:Int)(he:e.ok) :
  Calls Tryz.prog 258 #[.pointer (some ⟨sb,0,none⟩),.int .u8 f,.agg #[.int .u8 e.tag,.int .u32 e.to],.int .i64 l] w fun r N=>
   r=.returned (.tuple #[.agg #[.int .u8 (dh M (eO M f e l)).tag,.int .u32 (dh M (eO M f e l)).to],.agg #[.int .u8 (cF M f (eO M f e l)).tag,.int .u32 (cF M f (eO M f e l)).to],.int .u8 (fe M (eO M f e l))])∧af F w N∧aq (aH F w N) N sb (dI M (eO M f e l)):=by
 by_cases O:f=1
 ·subst O;have u:eO M 1 e l=ao M 1 e l:=rfl;rw[u];refine(uP (fun s t=>aq (aH F s t) t sb (dI M (ao M 1 e l))) sb l _ e _ _ w h.a8 h.lt (fun s z=>rA (h.U z) e l he)).mono ?_;rintro r N ⟨rfl,s,t,D,E,I,J⟩;exact⟨rfl,I.after h.lt D E J⟩
 by_cases Q:f=2
 ·subst Q;have u:eO M 2 e l=ao M 2 e l:=rfl;rw[u];refine(uU (fun s t=>aq (aH F s t) t sb (dI M (ao M 2 e l))) sb l _ e _ _ w h.a8 h.lt (fun s z=>AB (h.U z) e l he)).mono ?_;rintro r N ⟨rfl,s,t,D,E,I,J⟩;exact⟨rfl,I.after h.lt D E J⟩
 by_cases T:f=3
 ·subst T;have u:eO M 3 e l=ao M 3 e l:=rfl;rw[u];refine(uQ (fun s t=>aq (aH F s t) t sb (dI M (ao M 3 e l))) sb l _ e _ _ w h.a8 h.lt (fun s z=>sk (h.U z) e l he)).mono ?_;rintro r N ⟨rfl,s,t,D,E,I,J⟩;exact⟨rfl,I.after h.lt D E J⟩
 by_cases U:f=4
 ·subst U;have u:eO M 4 e l=ao M 4 e l:=rfl;rw[u];refine(uS (fun s t=>aq (aH F s t) t sb (dI M (ao M 4 e l))) sb l _ e _ _ w h.a8 h.lt (fun s z=>sV (h.U z) e l he)).mono ?_;rintro r N ⟨rfl,s,t,D,E,I,J⟩;exact⟨rfl,I.after h.lt D E J⟩
 by_cases V:f=5
 ·subst V;have u:eO M 5 e l=ao M 5 e l:=rfl;rw[u];refine(uT (fun s t=>aq (aH F s t) t sb (dI M (ao M 5 e l))) sb l _ e _ _ w h.a8 h.lt (fun s z=>zr (h.U z) e l he)).mono ?_;rintro r N ⟨rfl,s,t,D,E,I,J⟩;exact⟨rfl,I.after h.lt D E J⟩
 have u:eO M f e l=.inl (⟨0,0⟩,⟨0,0⟩,4):=by unfold eO;rw[ag O,ag Q,ag T,ag U,ag V]
 rw[u]
 exact(uR sb f l e w h.a8 O Q T U V).mono fun r N s=>⟨s.1,h.bc s.2⟩
end Go.Proofs.YtafkamlhimkbmaaGreat
