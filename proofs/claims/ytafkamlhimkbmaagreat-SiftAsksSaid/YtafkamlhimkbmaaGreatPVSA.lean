/-
  Make of form 1 over the state: the program's and the document's (printed by wip/mk_mstore.py).
-/
import Derived.Test.YtafkamlhimkbmaaGreatPMakeQ
import Derived.Test.YtafkamlhimkbmaaGreatPViewC
import Derived.Test.YtafkamlhimkbmaaGreatPViewT
namespace Go.Proofs.YtafkamlhimkbmaaGreat
set_option maxRecDepth 1000000
set_option maxHeartbeats 8000000
set_option linter.unusedSimpArgs false
set_option linter.unusedVariables false
open Go.RowKit
theorem vy {F:Nat→Prop}{w:World}{sb:Nat}{M:St}(h:ak F w sb M)(l:Int)(lo hi:Edge)(W:lo.ok)(U:hi.ok) :
  Calls Tryz.prog 121 #[.pointer (some ⟨sb,0,none⟩),.int .i64 l,.agg #[.int .u8 lo.tag,.int .u32 lo.to],.agg #[.int .u8 hi.tag,.int .u32 hi.to]] w fun r w'=>
   r=.returned (.tuple #[.agg #[.int .u8 (eD M (az M 1 l lo hi (cW M l lo hi))).tag,.int .u32 (eD M (az M 1 l lo hi (cW M l lo hi))).to],.int .u8 (cV M (az M 1 l lo hi (cW M l lo hi)))])∧af F w w'∧ak (aC F w w') w' sb (aX M (az M 1 l lo hi (cW M l lo hi))):=by
 have E:=h.wf.bw
 have I:=fun(q:World) (z:ae w q)=>dw (h.ad z)
 have A:=fun(q:World) (z:ae w q)=>dF (h.ad z) 1 lo (l+1) W
 have L:=fun(q:World) (z:ae w q)=>dF (h.ad z) 1 hi (l+1) U
 by_cases T:l<0∨M.n≤l
 ·have J:az M 1 l lo hi (cW M l lo hi)=.inl (⟨0,0⟩,3):=ah T;rw[J];by_cases X:l<0;·exact(vZ sb l M.n lo hi w E h.pos I X).mono fun r w' j=>⟨j.1,h.bf j.2⟩
  ·exact(vV sb l M.n lo hi w E h.pos I (by omega) (by omega)).mono fun r w' j=>⟨j.1,h.bf j.2⟩
 ·have B:0≤l:=by omega
  have N:l<M.n:=by omega
  by_cases s:M.leads 1 lo (l+1)=false∨M.leads 1 hi (l+1)=false
  ·have J:az M 1 l lo hi (cW M l lo hi)=.inl (⟨0,0⟩,1):=(by unfold az;rw[ag T,ah s]);rw[J];rcases cr (M.leads 1 lo (l+1))with t|t
   ·rw[t]at A;exact(vY sb l M.n lo hi w E h.pos I B N A).mono fun r w' j=>⟨j.1,h.bf j.2⟩
   ·have S:M.leads 1 hi (l+1)=false:=(by rcases s with s|s;rw[s]at t;cases t;exact s);rw[t]at A;rw[S]at L;exact(vX sb l M.n lo hi w E h.pos I B N A L).mono fun r w' j=>⟨j.1,h.bf j.2⟩
  ·have t:M.leads 1 lo (l+1)=true:=(by rcases cr (M.leads 1 lo (l+1))with b|b;exact(s (.inl b)).elim;exact b);have S:M.leads 1 hi (l+1)=true:=(by rcases cr (M.leads 1 hi (l+1))with b|b;exact(s (.inr b)).elim;exact b);have J:az M 1 l lo hi (cW M l lo hi)=cW M l lo hi:=(by unfold az;rw[ag T,ag s]);rw[J];rw[t]at A;rw[S]at L;by_cases s:lo=hi
   ·have t:cW M l lo hi=.inl (lo,0):=ah s;rw[t];exact(v9 sb l M.n lo hi w E h.pos I B N A L s).mono fun r w' j=>⟨j.1,h.bf j.2⟩
   have j:(⟨1,l,l,lo,hi⟩:Rec).ok:=kz (by decide) B (by omega) ⟨B,by omega⟩ W U;have t:cW M l lo hi=.inr ⟨1,l,l,lo,hi⟩:=ag s;rw[t];have t:=fun(q:World) (z:ae w q)=>vx (h.ad z) ⟨1,l,l,lo,hi⟩ j;refine(vW (fun q O=>ak (aC F q O) O sb (M.a7 ⟨1,l,l,lo,hi⟩)) sb l M.n lo hi _ _ _ w E h.pos I B N A L s h.lt t).mono ?_;rintro e w' ⟨rfl,q,O,Y,Z,ab,ad⟩;exact⟨rfl,ab.after h.lt Y Z ad⟩
theorem Ep {F:Nat→Prop}{w:World}{sb:Nat}{M:St}(h:ak F w sb M)(l:Int)(lo hi:Edge)(Y:lo.ok)(X:hi.ok) :
  Calls Tryz.prog 122 #[.pointer (some ⟨sb,0,none⟩),.int .i64 l,.agg #[.int .u8 lo.tag,.int .u32 lo.to],.agg #[.int .u8 hi.tag,.int .u32 hi.to]] w fun r w'=>
   r=.returned (.tuple #[.agg #[.int .u8 (eD M (az M 2 l lo hi (dc M l lo hi))).tag,.int .u32 (eD M (az M 2 l lo hi (dc M l lo hi))).to],.int .u8 (cV M (az M 2 l lo hi (dc M l lo hi)))])∧af F w w'∧ak (aC F w w') w' sb (aX M (az M 2 l lo hi (dc M l lo hi))):=by
 have E:=h.wf.bw
 have I:=fun(q:World) (z:ae w q)=>dw (h.ad z)
 have A:=fun(q:World) (z:ae w q)=>dF (h.ad z) 2 lo (l+1) Y
 have L:=fun(q:World) (z:ae w q)=>dF (h.ad z) 2 hi (l+1) X
 by_cases U:l<0∨M.n≤l
 ·have J:az M 2 l lo hi (dc M l lo hi)=.inl (⟨0,0⟩,3):=ah U;rw[J];by_cases Z:l<0;·exact(EA sb l M.n lo hi w E h.pos I Z).mono fun r w' j=>⟨j.1,h.bf j.2⟩
  ·exact(Ew sb l M.n lo hi w E h.pos I (by omega) (by omega)).mono fun r w' j=>⟨j.1,h.bf j.2⟩
 ·have B:0≤l:=by omega
  have O:l<M.n:=by omega
  by_cases s:M.leads 2 lo (l+1)=false∨M.leads 2 hi (l+1)=false
  ·have J:az M 2 l lo hi (dc M l lo hi)=.inl (⟨0,0⟩,1):=(by unfold az;rw[ag U,ah s]);rw[J];rcases cr (M.leads 2 lo (l+1))with t|t
   ·rw[t]at A;exact(Ez sb l M.n lo hi w E h.pos I B O A).mono fun r w' j=>⟨j.1,h.bf j.2⟩
   ·have T:M.leads 2 hi (l+1)=false:=(by rcases s with s|s;rw[s]at t;cases t;exact s);rw[t]at A;rw[T]at L;exact(Ey sb l M.n lo hi w E h.pos I B O A L).mono fun r w' j=>⟨j.1,h.bf j.2⟩
  ·have t:M.leads 2 lo (l+1)=true:=(by rcases cr (M.leads 2 lo (l+1))with b|b;exact(s (.inl b)).elim;exact b);have T:M.leads 2 hi (l+1)=true:=(by rcases cr (M.leads 2 hi (l+1))with b|b;exact(s (.inr b)).elim;exact b);have J:az M 2 l lo hi (dc M l lo hi)=dc M l lo hi:=(by unfold az;rw[ag U,ag s]);rw[J];rw[t]at A;rw[T]at L;by_cases N:hi.to=0
   ·have W:dc M l lo hi=.inl (lo,0):=ah N;rw[W];obtain⟨av,s⟩:=hi;dsimp only at N;subst N;exact(EB sb l M.n lo av w E h.pos I B O A L).mono fun r w' j=>⟨j.1,h.bf j.2⟩
   have j:(⟨2,l,l,lo,hi⟩:Rec).ok:=kz (by decide) B (by omega) ⟨B,by omega⟩ Y X;have W:dc M l lo hi=.inr ⟨2,l,l,lo,hi⟩:=ag N;rw[W];have s:=fun(q:World) (z:ae w q)=>Eo (h.ad z) ⟨2,l,l,lo,hi⟩ j;refine(Ex (fun q S=>ak (aC F q S) S sb (M.a7 ⟨2,l,l,lo,hi⟩)) sb l M.n lo hi _ _ _ w E h.pos I B O A L N h.lt s).mono ?_;rintro e w' ⟨rfl,q,S,ab,ad,al,am⟩;exact⟨rfl,al.after h.lt ab ad am⟩
theorem wI {F:Nat→Prop}{w:World}{sb:Nat}{M:St}(h:ak F w sb M)(l:Int)(lo hi:Edge)(a6:lo.ok)(a5:hi.ok) :
  Calls Tryz.prog 123 #[.pointer (some ⟨sb,0,none⟩),.int .i64 l,.agg #[.int .u8 lo.tag,.int .u32 lo.to],.agg #[.int .u8 hi.tag,.int .u32 hi.to]] w fun r w'=>
   r=.returned (.tuple #[.agg #[.int .u8 (eD M (az M 3 l lo hi (bk M l lo hi))).tag,.int .u32 (eD M (az M 3 l lo hi (bk M l lo hi))).to],.int .u8 (cV M (az M 3 l lo hi (bk M l lo hi)))])∧af F w w'∧ak (aC F w w') w' sb (aX M (az M 3 l lo hi (bk M l lo hi))):=by
 have J:=h.wf.bw
 have L:=fun(j:World) (t:ae w j)=>dw (h.ad t)
 have A:=fun(j:World) (t:ae w j)=>dF (h.ad t) 3 lo (l+1) a6
 have O:=fun(j:World) (t:ae w j)=>dF (h.ad t) 3 hi (l+1) a5
 by_cases a4:l<0∨M.n≤l
 ·have av:az M 3 l lo hi (bk M l lo hi)=.inl (⟨0,0⟩,3):=ah a4;rw[av];by_cases a8:l<0;·exact(wW sb l M.n lo hi w J h.pos L a8).mono fun r w' q=>⟨q.1,h.bf q.2⟩
  ·exact(wR sb l M.n lo hi w J h.pos L (by omega) (by omega)).mono fun r w' q=>⟨q.1,h.bf q.2⟩
 ·have z:0≤l:=by omega
  have T:l<M.n:=by omega
  by_cases E:M.leads 3 lo (l+1)=false∨M.leads 3 hi (l+1)=false
  ·have av:az M 3 l lo hi (bk M l lo hi)=.inl (⟨0,0⟩,1):=(by unfold az;rw[ag a4,ah E]);rw[av];rcases cr (M.leads 3 lo (l+1))with S|S
   ·rw[S]at A;exact(wV sb l M.n lo hi w J h.pos L z T A).mono fun r w' q=>⟨q.1,h.bf q.2⟩
   ·have a3:M.leads 3 hi (l+1)=false:=(by rcases E with E|E;rw[E]at S;cases S;exact E);rw[S]at A;rw[a3]at O;exact(wT sb l M.n lo hi w J h.pos L z T A O).mono fun r w' q=>⟨q.1,h.bf q.2⟩
  ·have S:M.leads 3 lo (l+1)=true:=(by rcases cr (M.leads 3 lo (l+1))with b|b;exact(E (.inl b)).elim;exact b);have a3:M.leads 3 hi (l+1)=true:=(by rcases cr (M.leads 3 hi (l+1))with b|b;exact(E (.inr b)).elim;exact b);have av:az M 3 l lo hi (bk M l lo hi)=bk M l lo hi:=(by unfold az;rw[ag a4,ag E]);rw[av];rw[S]at A;rw[a3]at O;by_cases B:lo=hi
   ·have I:bk M l lo hi=.inl (lo,0):=ah B;rw[I];exact(wY sb l M.n lo hi w J h.pos L z T A O B).mono fun r w' q=>⟨q.1,h.bf q.2⟩
   have q:(⟨3,l,l,lo,hi⟩:Rec).ok:=kz (by decide) z (by omega) ⟨z,by omega⟩ a6 a5;have al:=fun(j:World) (t:ae w j)=>gI (h.ad t) lo.to a6.2.2;cases W:look M.cs lo.to with
   |none=>
    rw[W]at al;have I:bk M l lo hi=.inr ⟨3,l,l,lo,hi⟩:=(by unfold bk;rw[ag B,W]);rw[I];have U:=fun(j:World) (t:ae w j)=>kW (h.ad t) ⟨3,l,l,lo,hi⟩ q;refine(wX (fun j s=>ak (aC F j s) s sb (M.a7 ⟨3,l,l,lo,hi⟩)) sb l M.n lo hi Rec.zero _ _ _ w J h.pos L z T A O B al h.lt U).mono ?_;rintro e w' ⟨rfl,j,s,X,Y,Z,ab⟩;exact⟨rfl,Z.after h.lt X Y ab⟩
   |some r=>
    have a1:=h.b0 W;rw[W]at al;by_cases N:r.I=l+1
    ·by_cases ad:r.hi=hi
     ·have I:bk M l lo hi=.inr ⟨3,l,r.J,r.lo,hi⟩:=(by unfold bk;rw[ag B,W];show(if r.I=l+1 then _ else _)=_;rw[ah N,ah ad]);rw[I];clear q;have q:(⟨3,l,r.J,r.lo,hi⟩:Rec).ok:=kz (by decide) z (by omega) a1.J a1.lo a5;obtain⟨a7,rt,aw,a0,am⟩:=r;dsimp only at N ad q ⊢;subst ad;subst N;have U:=fun(j:World) (t:ae w j)=>kW (h.ad t) ⟨3,l,aw,a0,am⟩ q;refine(wS (fun j s=>ak (aC F j s) s sb (M.a7 ⟨3,l,aw,a0,am⟩)) sb l M.n lo am ⟨a7,l+1,aw,a0,am⟩ _ _ _ w J h.pos L z T A O B al h.lt U).mono ?_;rintro e w' ⟨rfl,j,s,X,Y,Z,ab⟩;exact⟨rfl,Z.after h.lt X Y ab⟩
     ·have I:bk M l lo hi=.inr ⟨3,l,l,lo,hi⟩:=(by unfold bk;rw[ag B,W];show(if r.I=l+1 then _ else _)=_;rw[ah N,ag ad]);rw[I];obtain⟨a7,rt,aw,a0,am⟩:=r;dsimp only at N ad;subst N;have U:=fun(j:World) (t:ae w j)=>kW (h.ad t) ⟨3,l,l,lo,hi⟩ q;refine(wU (fun j s=>ak (aC F j s) s sb (M.a7 ⟨3,l,l,lo,hi⟩)) sb l M.n lo hi ⟨a7,l+1,aw,a0,am⟩ _ _ _ w J h.pos L z T A O B ad al h.lt U).mono ?_;rintro e w' ⟨rfl,j,s,X,Y,Z,ab⟩;exact⟨rfl,Z.after h.lt X Y ab⟩
    ·have I:bk M l lo hi=.inr ⟨3,l,l,lo,hi⟩:=(by unfold bk;rw[ag B,W];show(if r.I=l+1 then _ else _)=_;rw[ag N]);rw[I];have U:=fun(j:World) (t:ae w j)=>kW (h.ad t) ⟨3,l,l,lo,hi⟩ q;refine(wZ (fun j s=>ak (aC F j s) s sb (M.a7 ⟨3,l,l,lo,hi⟩)) sb l M.n lo hi r _ _ _ w J h.pos L z T A O B N a1.I.1 a1.I.2 al h.lt U).mono ?_;rintro e w' ⟨rfl,j,s,X,Y,Z,ab⟩;exact⟨rfl,Z.after h.lt X Y ab⟩
theorem xn {F:Nat→Prop}{w:World}{sb:Nat}{M:St}(h:ak F w sb M)(l:Int)(lo hi:Edge)(a1:lo.ok)(a6:hi.ok) :
  Calls Tryz.prog 124 #[.pointer (some ⟨sb,0,none⟩),.int .i64 l,.agg #[.int .u8 lo.tag,.int .u32 lo.to],.agg #[.int .u8 hi.tag,.int .u32 hi.to]] w fun r w'=>
   r=.returned (.tuple #[.agg #[.int .u8 (eD M (az M 4 l lo hi (bm M l lo hi))).tag,.int .u32 (eD M (az M 4 l lo hi (bm M l lo hi))).to],.int .u8 (cV M (az M 4 l lo hi (bm M l lo hi)))])∧af F w w'∧ak (aC F w w') w' sb (aX M (az M 4 l lo hi (bm M l lo hi))):=by
 have J:=h.wf.bw
 have L:=fun(j:World) (t:ae w j)=>dw (h.ad t)
 have B:=fun(j:World) (t:ae w j)=>dF (h.ad t) 4 lo (l+1) a1
 have N:=fun(j:World) (t:ae w j)=>dF (h.ad t) 4 hi (l+1) a6
 by_cases a0:l<0∨M.n≤l
 ·have av:az M 4 l lo hi (bm M l lo hi)=.inl (⟨0,0⟩,3):=ah a0;rw[av];by_cases a7:l<0;·exact(A0 sb l M.n lo hi w J h.pos L a7).mono fun r w' q=>⟨q.1,h.bf q.2⟩
  ·exact(AV sb l M.n lo hi w J h.pos L (by omega) (by omega)).mono fun r w' q=>⟨q.1,h.bf q.2⟩
 ·have A:0≤l:=by omega
  have T:l<M.n:=by omega
  by_cases E:M.leads 4 lo (l+1)=false∨M.leads 4 hi (l+1)=false
  ·have av:az M 4 l lo hi (bm M l lo hi)=.inl (⟨0,0⟩,1):=(by unfold az;rw[ag a0,ah E]);rw[av];rcases cr (M.leads 4 lo (l+1))with O|O
   ·rw[O]at B;exact(AY sb l M.n lo hi w J h.pos L A T B).mono fun r w' q=>⟨q.1,h.bf q.2⟩
   ·have aw:M.leads 4 hi (l+1)=false:=(by rcases E with E|E;rw[E]at O;cases O;exact E);rw[O]at B;rw[aw]at N;exact(AX sb l M.n lo hi w J h.pos L A T B N).mono fun r w' q=>⟨q.1,h.bf q.2⟩
  ·have O:M.leads 4 lo (l+1)=true:=(by rcases cr (M.leads 4 lo (l+1))with b|b;exact(E (.inl b)).elim;exact b);have aw:M.leads 4 hi (l+1)=true:=(by rcases cr (M.leads 4 hi (l+1))with b|b;exact(E (.inr b)).elim;exact b);have av:az M 4 l lo hi (bm M l lo hi)=bm M l lo hi:=(by unfold az;rw[ag a0,ag E]);rw[av];rw[O]at B;rw[aw]at N;by_cases z:hi.to=0
   ·have I:bm M l lo hi=.inl (lo,0):=ah z;rw[I];obtain⟨a',E⟩:=hi;dsimp only at z;subst z;exact(A3 sb l M.n lo a' w J h.pos L A T B N).mono fun r w' q=>⟨q.1,h.bf q.2⟩
   have q:(⟨4,l,l,lo,hi⟩:Rec).ok:=kz (by decide) A (by omega) ⟨A,by omega⟩ a1 a6;have al:=fun(j:World) (t:ae w j)=>gI (h.ad t) lo.to a1.2.2;cases W:look M.cs lo.to with
   |none=>
    rw[W]at al;have I:bm M l lo hi=.inr ⟨4,l,l,lo,hi⟩:=(by unfold bm;rw[ag z,W]);rw[I];have U:=fun(j:World) (t:ae w j)=>kX (h.ad t) ⟨4,l,l,lo,hi⟩ q;refine(A1 (fun j s=>ak (aC F j s) s sb (M.a7 ⟨4,l,l,lo,hi⟩)) sb l M.n lo hi Rec.zero _ _ _ w J h.pos L A T B N z al h.lt U).mono ?_;rintro e w' ⟨rfl,j,s,Y,Z,ab,ad⟩;exact⟨rfl,ab.after h.lt Y Z ad⟩
   |some r=>
    have X:=h.b0 W;rw[W]at al;by_cases S:lo=hi
    ·by_cases am:r.I=l+1
     ·have I:bm M l lo hi=.inr ⟨4,l,r.J,r.lo,r.hi⟩:=(by unfold bm;rw[ag z,W];show(if lo=hi then _ else _)=_;rw[ah S,ah am]);rw[I];clear q;have q:(⟨4,l,r.J,r.lo,r.hi⟩:Rec).ok:=kz (by decide) A (by omega) X.J X.lo X.hi;obtain⟨a8,rt,a3,a5,a4⟩:=r;dsimp only at am S q ⊢;subst S;subst am;have U:=fun(j:World) (t:ae w j)=>kX (h.ad t) ⟨4,l,a3,a5,a4⟩ q;refine(AW (fun j s=>ak (aC F j s) s sb (M.a7 ⟨4,l,a3,a5,a4⟩)) sb l M.n lo ⟨a8,l+1,a3,a5,a4⟩ _ _ _ w J h.pos L A T B N z al h.lt U).mono ?_;rintro e w' ⟨rfl,j,s,Y,Z,ab,ad⟩;exact⟨rfl,ab.after h.lt Y Z ad⟩
     ·have I:bm M l lo hi=.inr ⟨4,l,l,lo,hi⟩:=(by unfold bm;rw[ag z,W];show(if lo=hi then _ else _)=_;rw[ah S,ag am]);rw[I];subst S;have U:=fun(j:World) (t:ae w j)=>kX (h.ad t) ⟨4,l,l,lo,lo⟩ q;refine(A2 (fun j s=>ak (aC F j s) s sb (M.a7 ⟨4,l,l,lo,lo⟩)) sb l M.n lo r _ _ _ w J h.pos L A T B N z am X.I.1 X.I.2 al h.lt U).mono ?_;rintro e w' ⟨rfl,j,s,Y,Z,ab,ad⟩;exact⟨rfl,ab.after h.lt Y Z ad⟩
    ·have I:bm M l lo hi=.inr ⟨4,l,l,lo,hi⟩:=(by unfold bm;rw[ag z,W];show(if lo=hi then _ else _)=_;rw[ag S]);rw[I];have U:=fun(j:World) (t:ae w j)=>kX (h.ad t) ⟨4,l,l,lo,hi⟩ q;refine(AZ (fun j s=>ak (aC F j s) s sb (M.a7 ⟨4,l,l,lo,hi⟩)) sb l M.n lo hi r _ _ _ w J h.pos L A T B N z S X.I.1 X.I.2 al h.lt U).mono ?_;rintro e w' ⟨rfl,j,s,Y,Z,ab,ad⟩;exact⟨rfl,ab.after h.lt Y Z ad⟩
theorem wE (sb:Nat)(l n:Int)(v:Edge)(w:World)(z:n≤16)(A:sb<w.heap.size)
  (q:∀j,ae w j→Calls Tryz.prog 48 #[.pointer (some ⟨sb,0,none⟩)] j fun e w'=>e=.returned (.int .i64 n)∧j=w')
  (t:l<0)
  : Calls Tryz.prog 267 #[.pointer (some ⟨sb,0,none⟩),.agg #[.int .u8 v.tag,.int .u32 v.to],.int .i64 l] w fun e w'=>e=.returned (.tuple #[.agg #[.int .u8 0,.int .u32 0],.agg #[.int .u8 0,.int .u32 0],.int .u8 3])∧ae w w':=by
 have s:=aa q
 clear q
 go_enter Tryz.func267,Tryz.ntmps267
 go_wp2_with (first|(go_at_call 48;refine(s.out _ kp).mono ?_;rintro e w' ⟨rfl,rfl⟩)|fail)
 go_region
 all_goals go_wp2
 all_goals refine aq (v:=.tuple #[.agg #[.int .u8 0,.int .u32 0],.agg #[.int .u8 0,.int .u32 0],.int .u8 3]) (by simp[results,Tryz.results267,go_sem]) rfl ⟨rfl,kp⟩
theorem wD (sb:Nat)(l n:Int)(v:Edge)(w:World)(A:n≤16)(B:sb<w.heap.size)
  (q:∀j,ae w j→Calls Tryz.prog 48 #[.pointer (some ⟨sb,0,none⟩)] j fun e w'=>e=.returned (.int .i64 n)∧j=w')
  (t:0≤l) (z:n≤l)
  : Calls Tryz.prog 267 #[.pointer (some ⟨sb,0,none⟩),.agg #[.int .u8 v.tag,.int .u32 v.to],.int .i64 l] w fun e w'=>e=.returned (.tuple #[.agg #[.int .u8 0,.int .u32 0],.agg #[.int .u8 0,.int .u32 0],.int .u8 3])∧ae w w':=by
 have s:=aa q
 clear q
 go_enter Tryz.func267,Tryz.ntmps267
 go_wp2_with (first|(go_at_call 48;refine(s.out _ kp).mono ?_;rintro e w' ⟨rfl,rfl⟩)|fail)
 go_region
 all_goals go_wp2
 all_goals refine aq (v:=.tuple #[.agg #[.int .u8 0,.int .u32 0],.agg #[.int .u8 0,.int .u32 0],.int .u8 3]) (by simp[results,Tryz.results267,go_sem]) rfl ⟨rfl,kp⟩
theorem wF (sb:Nat)(l n:Int)(v:Edge)(w:World)(U:n≤16)(W:sb<w.heap.size)
  (t:∀q,ae w q→Calls Tryz.prog 48 #[.pointer (some ⟨sb,0,none⟩)] q fun e w'=>e=.returned (.int .i64 n)∧q=w')
  (S:0≤l) (T:l<n)
  (s:∀q,ae w q→Calls Tryz.prog 134 #[.pointer (some ⟨sb,0,none⟩),.int .u8 1,.agg #[.int .u8 v.tag,.int .u32 v.to],.int .i64 l] q fun e w'=>e=.returned (.bool false)∧ae q w')
  : Calls Tryz.prog 267 #[.pointer (some ⟨sb,0,none⟩),.agg #[.int .u8 v.tag,.int .u32 v.to],.int .i64 l] w fun e w'=>e=.returned (.tuple #[.agg #[.int .u8 0,.int .u32 0],.agg #[.int .u8 0,.int .u32 0],.int .u8 1])∧ae w w':=by
 have A:=aa t
 clear t
 have z:=aa s
 clear s
 go_enter Tryz.func267,Tryz.ntmps267
 go_wp2_with (first|(go_at_call 48;refine(A.out _ kp).mono ?_;rintro e w' ⟨rfl,rfl⟩)|fail)
 (go_at_call 134;refine(z.out _ kp).mono ?_;rintro e w1 ⟨rfl,j⟩;have B:=j.size;simp only[ai]at B;have q:w.heap.size<w1.heap.size:=(by omega);have E:w.heap.size+1<w1.heap.size:=(by omega);have I:w.heap.size+2<w1.heap.size:=(by omega);have q:=j.U (a:=⟨w.heap.size,0,none⟩) (v:=.int .u8 v.tag);have q:=j.U (a:=⟨w.heap.size,1,none⟩) (v:=.int .u32 v.to);have J:=j.U (a:=⟨w.heap.size+1,0,none⟩) (v:=.int .u8 0);have L:=j.U (a:=⟨w.heap.size+1,1,none⟩) (v:=.int .u32 0);have N:=j.U (a:=⟨w.heap.size+2,0,none⟩) (v:=.int .u8 0);have O:=j.U (a:=⟨w.heap.size+2,1,none⟩) (v:=.int .u32 0);have q:=fun o:Nat=>j.a3 (a:=⟨w.heap.size+1,o,none⟩) (by simp[go_sem]) (by simp[go_sem]);have q:=fun o:Nat=>j.a3 (a:=⟨w.heap.size+2,o,none⟩) (by simp[go_sem]) (by simp[go_sem]);have j:ae w w1:=kp)
 go_wp2_with fail
 go_region
 all_goals go_wp2
 all_goals refine aq (v:=.tuple #[.agg #[.int .u8 0,.int .u32 0],.agg #[.int .u8 0,.int .u32 0],.int .u8 1]) (by simp[results,Tryz.results267,go_sem,E,I,J,L,N,O]) rfl ⟨rfl,kp⟩
theorem wG (sb:Nat)(l n:Int)(v:Edge)(x:Rec)(w:World)(aw:n≤16)(a0:sb<w.heap.size)
  (L:∀j,ae w j→Calls Tryz.prog 48 #[.pointer (some ⟨sb,0,none⟩)] j fun e w'=>e=.returned (.int .i64 n)∧j=w')
  (am:0≤l) (av:l<n)
  (J:∀j,ae w j→Calls Tryz.prog 134 #[.pointer (some ⟨sb,0,none⟩),.int .u8 1,.agg #[.int .u8 v.tag,.int .u32 v.to],.int .i64 l] j fun e w'=>e=.returned (.bool true)∧ae j w')
  (I:∀j,ae w j→Calls Tryz.prog 78 #[.pointer (some ⟨sb,0,none⟩),.int .u32 v.to] j fun e w'=>e=.returned (.tuple #[.agg #[.int .u8 x.al,.int .u8 x.I,.int .u8 x.J,.int .u8 x.lo.tag,.int .u32 x.lo.to,.int .u8 x.hi.tag,.int .u32 x.hi.to],.bool false])∧ae j w')
  : Calls Tryz.prog 267 #[.pointer (some ⟨sb,0,none⟩),.agg #[.int .u8 v.tag,.int .u32 v.to],.int .i64 l] w fun e w'=>e=.returned (.tuple #[.agg #[.int .u8 v.tag,.int .u32 v.to],.agg #[.int .u8 v.tag,.int .u32 v.to],.int .u8 0])∧ae w w':=by
 have Z:=aa L
 clear L
 have Y:=aa J
 clear J
 have X:=aa I
 clear I
 go_enter Tryz.func267,Tryz.ntmps267
 go_wp2_with (first|(go_at_call 48;refine(Z.out _ kp).mono ?_;rintro e w' ⟨rfl,rfl⟩)|fail)
 (go_at_call 134;refine(Y.out _ kp).mono ?_;rintro e w1 ⟨rfl,s⟩;have ad:=s.size;simp only[ai]at ad;have al:w.heap.size<w1.heap.size:=(by omega);have N:w.heap.size+1<w1.heap.size:=(by omega);have O:w.heap.size+2<w1.heap.size:=(by omega);have T:=s.U (a:=⟨w.heap.size,0,none⟩) (v:=.int .u8 v.tag);have U:=s.U (a:=⟨w.heap.size,1,none⟩) (v:=.int .u32 v.to);have z:=s.U (a:=⟨w.heap.size+1,0,none⟩) (v:=.int .u8 0);have A:=s.U (a:=⟨w.heap.size+1,1,none⟩) (v:=.int .u32 0);have B:=s.U (a:=⟨w.heap.size+2,0,none⟩) (v:=.int .u8 0);have E:=s.U (a:=⟨w.heap.size+2,1,none⟩) (v:=.int .u32 0);have S:=fun o:Nat=>s.a3 (a:=⟨w.heap.size+1,o,none⟩) (by simp[go_sem]) (by simp[go_sem]);have W:=fun o:Nat=>s.a3 (a:=⟨w.heap.size+2,o,none⟩) (by simp[go_sem]) (by simp[go_sem]);have ab:ae w w1:=kp)
 go_wp2_with fail
 (go_at_call 78;refine(X.out _ kp).mono ?_;rintro e t ⟨rfl,q⟩;have j:=q.size;have S:=fun o:Nat=>q.a3 (a:=⟨w.heap.size+1,o,none⟩) (by dsimp only;omega) (S o);have W:=fun o:Nat=>q.a3 (a:=⟨w.heap.size+2,o,none⟩) (by dsimp only;omega) (W o);have T:=q.cell T;have U:=q.cell U;have z:=q.cell z;have A:=q.cell A;have B:=q.cell B;have E:=q.cell E;have al:w.heap.size<t.heap.size:=(by omega);have N:w.heap.size+1<t.heap.size:=(by omega);have O:w.heap.size+2<t.heap.size:=(by omega);have j:ae w t:=ab.trans q)
 go_wp2_with fail
 go_region
 all_goals go_wp2
 all_goals refine aq (v:=.tuple #[.agg #[.int .u8 v.tag,.int .u32 v.to],.agg #[.int .u8 v.tag,.int .u32 v.to],.int .u8 0]) (by simp[results,Tryz.results267,go_sem,N,O,z,A,B,E]) rfl ⟨rfl,kp⟩
theorem wH (sb:Nat)(l n:Int)(v:Edge)(x:Rec)(w:World)(aw:n≤16)(a0:sb<w.heap.size)
  (L:∀j,ae w j→Calls Tryz.prog 48 #[.pointer (some ⟨sb,0,none⟩)] j fun e w'=>e=.returned (.int .i64 n)∧j=w')
  (am:0≤l) (av:l<n)
  (J:∀j,ae w j→Calls Tryz.prog 134 #[.pointer (some ⟨sb,0,none⟩),.int .u8 1,.agg #[.int .u8 v.tag,.int .u32 v.to],.int .i64 l] j fun e w'=>e=.returned (.bool true)∧ae j w')
  (a1:l<x.I) (a3:0≤x.I) (a4:x.I≤255) (a5:0≤x.J) (a6:x.J≤255)
  (I:∀j,ae w j→Calls Tryz.prog 78 #[.pointer (some ⟨sb,0,none⟩),.int .u32 v.to] j fun e w'=>e=.returned (.tuple #[.agg #[.int .u8 x.al,.int .u8 x.I,.int .u8 x.J,.int .u8 x.lo.tag,.int .u32 x.lo.to,.int .u8 x.hi.tag,.int .u32 x.hi.to],.bool true])∧ae j w')
  : Calls Tryz.prog 267 #[.pointer (some ⟨sb,0,none⟩),.agg #[.int .u8 v.tag,.int .u32 v.to],.int .i64 l] w fun e w'=>e=.returned (.tuple #[.agg #[.int .u8 v.tag,.int .u32 v.to],.agg #[.int .u8 v.tag,.int .u32 v.to],.int .u8 0])∧ae w w':=by
 have Z:=aa L
 clear L
 have Y:=aa J
 clear J
 have X:=aa I
 clear I
 go_enter Tryz.func267,Tryz.ntmps267
 go_wp2_with (first|(go_at_call 48;refine(Z.out _ kp).mono ?_;rintro e w' ⟨rfl,rfl⟩)|fail)
 (go_at_call 134;refine(Y.out _ kp).mono ?_;rintro e w1 ⟨rfl,s⟩;have ad:=s.size;simp only[ai]at ad;have al:w.heap.size<w1.heap.size:=(by omega);have N:w.heap.size+1<w1.heap.size:=(by omega);have O:w.heap.size+2<w1.heap.size:=(by omega);have T:=s.U (a:=⟨w.heap.size,0,none⟩) (v:=.int .u8 v.tag);have U:=s.U (a:=⟨w.heap.size,1,none⟩) (v:=.int .u32 v.to);have z:=s.U (a:=⟨w.heap.size+1,0,none⟩) (v:=.int .u8 0);have A:=s.U (a:=⟨w.heap.size+1,1,none⟩) (v:=.int .u32 0);have B:=s.U (a:=⟨w.heap.size+2,0,none⟩) (v:=.int .u8 0);have E:=s.U (a:=⟨w.heap.size+2,1,none⟩) (v:=.int .u32 0);have S:=fun o:Nat=>s.a3 (a:=⟨w.heap.size+1,o,none⟩) (by simp[go_sem]) (by simp[go_sem]);have W:=fun o:Nat=>s.a3 (a:=⟨w.heap.size+2,o,none⟩) (by simp[go_sem]) (by simp[go_sem]);have ab:ae w w1:=kp)
 go_wp2_with fail
 (go_at_call 78;refine(X.out _ kp).mono ?_;rintro e t ⟨rfl,q⟩;have j:=q.size;have S:=fun o:Nat=>q.a3 (a:=⟨w.heap.size+1,o,none⟩) (by dsimp only;omega) (S o);have W:=fun o:Nat=>q.a3 (a:=⟨w.heap.size+2,o,none⟩) (by dsimp only;omega) (W o);have T:=q.cell T;have U:=q.cell U;have z:=q.cell z;have A:=q.cell A;have B:=q.cell B;have E:=q.cell E;have al:w.heap.size<t.heap.size:=(by omega);have N:w.heap.size+1<t.heap.size:=(by omega);have O:w.heap.size+2<t.heap.size:=(by omega);have j:ae w t:=ab.trans q)
 go_wp2_with fail
 go_region
 all_goals go_wp2
 all_goals refine aq (v:=.tuple #[.agg #[.int .u8 v.tag,.int .u32 v.to],.agg #[.int .u8 v.tag,.int .u32 v.to],.int .u8 0]) (by simp[results,Tryz.results267,go_sem,N,O,z,A,B,E]) rfl ⟨rfl,kp⟩
theorem wC (sb:Nat)(l n:Int)(v:Edge)(x:Rec)(w:World)(aw:n≤16)(a0:sb<w.heap.size)
  (L:∀j,ae w j→Calls Tryz.prog 48 #[.pointer (some ⟨sb,0,none⟩)] j fun e w'=>e=.returned (.int .i64 n)∧j=w')
  (am:0≤l) (av:l<n)
  (J:∀j,ae w j→Calls Tryz.prog 134 #[.pointer (some ⟨sb,0,none⟩),.int .u8 1,.agg #[.int .u8 v.tag,.int .u32 v.to],.int .i64 l] j fun e w'=>e=.returned (.bool true)∧ae j w')
   (a1:0≤x.I) (a3:x.I≤255) (a4:0≤x.J) (a5:x.J≤255)
  (I:∀j,ae w j→Calls Tryz.prog 78 #[.pointer (some ⟨sb,0,none⟩),.int .u32 v.to] j fun e w'=>e=.returned (.tuple #[.agg #[.int .u8 x.al,.int .u8 l,.int .u8 x.J,.int .u8 x.lo.tag,.int .u32 x.lo.to,.int .u8 x.hi.tag,.int .u32 x.hi.to],.bool true])∧ae j w')
  : Calls Tryz.prog 267 #[.pointer (some ⟨sb,0,none⟩),.agg #[.int .u8 v.tag,.int .u32 v.to],.int .i64 l] w fun e w'=>e=.returned (.tuple #[.agg #[.int .u8 x.lo.tag,.int .u32 x.lo.to],.agg #[.int .u8 x.hi.tag,.int .u32 x.hi.to],.int .u8 0])∧ae w w':=by
 have Z:=aa L
 clear L
 have Y:=aa J
 clear J
 have X:=aa I
 clear I
 go_enter Tryz.func267,Tryz.ntmps267
 go_wp2_with (first|(go_at_call 48;refine(Z.out _ kp).mono ?_;rintro e w' ⟨rfl,rfl⟩)|fail)
 (go_at_call 134;refine(Y.out _ kp).mono ?_;rintro e w1 ⟨rfl,s⟩;have ad:=s.size;simp only[ai]at ad;have al:w.heap.size<w1.heap.size:=(by omega);have N:w.heap.size+1<w1.heap.size:=(by omega);have O:w.heap.size+2<w1.heap.size:=(by omega);have T:=s.U (a:=⟨w.heap.size,0,none⟩) (v:=.int .u8 v.tag);have U:=s.U (a:=⟨w.heap.size,1,none⟩) (v:=.int .u32 v.to);have z:=s.U (a:=⟨w.heap.size+1,0,none⟩) (v:=.int .u8 0);have A:=s.U (a:=⟨w.heap.size+1,1,none⟩) (v:=.int .u32 0);have B:=s.U (a:=⟨w.heap.size+2,0,none⟩) (v:=.int .u8 0);have E:=s.U (a:=⟨w.heap.size+2,1,none⟩) (v:=.int .u32 0);have S:=fun o:Nat=>s.a3 (a:=⟨w.heap.size+1,o,none⟩) (by simp[go_sem]) (by simp[go_sem]);have W:=fun o:Nat=>s.a3 (a:=⟨w.heap.size+2,o,none⟩) (by simp[go_sem]) (by simp[go_sem]);have ab:ae w w1:=kp)
 go_wp2_with fail
 (go_at_call 78;refine(X.out _ kp).mono ?_;rintro e t ⟨rfl,q⟩;have j:=q.size;have S:=fun o:Nat=>q.a3 (a:=⟨w.heap.size+1,o,none⟩) (by dsimp only;omega) (S o);have W:=fun o:Nat=>q.a3 (a:=⟨w.heap.size+2,o,none⟩) (by dsimp only;omega) (W o);have T:=q.cell T;have U:=q.cell U;have z:=q.cell z;have A:=q.cell A;have B:=q.cell B;have E:=q.cell E;have al:w.heap.size<t.heap.size:=(by omega);have N:w.heap.size+1<t.heap.size:=(by omega);have O:w.heap.size+2<t.heap.size:=(by omega);have j:ae w t:=ab.trans q)
 go_wp2_with fail
 go_region
 all_goals go_wp2
 all_goals refine aq (v:=.tuple #[.agg #[.int .u8 x.lo.tag,.int .u32 x.lo.to],.agg #[.int .u8 x.hi.tag,.int .u32 x.hi.to],.int .u8 0]) (by simp[results,Tryz.results267,go_sem,N,O,z,A,B,E]) rfl ⟨rfl,kp⟩
theorem vA {F:Nat→Prop}{w:World}{sb:Nat}{M:St}(h:ak F w sb M)(e:Edge)(l:Int)(X:e.ok) :
  Calls Tryz.prog 267 #[.pointer (some ⟨sb,0,none⟩),.agg #[.int .u8 e.tag,.int .u32 e.to],.int .i64 l] w fun r w'=>
   r=.returned (.tuple #[.agg #[.int .u8 (cz M (aj M 1 e l)).tag,.int .u32 (cz M (aj M 1 e l)).to],.agg #[.int .u8 (bL M 1 (aj M 1 e l)).tag,.int .u32 (bL M 1 (aj M 1 e l)).to],.int .u8 (cK M (aj M 1 e l))])∧af F w w'∧ak (aC F w w') w' sb (cH M (aj M 1 e l)):=by
 have A:=h.wf.bw
 have B:=fun(E:World) (J:ae w E)=>dw (h.ad J)
 have L:=fun(E:World) (J:ae w E)=>gI (h.ad J) e.to X.2.2
 have z:=fun(E:World) (J:ae w E)=>dF (h.ad J) 1 e l X
 by_cases I:l<0∨M.n≤l
 ·have q:aj M 1 e l=.inl (⟨0,0⟩,⟨0,0⟩,3):=ah I;rw[q];by_cases E:l<0;·exact(wE sb l M.n e w A h.pos B E).mono fun r w' j=>⟨j.1,h.bf j.2⟩
  ·exact(wD sb l M.n e w A h.pos B (by omega) (by omega)).mono fun r w' j=>⟨j.1,h.bf j.2⟩
 ·have N:0≤l:=by omega
  have O:l<M.n:=by omega
  rcases cr (M.leads 1 e l)with b|b
  ·have q:aj M 1 e l=.inl (⟨0,0⟩,⟨0,0⟩,1):=(by unfold aj;rw[ag I,ah b]);rw[q];rw[b]at z;exact(wF sb l M.n e w A h.pos B N O z).mono fun r w' j=>⟨j.1,h.bf j.2⟩
  ·have T:¬M.leads 1 e l=false:=(by rw[b];simp);rw[b]at z;have U:¬((1:Int)=5∧(e.to=0∨l<e.tag)):=(by omega);have W:aN 1 l e=(e,e,0):=(by simp[aN]);cases t:look M.cs e.to with
   |none=>
    have q:aj M 1 e l=.inl (e,e,0):=(by unfold aj;rw[ag I,ag T,ag U,t];show Sum.inl (aN 1 l e)=_;rw[W]);rw[q];rw[t]at L;exact(wG sb l M.n e Rec.zero w A h.pos B N O z L).mono fun r w' j=>⟨j.1,h.bf j.2⟩
   |some r=>
    obtain⟨E,J,X⟩:=dY b t;have s:=h.b0 t;rw[t]at L;by_cases S:l<r.I
    ·have q:aj M 1 e l=.inl (e,e,0):=(by unfold aj;rw[ag I,ag T,ag U,t];show(if l<r.I then Sum.inl (aN 1 l e)else _)=_;rw[ah S,W]);rw[q];exact(wH sb l M.n e r w A h.pos B N O z S s.I.1 s.I.2 s.J.1 s.J.2 L).mono fun r w' j=>⟨j.1,h.bf j.2⟩
    ·have Y:r.I=l:=(by omega);have q:aj M 1 e l=.inl (r.lo,r.hi,0):=(by unfold aj;rw[ag I,ag T,ag U,t];show(if l<r.I then Sum.inl (aN 1 l e)else _)=_;rw[ag S,ag (by omega)]);rw[q];obtain⟨ab,rt,Z,al,ad⟩:=r;dsimp only at Y;subst Y;exact(wC sb rt M.n e ⟨ab,rt,Z,al,ad⟩ w A h.pos B N O z s.I.1 s.I.2 s.J.1 s.J.2 L).mono fun r w' j=>⟨j.1,h.bf j.2⟩
theorem EE (sb:Nat)(l n:Int)(v:Edge)(w:World)(z:n≤16)(A:sb<w.heap.size)
  (q:∀j,ae w j→Calls Tryz.prog 48 #[.pointer (some ⟨sb,0,none⟩)] j fun e w'=>e=.returned (.int .i64 n)∧j=w')
  (t:l<0)
  : Calls Tryz.prog 268 #[.pointer (some ⟨sb,0,none⟩),.agg #[.int .u8 v.tag,.int .u32 v.to],.int .i64 l] w fun e w'=>e=.returned (.tuple #[.agg #[.int .u8 0,.int .u32 0],.agg #[.int .u8 0,.int .u32 0],.int .u8 3])∧ae w w':=by
 have s:=aa q
 clear q
 go_enter Tryz.func268,Tryz.ntmps268
 go_wp2_with (first|(go_at_call 48;refine(s.out _ kp).mono ?_;rintro e w' ⟨rfl,rfl⟩)|fail)
 go_region
 all_goals go_wp2
 all_goals refine aq (v:=.tuple #[.agg #[.int .u8 0,.int .u32 0],.agg #[.int .u8 0,.int .u32 0],.int .u8 3]) (by simp[results,Tryz.results268,go_sem]) rfl ⟨rfl,kp⟩
theorem ED (sb:Nat)(l n:Int)(v:Edge)(w:World)(A:n≤16)(B:sb<w.heap.size)
  (q:∀j,ae w j→Calls Tryz.prog 48 #[.pointer (some ⟨sb,0,none⟩)] j fun e w'=>e=.returned (.int .i64 n)∧j=w')
  (t:0≤l) (z:n≤l)
  : Calls Tryz.prog 268 #[.pointer (some ⟨sb,0,none⟩),.agg #[.int .u8 v.tag,.int .u32 v.to],.int .i64 l] w fun e w'=>e=.returned (.tuple #[.agg #[.int .u8 0,.int .u32 0],.agg #[.int .u8 0,.int .u32 0],.int .u8 3])∧ae w w':=by
 have s:=aa q
 clear q
 go_enter Tryz.func268,Tryz.ntmps268
 go_wp2_with (first|(go_at_call 48;refine(s.out _ kp).mono ?_;rintro e w' ⟨rfl,rfl⟩)|fail)
 go_region
 all_goals go_wp2
 all_goals refine aq (v:=.tuple #[.agg #[.int .u8 0,.int .u32 0],.agg #[.int .u8 0,.int .u32 0],.int .u8 3]) (by simp[results,Tryz.results268,go_sem]) rfl ⟨rfl,kp⟩
theorem EF (sb:Nat)(l n:Int)(v:Edge)(w:World)(U:n≤16)(W:sb<w.heap.size)
  (t:∀q,ae w q→Calls Tryz.prog 48 #[.pointer (some ⟨sb,0,none⟩)] q fun e w'=>e=.returned (.int .i64 n)∧q=w')
  (S:0≤l) (T:l<n)
  (s:∀q,ae w q→Calls Tryz.prog 134 #[.pointer (some ⟨sb,0,none⟩),.int .u8 2,.agg #[.int .u8 v.tag,.int .u32 v.to],.int .i64 l] q fun e w'=>e=.returned (.bool false)∧ae q w')
  : Calls Tryz.prog 268 #[.pointer (some ⟨sb,0,none⟩),.agg #[.int .u8 v.tag,.int .u32 v.to],.int .i64 l] w fun e w'=>e=.returned (.tuple #[.agg #[.int .u8 0,.int .u32 0],.agg #[.int .u8 0,.int .u32 0],.int .u8 1])∧ae w w':=by
 have A:=aa t
 clear t
 have z:=aa s
 clear s
 go_enter Tryz.func268,Tryz.ntmps268
 go_wp2_with (first|(go_at_call 48;refine(A.out _ kp).mono ?_;rintro e w' ⟨rfl,rfl⟩)|fail)
 (go_at_call 134;refine(z.out _ kp).mono ?_;rintro e w1 ⟨rfl,j⟩;have B:=j.size;simp only[ai]at B;have q:w.heap.size<w1.heap.size:=(by omega);have E:w.heap.size+1<w1.heap.size:=(by omega);have I:w.heap.size+2<w1.heap.size:=(by omega);have q:=j.U (a:=⟨w.heap.size,0,none⟩) (v:=.int .u8 v.tag);have q:=j.U (a:=⟨w.heap.size,1,none⟩) (v:=.int .u32 v.to);have J:=j.U (a:=⟨w.heap.size+1,0,none⟩) (v:=.int .u8 0);have L:=j.U (a:=⟨w.heap.size+1,1,none⟩) (v:=.int .u32 0);have N:=j.U (a:=⟨w.heap.size+2,0,none⟩) (v:=.int .u8 0);have O:=j.U (a:=⟨w.heap.size+2,1,none⟩) (v:=.int .u32 0);have q:=fun o:Nat=>j.a3 (a:=⟨w.heap.size+1,o,none⟩) (by simp[go_sem]) (by simp[go_sem]);have q:=fun o:Nat=>j.a3 (a:=⟨w.heap.size+2,o,none⟩) (by simp[go_sem]) (by simp[go_sem]);have j:ae w w1:=kp)
 go_wp2_with fail
 go_region
 all_goals go_wp2
 all_goals refine aq (v:=.tuple #[.agg #[.int .u8 0,.int .u32 0],.agg #[.int .u8 0,.int .u32 0],.int .u8 1]) (by simp[results,Tryz.results268,go_sem,E,I,J,L,N,O]) rfl ⟨rfl,kp⟩
theorem EG (sb:Nat)(l n:Int)(v:Edge)(x:Rec)(w:World)(aw:n≤16)(a0:sb<w.heap.size)
  (L:∀j,ae w j→Calls Tryz.prog 48 #[.pointer (some ⟨sb,0,none⟩)] j fun e w'=>e=.returned (.int .i64 n)∧j=w')
  (am:0≤l) (av:l<n)
  (J:∀j,ae w j→Calls Tryz.prog 134 #[.pointer (some ⟨sb,0,none⟩),.int .u8 2,.agg #[.int .u8 v.tag,.int .u32 v.to],.int .i64 l] j fun e w'=>e=.returned (.bool true)∧ae j w')
  (I:∀j,ae w j→Calls Tryz.prog 78 #[.pointer (some ⟨sb,0,none⟩),.int .u32 v.to] j fun e w'=>e=.returned (.tuple #[.agg #[.int .u8 x.al,.int .u8 x.I,.int .u8 x.J,.int .u8 x.lo.tag,.int .u32 x.lo.to,.int .u8 x.hi.tag,.int .u32 x.hi.to],.bool false])∧ae j w')
  : Calls Tryz.prog 268 #[.pointer (some ⟨sb,0,none⟩),.agg #[.int .u8 v.tag,.int .u32 v.to],.int .i64 l] w fun e w'=>e=.returned (.tuple #[.agg #[.int .u8 v.tag,.int .u32 v.to],.agg #[.int .u8 0,.int .u32 0],.int .u8 0])∧ae w w':=by
 have Z:=aa L
 clear L
 have Y:=aa J
 clear J
 have X:=aa I
 clear I
 go_enter Tryz.func268,Tryz.ntmps268
 go_wp2_with (first|(go_at_call 48;refine(Z.out _ kp).mono ?_;rintro e w' ⟨rfl,rfl⟩)|fail)
 (go_at_call 134;refine(Y.out _ kp).mono ?_;rintro e w1 ⟨rfl,s⟩;have ad:=s.size;simp only[ai]at ad;have al:w.heap.size<w1.heap.size:=(by omega);have N:w.heap.size+1<w1.heap.size:=(by omega);have O:w.heap.size+2<w1.heap.size:=(by omega);have T:=s.U (a:=⟨w.heap.size,0,none⟩) (v:=.int .u8 v.tag);have U:=s.U (a:=⟨w.heap.size,1,none⟩) (v:=.int .u32 v.to);have z:=s.U (a:=⟨w.heap.size+1,0,none⟩) (v:=.int .u8 0);have A:=s.U (a:=⟨w.heap.size+1,1,none⟩) (v:=.int .u32 0);have B:=s.U (a:=⟨w.heap.size+2,0,none⟩) (v:=.int .u8 0);have E:=s.U (a:=⟨w.heap.size+2,1,none⟩) (v:=.int .u32 0);have S:=fun o:Nat=>s.a3 (a:=⟨w.heap.size+1,o,none⟩) (by simp[go_sem]) (by simp[go_sem]);have W:=fun o:Nat=>s.a3 (a:=⟨w.heap.size+2,o,none⟩) (by simp[go_sem]) (by simp[go_sem]);have ab:ae w w1:=kp)
 go_wp2_with fail
 (go_at_call 78;refine(X.out _ kp).mono ?_;rintro e t ⟨rfl,q⟩;have j:=q.size;have S:=fun o:Nat=>q.a3 (a:=⟨w.heap.size+1,o,none⟩) (by dsimp only;omega) (S o);have W:=fun o:Nat=>q.a3 (a:=⟨w.heap.size+2,o,none⟩) (by dsimp only;omega) (W o);have T:=q.cell T;have U:=q.cell U;have z:=q.cell z;have A:=q.cell A;have B:=q.cell B;have E:=q.cell E;have al:w.heap.size<t.heap.size:=(by omega);have N:w.heap.size+1<t.heap.size:=(by omega);have O:w.heap.size+2<t.heap.size:=(by omega);have j:ae w t:=ab.trans q)
 go_wp2_with fail
 all_goals refine aq (v:=.tuple #[.agg #[.int .u8 v.tag,.int .u32 v.to],.agg #[.int .u8 0,.int .u32 0],.int .u8 0]) (by simp[results,Tryz.results268,go_sem,N,O,z,A,B,E]) rfl ⟨rfl,kp⟩
theorem EH (sb:Nat)(l n:Int)(v:Edge)(x:Rec)(w:World)(aw:n≤16)(a0:sb<w.heap.size)
  (L:∀j,ae w j→Calls Tryz.prog 48 #[.pointer (some ⟨sb,0,none⟩)] j fun e w'=>e=.returned (.int .i64 n)∧j=w')
  (am:0≤l) (av:l<n)
  (J:∀j,ae w j→Calls Tryz.prog 134 #[.pointer (some ⟨sb,0,none⟩),.int .u8 2,.agg #[.int .u8 v.tag,.int .u32 v.to],.int .i64 l] j fun e w'=>e=.returned (.bool true)∧ae j w')
  (a1:l<x.I) (a3:0≤x.I) (a4:x.I≤255) (a5:0≤x.J) (a6:x.J≤255)
  (I:∀j,ae w j→Calls Tryz.prog 78 #[.pointer (some ⟨sb,0,none⟩),.int .u32 v.to] j fun e w'=>e=.returned (.tuple #[.agg #[.int .u8 x.al,.int .u8 x.I,.int .u8 x.J,.int .u8 x.lo.tag,.int .u32 x.lo.to,.int .u8 x.hi.tag,.int .u32 x.hi.to],.bool true])∧ae j w')
  : Calls Tryz.prog 268 #[.pointer (some ⟨sb,0,none⟩),.agg #[.int .u8 v.tag,.int .u32 v.to],.int .i64 l] w fun e w'=>e=.returned (.tuple #[.agg #[.int .u8 v.tag,.int .u32 v.to],.agg #[.int .u8 0,.int .u32 0],.int .u8 0])∧ae w w':=by
 have Z:=aa L
 clear L
 have Y:=aa J
 clear J
 have X:=aa I
 clear I
 go_enter Tryz.func268,Tryz.ntmps268
 go_wp2_with (first|(go_at_call 48;refine(Z.out _ kp).mono ?_;rintro e w' ⟨rfl,rfl⟩)|fail)
 (go_at_call 134;refine(Y.out _ kp).mono ?_;rintro e w1 ⟨rfl,s⟩;have ad:=s.size;simp only[ai]at ad;have al:w.heap.size<w1.heap.size:=(by omega);have N:w.heap.size+1<w1.heap.size:=(by omega);have O:w.heap.size+2<w1.heap.size:=(by omega);have T:=s.U (a:=⟨w.heap.size,0,none⟩) (v:=.int .u8 v.tag);have U:=s.U (a:=⟨w.heap.size,1,none⟩) (v:=.int .u32 v.to);have z:=s.U (a:=⟨w.heap.size+1,0,none⟩) (v:=.int .u8 0);have A:=s.U (a:=⟨w.heap.size+1,1,none⟩) (v:=.int .u32 0);have B:=s.U (a:=⟨w.heap.size+2,0,none⟩) (v:=.int .u8 0);have E:=s.U (a:=⟨w.heap.size+2,1,none⟩) (v:=.int .u32 0);have S:=fun o:Nat=>s.a3 (a:=⟨w.heap.size+1,o,none⟩) (by simp[go_sem]) (by simp[go_sem]);have W:=fun o:Nat=>s.a3 (a:=⟨w.heap.size+2,o,none⟩) (by simp[go_sem]) (by simp[go_sem]);have ab:ae w w1:=kp)
 go_wp2_with fail
 (go_at_call 78;refine(X.out _ kp).mono ?_;rintro e t ⟨rfl,q⟩;have j:=q.size;have S:=fun o:Nat=>q.a3 (a:=⟨w.heap.size+1,o,none⟩) (by dsimp only;omega) (S o);have W:=fun o:Nat=>q.a3 (a:=⟨w.heap.size+2,o,none⟩) (by dsimp only;omega) (W o);have T:=q.cell T;have U:=q.cell U;have z:=q.cell z;have A:=q.cell A;have B:=q.cell B;have E:=q.cell E;have al:w.heap.size<t.heap.size:=(by omega);have N:w.heap.size+1<t.heap.size:=(by omega);have O:w.heap.size+2<t.heap.size:=(by omega);have j:ae w t:=ab.trans q)
 go_wp2_with fail
 all_goals refine aq (v:=.tuple #[.agg #[.int .u8 v.tag,.int .u32 v.to],.agg #[.int .u8 0,.int .u32 0],.int .u8 0]) (by simp[results,Tryz.results268,go_sem,N,O,z,A,B,E]) rfl ⟨rfl,kp⟩
theorem EC (sb:Nat)(l n:Int)(v:Edge)(x:Rec)(w:World)(aw:n≤16)(a0:sb<w.heap.size)
  (L:∀j,ae w j→Calls Tryz.prog 48 #[.pointer (some ⟨sb,0,none⟩)] j fun e w'=>e=.returned (.int .i64 n)∧j=w')
  (am:0≤l) (av:l<n)
  (J:∀j,ae w j→Calls Tryz.prog 134 #[.pointer (some ⟨sb,0,none⟩),.int .u8 2,.agg #[.int .u8 v.tag,.int .u32 v.to],.int .i64 l] j fun e w'=>e=.returned (.bool true)∧ae j w')
   (a1:0≤x.I) (a3:x.I≤255) (a4:0≤x.J) (a5:x.J≤255)
  (I:∀j,ae w j→Calls Tryz.prog 78 #[.pointer (some ⟨sb,0,none⟩),.int .u32 v.to] j fun e w'=>e=.returned (.tuple #[.agg #[.int .u8 x.al,.int .u8 l,.int .u8 x.J,.int .u8 x.lo.tag,.int .u32 x.lo.to,.int .u8 x.hi.tag,.int .u32 x.hi.to],.bool true])∧ae j w')
  : Calls Tryz.prog 268 #[.pointer (some ⟨sb,0,none⟩),.agg #[.int .u8 v.tag,.int .u32 v.to],.int .i64 l] w fun e w'=>e=.returned (.tuple #[.agg #[.int .u8 x.lo.tag,.int .u32 x.lo.to],.agg #[.int .u8 x.hi.tag,.int .u32 x.hi.to],.int .u8 0])∧ae w w':=by
 have Z:=aa L
 clear L
 have Y:=aa J
 clear J
 have X:=aa I
 clear I
 go_enter Tryz.func268,Tryz.ntmps268
 go_wp2_with (first|(go_at_call 48;refine(Z.out _ kp).mono ?_;rintro e w' ⟨rfl,rfl⟩)|fail)
 (go_at_call 134;refine(Y.out _ kp).mono ?_;rintro e w1 ⟨rfl,s⟩;have ad:=s.size;simp only[ai]at ad;have al:w.heap.size<w1.heap.size:=(by omega);have N:w.heap.size+1<w1.heap.size:=(by omega);have O:w.heap.size+2<w1.heap.size:=(by omega);have T:=s.U (a:=⟨w.heap.size,0,none⟩) (v:=.int .u8 v.tag);have U:=s.U (a:=⟨w.heap.size,1,none⟩) (v:=.int .u32 v.to);have z:=s.U (a:=⟨w.heap.size+1,0,none⟩) (v:=.int .u8 0);have A:=s.U (a:=⟨w.heap.size+1,1,none⟩) (v:=.int .u32 0);have B:=s.U (a:=⟨w.heap.size+2,0,none⟩) (v:=.int .u8 0);have E:=s.U (a:=⟨w.heap.size+2,1,none⟩) (v:=.int .u32 0);have S:=fun o:Nat=>s.a3 (a:=⟨w.heap.size+1,o,none⟩) (by simp[go_sem]) (by simp[go_sem]);have W:=fun o:Nat=>s.a3 (a:=⟨w.heap.size+2,o,none⟩) (by simp[go_sem]) (by simp[go_sem]);have ab:ae w w1:=kp)
 go_wp2_with fail
 (go_at_call 78;refine(X.out _ kp).mono ?_;rintro e t ⟨rfl,q⟩;have j:=q.size;have S:=fun o:Nat=>q.a3 (a:=⟨w.heap.size+1,o,none⟩) (by dsimp only;omega) (S o);have W:=fun o:Nat=>q.a3 (a:=⟨w.heap.size+2,o,none⟩) (by dsimp only;omega) (W o);have T:=q.cell T;have U:=q.cell U;have z:=q.cell z;have A:=q.cell A;have B:=q.cell B;have E:=q.cell E;have al:w.heap.size<t.heap.size:=(by omega);have N:w.heap.size+1<t.heap.size:=(by omega);have O:w.heap.size+2<t.heap.size:=(by omega);have j:ae w t:=ab.trans q)
 go_wp2_with fail
 go_region
 all_goals go_wp2
 all_goals refine aq (v:=.tuple #[.agg #[.int .u8 x.lo.tag,.int .u32 x.lo.to],.agg #[.int .u8 x.hi.tag,.int .u32 x.hi.to],.int .u8 0]) (by simp[results,Tryz.results268,go_sem,N,O,z,A,B,E]) rfl ⟨rfl,kp⟩
theorem Es {F:Nat→Prop}{w:World}{sb:Nat}{M:St}(h:ak F w sb M)(e:Edge)(l:Int)(X:e.ok) :
  Calls Tryz.prog 268 #[.pointer (some ⟨sb,0,none⟩),.agg #[.int .u8 e.tag,.int .u32 e.to],.int .i64 l] w fun r w'=>
   r=.returned (.tuple #[.agg #[.int .u8 (cz M (aj M 2 e l)).tag,.int .u32 (cz M (aj M 2 e l)).to],.agg #[.int .u8 (bL M 2 (aj M 2 e l)).tag,.int .u32 (bL M 2 (aj M 2 e l)).to],.int .u8 (cK M (aj M 2 e l))])∧af F w w'∧ak (aC F w w') w' sb (cH M (aj M 2 e l)):=by
 have A:=h.wf.bw
 have B:=fun(E:World) (J:ae w E)=>dw (h.ad J)
 have L:=fun(E:World) (J:ae w E)=>gI (h.ad J) e.to X.2.2
 have z:=fun(E:World) (J:ae w E)=>dF (h.ad J) 2 e l X
 by_cases I:l<0∨M.n≤l
 ·have q:aj M 2 e l=.inl (⟨0,0⟩,⟨0,0⟩,3):=ah I;rw[q];by_cases E:l<0;·exact(EE sb l M.n e w A h.pos B E).mono fun r w' j=>⟨j.1,h.bf j.2⟩
  ·exact(ED sb l M.n e w A h.pos B (by omega) (by omega)).mono fun r w' j=>⟨j.1,h.bf j.2⟩
 ·have N:0≤l:=by omega
  have O:l<M.n:=by omega
  rcases cr (M.leads 2 e l)with b|b
  ·have q:aj M 2 e l=.inl (⟨0,0⟩,⟨0,0⟩,1):=(by unfold aj;rw[ag I,ah b]);rw[q];rw[b]at z;exact(EF sb l M.n e w A h.pos B N O z).mono fun r w' j=>⟨j.1,h.bf j.2⟩
  ·have T:¬M.leads 2 e l=false:=(by rw[b];simp);rw[b]at z;have U:¬((2:Int)=5∧(e.to=0∨l<e.tag)):=(by omega);have W:aN 2 l e=(e,⟨0,0⟩,0):=(by simp[aN]);cases t:look M.cs e.to with
   |none=>
    have q:aj M 2 e l=.inl (e,⟨0,0⟩,0):=(by unfold aj;rw[ag I,ag T,ag U,t];show Sum.inl (aN 2 l e)=_;rw[W]);rw[q];rw[t]at L;exact(EG sb l M.n e Rec.zero w A h.pos B N O z L).mono fun r w' j=>⟨j.1,h.bf j.2⟩
   |some r=>
    obtain⟨E,J,X⟩:=dY b t;have s:=h.b0 t;rw[t]at L;by_cases S:l<r.I
    ·have q:aj M 2 e l=.inl (e,⟨0,0⟩,0):=(by unfold aj;rw[ag I,ag T,ag U,t];show(if l<r.I then Sum.inl (aN 2 l e)else _)=_;rw[ah S,W]);rw[q];exact(EH sb l M.n e r w A h.pos B N O z S s.I.1 s.I.2 s.J.1 s.J.2 L).mono fun r w' j=>⟨j.1,h.bf j.2⟩
    ·have Y:r.I=l:=(by omega);have q:aj M 2 e l=.inl (r.lo,r.hi,0):=(by unfold aj;rw[ag I,ag T,ag U,t];show(if l<r.I then Sum.inl (aN 2 l e)else _)=_;rw[ag S,ag (by omega)]);rw[q];obtain⟨ab,rt,Z,al,ad⟩:=r;dsimp only at Y;subst Y;exact(EC sb rt M.n e ⟨ab,rt,Z,al,ad⟩ w A h.pos B N O z s.I.1 s.I.2 s.J.1 s.J.2 L).mono fun r w' j=>⟨j.1,h.bf j.2⟩
theorem wK {F:Nat→Prop}{w:World}{sb:Nat}{M:St}(h:ak F w sb M)(e:Edge)(l:Int)(a5:e.ok) :
  Calls Tryz.prog 269 #[.pointer (some ⟨sb,0,none⟩),.agg #[.int .u8 e.tag,.int .u32 e.to],.int .i64 l] w fun r w'=>
   r=.returned (.tuple #[.agg #[.int .u8 (cz M (aj M 3 e l)).tag,.int .u32 (cz M (aj M 3 e l)).to],.agg #[.int .u8 (bL M 3 (aj M 3 e l)).tag,.int .u32 (bL M 3 (aj M 3 e l)).to],.int .u8 (cK M (aj M 3 e l))])∧af F w w'∧ak (aC F w w') w' sb (cH M (aj M 3 e l)):=by
 have J:=h.wf.bw
 have L:=fun(z:World) (T:ae w z)=>dw (h.ad T)
 have U:=fun(z:World) (T:ae w z)=>gI (h.ad T) e.to a5.2.2
 have I:=fun(z:World) (T:ae w z)=>dF (h.ad T) 3 e l a5
 by_cases W:l<0∨M.n≤l
 ·have B:aj M 3 e l=.inl (⟨0,0⟩,⟨0,0⟩,3):=ah W;rw[B];by_cases a5:l<0;·exact(xj sb l M.n e w J h.pos L a5).mono fun r w' j=>⟨j.1,h.bf j.2⟩
  ·exact(xg sb l M.n e w J h.pos L (by omega) (by omega)).mono fun r w' j=>⟨j.1,h.bf j.2⟩
 ·have S:0≤l:=by omega
  have X:l<M.n:=by omega
  rcases cr (M.leads 3 e l)with b|b
  ·have B:aj M 3 e l=.inl (⟨0,0⟩,⟨0,0⟩,1):=(by unfold aj;rw[ag W,ah b]);rw[B];rw[b]at I;exact(xk sb l M.n e w J h.pos L S X I).mono fun r w' j=>⟨j.1,h.bf j.2⟩
  ·have ad:¬M.leads 3 e l=false:=(by rw[b];simp);rw[b]at I;have al:¬((3:Int)=5∧(e.to=0∨l<e.tag)):=(by omega);have a4:aN 3 l e=(e,e,0):=(by simp[aN]);cases E:look M.cs e.to with
   |none=>
    have B:aj M 3 e l=.inl (e,e,0):=(by unfold aj;rw[ag W,ag ad,ag al,E];show Sum.inl (aN 3 l e)=_;rw[a4]);rw[B];rw[E]at U;exact(xl sb l M.n e Rec.zero w J h.pos L S X I U).mono fun r w' j=>⟨j.1,h.bf j.2⟩
   |some r=>
    obtain⟨a6,a5,a'⟩:=dY b E;have q:=h.b0 E;rw[E]at U;by_cases Z:l<r.I
    ·have B:aj M 3 e l=.inl (e,e,0):=(by unfold aj;rw[ag W,ag ad,ag al,E];show(if l<r.I then Sum.inl (aN 3 l e)else _)=_;rw[ah Z,a4]);rw[B];exact(xm sb l M.n e r w J h.pos L S X I Z q.I.1 q.I.2 q.J.1 q.J.2 U).mono fun r w' j=>⟨j.1,h.bf j.2⟩
    ·have ab:r.I=l:=(by omega);by_cases O:r.J=r.I
     ·have B:aj M 3 e l=.inl (r.lo,r.hi,0):=(by unfold aj;rw[ag W,ag ad,ag al,E];show(if l<r.I then Sum.inl (aN 3 l e)else _)=_;rw[ag Z,ag (fun a4=>a4.2 O)]);rw[B];obtain⟨a7,rt,s,A,t⟩:=r;dsimp only at ab O;subst O;subst ab;exact(xe sb s M.n e ⟨a7,s,s,A,t⟩ w J h.pos L S X I q.I.1 q.I.2 q.J.1 q.J.2 U).mono fun r w' j=>⟨j.1,h.bf j.2⟩
     ·have B:aj M 3 e l=.inr ⟨r.al,r.I+1,r.J,r.lo,r.hi⟩:=(by unfold aj;rw[ag W,ag ad,ag al,E];show(if l<r.I then Sum.inl (aN 3 l e)else _)=_;rw[ag Z,ah ⟨.inl rfl,O⟩]);rw[B];have j:=qB (M:=M) (f:=3) q S (by omega) (by decide);obtain⟨a7,rt,s,A,t⟩:=r;dsimp only at a6 ab O j ⊢;subst a6;subst ab;have av:=fun(z:World) (T:ae w z)=>kW (h.ad T) ⟨3,rt+1,s,A,t⟩ j;by_cases Y:M.a' ⟨3,rt+1,s,A,t⟩=0
      ·have am:bL M 3 (.inr ⟨3,rt+1,s,A,t⟩)=t:=(by simp[bL,Y]);have j:cK M (.inr ⟨3,rt+1,s,A,t⟩)=0:=Y;rw[am,j];rw[Y]at av;refine(xh (fun z N=>ak (aC F z N) N sb (M.a7 ⟨3,rt+1,s,A,t⟩)) sb rt M.n e ⟨3,rt,s,A,t⟩ _ _ w J h.pos L S X I O q.I.1 q.I.2 q.J.1 q.J.2 U h.lt av).mono ?_;rintro r w' ⟨rfl,z,N,aw,a0,a1,a3⟩;exact⟨rfl,a1.after h.lt aw a0 a3⟩
      ·have a8:cz M (.inr ⟨3,rt+1,s,A,t⟩)=⟨0,0⟩:=j8 Y;have am:bL M 3 (.inr ⟨3,rt+1,s,A,t⟩)=⟨0,0⟩:=(by simp[bL,Y]);rw[a8,am];refine(xi (fun z N=>ak (aC F z N) N sb (M.a7 ⟨3,rt+1,s,A,t⟩)) sb rt M.n e ⟨3,rt,s,A,t⟩ _ _ (M.a' ⟨3,rt+1,s,A,t⟩) Y w J h.pos L S X I O q.I.1 q.I.2 q.J.1 q.J.2 U h.lt av).mono ?_;rintro r w' ⟨rfl,z,N,aw,a0,a1,a3⟩;exact⟨rfl,a1.after h.lt aw a0 a3⟩
theorem A9 (sb:Nat)(l n:Int)(v:Edge)(w:World)(z:n≤16)(A:sb<w.heap.size)
  (q:∀j,ae w j→Calls Tryz.prog 48 #[.pointer (some ⟨sb,0,none⟩)] j fun e w'=>e=.returned (.int .i64 n)∧j=w')
  (t:l<0)
  : Calls Tryz.prog 270 #[.pointer (some ⟨sb,0,none⟩),.agg #[.int .u8 v.tag,.int .u32 v.to],.int .i64 l] w fun e w'=>e=.returned (.tuple #[.agg #[.int .u8 0,.int .u32 0],.agg #[.int .u8 0,.int .u32 0],.int .u8 3])∧ae w w':=by
 have s:=aa q
 clear q
 go_enter Tryz.func270,Tryz.ntmps270
 go_wp2_with (first|(go_at_call 48;refine(s.out _ kp).mono ?_;rintro e w' ⟨rfl,rfl⟩)|fail)
 go_region
 all_goals go_wp2
 all_goals refine aq (v:=.tuple #[.agg #[.int .u8 0,.int .u32 0],.agg #[.int .u8 0,.int .u32 0],.int .u8 3]) (by simp[results,Tryz.results270,go_sem]) rfl ⟨rfl,kp⟩
theorem A6 (sb:Nat)(l n:Int)(v:Edge)(w:World)(A:n≤16)(B:sb<w.heap.size)
  (q:∀j,ae w j→Calls Tryz.prog 48 #[.pointer (some ⟨sb,0,none⟩)] j fun e w'=>e=.returned (.int .i64 n)∧j=w')
  (t:0≤l) (z:n≤l)
  : Calls Tryz.prog 270 #[.pointer (some ⟨sb,0,none⟩),.agg #[.int .u8 v.tag,.int .u32 v.to],.int .i64 l] w fun e w'=>e=.returned (.tuple #[.agg #[.int .u8 0,.int .u32 0],.agg #[.int .u8 0,.int .u32 0],.int .u8 3])∧ae w w':=by
 have s:=aa q
 clear q
 go_enter Tryz.func270,Tryz.ntmps270
 go_wp2_with (first|(go_at_call 48;refine(s.out _ kp).mono ?_;rintro e w' ⟨rfl,rfl⟩)|fail)
 go_region
 all_goals go_wp2
 all_goals refine aq (v:=.tuple #[.agg #[.int .u8 0,.int .u32 0],.agg #[.int .u8 0,.int .u32 0],.int .u8 3]) (by simp[results,Tryz.results270,go_sem]) rfl ⟨rfl,kp⟩
theorem Ba (sb:Nat)(l n:Int)(v:Edge)(w:World)(U:n≤16)(W:sb<w.heap.size)
  (t:∀q,ae w q→Calls Tryz.prog 48 #[.pointer (some ⟨sb,0,none⟩)] q fun e w'=>e=.returned (.int .i64 n)∧q=w')
  (S:0≤l) (T:l<n)
  (s:∀q,ae w q→Calls Tryz.prog 134 #[.pointer (some ⟨sb,0,none⟩),.int .u8 4,.agg #[.int .u8 v.tag,.int .u32 v.to],.int .i64 l] q fun e w'=>e=.returned (.bool false)∧ae q w')
  : Calls Tryz.prog 270 #[.pointer (some ⟨sb,0,none⟩),.agg #[.int .u8 v.tag,.int .u32 v.to],.int .i64 l] w fun e w'=>e=.returned (.tuple #[.agg #[.int .u8 0,.int .u32 0],.agg #[.int .u8 0,.int .u32 0],.int .u8 1])∧ae w w':=by
 have A:=aa t
 clear t
 have z:=aa s
 clear s
 go_enter Tryz.func270,Tryz.ntmps270
 go_wp2_with (first|(go_at_call 48;refine(A.out _ kp).mono ?_;rintro e w' ⟨rfl,rfl⟩)|fail)
 (go_at_call 134;refine(z.out _ kp).mono ?_;rintro e w1 ⟨rfl,j⟩;have B:=j.size;simp only[ai]at B;have q:w.heap.size<w1.heap.size:=(by omega);have E:w.heap.size+1<w1.heap.size:=(by omega);have I:w.heap.size+2<w1.heap.size:=(by omega);have q:=j.U (a:=⟨w.heap.size,0,none⟩) (v:=.int .u8 v.tag);have q:=j.U (a:=⟨w.heap.size,1,none⟩) (v:=.int .u32 v.to);have J:=j.U (a:=⟨w.heap.size+1,0,none⟩) (v:=.int .u8 0);have L:=j.U (a:=⟨w.heap.size+1,1,none⟩) (v:=.int .u32 0);have N:=j.U (a:=⟨w.heap.size+2,0,none⟩) (v:=.int .u8 0);have O:=j.U (a:=⟨w.heap.size+2,1,none⟩) (v:=.int .u32 0);have q:=fun o:Nat=>j.a3 (a:=⟨w.heap.size+1,o,none⟩) (by simp[go_sem]) (by simp[go_sem]);have q:=fun o:Nat=>j.a3 (a:=⟨w.heap.size+2,o,none⟩) (by simp[go_sem]) (by simp[go_sem]);have j:ae w w1:=kp)
 go_wp2_with fail
 go_region
 all_goals go_wp2
 all_goals refine aq (v:=.tuple #[.agg #[.int .u8 0,.int .u32 0],.agg #[.int .u8 0,.int .u32 0],.int .u8 1]) (by simp[results,Tryz.results270,go_sem,E,I,J,L,N,O]) rfl ⟨rfl,kp⟩
theorem Bb (sb:Nat)(l n:Int)(v:Edge)(x:Rec)(w:World)(aw:n≤16)(a0:sb<w.heap.size)
  (L:∀j,ae w j→Calls Tryz.prog 48 #[.pointer (some ⟨sb,0,none⟩)] j fun e w'=>e=.returned (.int .i64 n)∧j=w')
  (am:0≤l) (av:l<n)
  (J:∀j,ae w j→Calls Tryz.prog 134 #[.pointer (some ⟨sb,0,none⟩),.int .u8 4,.agg #[.int .u8 v.tag,.int .u32 v.to],.int .i64 l] j fun e w'=>e=.returned (.bool true)∧ae j w')
  (I:∀j,ae w j→Calls Tryz.prog 78 #[.pointer (some ⟨sb,0,none⟩),.int .u32 v.to] j fun e w'=>e=.returned (.tuple #[.agg #[.int .u8 x.al,.int .u8 x.I,.int .u8 x.J,.int .u8 x.lo.tag,.int .u32 x.lo.to,.int .u8 x.hi.tag,.int .u32 x.hi.to],.bool false])∧ae j w')
  : Calls Tryz.prog 270 #[.pointer (some ⟨sb,0,none⟩),.agg #[.int .u8 v.tag,.int .u32 v.to],.int .i64 l] w fun e w'=>e=.returned (.tuple #[.agg #[.int .u8 v.tag,.int .u32 v.to],.agg #[.int .u8 0,.int .u32 0],.int .u8 0])∧ae w w':=by
 have Z:=aa L
 clear L
 have Y:=aa J
 clear J
 have X:=aa I
 clear I
 go_enter Tryz.func270,Tryz.ntmps270
 go_wp2_with (first|(go_at_call 48;refine(Z.out _ kp).mono ?_;rintro e w' ⟨rfl,rfl⟩)|fail)
 (go_at_call 134;refine(Y.out _ kp).mono ?_;rintro e w1 ⟨rfl,s⟩;have ad:=s.size;simp only[ai]at ad;have al:w.heap.size<w1.heap.size:=(by omega);have N:w.heap.size+1<w1.heap.size:=(by omega);have O:w.heap.size+2<w1.heap.size:=(by omega);have T:=s.U (a:=⟨w.heap.size,0,none⟩) (v:=.int .u8 v.tag);have U:=s.U (a:=⟨w.heap.size,1,none⟩) (v:=.int .u32 v.to);have z:=s.U (a:=⟨w.heap.size+1,0,none⟩) (v:=.int .u8 0);have A:=s.U (a:=⟨w.heap.size+1,1,none⟩) (v:=.int .u32 0);have B:=s.U (a:=⟨w.heap.size+2,0,none⟩) (v:=.int .u8 0);have E:=s.U (a:=⟨w.heap.size+2,1,none⟩) (v:=.int .u32 0);have S:=fun o:Nat=>s.a3 (a:=⟨w.heap.size+1,o,none⟩) (by simp[go_sem]) (by simp[go_sem]);have W:=fun o:Nat=>s.a3 (a:=⟨w.heap.size+2,o,none⟩) (by simp[go_sem]) (by simp[go_sem]);have ab:ae w w1:=kp)
 go_wp2_with fail
 (go_at_call 78;refine(X.out _ kp).mono ?_;rintro e t ⟨rfl,q⟩;have j:=q.size;have S:=fun o:Nat=>q.a3 (a:=⟨w.heap.size+1,o,none⟩) (by dsimp only;omega) (S o);have W:=fun o:Nat=>q.a3 (a:=⟨w.heap.size+2,o,none⟩) (by dsimp only;omega) (W o);have T:=q.cell T;have U:=q.cell U;have z:=q.cell z;have A:=q.cell A;have B:=q.cell B;have E:=q.cell E;have al:w.heap.size<t.heap.size:=(by omega);have N:w.heap.size+1<t.heap.size:=(by omega);have O:w.heap.size+2<t.heap.size:=(by omega);have j:ae w t:=ab.trans q)
 go_wp2_with fail
 all_goals refine aq (v:=.tuple #[.agg #[.int .u8 v.tag,.int .u32 v.to],.agg #[.int .u8 0,.int .u32 0],.int .u8 0]) (by simp[results,Tryz.results270,go_sem,N,O,z,A,B,E]) rfl ⟨rfl,kp⟩
theorem Bc (sb:Nat)(l n:Int)(v:Edge)(x:Rec)(w:World)(aw:n≤16)(a0:sb<w.heap.size)
  (L:∀j,ae w j→Calls Tryz.prog 48 #[.pointer (some ⟨sb,0,none⟩)] j fun e w'=>e=.returned (.int .i64 n)∧j=w')
  (am:0≤l) (av:l<n)
  (J:∀j,ae w j→Calls Tryz.prog 134 #[.pointer (some ⟨sb,0,none⟩),.int .u8 4,.agg #[.int .u8 v.tag,.int .u32 v.to],.int .i64 l] j fun e w'=>e=.returned (.bool true)∧ae j w')
  (a1:l<x.I) (a3:0≤x.I) (a4:x.I≤255) (a5:0≤x.J) (a6:x.J≤255)
  (I:∀j,ae w j→Calls Tryz.prog 78 #[.pointer (some ⟨sb,0,none⟩),.int .u32 v.to] j fun e w'=>e=.returned (.tuple #[.agg #[.int .u8 x.al,.int .u8 x.I,.int .u8 x.J,.int .u8 x.lo.tag,.int .u32 x.lo.to,.int .u8 x.hi.tag,.int .u32 x.hi.to],.bool true])∧ae j w')
  : Calls Tryz.prog 270 #[.pointer (some ⟨sb,0,none⟩),.agg #[.int .u8 v.tag,.int .u32 v.to],.int .i64 l] w fun e w'=>e=.returned (.tuple #[.agg #[.int .u8 v.tag,.int .u32 v.to],.agg #[.int .u8 0,.int .u32 0],.int .u8 0])∧ae w w':=by
 have Z:=aa L
 clear L
 have Y:=aa J
 clear J
 have X:=aa I
 clear I
 go_enter Tryz.func270,Tryz.ntmps270
 go_wp2_with (first|(go_at_call 48;refine(Z.out _ kp).mono ?_;rintro e w' ⟨rfl,rfl⟩)|fail)
 (go_at_call 134;refine(Y.out _ kp).mono ?_;rintro e w1 ⟨rfl,s⟩;have ad:=s.size;simp only[ai]at ad;have al:w.heap.size<w1.heap.size:=(by omega);have N:w.heap.size+1<w1.heap.size:=(by omega);have O:w.heap.size+2<w1.heap.size:=(by omega);have T:=s.U (a:=⟨w.heap.size,0,none⟩) (v:=.int .u8 v.tag);have U:=s.U (a:=⟨w.heap.size,1,none⟩) (v:=.int .u32 v.to);have z:=s.U (a:=⟨w.heap.size+1,0,none⟩) (v:=.int .u8 0);have A:=s.U (a:=⟨w.heap.size+1,1,none⟩) (v:=.int .u32 0);have B:=s.U (a:=⟨w.heap.size+2,0,none⟩) (v:=.int .u8 0);have E:=s.U (a:=⟨w.heap.size+2,1,none⟩) (v:=.int .u32 0);have S:=fun o:Nat=>s.a3 (a:=⟨w.heap.size+1,o,none⟩) (by simp[go_sem]) (by simp[go_sem]);have W:=fun o:Nat=>s.a3 (a:=⟨w.heap.size+2,o,none⟩) (by simp[go_sem]) (by simp[go_sem]);have ab:ae w w1:=kp)
 go_wp2_with fail
 (go_at_call 78;refine(X.out _ kp).mono ?_;rintro e t ⟨rfl,q⟩;have j:=q.size;have S:=fun o:Nat=>q.a3 (a:=⟨w.heap.size+1,o,none⟩) (by dsimp only;omega) (S o);have W:=fun o:Nat=>q.a3 (a:=⟨w.heap.size+2,o,none⟩) (by dsimp only;omega) (W o);have T:=q.cell T;have U:=q.cell U;have z:=q.cell z;have A:=q.cell A;have B:=q.cell B;have E:=q.cell E;have al:w.heap.size<t.heap.size:=(by omega);have N:w.heap.size+1<t.heap.size:=(by omega);have O:w.heap.size+2<t.heap.size:=(by omega);have j:ae w t:=ab.trans q)
 go_wp2_with fail
 all_goals refine aq (v:=.tuple #[.agg #[.int .u8 v.tag,.int .u32 v.to],.agg #[.int .u8 0,.int .u32 0],.int .u8 0]) (by simp[results,Tryz.results270,go_sem,N,O,z,A,B,E]) rfl ⟨rfl,kp⟩
theorem A5 (sb:Nat)(l n:Int)(v:Edge)(x:Rec)(w:World)(aw:n≤16)(a0:sb<w.heap.size)
  (L:∀j,ae w j→Calls Tryz.prog 48 #[.pointer (some ⟨sb,0,none⟩)] j fun e w'=>e=.returned (.int .i64 n)∧j=w')
  (am:0≤l) (av:l<n)
  (J:∀j,ae w j→Calls Tryz.prog 134 #[.pointer (some ⟨sb,0,none⟩),.int .u8 4,.agg #[.int .u8 v.tag,.int .u32 v.to],.int .i64 l] j fun e w'=>e=.returned (.bool true)∧ae j w')
   (a1:0≤x.I) (a3:x.I≤255) (a4:0≤x.J) (a5:x.J≤255)
  (I:∀j,ae w j→Calls Tryz.prog 78 #[.pointer (some ⟨sb,0,none⟩),.int .u32 v.to] j fun e w'=>e=.returned (.tuple #[.agg #[.int .u8 x.al,.int .u8 l,.int .u8 l,.int .u8 x.lo.tag,.int .u32 x.lo.to,.int .u8 x.hi.tag,.int .u32 x.hi.to],.bool true])∧ae j w')
  : Calls Tryz.prog 270 #[.pointer (some ⟨sb,0,none⟩),.agg #[.int .u8 v.tag,.int .u32 v.to],.int .i64 l] w fun e w'=>e=.returned (.tuple #[.agg #[.int .u8 x.lo.tag,.int .u32 x.lo.to],.agg #[.int .u8 x.hi.tag,.int .u32 x.hi.to],.int .u8 0])∧ae w w':=by
 have Z:=aa L
 clear L
 have Y:=aa J
 clear J
 have X:=aa I
 clear I
 go_enter Tryz.func270,Tryz.ntmps270
 go_wp2_with (first|(go_at_call 48;refine(Z.out _ kp).mono ?_;rintro e w' ⟨rfl,rfl⟩)|fail)
 (go_at_call 134;refine(Y.out _ kp).mono ?_;rintro e w1 ⟨rfl,s⟩;have ad:=s.size;simp only[ai]at ad;have al:w.heap.size<w1.heap.size:=(by omega);have N:w.heap.size+1<w1.heap.size:=(by omega);have O:w.heap.size+2<w1.heap.size:=(by omega);have T:=s.U (a:=⟨w.heap.size,0,none⟩) (v:=.int .u8 v.tag);have U:=s.U (a:=⟨w.heap.size,1,none⟩) (v:=.int .u32 v.to);have z:=s.U (a:=⟨w.heap.size+1,0,none⟩) (v:=.int .u8 0);have A:=s.U (a:=⟨w.heap.size+1,1,none⟩) (v:=.int .u32 0);have B:=s.U (a:=⟨w.heap.size+2,0,none⟩) (v:=.int .u8 0);have E:=s.U (a:=⟨w.heap.size+2,1,none⟩) (v:=.int .u32 0);have S:=fun o:Nat=>s.a3 (a:=⟨w.heap.size+1,o,none⟩) (by simp[go_sem]) (by simp[go_sem]);have W:=fun o:Nat=>s.a3 (a:=⟨w.heap.size+2,o,none⟩) (by simp[go_sem]) (by simp[go_sem]);have ab:ae w w1:=kp)
 go_wp2_with fail
 (go_at_call 78;refine(X.out _ kp).mono ?_;rintro e t ⟨rfl,q⟩;have j:=q.size;have S:=fun o:Nat=>q.a3 (a:=⟨w.heap.size+1,o,none⟩) (by dsimp only;omega) (S o);have W:=fun o:Nat=>q.a3 (a:=⟨w.heap.size+2,o,none⟩) (by dsimp only;omega) (W o);have T:=q.cell T;have U:=q.cell U;have z:=q.cell z;have A:=q.cell A;have B:=q.cell B;have E:=q.cell E;have al:w.heap.size<t.heap.size:=(by omega);have N:w.heap.size+1<t.heap.size:=(by omega);have O:w.heap.size+2<t.heap.size:=(by omega);have j:ae w t:=ab.trans q)
 go_wp2_with fail
 go_region
 all_goals go_wp2
 all_goals refine aq (v:=.tuple #[.agg #[.int .u8 x.lo.tag,.int .u32 x.lo.to],.agg #[.int .u8 x.hi.tag,.int .u32 x.hi.to],.int .u8 0]) (by simp[results,Tryz.results270,go_sem,N,O,z,A,B,E]) rfl ⟨rfl,kp⟩
theorem A7 {F:Nat→Prop}(R:World→World→Prop)(sb:Nat)(l n:Int)(v:Edge)(x:Rec)(a b:Int)(w:World)(bs:n≤16)(bt:sb<w.heap.size)
  (av:∀j,ae w j→Calls Tryz.prog 48 #[.pointer (some ⟨sb,0,none⟩)] j fun e w'=>e=.returned (.int .i64 n)∧j=w')
  (bq:0≤l) (br:l<n)
  (al:∀j,ae w j→Calls Tryz.prog 134 #[.pointer (some ⟨sb,0,none⟩),.int .u8 4,.agg #[.int .u8 v.tag,.int .u32 v.to],.int .i64 l] j fun e w'=>e=.returned (.bool true)∧ae j w')
  (b0:¬x.J=l) (bv:0≤x.I) (bw:x.I≤255) (bx:0≤x.J) (bD:x.J≤255)
  (ad:∀j,ae w j→Calls Tryz.prog 78 #[.pointer (some ⟨sb,0,none⟩),.int .u32 v.to] j fun e w'=>e=.returned (.tuple #[.agg #[.int .u8 4,.int .u8 l,.int .u8 x.J,.int .u8 x.lo.tag,.int .u32 x.lo.to,.int .u8 x.hi.tag,.int .u32 x.hi.to],.bool true])∧ae j w')
  (am:∀k,F k→k<w.heap.size) (ab:∀j,ae w j→Calls Tryz.prog 189 #[.pointer (some ⟨sb,0,none⟩),.agg #[.int .u8 4,.int .u8 (l+1),.int .u8 x.J,.int .u8 x.lo.tag,.int .u32 x.lo.to,.int .u8 x.hi.tag,.int .u32 x.hi.to]] j fun e w'=>e=.returned (.tuple #[.agg #[.int .u8 a,.int .u32 b],.int .u8 0])∧af F j w'∧R j w')
  : Calls Tryz.prog 270 #[.pointer (some ⟨sb,0,none⟩),.agg #[.int .u8 v.tag,.int .u32 v.to],.int .i64 l] w fun e w'=>e=.returned (.tuple #[.agg #[.int .u8 a,.int .u32 b],.agg #[.int .u8 a,.int .u32 b],.int .u8 0]) ∧ 
   ∃j X,ae w j∧af F j X∧R j X∧af (fun k=>w.heap.size≤k∧k<j.heap.size) X w':=by
 have a5:=aa av
 clear av
 have a4:=aa al
 clear al
 have a1:=aa ab
 have j:∀k,w.heap.size≤k→¬F k:=fun k U h=>by have:=am k h;omega
 have Y:=j (w.heap.size+1) (by omega)
 have Z:=j (w.heap.size+2) (by omega)
 have X:=aa j
 clear ab am j
 have a3:=aa ad
 clear ad
 go_enter Tryz.func270,Tryz.ntmps270
 go_wp2_with (first|(go_at_call 48;refine(a5.out _ kp).mono ?_;rintro e w' ⟨rfl,rfl⟩)|fail)
 (go_at_call 134;refine(a4.out _ kp).mono ?_;rintro e w1 ⟨rfl,z⟩;have a':=z.size;simp only[ai]at a';have bf:w.heap.size<w1.heap.size:=(by omega);have B:w.heap.size+1<w1.heap.size:=(by omega);have E:w.heap.size+2<w1.heap.size:=(by omega);have aw:=z.U (a:=⟨w.heap.size,0,none⟩) (v:=.int .u8 v.tag);have a0:=z.U (a:=⟨w.heap.size,1,none⟩) (v:=.int .u32 v.to);have I:=z.U (a:=⟨w.heap.size+1,0,none⟩) (v:=.int .u8 0);have J:=z.U (a:=⟨w.heap.size+1,1,none⟩) (v:=.int .u32 0);have L:=z.U (a:=⟨w.heap.size+2,0,none⟩) (v:=.int .u8 0);have N:=z.U (a:=⟨w.heap.size+2,1,none⟩) (v:=.int .u32 0);have S:=fun o:Nat=>z.a3 (a:=⟨w.heap.size+1,o,none⟩) (by simp[go_sem]) (by simp[go_sem]);have T:=fun o:Nat=>z.a3 (a:=⟨w.heap.size+2,o,none⟩) (by simp[go_sem]) (by simp[go_sem]);have U:ae w w1:=kp)
 go_wp2_with fail
 (go_at_call 78;refine(a3.out _ kp).mono ?_;rintro e W ⟨rfl,s⟩;have j:=s.size;have S:=fun o:Nat=>s.a3 (a:=⟨w.heap.size+1,o,none⟩) (by dsimp only;omega) (S o);have T:=fun o:Nat=>s.a3 (a:=⟨w.heap.size+2,o,none⟩) (by dsimp only;omega) (T o);have aw:=s.cell aw;have a0:=s.cell a0;have I:=s.cell I;have J:=s.cell J;have L:=s.cell L;have N:=s.cell N;have bf:w.heap.size<W.heap.size:=(by omega);have B:w.heap.size+1<W.heap.size:=(by omega);have E:w.heap.size+2<W.heap.size:=(by omega);have j:ae w W:=U.trans s)
 go_wp2_with fail
 (go_at_call 189;refine(a1.out _ kp).mono ?_;rintro e O ⟨rfl,A,a6⟩;have a7:=A.size;(try simp only[ai,au,World.a5]at a7);have I:=A.cell (a:=⟨w.heap.size+1,0,none⟩) Y (v:=.int .u8 0) (by simp[go_sem,B,E,I,J]);have J:=A.cell (a:=⟨w.heap.size+1,1,none⟩) Y (v:=.int .u32 0) (by simp[go_sem,B,E,I,J]);have L:=A.cell (a:=⟨w.heap.size+2,0,none⟩) Z (v:=.int .u8 0) (by simp[go_sem,B,E,L,N]);have N:=A.cell (a:=⟨w.heap.size+2,1,none⟩) Z (v:=.int .u32 0) (by simp[go_sem,B,E,L,N]);have S:=fun o:Nat=>A.frozen (a:=⟨w.heap.size+1,o,none⟩) (by(try simp only[ai,au,World.a5]);omega) Y (by(try simp only[cq,frozen?_alloc_cells]);exact S o);have T:=fun o:Nat=>A.frozen (a:=⟨w.heap.size+2,o,none⟩) (by(try simp only[ai,au,World.a5]);omega) Z (by(try simp only[cq,frozen?_alloc_cells]);exact T o);have B:w.heap.size+1<O.heap.size:=(by omega);have E:w.heap.size+2<O.heap.size:=(by omega))
 go_wp2_with fail
 obtain⟨q,t⟩:∃q,q=((O.setCell ⟨w.heap.size+1,0,none⟩ (.int .u8 a)).setCell ⟨w.heap.size+1,1,none⟩ (.int .u32 b)):=⟨_,rfl⟩
 have bg:q.cell? ⟨w.heap.size+1,0,none⟩=some (.int .u8 a):=by rw[t];simp[go_sem,I,J,B]
 have bi:q.cell? ⟨w.heap.size+1,1,none⟩=some (.int .u32 b):=by rw[t];simp[go_sem,I,J,B]
 have bn:q.cell? ⟨w.heap.size+2,0,none⟩=some (.int .u8 0):=by rw[t];simp[go_sem,L,N,E]
 have bp:q.cell? ⟨w.heap.size+2,1,none⟩=some (.int .u32 0):=by rw[t];simp[go_sem,L,N,E]
 have j:∀o,q.frozen? ⟨w.heap.size+1,o,none⟩=false:=by intro o;rw[t];simp only[cq];exact S o
 have j:∀o,q.frozen? ⟨w.heap.size+2,o,none⟩=false:=by intro o;rw[t];simp only[cq];exact T o
 have a8:q.heap.size=O.heap.size:=by rw[t];simp only[au]
 have bb:af (fun k=>w.heap.size≤k∧k<w.heap.size+3) O q:=by rw[t];exact((af.refl _ _).setCell (Or.inl (by dsimp only;omega)) _).setCell (Or.inl (by dsimp only;omega)) _
 rw[←t]
 have bd:w.heap.size+1<q.heap.size:=by omega
 have be:w.heap.size+2<q.heap.size:=by omega
 clear t I J L N S T a8
 all_goals refine aq (v:=.tuple #[.agg #[.int .u8 a,.int .u32 b],.agg #[.int .u8 a,.int .u32 b],.int .u8 0]) (by simp[results,Tryz.results270,go_sem,bd,be,bg,bi,bn,bp]) rfl ⟨rfl,_,O,kp,A,a6,?_⟩
 all_goals(try simp only[ai,au,World.a5])
 all_goals(repeat (first|with_reducible exact af.refl _ _|exact af.mono bb (fun k _ U=>⟨U.1,by(try simp only[ai,au,World.a5]);have:=U.2;omega⟩)|refine af.setCell ?_ (Or.inl (by dsimp only;omega)) _|refine af.setCell ?_ (Or.inr (by dsimp only;omega)) _|with_reducible refine af.drewN ?_ _|with_reducible refine af.drew ?_|with_reducible refine af.alloc ?_ _))
theorem A8 {F:Nat→Prop}(R:World→World→Prop)(sb:Nat)(l n:Int)(v:Edge)(x:Rec)(a b W:Int)(bt:W≠0)(w:World)(bv:n≤16)(bw:sb<w.heap.size)
  (aw:∀j,ae w j→Calls Tryz.prog 48 #[.pointer (some ⟨sb,0,none⟩)] j fun e w'=>e=.returned (.int .i64 n)∧j=w')
  (br:0≤l) (bs:l<n)
  (am:∀j,ae w j→Calls Tryz.prog 134 #[.pointer (some ⟨sb,0,none⟩),.int .u8 4,.agg #[.int .u8 v.tag,.int .u32 v.to],.int .i64 l] j fun e w'=>e=.returned (.bool true)∧ae j w')
  (b2:¬x.J=l) (bx:0≤x.I) (bD:x.I≤255) (b0:0≤x.J) (b1:x.J≤255)
  (al:∀j,ae w j→Calls Tryz.prog 78 #[.pointer (some ⟨sb,0,none⟩),.int .u32 v.to] j fun e w'=>e=.returned (.tuple #[.agg #[.int .u8 4,.int .u8 l,.int .u8 x.J,.int .u8 x.lo.tag,.int .u32 x.lo.to,.int .u8 x.hi.tag,.int .u32 x.hi.to],.bool true])∧ae j w')
  (av:∀k,F k→k<w.heap.size) (ad:∀j,ae w j→Calls Tryz.prog 189 #[.pointer (some ⟨sb,0,none⟩),.agg #[.int .u8 4,.int .u8 (l+1),.int .u8 x.J,.int .u8 x.lo.tag,.int .u32 x.lo.to,.int .u8 x.hi.tag,.int .u32 x.hi.to]] j fun e w'=>e=.returned (.tuple #[.agg #[.int .u8 a,.int .u32 b],.int .u8 W])∧af F j w'∧R j w')
  : Calls Tryz.prog 270 #[.pointer (some ⟨sb,0,none⟩),.agg #[.int .u8 v.tag,.int .u32 v.to],.int .i64 l] w fun e w'=>e=.returned (.tuple #[.agg #[.int .u8 0,.int .u32 0],.agg #[.int .u8 0,.int .u32 0],.int .u8 W]) ∧ 
   ∃j Y,ae w j∧af F j Y∧R j Y∧af (fun k=>w.heap.size≤k∧k<j.heap.size) Y w':=by
 have a6:=aa aw
 clear aw
 have a5:=aa am
 clear am
 have a3:=aa ad
 have j:∀k,w.heap.size≤k→¬F k:=fun k U h=>by have:=av k h;omega
 have Z:=j (w.heap.size+1) (by omega)
 have ab:=j (w.heap.size+2) (by omega)
 have Y:=aa j
 clear ad av j
 have a4:=aa al
 clear al
 go_enter Tryz.func270,Tryz.ntmps270
 go_wp2_with (first|(go_at_call 48;refine(a6.out _ kp).mono ?_;rintro e w' ⟨rfl,rfl⟩)|fail)
 (go_at_call 134;refine(a5.out _ kp).mono ?_;rintro e w1 ⟨rfl,z⟩;have bb:=z.size;simp only[ai]at bb;have bg:w.heap.size<w1.heap.size:=(by omega);have B:w.heap.size+1<w1.heap.size:=(by omega);have E:w.heap.size+2<w1.heap.size:=(by omega);have a0:=z.U (a:=⟨w.heap.size,0,none⟩) (v:=.int .u8 v.tag);have a1:=z.U (a:=⟨w.heap.size,1,none⟩) (v:=.int .u32 v.to);have I:=z.U (a:=⟨w.heap.size+1,0,none⟩) (v:=.int .u8 0);have J:=z.U (a:=⟨w.heap.size+1,1,none⟩) (v:=.int .u32 0);have L:=z.U (a:=⟨w.heap.size+2,0,none⟩) (v:=.int .u8 0);have N:=z.U (a:=⟨w.heap.size+2,1,none⟩) (v:=.int .u32 0);have S:=fun o:Nat=>z.a3 (a:=⟨w.heap.size+1,o,none⟩) (by simp[go_sem]) (by simp[go_sem]);have T:=fun o:Nat=>z.a3 (a:=⟨w.heap.size+2,o,none⟩) (by simp[go_sem]) (by simp[go_sem]);have U:ae w w1:=kp)
 go_wp2_with fail
 (go_at_call 78;refine(a4.out _ kp).mono ?_;rintro e X ⟨rfl,s⟩;have j:=s.size;have S:=fun o:Nat=>s.a3 (a:=⟨w.heap.size+1,o,none⟩) (by dsimp only;omega) (S o);have T:=fun o:Nat=>s.a3 (a:=⟨w.heap.size+2,o,none⟩) (by dsimp only;omega) (T o);have a0:=s.cell a0;have a1:=s.cell a1;have I:=s.cell I;have J:=s.cell J;have L:=s.cell L;have N:=s.cell N;have bg:w.heap.size<X.heap.size:=(by omega);have B:w.heap.size+1<X.heap.size:=(by omega);have E:w.heap.size+2<X.heap.size:=(by omega);have j:ae w X:=U.trans s)
 go_wp2_with fail
 (go_at_call 189;refine(a3.out _ kp).mono ?_;rintro e O ⟨rfl,A,a7⟩;have a8:=A.size;(try simp only[ai,au,World.a5]at a8);have I:=A.cell (a:=⟨w.heap.size+1,0,none⟩) Z (v:=.int .u8 0) (by simp[go_sem,B,E,I,J]);have J:=A.cell (a:=⟨w.heap.size+1,1,none⟩) Z (v:=.int .u32 0) (by simp[go_sem,B,E,I,J]);have L:=A.cell (a:=⟨w.heap.size+2,0,none⟩) ab (v:=.int .u8 0) (by simp[go_sem,B,E,L,N]);have N:=A.cell (a:=⟨w.heap.size+2,1,none⟩) ab (v:=.int .u32 0) (by simp[go_sem,B,E,L,N]);have S:=fun o:Nat=>A.frozen (a:=⟨w.heap.size+1,o,none⟩) (by(try simp only[ai,au,World.a5]);omega) Z (by(try simp only[cq,frozen?_alloc_cells]);exact S o);have T:=fun o:Nat=>A.frozen (a:=⟨w.heap.size+2,o,none⟩) (by(try simp only[ai,au,World.a5]);omega) ab (by(try simp only[cq,frozen?_alloc_cells]);exact T o);have B:w.heap.size+1<O.heap.size:=(by omega);have E:w.heap.size+2<O.heap.size:=(by omega))
 go_wp2_with fail
 obtain⟨q,t⟩:∃q,q=((O.setCell ⟨w.heap.size+1,0,none⟩ (.int .u8 a)).setCell ⟨w.heap.size+1,1,none⟩ (.int .u32 b)):=⟨_,rfl⟩
 have bi:q.cell? ⟨w.heap.size+1,0,none⟩=some (.int .u8 a):=by rw[t];simp[go_sem,I,J,B]
 have bn:q.cell? ⟨w.heap.size+1,1,none⟩=some (.int .u32 b):=by rw[t];simp[go_sem,I,J,B]
 have bp:q.cell? ⟨w.heap.size+2,0,none⟩=some (.int .u8 0):=by rw[t];simp[go_sem,L,N,E]
 have bq:q.cell? ⟨w.heap.size+2,1,none⟩=some (.int .u32 0):=by rw[t];simp[go_sem,L,N,E]
 have j:∀o,q.frozen? ⟨w.heap.size+1,o,none⟩=false:=by intro o;rw[t];simp only[cq];exact S o
 have j:∀o,q.frozen? ⟨w.heap.size+2,o,none⟩=false:=by intro o;rw[t];simp only[cq];exact T o
 have a':q.heap.size=O.heap.size:=by rw[t];simp only[au]
 have bd:af (fun k=>w.heap.size≤k∧k<w.heap.size+3) O q:=by rw[t];exact((af.refl _ _).setCell (Or.inl (by dsimp only;omega)) _).setCell (Or.inl (by dsimp only;omega)) _
 rw[←t]
 have be:w.heap.size+1<q.heap.size:=by omega
 have bf:w.heap.size+2<q.heap.size:=by omega
 clear t I J L N S T a'
 all_goals refine aq (v:=.tuple #[.agg #[.int .u8 0,.int .u32 0],.agg #[.int .u8 0,.int .u32 0],.int .u8 W]) (by simp[results,Tryz.results270,go_sem,be,bf,bi,bn,bp,bq]) rfl ⟨rfl,_,O,kp,A,a7,?_⟩
 all_goals(try simp only[ai,au,World.a5])
 all_goals(repeat (first|with_reducible exact af.refl _ _|exact af.mono bd (fun k _ U=>⟨U.1,by(try simp only[ai,au,World.a5]);have:=U.2;omega⟩)|refine af.setCell ?_ (Or.inl (by dsimp only;omega)) _|refine af.setCell ?_ (Or.inr (by dsimp only;omega)) _|with_reducible refine af.drewN ?_ _|with_reducible refine af.drew ?_|with_reducible refine af.alloc ?_ _))
theorem xp {F:Nat→Prop}{w:World}{sb:Nat}{M:St}(h:ak F w sb M)(e:Edge)(l:Int)(a5:e.ok) :
  Calls Tryz.prog 270 #[.pointer (some ⟨sb,0,none⟩),.agg #[.int .u8 e.tag,.int .u32 e.to],.int .i64 l] w fun r w'=>
   r=.returned (.tuple #[.agg #[.int .u8 (cz M (aj M 4 e l)).tag,.int .u32 (cz M (aj M 4 e l)).to],.agg #[.int .u8 (bL M 4 (aj M 4 e l)).tag,.int .u32 (bL M 4 (aj M 4 e l)).to],.int .u8 (cK M (aj M 4 e l))])∧af F w w'∧ak (aC F w w') w' sb (cH M (aj M 4 e l)):=by
 have J:=h.wf.bw
 have L:=fun(A:World) (T:ae w A)=>dw (h.ad T)
 have U:=fun(A:World) (T:ae w A)=>gI (h.ad T) e.to a5.2.2
 have I:=fun(A:World) (T:ae w A)=>dF (h.ad T) 4 e l a5
 by_cases W:l<0∨M.n≤l
 ·have B:aj M 4 e l=.inl (⟨0,0⟩,⟨0,0⟩,3):=ah W;rw[B];by_cases a5:l<0;·exact(A9 sb l M.n e w J h.pos L a5).mono fun r w' j=>⟨j.1,h.bf j.2⟩
  ·exact(A6 sb l M.n e w J h.pos L (by omega) (by omega)).mono fun r w' j=>⟨j.1,h.bf j.2⟩
 ·have S:0≤l:=by omega
  have X:l<M.n:=by omega
  rcases cr (M.leads 4 e l)with b|b
  ·have B:aj M 4 e l=.inl (⟨0,0⟩,⟨0,0⟩,1):=(by unfold aj;rw[ag W,ah b]);rw[B];rw[b]at I;exact(Ba sb l M.n e w J h.pos L S X I).mono fun r w' j=>⟨j.1,h.bf j.2⟩
  ·have ad:¬M.leads 4 e l=false:=(by rw[b];simp);rw[b]at I;have al:¬((4:Int)=5∧(e.to=0∨l<e.tag)):=(by omega);have a4:aN 4 l e=(e,⟨0,0⟩,0):=(by simp[aN]);cases E:look M.cs e.to with
   |none=>
    have B:aj M 4 e l=.inl (e,⟨0,0⟩,0):=(by unfold aj;rw[ag W,ag ad,ag al,E];show Sum.inl (aN 4 l e)=_;rw[a4]);rw[B];rw[E]at U;exact(Bb sb l M.n e Rec.zero w J h.pos L S X I U).mono fun r w' j=>⟨j.1,h.bf j.2⟩
   |some r=>
    obtain⟨a6,a5,a'⟩:=dY b E;have q:=h.b0 E;rw[E]at U;by_cases Z:l<r.I
    ·have B:aj M 4 e l=.inl (e,⟨0,0⟩,0):=(by unfold aj;rw[ag W,ag ad,ag al,E];show(if l<r.I then Sum.inl (aN 4 l e)else _)=_;rw[ah Z,a4]);rw[B];exact(Bc sb l M.n e r w J h.pos L S X I Z q.I.1 q.I.2 q.J.1 q.J.2 U).mono fun r w' j=>⟨j.1,h.bf j.2⟩
    ·have ab:r.I=l:=(by omega);by_cases O:r.J=r.I
     ·have B:aj M 4 e l=.inl (r.lo,r.hi,0):=(by unfold aj;rw[ag W,ag ad,ag al,E];show(if l<r.I then Sum.inl (aN 4 l e)else _)=_;rw[ag Z,ag (fun a4=>a4.2 O)]);rw[B];obtain⟨a7,rt,s,z,t⟩:=r;dsimp only at ab O;subst O;subst ab;exact(A5 sb s M.n e ⟨a7,s,s,z,t⟩ w J h.pos L S X I q.I.1 q.I.2 q.J.1 q.J.2 U).mono fun r w' j=>⟨j.1,h.bf j.2⟩
     ·have B:aj M 4 e l=.inr ⟨r.al,r.I+1,r.J,r.lo,r.hi⟩:=(by unfold aj;rw[ag W,ag ad,ag al,E];show(if l<r.I then Sum.inl (aN 4 l e)else _)=_;rw[ag Z,ah ⟨.inr rfl,O⟩]);rw[B];have j:=qB (M:=M) (f:=4) q S (by omega) (by decide);obtain⟨a7,rt,s,z,t⟩:=r;dsimp only at a6 ab O j ⊢;subst a6;subst ab;have av:=fun(A:World) (T:ae w A)=>kX (h.ad T) ⟨4,rt+1,s,z,t⟩ j;by_cases Y:M.a' ⟨4,rt+1,s,z,t⟩=0
      ·have am:bL M 4 (.inr ⟨4,rt+1,s,z,t⟩)=bz M 0 ⟨4,rt+1,s,z,t⟩:=(by simp[bL,Y]);have j:cK M (.inr ⟨4,rt+1,s,z,t⟩)=0:=Y;rw[am,j];rw[Y]at av;refine(A7 (fun A N=>ak (aC F A N) N sb (M.a7 ⟨4,rt+1,s,z,t⟩)) sb rt M.n e ⟨4,rt,s,z,t⟩ _ _ w J h.pos L S X I O q.I.1 q.I.2 q.J.1 q.J.2 U h.lt av).mono ?_;rintro r w' ⟨rfl,A,N,aw,a0,a1,a3⟩;exact⟨rfl,a1.after h.lt aw a0 a3⟩
      ·have a8:cz M (.inr ⟨4,rt+1,s,z,t⟩)=⟨0,0⟩:=j8 Y;have am:bL M 4 (.inr ⟨4,rt+1,s,z,t⟩)=⟨0,0⟩:=(by simp[bL,Y]);rw[a8,am];refine(A8 (fun A N=>ak (aC F A N) N sb (M.a7 ⟨4,rt+1,s,z,t⟩)) sb rt M.n e ⟨4,rt,s,z,t⟩ _ _ (M.a' ⟨4,rt+1,s,z,t⟩) Y w J h.pos L S X I O q.I.1 q.I.2 q.J.1 q.J.2 U h.lt av).mono ?_;rintro r w' ⟨rfl,A,N,aw,a0,a1,a3⟩;exact⟨rfl,a1.after h.lt aw a0 a3⟩
theorem Dx {F:Nat→Prop}{w:World}{sb:Nat}{M:St}(h:ak F w sb M)(e:Edge)(l:Int)(s:e.ok) :
  Calls Tryz.prog 271 #[.pointer (some ⟨sb,0,none⟩),.agg #[.int .u8 e.tag,.int .u32 e.to],.int .i64 l] w fun r w'=>
   r=.returned (.tuple #[.agg #[.int .u8 (cz M (aj M 5 e l)).tag,.int .u32 (cz M (aj M 5 e l)).to],.agg #[.int .u8 (bL M 5 (aj M 5 e l)).tag,.int .u32 (bL M 5 (aj M 5 e l)).to],.int .u8 (cK M (aj M 5 e l))])∧af F w w'∧ak (aC F w w') w' sb (cH M (aj M 5 e l)):=by
 have z:=h.wf.bw
 have B:=fun(O:World) (S:ae w O)=>dw (h.ad S)
 have T:=fun(O:World) (S:ae w O)=>gI (h.ad S) e.to s.2.2
 have t:=fun(O:World) (S:ae w O)=>dF (h.ad S) 5 e l s
 by_cases E:l<0∨M.n≤l
 ·have q:aj M 5 e l=.inl (⟨0,0⟩,⟨0,0⟩,3):=ah E;rw[q];by_cases O:l<0;·exact(DM sb l M.n e w z h.pos B O).mono fun r w' j=>⟨j.1,h.bf j.2⟩
  ·exact(DL sb l M.n e w z h.pos B (by omega) (by omega)).mono fun r w' j=>⟨j.1,h.bf j.2⟩
 ·have L:0≤l:=by omega
  have N:l<M.n:=by omega
  rcases cr (M.leads 5 e l)with b|b
  ·have q:aj M 5 e l=.inl (⟨0,0⟩,⟨0,0⟩,1):=(by unfold aj;rw[ag E,ah b]);rw[q];rw[b]at t;exact(DN sb l M.n e w z h.pos B L N t).mono fun r w' j=>⟨j.1,h.bf j.2⟩
  ·have U:¬M.leads 5 e l=false:=(by rw[b];simp);rw[b]at t;by_cases J:e.to=0
   ·have q:aj M 5 e l=.inl (e,e,0):=(by unfold aj;rw[ag E,ag U,ah ⟨rfl,.inl J⟩]);rw[q];obtain⟨al,O⟩:=e;dsimp only at J;subst J;exact(DR sb l M.n al w z h.pos B L N t).mono fun r w' j=>⟨j.1,h.bf j.2⟩
   by_cases ad:l<e.tag
   ·have q:aj M 5 e l=.inl (e,e,0):=(by unfold aj;rw[ag E,ag U,ah ⟨rfl,.inr ad⟩]);rw[q];exact(DP sb l M.n e w z h.pos B L N t s.1.1 s.1.2 J ad).mono fun r w' j=>⟨j.1,h.bf j.2⟩
   have X:¬((5:Int)=5∧(e.to=0∨l<e.tag)):=(by omega);have Y:e.tag≤l:=(by omega);have Z:aN 5 l e=(⟨l+1,e.to⟩,⟨0,0⟩,0):=(by simp[aN]);cases I:look M.cs e.to with
   |none=>
    have q:aj M 5 e l=.inl (⟨l+1,e.to⟩,⟨0,0⟩,0):=(by unfold aj;rw[ag E,ag U,ag X,I];show Sum.inl (aN 5 l e)=_;rw[Z]);rw[q];rw[I]at T;exact(DO sb l M.n e Rec.zero w z h.pos B L N t s.1.1 s.1.2 J Y T).mono fun r w' j=>⟨j.1,h.bf j.2⟩
   |some r=>
    obtain⟨O,S,ad⟩:=dY b I;have A:=h.b0 I;rw[I]at T;by_cases W:l<r.I
    ·have q:aj M 5 e l=.inl (⟨l+1,e.to⟩,⟨0,0⟩,0):=(by unfold aj;rw[ag E,ag U,ag X,I];show(if l<r.I then Sum.inl (aN 5 l e)else _)=_;rw[ah W,Z]);rw[q];exact(DQ sb l M.n e r w z h.pos B L N t s.1.1 s.1.2 J Y W A.I.1 A.I.2 A.J.1 A.J.2 T).mono fun r w' j=>⟨j.1,h.bf j.2⟩
    ·have ab:r.I=l:=(by omega);have q:aj M 5 e l=.inl (r.lo,r.hi,0):=(by unfold aj;rw[ag E,ag U,ag X,I];show(if l<r.I then Sum.inl (aN 5 l e)else _)=_;rw[ag W,ag (by omega)]);rw[q];obtain⟨av,rt,am,a0,aw⟩:=r;dsimp only at ab;subst ab;exact(DK sb rt M.n e ⟨av,rt,am,a0,aw⟩ w z h.pos B L N t s.1.1 s.1.2 J Y A.I.1 A.I.2 A.J.1 A.J.2 T).mono fun r w' j=>⟨j.1,h.bf j.2⟩
end Go.Proofs.YtafkamlhimkbmaaGreat
