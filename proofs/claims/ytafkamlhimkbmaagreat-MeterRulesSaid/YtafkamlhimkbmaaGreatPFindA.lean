/-
  Walks of package node: IsForm, may, Chained, Plain, Right, mix, Hash.
-/
import Derived.Test.YtafkamlhimkbmaaGreatPForeA
import Derived.Test.YtafkamlhimkbmaaGreatChecked
import Derived.KernelRfl
import Derived.WalkLawsBesides
import Derived.WalkSpells
import Derived.Deep.RegionHeld3
import Derived.Deep.QuietTactic
import Derived.StillTailTactics
import Derived.Deep.DeepCutAuto
namespace Go.Proofs.YtafkamlhimkbmaaGreat
set_option maxRecDepth 1000000
set_option maxHeartbeats 8000000
set_option linter.unusedSimpArgs false
set_option linter.unusedVariables false
open Go.RowKit
theorem iJ (f:Int)(w:World) :
  Calls Tryz.prog 100 #[.int .u8 f] w fun e u=>e=.returned (.bool (bZ f))∧w=u:=by
 by_cases s:1≤f<;>by_cases t:f≤5
 all_goals
  go_enter Tryz.func100,Tryz.ntmps100
  go_wp2
  go_ret
  simp[bZ,s,t]
theorem kC (n:Int)(w:World) :
  Calls Tryz.prog 201 #[.int .i64 n] w fun e u=>e=.returned (.bool (gd n))∧w=u:=by
 by_cases s:0≤n<;>by_cases t:n≤16
 all_goals
  go_enter Tryz.func201,Tryz.ntmps201
  go_wp2
  go_ret
  simp[gd,s,t]
theorem sq (f:Int)(w:World) :
  Calls Tryz.prog 202 #[.int .u8 f] w fun e t=>e=.returned (.bool (fF f))∧w=t:=by
 by_cases s:f=3
 ·subst s;go_enter Tryz.func202,Tryz.ntmps202;go_wp2;go_ret;simp[fF]
 ·go_enter Tryz.func202,Tryz.ntmps202;go_wp2;go_ret;simp[fF]
theorem kJ (f s a l n:Int)(w:World)(u:0≤s)(z:s≤255) :
  Calls Tryz.prog 199 #[.int .u8 f,.agg #[.int .u8 s,.int .u32 a],.int .i64 l,.int .i64 n] w fun r t=>r=.returned (.bool (eH f ⟨s,a⟩ l n))∧ae w t:=by
 go_enter Tryz.func199,Tryz.ntmps199
 go_wp2_with (first|(go_at_call 100;refine(iJ _ _).mono ?_;rintro e t ⟨rfl,rfl⟩)|(go_at_call 201;refine(kC _ _).mono ?_;rintro e t ⟨rfl,rfl⟩)|fail)
 all_goals(go_ret;refine⟨?_,(ae.refl _).alloc _⟩)
 all_goals simp_all [eH]
 all_goals(try omega)
def fK (h p:Int):Int:=
 bits BinOp.xor IntKind.u64 (IntKind.u64.wrap (bits BinOp.xor IntKind.u64 h p*11400714819323198485))
  (IntKind.u64.wrap (bits BinOp.xor IntKind.u64 h p*11400714819323198485) / 536870912)
theorem vR (h p:Int)(w:World) :
  Calls Tryz.prog 293 #[.int .u64 h,.int .u64 p] w fun r s=>r=.returned (.int .u64 (fK h p))∧w=s:=by
 go_enter Tryz.func293,Tryz.ntmps293
 go_wp2
 go_ret
 exact⟨rfl,rfl⟩
def lS (r:Rec):Int:=
 fK (fK (fK 1 (bits BinOp.or IntKind.u64 (bits BinOp.or IntKind.u64 (r.ad*281474976710656) (r.top*1099511627776)) (r.J*4294967296)))
  (bits BinOp.or IntKind.u64 (r.lo.tag*4294967296) r.lo.to)) (bits BinOp.or IntKind.u64 (r.hi.tag*4294967296) r.hi.to)
theorem tZ (r:Rec)(t:r.ok)(w:World) :
  Calls Tryz.prog 292 #[.agg #[.int .u8 r.ad,.int .u8 r.top,.int .u8 r.J,.int .u8 r.lo.tag,.int .u32 r.lo.to,.int .u8 r.hi.tag,.int .u32 r.hi.to]] w fun e s=>e=.returned (.int .u64 (lS r))∧ae w s:=by
 obtain⟨f,E,b,⟨lt,D⟩,⟨z,u⟩⟩:=r
 obtain⟨⟨D,E⟩,⟨W,X⟩,⟨u,z⟩,⟨⟨U,V⟩,Q,T⟩,⟨N,O⟩,I,J⟩:=t
 dsimp only at *
 go_enter Tryz.func292,Tryz.ntmps292
 go_wp2_with (go_at_call 293;refine(vR _ _ _).mono ?_;rintro e s ⟨rfl,rfl⟩)
 go_ret
 exact⟨rfl,((ae.refl _).alloc _).alloc _⟩
theorem yh (r:Rec)(z:r.ok)(n:Int)(w:World) :
  Calls Tryz.prog 136 #[.agg #[.int .u8 r.ad,.int .u8 r.top,.int .u8 r.J,.int .u8 r.lo.tag,.int .u32 r.lo.to,.int .u8 r.hi.tag,.int .u32 r.hi.to],.int .i64 n] w fun e s=>e=.returned (.bool (iq r n))∧ae w s:=by
 obtain⟨f,N,b,⟨lt,J⟩,⟨I,E⟩⟩:=r
 obtain⟨⟨J,N⟩,⟨Z,ab⟩,⟨E,I⟩,⟨⟨X,Y⟩,V,W⟩,⟨T,U⟩,O,Q⟩:=z
 dsimp only at *
 go_enter Tryz.func136,Tryz.ntmps136
 go_wp2
 go_quiet (fail)
 go_wp2_with (first|(go_at_call 100;refine(iJ _ _).mono ?_;rintro e s ⟨rfl,rfl⟩)|(go_at_call 201;refine(kC _ _).mono ?_;rintro e s ⟨rfl,rfl⟩)|(go_at_call 202;refine(sq _ _).mono ?_;rintro e s ⟨rfl,rfl⟩)|(go_at_call 199;refine(kJ _ _ _ _ _ _ (by omega) (by omega)).mono ?_;rintro e w1 ⟨rfl,t⟩;have u:ae w w1:=kp;obtain⟨s,z⟩:=t.cells;obtain⟨s,z⟩:=u.cells;have D:=t.size;(try simp only[ak,World.e6,World.a6,aA]at D);have s:=u.size;have s:w.heap.size<w1.heap.size:=(by omega))|fail)
 all_goals(go_ret;refine⟨?_,kp⟩)
 all_goals simp_all [iq]
theorem ym (x y:Rec)(w:World):(binOp .neq 199 (.agg #[.int .u8 x.ad,.int .u8 x.top,.int .u8 x.J,.int .u8 x.lo.tag,.int .u32 x.lo.to,.int .u8 x.hi.tag,.int .u32 x.hi.to]) (.agg #[.int .u8 y.ad,.int .u8 y.top,.int .u8 y.J,.int .u8 y.lo.tag,.int .u32 y.lo.to,.int .u8 y.hi.tag,.int .u32 y.hi.to])).run Tryz.prog w=.ok (.bool (!decide (x=y))) w:=by
 obtain⟨a,b,c,⟨d,e⟩,⟨f,g⟩⟩:=x;obtain⟨J,b',N,⟨d',e'⟩,⟨O,g'⟩⟩:=y;simp only[];by_cases s:a=J
 ·by_cases t:b=b'
  ·by_cases u:c=N
   ·by_cases z:d=d'
    ·by_cases D:e=e'
     ·by_cases E:f=O
      ·by_cases I:g=g';·simp[go_sem,s,t,u,z,D,E,I]
       ·simp[go_sem,s,t,u,z,D,E,I]
      ·simp[go_sem,s,t,u,z,D,E]
     ·simp[go_sem,s,t,u,z,D]
    ·simp[go_sem,s,t,u,z]
   ·simp[go_sem,s,t,u]
  ·simp[go_sem,s,t]
 ·simp[go_sem,s]
theorem kN (x y:Edge)(w:World):(binOp .eql 52 (.agg #[.int .u8 x.tag,.int .u32 x.to]) (.agg #[.int .u8 y.tag,.int .u32 y.to])).run Tryz.prog w=.ok (.bool (decide (x=y))) w:=by
 obtain⟨d,e⟩:=x;obtain⟨d',e'⟩:=y;by_cases s:d=d'
 ·by_cases t:e=e';·simp[go_sem,s,t]
  ·simp[go_sem,s,t]
 ·simp[go_sem,s]
end Go.Proofs.YtafkamlhimkbmaaGreat
