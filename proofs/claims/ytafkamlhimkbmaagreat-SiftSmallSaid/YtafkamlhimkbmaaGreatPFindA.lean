/-
  Walks of package node: IsForm, may, Chained, Plain, Right, mix, Hash.
-/
import Derived.Test.YtafkamlhimkbmaaGreatPForeA
import Derived.Test.YtafkamlhimkbmaaGreatChecked
import Derived.KernelRfl
import Derived.WalkLawsBesides
import Derived.WalkSpells
import Derived.Deep.RegionHeld3
import Derived.Deep.QuietTactic
import Derived.StillTailTactics
import Derived.Deep.DeepCutAuto
import Derived.Lib.Hide
namespace Go.Proofs.YtafkamlhimkbmaaGreat
set_option maxRecDepth 1000000
set_option maxHeartbeats 8000000
set_option linter.unusedSimpArgs false
set_option linter.unusedVariables false
open Go.RowKit

theorem ik (f:Int)(w:World) :
  Calls Tryz.prog 100 #[.int .u8 f] w fun e w'=>e=.returned (.bool (bG f))∧w=w':=by
 by_cases j:1≤f<;>by_cases q:f≤5
 all_goals
  go_enter Tryz.func100,Tryz.ntmps100
  go_wp2
  go_ret
  simp[bG,j,q]

theorem kO (n:Int)(w:World) :
  Calls Tryz.prog 201 #[.int .i64 n] w fun e w'=>e=.returned (.bool (fT n))∧w=w':=by
 by_cases j:0≤n<;>by_cases q:n≤16
 all_goals
  go_enter Tryz.func201,Tryz.ntmps201
  go_wp2
  go_ret
  simp[fT,j,q]

theorem uo (f:Int)(w:World) :
  Calls Tryz.prog 202 #[.int .u8 f] w fun e w'=>e=.returned (.bool (eY f))∧w=w':=by
 by_cases j:f=3
 ·subst j;go_enter Tryz.func202,Tryz.ntmps202
  go_wp2
  go_ret
  simp[eY]
 ·go_enter Tryz.func202,Tryz.ntmps202
  go_wp2
  go_ret
  simp[eY]

theorem k8 (f j a l n:Int)(w:World)(q:0≤j)(s:j≤255) :
  Calls Tryz.prog 199 #[.int .u8 f,.agg #[.int .u8 j,.int .u32 a],.int .i64 l,.int .i64 n] w fun r w'=>r=.returned (.bool (dY f ⟨j,a⟩ l n))∧aa w w':=by
 go_enter Tryz.func199,Tryz.ntmps199
 go_wp2_with (first|(go_at_call 100;refine(ik _ _).mono ?_;rintro e w' ⟨rfl,rfl⟩)|(go_at_call 201;refine(kO _ _).mono ?_;rintro e w' ⟨rfl,rfl⟩)|fail)
 all_goals(go_ret;refine⟨?_,(aa.refl _).alloc _⟩)
 all_goals simp_all [dY]
 all_goals(try omega)

def kP (h p:Int):Int:=
 bits BinOp.xor IntKind.u64 (IntKind.u64.wrap (bits BinOp.xor IntKind.u64 h p*11400714819323198485))
  (IntKind.u64.wrap (bits BinOp.xor IntKind.u64 h p*11400714819323198485) / 536870912)

theorem xU (h p:Int)(w:World) :
  Calls Tryz.prog 293 #[.int .u64 h,.int .u64 p] w fun r w'=>r=.returned (.int .u64 (kP h p))∧w=w':=by
 go_enter Tryz.func293,Tryz.ntmps293
 go_wp2
 go_ret
 exact⟨rfl,rfl⟩

def mv (r:Rec):Int:=
 kP (kP (kP 1 (bits BinOp.or IntKind.u64 (bits BinOp.or IntKind.u64 (r.ad*281474976710656) (r.I*1099511627776)) (r.J*4294967296)))
  (bits BinOp.or IntKind.u64 (r.lo.tag*4294967296) r.lo.to)) (bits BinOp.or IntKind.u64 (r.hi.tag*4294967296) r.hi.to)

theorem vV (r:Rec)(j:r.ok)(w:World) :
  Calls Tryz.prog 292 #[.agg #[.int .u8 r.ad,.int .u8 r.I,.int .u8 r.J,.int .u8 r.lo.tag,.int .u32 r.lo.to,.int .u8 r.hi.tag,.int .u32 r.hi.to]] w fun e w'=>e=.returned (.int .u64 (mv r))∧aa w w':=by
 obtain⟨f,z,b,⟨lt,t⟩,⟨s,q⟩⟩:=r
 obtain⟨⟨t,z⟩,⟨S,T⟩,⟨q,s⟩,⟨⟨N,O⟩,K,L⟩,⟨I,J⟩,A,E⟩:=j
 dsimp only at *
 go_enter Tryz.func292,Tryz.ntmps292
 go_wp2_with (go_at_call 293;refine(xU _ _ _).mono ?_;rintro e w' ⟨rfl,rfl⟩)
 go_ret
 exact⟨rfl,((aa.refl _).alloc _).alloc _⟩

theorem zB (r:Rec)(s:r.ok)(n:Int)(w:World) :
  Calls Tryz.prog 136 #[.agg #[.int .u8 r.ad,.int .u8 r.I,.int .u8 r.J,.int .u8 r.lo.tag,.int .u32 r.lo.to,.int .u8 r.hi.tag,.int .u32 r.hi.to],.int .i64 n] w fun e w'=>e=.returned (.bool (gU r n))∧aa w w':=by
 obtain⟨f,I,b,⟨lt,E⟩,⟨A,z⟩⟩:=r
 obtain⟨⟨E,I⟩,⟨W,X⟩,⟨z,A⟩,⟨⟨T,U⟩,O,S⟩,⟨L,N⟩,J,K⟩:=s
 dsimp only at *
 go_enter Tryz.func136,Tryz.ntmps136
 go_wp2
 go_quiet (fail)
 go_wp2_with (first|(go_at_call 100;refine(ik _ _).mono ?_;rintro e w' ⟨rfl,rfl⟩)|(go_at_call 201;refine(kO _ _).mono ?_;rintro e w' ⟨rfl,rfl⟩)|(go_at_call 202;refine(uo _ _).mono ?_;rintro e w' ⟨rfl,rfl⟩)|(go_at_call 199;refine(k8 _ _ _ _ _ _ (by omega) (by omega)).mono ?_;rintro e w1 ⟨rfl,j⟩;have q:aa w w1:=(by(exact kp));obtain⟨s,z⟩:=j.cells;obtain⟨s,z⟩:=q.cells;have t:=j.size;(try simp only[World.size_alloc,World.c5,World.a3,World.size_setCell]at t);have j:=q.size;have j:w.heap.size<w1.heap.size:=(by omega))|fail)
 all_goals(go_ret;refine⟨?_,by(exact kp)⟩)
 all_goals simp_all [gU]

theorem zK (x y:Rec)(w:World):(binOp .neq 199 (.agg #[.int .u8 x.ad,.int .u8 x.I,.int .u8 x.J,.int .u8 x.lo.tag,.int .u32 x.lo.to,.int .u8 x.hi.tag,.int .u32 x.hi.to]) (.agg #[.int .u8 y.ad,.int .u8 y.I,.int .u8 y.J,.int .u8 y.lo.tag,.int .u32 y.lo.to,.int .u8 y.hi.tag,.int .u32 y.hi.to])).run Tryz.prog w=.ok (.bool (!decide (x=y))) w:=by
 obtain⟨a,b,c,⟨d,e⟩,⟨f,g⟩⟩:=x;obtain⟨I,b',J,⟨d',K⟩,⟨L,N⟩⟩:=y;simp only[];by_cases j:a=I
 ·by_cases q:b=b'
  ·by_cases s:c=J
   ·by_cases t:d=d'
    ·by_cases z:e=K
     ·by_cases A:f=L
      ·by_cases E:g=N;·simp[go_sem,j,q,s,t,z,A,E]
       ·simp[go_sem,j,q,s,t,z,A,E]
      ·simp[go_sem,j,q,s,t,z,A]
     ·simp[go_sem,j,q,s,t,z]
    ·simp[go_sem,j,q,s,t]
   ·simp[go_sem,j,q,s]
  ·simp[go_sem,j,q]
 ·simp[go_sem,j]

theorem ll (x y:Edge)(w:World):(binOp .eql 52 (.agg #[.int .u8 x.tag,.int .u32 x.to]) (.agg #[.int .u8 y.tag,.int .u32 y.to])).run Tryz.prog w=.ok (.bool (decide (x=y))) w:=by
 obtain⟨d,e⟩:=x;obtain⟨d',s⟩:=y;by_cases j:d=d'
 ·by_cases q:e=s;·simp[go_sem,j,q]
  ·simp[go_sem,j,q]
 ·simp[go_sem,j]

end Go.Proofs.YtafkamlhimkbmaaGreat
