/-
  Walks of package node: IsForm, may, Chained, Plain, Right, mix, Hash.
-/
import Derived.Test.YtpgcbmbnognieaaGreatPForeA
import Derived.Test.YtpgcbmbnognieaaGreatChecked
import Derived.KernelRfl
import Derived.WalkLawsBesides
import Derived.WalkSpells
import Derived.Deep.RegionHeld3
import Derived.Deep.QuietTactic
import Derived.StillTailTactics
import Derived.Deep.DeepCutAuto
import Derived.Lib.Hide
namespace Go.Proofs.YtpgcbmbnognieaaGreat
set_option maxRecDepth 1000000
set_option maxHeartbeats 8000000
set_option linter.unusedSimpArgs false
set_option linter.unusedVariables false
open Go.RowKit

theorem isForm_calls (f:Int)(w:World) :
  Calls Tryz.prog 153 #[.int .u8 f] w fun e w'=>e=.returned (.bool (isFormB f))∧w=w':=by
 by_cases h1:1≤f<;>by_cases h2:f≤5
 all_goals
  go_enter Tryz.func153,Tryz.ntmps153
  go_wp2
  go_ret
  simp [isFormB,h1,h2]

theorem may_calls (n:Int)(w:World) :
  Calls Tryz.prog 191 #[.int .i64 n] w fun e w'=>e=.returned (.bool (mayB n))∧w=w':=by
 by_cases h1:0≤n<;>by_cases h2:n≤16
 all_goals
  go_enter Tryz.func191,Tryz.ntmps191
  go_wp2
  go_ret
  simp [mayB,h1,h2]

theorem chained_calls (f:Int)(w:World) :
  Calls Tryz.prog 192 #[.int .u8 f] w fun e w'=>e=.returned (.bool (chainedB f))∧w=w':=by
 by_cases h1:f=3
 ·subst h1
  go_enter Tryz.func192,Tryz.ntmps192
  go_wp2
  go_ret
  simp [chainedB]
 ·go_enter Tryz.func192,Tryz.ntmps192
  go_wp2
  go_ret
  simp [chainedB]

theorem plain_calls (f t a l n:Int)(w:World)(ht1:0≤t)(ht2:t≤255) :
  Calls Tryz.prog 193 #[.int .u8 f,.agg #[.int .u8 t,.int .u32 a],.int .i64 l,.int .i64 n] w fun r w'=>r=.returned (.bool (plainB f ⟨t,a⟩ l n))∧Keeps w w':=by
 go_enter Tryz.func193,Tryz.ntmps193
 go_wp2_with (first|(go_at_call 153;refine(isForm_calls _ _).mono ?_;rintro e w' ⟨rfl,rfl⟩)|(go_at_call 191;refine(may_calls _ _).mono ?_;rintro e w' ⟨rfl,rfl⟩)|fail)
 all_goals(go_ret;refine⟨?_,(Keeps.refl _).alloc _⟩)
 all_goals simp_all [plainB]
 all_goals(try omega)

def mixF (h p:Int):Int:=
 bits BinOp.xor IntKind.u64 (IntKind.u64.wrap (bits BinOp.xor IntKind.u64 h p*11400714819323198485))
  (IntKind.u64.wrap (bits BinOp.xor IntKind.u64 h p*11400714819323198485) / 536870912)

theorem mix_calls (h p:Int)(w:World) :
  Calls Tryz.prog 318 #[.int .u64 h,.int .u64 p] w fun r w'=>r=.returned (.int .u64 (mixF h p))∧w=w':=by
 go_enter Tryz.func318,Tryz.ntmps318
 go_wp2
 go_ret
 exact⟨rfl,rfl⟩

def hashF (r:Rec):Int:=
 mixF (mixF (mixF 1 (bits BinOp.or IntKind.u64 (bits BinOp.or IntKind.u64 (r.form*281474976710656) (r.top*1099511627776)) (r.bot*4294967296)))
  (bits BinOp.or IntKind.u64 (r.lo.tag*4294967296) r.lo.to)) (bits BinOp.or IntKind.u64 (r.hi.tag*4294967296) r.hi.to)

theorem hash_calls (r:Rec)(hr:r.ok)(w:World) :
  Calls Tryz.prog 317 #[.agg #[.int .u8 r.form,.int .u8 r.top,.int .u8 r.bot,.int .u8 r.lo.tag,.int .u32 r.lo.to,.int .u8 r.hi.tag,.int .u32 r.hi.to]] w fun e w'=>e=.returned (.int .u64 (hashF r))∧Keeps w w':=by
 obtain⟨f,t,b,⟨lt,la⟩,⟨ht,ha⟩⟩:=r
 obtain⟨⟨f1,f2⟩,⟨t1,t2⟩,⟨b1,b2⟩,⟨⟨lt1,lt2⟩,la1,la2⟩,⟨ht1,ht2⟩,ha1,ha2⟩:=hr
 dsimp only at *
 go_enter Tryz.func317,Tryz.ntmps317
 go_wp2_with (go_at_call 318;refine(mix_calls _ _ _).mono ?_;rintro e w' ⟨rfl,rfl⟩)
 go_ret
 exact⟨rfl,((Keeps.refl _).alloc _).alloc _⟩

theorem right_calls (r:Rec)(hr:r.ok)(n:Int)(w:World) :
  Calls Tryz.prog 129 #[.agg #[.int .u8 r.form,.int .u8 r.top,.int .u8 r.bot,.int .u8 r.lo.tag,.int .u32 r.lo.to,.int .u8 r.hi.tag,.int .u32 r.hi.to],.int .i64 n] w fun e w'=>e=.returned (.bool (rightB r n))∧Keeps w w':=by
 obtain⟨f,t,b,⟨lt,la⟩,⟨ht,ha⟩⟩:=r
 obtain⟨⟨f1,f2⟩,⟨t1,t2⟩,⟨b1,b2⟩,⟨⟨lt1,lt2⟩,la1,la2⟩,⟨ht1,ht2⟩,ha1,ha2⟩:=hr
 dsimp only at *
 go_enter Tryz.func129,Tryz.ntmps129
 go_wp2
 go_quiet (fail)
 go_wp2_with (first|(go_at_call 153;refine(isForm_calls _ _).mono ?_;rintro e w' ⟨rfl,rfl⟩)|(go_at_call 191;refine(may_calls _ _).mono ?_;rintro e w' ⟨rfl,rfl⟩)|(go_at_call 192;refine(chained_calls _ _).mono ?_;rintro e w' ⟨rfl,rfl⟩)|(go_at_call 193;refine(plain_calls _ _ _ _ _ _ (by omega) (by omega)).mono ?_;rintro e w1 ⟨rfl,hb⟩;have hk:Keeps w w1:=(by(exact kp));obtain⟨hc,hf⟩:=hb.cells;obtain⟨hcl,hfl⟩:=hk.cells;have hsz:=hb.size;(try simp only [World.size_alloc,World.size_drewN,World.size_drew,World.size_setCell] at hsz);have hsl:=hk.size;have hz0:w.heap.size<w1.heap.size:=(by omega))|fail)
 all_goals(go_ret;refine⟨?_,by(exact kp)⟩)
 all_goals simp_all [rightB]

theorem run_neq_key (x y:Rec)(w:World):(binOp .neq 206 (.agg #[.int .u8 x.form,.int .u8 x.top,.int .u8 x.bot,.int .u8 x.lo.tag,.int .u32 x.lo.to,.int .u8 x.hi.tag,.int .u32 x.hi.to]) (.agg #[.int .u8 y.form,.int .u8 y.top,.int .u8 y.bot,.int .u8 y.lo.tag,.int .u32 y.lo.to,.int .u8 y.hi.tag,.int .u32 y.hi.to])).run Tryz.prog w=.ok (.bool (!decide (x=y))) w:=by
 obtain⟨a,b,c,⟨d,e⟩,⟨f,g⟩⟩:=x
 obtain⟨a',b',c',⟨d',e'⟩,⟨f',g'⟩⟩:=y
 simp only []
 by_cases h1:a=a'
 ·by_cases h2:b=b'
  ·by_cases h3:c=c'
   ·by_cases h4:d=d'
    ·by_cases h5:e=e'
     ·by_cases h6:f=f'
      ·by_cases h7:g=g'
       ·simp [go_sem,h1,h2,h3,h4,h5,h6,h7]
       ·simp [go_sem,h1,h2,h3,h4,h5,h6,h7]
      ·simp [go_sem,h1,h2,h3,h4,h5,h6]
     ·simp [go_sem,h1,h2,h3,h4,h5]
    ·simp [go_sem,h1,h2,h3,h4]
   ·simp [go_sem,h1,h2,h3]
  ·simp [go_sem,h1,h2]
 ·simp [go_sem,h1]

theorem run_eql_edge (x y:Edge)(w:World):(binOp .eql 25 (.agg #[.int .u8 x.tag,.int .u32 x.to]) (.agg #[.int .u8 y.tag,.int .u32 y.to])).run Tryz.prog w=.ok (.bool (decide (x=y))) w:=by
 obtain⟨d,e⟩:=x
 obtain⟨d',e'⟩:=y
 by_cases h4:d=d'
 ·by_cases h5:e=e'
  ·simp [go_sem,h4,h5]
  ·simp [go_sem,h4,h5]
 ·simp [go_sem,h4]

end Go.Proofs.YtpgcbmbnognieaaGreat
