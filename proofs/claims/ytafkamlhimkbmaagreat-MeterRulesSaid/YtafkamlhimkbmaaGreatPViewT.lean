/-
  apply.mix, edge, job.Hash.
-/
import Derived.Test.YtafkamlhimkbmaaGreatPNatX
namespace Go.Proofs.YtafkamlhimkbmaaGreat
set_option maxRecDepth 1000000
set_option maxHeartbeats 8000000
set_option linter.unusedSimpArgs false
set_option linter.unusedVariables false
open Go.RowKit
theorem ni (h x:Int)(w:World) :
  Calls Tryz.prog 296 #[.int .u64 h,.int .u64 x] w fun e s=>e=.returned (.int .u64 (fK h x))∧w=s:=by
 go_enter Tryz.func296,Tryz.ntmps296
 go_wp2
 go_ret
 exact⟨rfl,rfl⟩
def kl (e:Edge):Int:=bits BinOp.or IntKind.u64 (e.tag*4294967296) e.to
theorem lq (v:Edge)(s:v.ok)(w:World) :
  Calls Tryz.prog 297 #[.agg #[.int .u8 v.tag,.int .u32 v.to]] w fun e t=>e=.returned (.int .u64 (kl v))∧ae w t:=by
 obtain⟨⟨z,D⟩,t,u⟩:=s
 go_enter Tryz.func297,Tryz.ntmps297
 go_wp2
 go_ret
 exact⟨rfl,kp⟩
def il (f op l:Int)(a b c:Edge):Int:=fK (fK (fK (fK (bits BinOp.or IntKind.u64 (bits BinOp.or IntKind.u64 (f*65536) (op*256)) l) 1) (kl a)) (kl b)) (kl c)
theorem uD (f op l:Int)(a b c:Edge)(Z:0≤f∧f≤255)(ad:0≤op∧op≤255)(ab:0≤l∧l≤255)(V:a.ok)(W:b.ok)(X:c.ok)(w:World) :
  Calls Tryz.prog 295 #[.agg #[.int .u8 f,.int .u8 op,.int .u8 l,.int .u8 a.tag,.int .u32 a.to,.int .u8 b.tag,.int .u32 b.to,.int .u8 c.tag,.int .u32 c.to]] w fun e s=>e=.returned (.int .u64 (il f op l a b c))∧ae w s:=by
 have Q:=aa (fun O=>lq a V O)
 have T:=aa (fun O=>lq b W O)
 have Y:=aa (fun O=>lq c X O)
 obtain⟨O,ah⟩:=Z
 obtain⟨O,Z⟩:=ad
 obtain⟨O,Z⟩:=ab
 obtain⟨⟨O,Z⟩,ab,ad⟩:=V
 obtain⟨⟨O,V⟩,Z,ab⟩:=W
 obtain⟨⟨O,V⟩,W,Z⟩:=X
 go_enter Tryz.func295,Tryz.ntmps295
 go_wp2_with (first|(go_at_call 296;refine(ni _ _ _).mono ?_;rintro e s ⟨rfl,rfl⟩)|fail)
 obtain⟨t,u⟩:∃t,t=w.alloc (.cells #[.int .u8 f,.int .u8 op,.int .u8 l,.int .u8 a.tag,.int .u32 a.to,.int .u8 b.tag,.int .u32 b.to,.int .u8 c.tag,.int .u32 c.to] 204):=⟨_,rfl⟩
 have O:ae w t:=by rw[u];exact(ae.refl _).alloc _
 have z:t.cell? ⟨w.heap.size,3,none⟩=some (.int .u8 a.tag):=by rw[u];simp[go_sem]
 have D:t.cell? ⟨w.heap.size,4,none⟩=some (.int .u32 a.to):=by rw[u];simp[go_sem]
 have E:t.cell? ⟨w.heap.size,5,none⟩=some (.int .u8 b.tag):=by rw[u];simp[go_sem]
 have I:t.cell? ⟨w.heap.size,6,none⟩=some (.int .u32 b.to):=by rw[u];simp[go_sem]
 have J:t.cell? ⟨w.heap.size,7,none⟩=some (.int .u8 c.tag):=by rw[u];simp[go_sem]
 have N:t.cell? ⟨w.heap.size,8,none⟩=some (.int .u32 c.to):=by rw[u];simp[go_sem]
 rw[←u]
 clear u
 go_region_held3 (fun s=>s.cell? ⟨w.heap.size,3,none⟩=some (.int .u8 a.tag)∧s.cell? ⟨w.heap.size,4,none⟩=some (.int .u32 a.to)∧s.cell? ⟨w.heap.size,5,none⟩=some (.int .u8 b.tag)∧s.cell? ⟨w.heap.size,6,none⟩=some (.int .u32 b.to)∧s.cell? ⟨w.heap.size,7,none⟩=some (.int .u8 c.tag)∧s.cell? ⟨w.heap.size,8,none⟩=some (.int .u32 c.to)) (go_keep) ((first
  |(go_at_call 297;have U:=Q;clear U;refine(Q.out _).mono ?_;rintro e' al ⟨rfl,t⟩;have z:=t.cell z;have D:=t.cell D;have E:=t.cell E;have I:=t.cell I;have J:=t.cell J;have N:=t.cell N;clear Q)
  |(go_at_call 297;have U:=T;clear U;refine(T.out _).mono ?_;rintro e' am ⟨rfl,t⟩;have z:=t.cell z;have D:=t.cell D;have E:=t.cell E;have I:=t.cell I;have J:=t.cell J;have N:=t.cell N;clear T)
  |(go_at_call 297;refine(Y.out _).mono ?_;rintro e' av ⟨rfl,t⟩;have z:=t.cell z;have D:=t.cell D;have E:=t.cell E;have I:=t.cell I;have J:=t.cell J;have N:=t.cell N)
  |(go_at_call 296;refine(ni _ _ _).mono ?_;rintro e s ⟨rfl,rfl⟩)))
 all_goals(try go_wp2_with fail)
 all_goals go_ret
 all_goals exact⟨rfl,kp⟩
theorem uE (f op l:Int)(a b c:Edge):0≤il f op l a b c∧il f op l a b c<18446744073709551616:=by
 unfold il;conv=>lhs;rw[fK]
 conv=>rhs;rw[fK]
 unfold bits;simp only[IntKind.wrap_u64];omega
def jc (f op l:Int)(a b c:Edge):Nat:=(il f op l a b c).toNat%64
theorem uG (f op l:Int)(a b c:Edge):bits BinOp.and IntKind.u64 (il f op l a b c) 63=(jc f op l a b c:Int):=by
 obtain⟨h0,s⟩:=uE f op l a b c;have h:=bits_mask .u64 64 (by decide) (fun n h0 s=>by rw[IntKind.wrap_u64];omega) 6 (by omega) (il f op l a b c) h0 (by omega);rw[show(63:Int)=2 ^ 6-1 by decide,h,jc,Int.natCast_emod,Int.toNat_of_nonneg h0];rfl
theorem vQ (s t u z D E I J N : Value) (w : World) : (method 454 204 (.agg #[s, t, u, z, D, E, I, J, N]) "Hash").run Tryz.prog w = .ok (295, .agg #[s, t, u, z, D, E, I, J, N]) w := by kernel_rfl
theorem nn (z U:Nat)(f op l:Int)(a b c:Edge)(N:0≤f∧f≤255)(Q:0≤op∧op≤255)(O:0≤l∧l≤255)(E:a.ok)(I:b.ok)(J:c.ok)(w:World)(h0:w.cell? ⟨z,0,none⟩=some (.slice (some ⟨U,0,none⟩) 64 64)) :
  Calls Tryz.prog 257 #[.pointer (some ⟨z,0,none⟩),.agg #[.int .u8 f,.int .u8 op,.int .u8 l,.int .u8 a.tag,.int .u32 a.to,.int .u8 b.tag,.int .u32 b.to,.int .u8 c.tag,.int .u32 c.to]] w fun e Y=>e=.returned (.pointer (some ⟨U,jc f op l a b c*12,none⟩))∧ae w Y:=by
 have u:=aa (fun z=>uD f op l a b c N Q O E I J z)
 have hand:=uG f op l a b c
 have X:jc f op l a b c<64:=fE _ (by decide)
 obtain⟨i,hi⟩:∃i,i=jc f op l a b c:=⟨_,rfl⟩
 obtain⟨z,D⟩:∃z,z=il f op l a b c:=⟨_,rfl⟩
 rw[←D]at u hand
 rw[←hi]at hand X ⊢
 have hm:=vQ
 have z:(i:Int)<64:=by omega
 have z:¬(64:Int)≤(i:Int):=by omega
 have z:(0:Int)≤(i:Int):=by omega
 have V:=aJ h0
 dsimp only at V
 obtain⟨z,U⟩:=N
 obtain⟨z,N⟩:=Q
 obtain⟨z,N⟩:=O
 obtain⟨⟨z,N⟩,O,Q⟩:=E
 obtain⟨⟨z,E⟩,N,O⟩:=I
 obtain⟨⟨z,E⟩,I,N⟩:=J
 clear hi D
 go_enter Tryz.func257,Tryz.ntmps257
 go_wp2_with fail
 obtain⟨s,t⟩:∃s,s=w.alloc (.cells #[.int .u8 f,.int .u8 op,.int .u8 l,.int .u8 a.tag,.int .u32 a.to,.int .u8 b.tag,.int .u32 b.to,.int .u8 c.tag,.int .u32 c.to] 204):=⟨_,rfl⟩
 have T:ae w s:=by rw[t];exact(ae.refl _).alloc _
 have Z:s.cell? ⟨w.heap.size,0,none⟩=some (.int .u8 f):=by rw[t];simp[go_sem]
 have ab:s.cell? ⟨w.heap.size,1,none⟩=some (.int .u8 op):=by rw[t];simp[go_sem]
 have ad:s.cell? ⟨w.heap.size,2,none⟩=some (.int .u8 l):=by rw[t];simp[go_sem]
 have ah:s.cell? ⟨w.heap.size,3,none⟩=some (.int .u8 a.tag):=by rw[t];simp[go_sem]
 have al:s.cell? ⟨w.heap.size,4,none⟩=some (.int .u32 a.to):=by rw[t];simp[go_sem]
 have am:s.cell? ⟨w.heap.size,5,none⟩=some (.int .u8 b.tag):=by rw[t];simp[go_sem]
 have av:s.cell? ⟨w.heap.size,6,none⟩=some (.int .u32 b.to):=by rw[t];simp[go_sem]
 have aw:s.cell? ⟨w.heap.size,7,none⟩=some (.int .u8 c.tag):=by rw[t];simp[go_sem]
 have ax:s.cell? ⟨w.heap.size,8,none⟩=some (.int .u32 c.to):=by rw[t];simp[go_sem]
 have h0:=T.cell h0
 rw[←t]
 clear t
 have t:=au.cell h0
 have t:=au.cell Z
 have t:=au.cell ab
 have t:=au.cell ad
 have t:=au.cell ah
 have t:=au.cell al
 have t:=au.cell am
 have t:=au.cell av
 have t:=au.cell aw
 have t:=au.cell ax
 refine eJ (s) (by kernel_rfl) (by kernel_rfl) kp ?_;(repeat (go_big_quiet_step ((first|(go_at_call 295;with_reducible refine Calls.b' (u.out _))))));refine wpQuiet_nil ?_;rintro s ⟨⟨_,W⟩,rfl⟩;try dsimp only
 go_wp2_with fail
 go_ret
 exact⟨rfl,T.trans W⟩
theorem zK (sb:Nat)(l n:Int)(v:Edge)(w:World)(D:n≤16)(E:sb<w.heap.size)
  (u:∀t,ae w t→Calls Tryz.prog 48 #[.pointer (some ⟨sb,0,none⟩)] t fun e s=>e=.returned (.int .i64 n)∧t=s)
  (h0:l<0)
  : Calls Tryz.prog 271 #[.pointer (some ⟨sb,0,none⟩),.agg #[.int .u8 v.tag,.int .u32 v.to],.int .i64 l] w fun e s=>e=.returned (.tuple #[.agg #[.int .u8 0,.int .u32 0],.agg #[.int .u8 0,.int .u32 0],.int .u8 3])∧ae w s:=by
 have z:=aa u
 clear u
 go_enter Tryz.func271,Tryz.ntmps271
 go_wp2_with (first|(go_at_call 48;refine(z.out _ kp).mono ?_;rintro e s ⟨rfl,rfl⟩)|fail)
 go_region
 all_goals go_wp2
 all_goals refine an (v:=.tuple #[.agg #[.int .u8 0,.int .u32 0],.agg #[.int .u8 0,.int .u32 0],.int .u8 3]) (by simp[results,Tryz.results271,go_sem]) rfl ⟨rfl,kp⟩
theorem zJ (sb:Nat)(l n:Int)(v:Edge)(w:World)(E:n≤16)(I:sb<w.heap.size)
  (u:∀t,ae w t→Calls Tryz.prog 48 #[.pointer (some ⟨sb,0,none⟩)] t fun e s=>e=.returned (.int .i64 n)∧t=s)
  (h0:0≤l) (D:n≤l)
  : Calls Tryz.prog 271 #[.pointer (some ⟨sb,0,none⟩),.agg #[.int .u8 v.tag,.int .u32 v.to],.int .i64 l] w fun e s=>e=.returned (.tuple #[.agg #[.int .u8 0,.int .u32 0],.agg #[.int .u8 0,.int .u32 0],.int .u8 3])∧ae w s:=by
 have z:=aa u
 clear u
 go_enter Tryz.func271,Tryz.ntmps271
 go_wp2_with (first|(go_at_call 48;refine(z.out _ kp).mono ?_;rintro e s ⟨rfl,rfl⟩)|fail)
 go_region
 all_goals go_wp2
 all_goals refine an (v:=.tuple #[.agg #[.int .u8 0,.int .u32 0],.agg #[.int .u8 0,.int .u32 0],.int .u8 3]) (by simp[results,Tryz.results271,go_sem]) rfl ⟨rfl,kp⟩
theorem zL (sb:Nat)(l n:Int)(v:Edge)(w:World)(X:n≤16)(Y:sb<w.heap.size)
  (D:∀t,ae w t→Calls Tryz.prog 48 #[.pointer (some ⟨sb,0,none⟩)] t fun e u=>e=.returned (.int .i64 n)∧t=u)
  (h0:0≤l) (W:l<n)
  (z:∀t,ae w t→Calls Tryz.prog 134 #[.pointer (some ⟨sb,0,none⟩),.int .u8 5,.agg #[.int .u8 v.tag,.int .u32 v.to],.int .i64 l] t fun e u=>e=.returned (.bool false)∧ae t u)
  : Calls Tryz.prog 271 #[.pointer (some ⟨sb,0,none⟩),.agg #[.int .u8 v.tag,.int .u32 v.to],.int .i64 l] w fun e u=>e=.returned (.tuple #[.agg #[.int .u8 0,.int .u32 0],.agg #[.int .u8 0,.int .u32 0],.int .u8 1])∧ae w u:=by
 have I:=aa D
 clear D
 have E:=aa z
 clear z
 go_enter Tryz.func271,Tryz.ntmps271
 go_wp2_with (first|(go_at_call 48;refine(I.out _ kp).mono ?_;rintro e u ⟨rfl,rfl⟩)|fail)
 (go_at_call 134;refine(E.out _ kp).mono ?_;rintro e w1 ⟨rfl,s⟩;have J:=s.size;simp only[ak]at J;have t:w.heap.size<w1.heap.size:=(by omega);have N:w.heap.size+1<w1.heap.size:=(by omega);have O:w.heap.size+2<w1.heap.size:=(by omega);have t:=s.I (a:=⟨w.heap.size,0,none⟩) (v:=.int .u8 v.tag);have t:=s.I (a:=⟨w.heap.size,1,none⟩) (v:=.int .u32 v.to);have Q:=s.I (a:=⟨w.heap.size+1,0,none⟩) (v:=.int .u8 0);have T:=s.I (a:=⟨w.heap.size+1,1,none⟩) (v:=.int .u32 0);have U:=s.I (a:=⟨w.heap.size+2,0,none⟩) (v:=.int .u8 0);have V:=s.I (a:=⟨w.heap.size+2,1,none⟩) (v:=.int .u32 0);have t:=fun o:Nat=>s.frz (a:=⟨w.heap.size+1,o,none⟩) (by simp[go_sem]) (by simp[go_sem]);have t:=fun o:Nat=>s.frz (a:=⟨w.heap.size+2,o,none⟩) (by simp[go_sem]) (by simp[go_sem]);have s:ae w w1:=kp)
 go_wp2_with fail
 go_region
 all_goals go_wp2
 all_goals refine an (v:=.tuple #[.agg #[.int .u8 0,.int .u32 0],.agg #[.int .u8 0,.int .u32 0],.int .u8 1]) (by simp[results,Tryz.results271,go_sem,N,O,Q,T,U,V]) rfl ⟨rfl,kp⟩
theorem zP (sb:Nat)(l n:Int)(u:Int)(w:World)(Y:n≤16)(Z:sb<w.heap.size)
  (E:∀t,ae w t→Calls Tryz.prog 48 #[.pointer (some ⟨sb,0,none⟩)] t fun e z=>e=.returned (.int .i64 n)∧t=z)
  (h0:0≤l) (X:l<n)
  (D:∀t,ae w t→Calls Tryz.prog 134 #[.pointer (some ⟨sb,0,none⟩),.int .u8 5,.agg #[.int .u8 u,.int .u32 0],.int .i64 l] t fun e z=>e=.returned (.bool true)∧ae t z)
  : Calls Tryz.prog 271 #[.pointer (some ⟨sb,0,none⟩),.agg #[.int .u8 u,.int .u32 0],.int .i64 l] w fun e z=>e=.returned (.tuple #[.agg #[.int .u8 u,.int .u32 0],.agg #[.int .u8 u,.int .u32 0],.int .u8 0])∧ae w z:=by
 have J:=aa E
 clear E
 have I:=aa D
 clear D
 go_enter Tryz.func271,Tryz.ntmps271
 go_wp2_with (first|(go_at_call 48;refine(J.out _ kp).mono ?_;rintro e z ⟨rfl,rfl⟩)|fail)
 (go_at_call 134;refine(I.out _ kp).mono ?_;rintro e w1 ⟨rfl,s⟩;have N:=s.size;simp only[ak]at N;have t:w.heap.size<w1.heap.size:=(by omega);have O:w.heap.size+1<w1.heap.size:=(by omega);have Q:w.heap.size+2<w1.heap.size:=(by omega);have t:=s.I (a:=⟨w.heap.size,0,none⟩) (v:=.int .u8 u);have t:=s.I (a:=⟨w.heap.size,1,none⟩) (v:=.int .u32 0);have T:=s.I (a:=⟨w.heap.size+1,0,none⟩) (v:=.int .u8 0);have U:=s.I (a:=⟨w.heap.size+1,1,none⟩) (v:=.int .u32 0);have V:=s.I (a:=⟨w.heap.size+2,0,none⟩) (v:=.int .u8 0);have W:=s.I (a:=⟨w.heap.size+2,1,none⟩) (v:=.int .u32 0);have t:=fun o:Nat=>s.frz (a:=⟨w.heap.size+1,o,none⟩) (by simp[go_sem]) (by simp[go_sem]);have t:=fun o:Nat=>s.frz (a:=⟨w.heap.size+2,o,none⟩) (by simp[go_sem]) (by simp[go_sem]);have s:ae w w1:=kp)
 go_wp2_with fail
 go_region
 all_goals go_wp2
 all_goals refine an (v:=.tuple #[.agg #[.int .u8 u,.int .u32 0],.agg #[.int .u8 u,.int .u32 0],.int .u8 0]) (by simp[results,Tryz.results271,go_sem,O,Q,T,U,V,W]) rfl ⟨rfl,kp⟩
theorem zN (sb:Nat)(l n:Int)(v:Edge)(w:World)(Y:n≤16)(Z:sb<w.heap.size)
  (D:∀t,ae w t→Calls Tryz.prog 48 #[.pointer (some ⟨sb,0,none⟩)] t fun e u=>e=.returned (.int .i64 n)∧t=u)
  (h0:0≤l) (W:l<n)
  (z:∀t,ae w t→Calls Tryz.prog 134 #[.pointer (some ⟨sb,0,none⟩),.int .u8 5,.agg #[.int .u8 v.tag,.int .u32 v.to],.int .i64 l] t fun e u=>e=.returned (.bool true)∧ae t u)
  (ad:0≤v.tag) (ah:v.tag≤255) (X:¬v.to=0) (ab:l<v.tag)
  : Calls Tryz.prog 271 #[.pointer (some ⟨sb,0,none⟩),.agg #[.int .u8 v.tag,.int .u32 v.to],.int .i64 l] w fun e u=>e=.returned (.tuple #[.agg #[.int .u8 v.tag,.int .u32 v.to],.agg #[.int .u8 v.tag,.int .u32 v.to],.int .u8 0])∧ae w u:=by
 have I:=aa D
 clear D
 have E:=aa z
 clear z
 go_enter Tryz.func271,Tryz.ntmps271
 go_wp2_with (first|(go_at_call 48;refine(I.out _ kp).mono ?_;rintro e u ⟨rfl,rfl⟩)|fail)
 (go_at_call 134;refine(E.out _ kp).mono ?_;rintro e w1 ⟨rfl,s⟩;have J:=s.size;simp only[ak]at J;have t:w.heap.size<w1.heap.size:=(by omega);have N:w.heap.size+1<w1.heap.size:=(by omega);have O:w.heap.size+2<w1.heap.size:=(by omega);have t:=s.I (a:=⟨w.heap.size,0,none⟩) (v:=.int .u8 v.tag);have t:=s.I (a:=⟨w.heap.size,1,none⟩) (v:=.int .u32 v.to);have Q:=s.I (a:=⟨w.heap.size+1,0,none⟩) (v:=.int .u8 0);have T:=s.I (a:=⟨w.heap.size+1,1,none⟩) (v:=.int .u32 0);have U:=s.I (a:=⟨w.heap.size+2,0,none⟩) (v:=.int .u8 0);have V:=s.I (a:=⟨w.heap.size+2,1,none⟩) (v:=.int .u32 0);have t:=fun o:Nat=>s.frz (a:=⟨w.heap.size+1,o,none⟩) (by simp[go_sem]) (by simp[go_sem]);have t:=fun o:Nat=>s.frz (a:=⟨w.heap.size+2,o,none⟩) (by simp[go_sem]) (by simp[go_sem]);have s:ae w w1:=kp)
 go_wp2_with fail
 go_region
 all_goals go_wp2
 all_goals refine an (v:=.tuple #[.agg #[.int .u8 v.tag,.int .u32 v.to],.agg #[.int .u8 v.tag,.int .u32 v.to],.int .u8 0]) (by simp[results,Tryz.results271,go_sem,N,O,Q,T,U,V]) rfl ⟨rfl,kp⟩
theorem zM (sb:Nat)(l n:Int)(v:Edge)(x:Rec)(w:World)(ay:n≤16)(a0:sb<w.heap.size)
  (T:∀s,ae w s→Calls Tryz.prog 48 #[.pointer (some ⟨sb,0,none⟩)] s fun e z=>e=.returned (.int .i64 n)∧s=z)
  (h0:0≤l) (aw:l<n)
  (Q:∀s,ae w s→Calls Tryz.prog 134 #[.pointer (some ⟨sb,0,none⟩),.int .u8 5,.agg #[.int .u8 v.tag,.int .u32 v.to],.int .i64 l] s fun e z=>e=.returned (.bool true)∧ae s z)
  (a2:0≤v.tag) (a3:v.tag≤255) (ax:¬v.to=0) (a1:v.tag≤l)
  (O:∀s,ae w s→Calls Tryz.prog 78 #[.pointer (some ⟨sb,0,none⟩),.int .u32 v.to] s fun e z=>e=.returned (.tuple #[.agg #[.int .u8 x.ad,.int .u8 x.top,.int .u8 x.J,.int .u8 x.lo.tag,.int .u32 x.lo.to,.int .u8 x.hi.tag,.int .u32 x.hi.to],.bool false])∧ae s z)
  : Calls Tryz.prog 271 #[.pointer (some ⟨sb,0,none⟩),.agg #[.int .u8 v.tag,.int .u32 v.to],.int .i64 l] w fun e z=>e=.returned (.tuple #[.agg #[.int .u8 (l+1),.int .u32 v.to],.agg #[.int .u8 0,.int .u32 0],.int .u8 0])∧ae w z:=by
 have ah:=aa T
 clear T
 have ad:=aa Q
 clear Q
 have ab:=aa O
 clear O
 go_enter Tryz.func271,Tryz.ntmps271
 go_wp2_with (first|(go_at_call 48;refine(ah.out _ kp).mono ?_;rintro e z ⟨rfl,rfl⟩)|fail)
 (go_at_call 134;refine(ad.out _ kp).mono ?_;rintro e w1 ⟨rfl,u⟩;have am:=u.size;simp only[ak]at am;have av:w.heap.size<w1.heap.size:=(by omega);have U:w.heap.size+1<w1.heap.size:=(by omega);have V:w.heap.size+2<w1.heap.size:=(by omega);have X:=u.I (a:=⟨w.heap.size,0,none⟩) (v:=.int .u8 v.tag);have Y:=u.I (a:=⟨w.heap.size,1,none⟩) (v:=.int .u32 v.to);have E:=u.I (a:=⟨w.heap.size+1,0,none⟩) (v:=.int .u8 0);have I:=u.I (a:=⟨w.heap.size+1,1,none⟩) (v:=.int .u32 0);have J:=u.I (a:=⟨w.heap.size+2,0,none⟩) (v:=.int .u8 0);have N:=u.I (a:=⟨w.heap.size+2,1,none⟩) (v:=.int .u32 0);have W:=fun o:Nat=>u.frz (a:=⟨w.heap.size+1,o,none⟩) (by simp[go_sem]) (by simp[go_sem]);have Z:=fun o:Nat=>u.frz (a:=⟨w.heap.size+2,o,none⟩) (by simp[go_sem]) (by simp[go_sem]);have al:ae w w1:=kp)
 go_wp2_with fail
 ·exfalso;simp_all;omega
 (go_at_call 78;refine(ab.out _ kp).mono ?_;rintro e D ⟨rfl,t⟩;have s:=t.size;have W:=fun o:Nat=>t.frz (a:=⟨w.heap.size+1,o,none⟩) (by dsimp only;omega) (W o);have Z:=fun o:Nat=>t.frz (a:=⟨w.heap.size+2,o,none⟩) (by dsimp only;omega) (Z o);have X:=t.cell X;have Y:=t.cell Y;have E:=t.cell E;have I:=t.cell I;have J:=t.cell J;have N:=t.cell N;have av:w.heap.size<D.heap.size:=(by omega);have U:w.heap.size+1<D.heap.size:=(by omega);have V:w.heap.size+2<D.heap.size:=(by omega);have s:ae w D:=al.trans t)
 go_wp2_with fail
 all_goals refine an (v:=.tuple #[.agg #[.int .u8 (l+1),.int .u32 v.to],.agg #[.int .u8 0,.int .u32 0],.int .u8 0]) (by simp[results,Tryz.results271,go_sem,U,V,E,I,J,N]) rfl ⟨rfl,kp⟩
theorem zO (sb:Nat)(l n:Int)(v:Edge)(x:Rec)(w:World)(ay:n≤16)(a0:sb<w.heap.size)
  (T:∀s,ae w s→Calls Tryz.prog 48 #[.pointer (some ⟨sb,0,none⟩)] s fun e z=>e=.returned (.int .i64 n)∧s=z)
  (h0:0≤l) (aw:l<n)
  (Q:∀s,ae w s→Calls Tryz.prog 134 #[.pointer (some ⟨sb,0,none⟩),.int .u8 5,.agg #[.int .u8 v.tag,.int .u32 v.to],.int .i64 l] s fun e z=>e=.returned (.bool true)∧ae s z)
  (a2:0≤v.tag) (a3:v.tag≤255) (ax:¬v.to=0) (a1:v.tag≤l)
  (a4:l<x.top) (a5:0≤x.top) (a6:x.top≤255) (a7:0≤x.J) (a8:x.J≤255)
  (O:∀s,ae w s→Calls Tryz.prog 78 #[.pointer (some ⟨sb,0,none⟩),.int .u32 v.to] s fun e z=>e=.returned (.tuple #[.agg #[.int .u8 x.ad,.int .u8 x.top,.int .u8 x.J,.int .u8 x.lo.tag,.int .u32 x.lo.to,.int .u8 x.hi.tag,.int .u32 x.hi.to],.bool true])∧ae s z)
  : Calls Tryz.prog 271 #[.pointer (some ⟨sb,0,none⟩),.agg #[.int .u8 v.tag,.int .u32 v.to],.int .i64 l] w fun e z=>e=.returned (.tuple #[.agg #[.int .u8 (l+1),.int .u32 v.to],.agg #[.int .u8 0,.int .u32 0],.int .u8 0])∧ae w z:=by
 have ah:=aa T
 clear T
 have ad:=aa Q
 clear Q
 have ab:=aa O
 clear O
 go_enter Tryz.func271,Tryz.ntmps271
 go_wp2_with (first|(go_at_call 48;refine(ah.out _ kp).mono ?_;rintro e z ⟨rfl,rfl⟩)|fail)
 (go_at_call 134;refine(ad.out _ kp).mono ?_;rintro e w1 ⟨rfl,u⟩;have am:=u.size;simp only[ak]at am;have av:w.heap.size<w1.heap.size:=(by omega);have U:w.heap.size+1<w1.heap.size:=(by omega);have V:w.heap.size+2<w1.heap.size:=(by omega);have X:=u.I (a:=⟨w.heap.size,0,none⟩) (v:=.int .u8 v.tag);have Y:=u.I (a:=⟨w.heap.size,1,none⟩) (v:=.int .u32 v.to);have E:=u.I (a:=⟨w.heap.size+1,0,none⟩) (v:=.int .u8 0);have I:=u.I (a:=⟨w.heap.size+1,1,none⟩) (v:=.int .u32 0);have J:=u.I (a:=⟨w.heap.size+2,0,none⟩) (v:=.int .u8 0);have N:=u.I (a:=⟨w.heap.size+2,1,none⟩) (v:=.int .u32 0);have W:=fun o:Nat=>u.frz (a:=⟨w.heap.size+1,o,none⟩) (by simp[go_sem]) (by simp[go_sem]);have Z:=fun o:Nat=>u.frz (a:=⟨w.heap.size+2,o,none⟩) (by simp[go_sem]) (by simp[go_sem]);have al:ae w w1:=kp)
 go_wp2_with fail
 ·exfalso;simp_all;omega
 (go_at_call 78;refine(ab.out _ kp).mono ?_;rintro e D ⟨rfl,t⟩;have s:=t.size;have W:=fun o:Nat=>t.frz (a:=⟨w.heap.size+1,o,none⟩) (by dsimp only;omega) (W o);have Z:=fun o:Nat=>t.frz (a:=⟨w.heap.size+2,o,none⟩) (by dsimp only;omega) (Z o);have X:=t.cell X;have Y:=t.cell Y;have E:=t.cell E;have I:=t.cell I;have J:=t.cell J;have N:=t.cell N;have av:w.heap.size<D.heap.size:=(by omega);have U:w.heap.size+1<D.heap.size:=(by omega);have V:w.heap.size+2<D.heap.size:=(by omega);have s:ae w D:=al.trans t)
 go_wp2_with fail
 all_goals refine an (v:=.tuple #[.agg #[.int .u8 (l+1),.int .u32 v.to],.agg #[.int .u8 0,.int .u32 0],.int .u8 0]) (by simp[results,Tryz.results271,go_sem,U,V,E,I,J,N]) rfl ⟨rfl,kp⟩
theorem zI (sb:Nat)(l n:Int)(v:Edge)(x:Rec)(w:World)(ay:n≤16)(a0:sb<w.heap.size)
  (T:∀s,ae w s→Calls Tryz.prog 48 #[.pointer (some ⟨sb,0,none⟩)] s fun e z=>e=.returned (.int .i64 n)∧s=z)
  (h0:0≤l) (aw:l<n)
  (Q:∀s,ae w s→Calls Tryz.prog 134 #[.pointer (some ⟨sb,0,none⟩),.int .u8 5,.agg #[.int .u8 v.tag,.int .u32 v.to],.int .i64 l] s fun e z=>e=.returned (.bool true)∧ae s z)
  (a2:0≤v.tag) (a3:v.tag≤255) (ax:¬v.to=0) (a1:v.tag≤l)
   (a4:0≤x.top) (a5:x.top≤255) (a6:0≤x.J) (a7:x.J≤255)
  (O:∀s,ae w s→Calls Tryz.prog 78 #[.pointer (some ⟨sb,0,none⟩),.int .u32 v.to] s fun e z=>e=.returned (.tuple #[.agg #[.int .u8 x.ad,.int .u8 l,.int .u8 x.J,.int .u8 x.lo.tag,.int .u32 x.lo.to,.int .u8 x.hi.tag,.int .u32 x.hi.to],.bool true])∧ae s z)
  : Calls Tryz.prog 271 #[.pointer (some ⟨sb,0,none⟩),.agg #[.int .u8 v.tag,.int .u32 v.to],.int .i64 l] w fun e z=>e=.returned (.tuple #[.agg #[.int .u8 x.lo.tag,.int .u32 x.lo.to],.agg #[.int .u8 x.hi.tag,.int .u32 x.hi.to],.int .u8 0])∧ae w z:=by
 have ah:=aa T
 clear T
 have ad:=aa Q
 clear Q
 have ab:=aa O
 clear O
 go_enter Tryz.func271,Tryz.ntmps271
 go_wp2_with (first|(go_at_call 48;refine(ah.out _ kp).mono ?_;rintro e z ⟨rfl,rfl⟩)|fail)
 (go_at_call 134;refine(ad.out _ kp).mono ?_;rintro e w1 ⟨rfl,u⟩;have am:=u.size;simp only[ak]at am;have av:w.heap.size<w1.heap.size:=(by omega);have U:w.heap.size+1<w1.heap.size:=(by omega);have V:w.heap.size+2<w1.heap.size:=(by omega);have X:=u.I (a:=⟨w.heap.size,0,none⟩) (v:=.int .u8 v.tag);have Y:=u.I (a:=⟨w.heap.size,1,none⟩) (v:=.int .u32 v.to);have E:=u.I (a:=⟨w.heap.size+1,0,none⟩) (v:=.int .u8 0);have I:=u.I (a:=⟨w.heap.size+1,1,none⟩) (v:=.int .u32 0);have J:=u.I (a:=⟨w.heap.size+2,0,none⟩) (v:=.int .u8 0);have N:=u.I (a:=⟨w.heap.size+2,1,none⟩) (v:=.int .u32 0);have W:=fun o:Nat=>u.frz (a:=⟨w.heap.size+1,o,none⟩) (by simp[go_sem]) (by simp[go_sem]);have Z:=fun o:Nat=>u.frz (a:=⟨w.heap.size+2,o,none⟩) (by simp[go_sem]) (by simp[go_sem]);have al:ae w w1:=kp)
 go_wp2_with fail
 ·exfalso;simp_all;omega
 (go_at_call 78;refine(ab.out _ kp).mono ?_;rintro e D ⟨rfl,t⟩;have s:=t.size;have W:=fun o:Nat=>t.frz (a:=⟨w.heap.size+1,o,none⟩) (by dsimp only;omega) (W o);have Z:=fun o:Nat=>t.frz (a:=⟨w.heap.size+2,o,none⟩) (by dsimp only;omega) (Z o);have X:=t.cell X;have Y:=t.cell Y;have E:=t.cell E;have I:=t.cell I;have J:=t.cell J;have N:=t.cell N;have av:w.heap.size<D.heap.size:=(by omega);have U:w.heap.size+1<D.heap.size:=(by omega);have V:w.heap.size+2<D.heap.size:=(by omega);have s:ae w D:=al.trans t)
 go_wp2_with fail
 go_region
 all_goals go_wp2
 all_goals refine an (v:=.tuple #[.agg #[.int .u8 x.lo.tag,.int .u32 x.lo.to],.agg #[.int .u8 x.hi.tag,.int .u32 x.hi.to],.int .u8 0]) (by simp[results,Tryz.results271,go_sem,U,V,E,I,J,N]) rfl ⟨rfl,kp⟩
theorem zZ {b:Nat}{us vs:List Int}{i:Nat}{x y:Int}(s:aM b us)(z:aM b vs)(u:us.length=vs.length)(t:us[i]?=some x)(D:vs[i]?=some y)(hs:∀j,i<j→us[j]?=vs[j]?)(E:x<y):az b us<az b vs:=by
 have hi:i<us.length:=(List.getElem?_eq_some_iff.1 t).1;have u:us.drop (i+1)=vs.drop (i+1):=List.ext_getElem? (fun k=>by rw[List.getElem?_drop,List.getElem?_drop];exact hs _ (by omega))
 have E:az b us=az b (us.take (i+1))+(b:Int) ^ (i+1)*az b (us.drop (i+1)):=by
  conv=>lhs;rw[←List.take_append_drop (i+1) us]
  rw[kS,gG,Nat.min_eq_left (by omega)]
 have I:az b vs=az b (vs.take (i+1))+(b:Int) ^ (i+1)*az b (vs.drop (i+1)):=by
  conv=>lhs;rw[←List.take_append_drop (i+1) vs]
  rw[kS,gG,Nat.min_eq_left (by omega)]
 rw[E,I,u,kU b t,kU b D];have t:=kT (s.take i);have u:=js (z.take i);rw[gG,Nat.min_eq_left (by omega)]at t;have t:(b:Int) ^ i*(x+1)≤(b:Int) ^ i*y:=Int.mul_le_mul_of_nonneg_left (by omega) (by have:=js (s.take i);omega);rw[Int.mul_add,Int.mul_one]at t;omega
theorem oQ {lo lo' ab v:Nat}{x y:Value}{w:World}(a9:aB lo w ab x)(a':aB lo' w v y)(a5:v≤ab)(a8:(ar aj ab).length≤64)(b5:(ar aj v).length≤64) :
  Calls Tryz.prog 272 #[x,y] w fun e u=>(∃c,e=.returned (.int .i64 c)∧0≤c∧c≤1)∧ae w u:=by
 obtain⟨us,E⟩:∃us,us=ar aj ab:=⟨_,rfl⟩
 obtain⟨vs,W⟩:∃vs,vs=ar aj v:=⟨_,rfl⟩
 have a6:vs.length≤us.length:=by
  rw[E,W];exact eh aR (Nat.lt_of_le_of_lt a5 (fs aR (aI _)))
 have D:us.length=vs.length→∀i p q,us[i]?=some p→vs[i]?=some q→(∀j,i<j→us[j]?=vs[j]?)→¬p<q:=fun ab i p q U V hs a7=>by
  have O:=zZ (b:=aj) (by rw[E];exact ft aR _) (by rw[W];exact ft aR _) ab U V hs a7;rw[E,W,ff aR,ff aR]at O;omega
 have ah:∀t,ae w t→Calls Tryz.prog 129 #[x] t fun e u=>∃a c,e=.returned (.slice a us.length c)∧bq u a us∧ae t u:=fun t ad=>by
  rw[E];refine(jl (a9.U ad) (by omega)).mono ?_;rintro e w1 ⟨b6,rfl,O,s⟩;obtain⟨J,N,rfl,-,aw⟩:=cG O;exact⟨J,N,rfl,aw,s⟩
 have al:∀t,ae w t→Calls Tryz.prog 129 #[y] t fun e u=>∃a c,e=.returned (.slice a vs.length c)∧bq u a vs∧ae t u:=fun t ad=>by
  rw[W];refine(jl (a'.U ad) (by omega)).mono ?_;rintro e w1 ⟨b6,rfl,O,s⟩;obtain⟨J,N,rfl,-,aw⟩:=cG O;exact⟨J,N,rfl,aw,s⟩
 rw[←E]at a8
 clear E W a9 a'
 obtain⟨I,T⟩:∃n,n=us.length:=⟨_,rfl⟩
 obtain⟨Z,Y⟩:∃n,n=vs.length:=⟨_,rfl⟩
 rw[←T]at ah
 rw[←Y]at al
 rw[←T,←Y]at a6 D
 rw[←T]at a8
 have ay:=aa T
 have a0:=aa Y
 have z:=aa ah
 have a3:=aa al
 have a1:=aa D
 clear ah al T Y D b5 a5
 rcases Nat.lt_or_ge Z I with a7|b1
 ·have g1:((I:Int)==(Z:Int))=false:=by simp;omega
  have t:¬(I:Int)<(Z:Int):=by omega
  go_enter Tryz.func272,Tryz.ntmps272
  go_wp2_with (first
   |(go_at_call 129;have ax:=z;clear ax;refine(z.out _ kp).mono ?_;rintro e w1 ⟨J,N,rfl,am,X⟩;clear z)
   |(go_at_call 129;refine(a3.out _ kp).mono ?_;rintro e ba ⟨bi,bn,rfl,av,Q⟩)
   |fail)
  go_ret;exact⟨⟨1,rfl,by decide,by decide⟩,X.trans Q⟩
 ·have b3:I=Z:=by omega
  subst b3;have D:=a1.out rfl;have bb:=aa D;clear D a1 a6 b1;go_enter Tryz.func272,Tryz.ntmps272
  go_wp2_with (first
   |(go_at_call 129;have ax:=z;clear ax;refine(z.out _ kp).mono ?_;rintro e w1 ⟨J,N,rfl,am,X⟩;have be:=aa am;clear z am)
   |(go_at_call 129;refine(a3.out _ kp).mono ?_;rintro e ba ⟨bi,bn,rfl,av,Q⟩;have bh:=aa av;clear av)
   |fail)
  go_loopg [5] I (fun gk t wr=>t=.int .i64 ((gk:Int)-1)∧gk≤I∧(∀j,gk≤j→us[j]?=vs[j]?)∧ae ba wr)
  case atStart=>exact⟨rfl,aI _,fun j t=>by rw[eT (by rw[←ay.out];exact t),eT (by rw[←a0.out];exact t)],ae.refl _⟩
  case round=>
   obtain⟨rfl,t,hs,s⟩:=hrel;have a2:=aa hs;clear hs;by_cases a4:gk=0
   ·subst a4;have q:¬(0:Int)≤((0:Nat):Int)-1:=(by omega);go_wp2_with fail;go_ret;exact⟨⟨0,rfl,by decide,by decide⟩,(X.trans Q).trans s⟩
   ·obtain⟨j,rfl⟩:∃j,gk=j+1:=⟨gk-1,by omega⟩;rw[show((j+1:Nat):Int)-1=(j:Int)from by omega];obtain⟨p,t,D,U,u,z,bt,bw⟩:=gr (be.out.U (Q.trans s)) j (by rw[←ay.out];omega);obtain⟨q,t,D,V,u,z,bv,b0⟩:=gr (bh.out.U s) j (by rw[←a0.out];omega);subst bt;subst bv;have t:=aJ bw;have t:=aJ b0;have t:=bb.out j p q U V (fun k s=>a2.out k (by omega));have g0:(0:Int)≤(j:Int):=(by omega);have bc:=aa U;have bd:=aa V;clear U V a4;by_cases t:q<p
    ·go_wp2_with fail;go_region;go_wp2_with fail;go_region;go_wp2_with fail;go_ret;exact⟨⟨1,rfl,by decide,by decide⟩,((X.trans Q).trans s).trans kp⟩
    ·have b4:p=q:=(by omega);subst b4;go_wp2_with fail;go_region;go_wp2_with fail;go_region;go_wp2_with fail;go_roundg j
     case rel=>exact⟨rfl,by omega,fun k s=>by
      by_cases b2:k=j;·subst b2;rw[bc.out,bd.out]
      ·exact a2.out k (by omega),kp⟩
     case measure=>omega
end Go.Proofs.YtafkamlhimkbmaaGreat
