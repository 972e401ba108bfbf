/-
  meter.may, meter.Weigh over the state.
-/
import Derived.Test.YtafkamlhimkbmaaGreatPNatV
import Derived.Test.YtafkamlhimkbmaaGreatPScaleF
namespace Go.Proofs.YtafkamlhimkbmaaGreat
set_option maxRecDepth 1000000
set_option maxHeartbeats 8000000
set_option linter.unusedSimpArgs false
set_option linter.unusedVariables false
open Go.RowKit
theorem oL {F:Nat→Prop}{w:World}{sb:Nat}{M:St}(h:aq F w sb M)(f:Int)(v:Edge)(D:v.ok) :
  Calls Tryz.prog 77 #[.pointer (some ⟨sb,0,none⟩),.int .u8 f,.agg #[.int .u8 v.tag,.int .u32 v.to]] w fun e u=>e=.returned (.int .u8 (cq M f v 0))∧ae w u:=by
 have s:=aa (fun(u:World) (z:ae w u)=>lE (h.U z) f v 0 D)
 obtain⟨c,t⟩:∃c,c=cq M f v 0:=⟨_,rfl⟩
 rw[←t]at s ⊢
 clear h t
 go_enter Tryz.func77,Tryz.ntmps77
 go_wp2_with (first|(go_at_call 32;refine(s.out _ kp).mono ?_;rintro e w1 ⟨rfl,s⟩)|fail)
 all_goals go_ret
 all_goals exact⟨rfl,kp⟩
theorem vG {M:St}{f:Int}{v:Edge}(h:cq M f v 0=0):(1≤f∧f≤5)∧M.leads f v 0=true:=by
 unfold cq at h;split at h;·cases h
 ·rename_i s;split at h;·cases h
  ·split at h;·cases h
   ·rename_i t;refine⟨?_,by simpa using t⟩;have:bZ f=true:=(by simpa using s);unfold bZ at this;simpa using this
theorem qB {F:Nat→Prop}{w:World}{sb:Nat}{M:St}(h:aq F w sb M)(f:Int)(v:Edge)(a4:v.ok)(a b:Option Addr)(n aw ax:Nat)(ls hs:List Int)(ah:M.n=(n:Int))(ay:n≤8)(ad:ls.length=n)(z:hs.length=n)(T:bq w a ls)(N:bq w b hs)(hm:cq M f v 0=0) :
  Calls Tryz.prog 74 #[.pointer (some ⟨sb,0,none⟩),.int .u8 f,.agg #[.int .u8 v.tag,.int .u32 v.to],.slice a n aw,.slice b n ax] w fun e u=>(∃x,e=.returned (.tuple #[x,.int .u8 0])∧aB 0 u (wE (aG ls) (aG hs) M f v 0).toNat x)∧ae w u:=by
 obtain⟨a1,a3⟩:=vG hm
 have am:=aa (fun(s:World) (u:ae w s)=>oL (h.U u) f v a4)
 rw[hm]at am
 have av:=aa (fun(s:World) (u:ae w s)=>cX (h.U u))
 rw[ah]at av
 have a5:=kY (jV T) (jV N) M f v 0 (by omega)
 have X:=aa (fun(s:World) (u:ae w s)=>by
  have:=oU a aw ls s (T.U u) (by omega);rw[ad]at this
  exact this)
 have ba:=aa (fun(s:World) (u:ae w s)=>by
  have:=oU b ax hs s (N.U u) (by omega);rw[z]at this
  exact this)
 have bh:2 ^ n≤2 ^ 8:=cJ (by decide) ay
 have bi:(2:Nat) ^ 8=256:=rfl
 have a8:=aa (fun(s:World) (u aw:Nat) (J:cg F (gg ls hs M f) u sb aw n f ls hs M s [])=>ys a1 (fun id r a2=>h.b7 a2) h.wf n 0 v s [] (by omega) (Nat.zero_le _) a4 a3 J (by simp;omega))
 have H:=aa h
 have bd:=aa a5
 have a9:=aa (And.intro ad z)
 have bc:=aa (And.intro (jV T) (jV N))
 have a':=aa ah
 have s:=@run_makeMap Tryz.prog
 have s:((n:Int)==(n:Int))=true:=by simp
 obtain⟨s,a0⟩:∃s,s=(wE (aG ls) (aG hs) M f v 0).toNat:=⟨_,rfl⟩
 have Y:=aa a0
 clear h a5 ad z ah T N hm a3 a1 bh bi a0
 go_enter Tryz.func74,Tryz.ntmps74
 go_wp2_with (first
  |(go_at_call 77;refine(am.out _ kp).mono ?_;rintro e w1 ⟨rfl,s⟩;have D:=s.I (a:=⟨w.heap.size,0,none⟩) (v:=.int .u8 v.tag);have W:=s.I (a:=⟨w.heap.size,1,none⟩) (v:=.int .u32 v.to);have bv:ae w w1:=kp)
  |(go_at_call 48;refine(av.out _ kp).mono ?_;rintro e b4 ⟨rfl,rfl⟩)
  |(go_at_call 128;have b0:=X;clear b0;refine(X.out _ kp).mono ?_;rintro e b5 ⟨⟨E,rfl,s⟩,ab⟩;have a6:=aa s;have D:=ab.cell D;have W:=ab.cell W;clear X s)
  |(go_at_call 128;refine(ba.out _ kp).mono ?_;rintro e t ⟨⟨I,rfl,s⟩,O⟩;have a7:=aa s;have D:=O.cell D;have W:=O.cell W;have u:=aJ D;clear s)
  |fail)
 have V:ae w t:=(bv.trans ab).trans O
 have Q:ae t ((t.alloc (.map #[] 0)).alloc (.cells #[.pointer (some ⟨sb,0,none⟩),.int .u8 f,.slice E n n,.slice I n n,.map (some t.heap.size)] 214)):=((ae.refl _).alloc _).alloc _
 have J:cg F (gg ls hs M f) (t.heap.size+1) sb t.heap.size n f ls hs M ((t.alloc (.map #[] 0)).alloc (.cells #[.pointer (some ⟨sb,0,none⟩),.int .u8 f,.slice E n n,.slice I n n,.map (some t.heap.size)] 214)) []:=by
  refine⟨H.out.U (V.trans Q),⟨by simp[go_sem],by simp[go_sem],⟨E,n,by simp[go_sem],(a6.out.U O).U Q⟩,⟨I,n,by simp[go_sem],a7.out.U Q⟩,by simp[go_sem],a9.out,ay,bc.out⟩,⟨.map [],?_,Maps.isMap_empty,fun x=>by simp[Maps.has_eq],fun x U=>by simp at U⟩,fun z=>by have:=H.out.lt _ z;have:=V.size;omega,a'.out⟩;have:=(World.ownsMap_made (H:=Value) t Tryz.prog 50 gM).alloc (.cells #[.pointer (some ⟨sb,0,none⟩),.int .u8 f,.slice E n n,.slice I n n,.map (some t.heap.size)] 214);simpa using this
 have Z:=a8.out _ _ _ J
 rw[show((0:Nat):Int)=0 from rfl,←Y.out]at Z
 have al:=aa Z
 have bt:=V.trans Q
 clear J Z
 refine al.out.mono ?_
 rintro e b1 ⟨x,b3,rfl,U,u,-,t⟩
 have bw:ae w b1:=bt.new t (fun k a2=>by have:=V.size;omega)
 have s:=jl U (by have:=bd.out.2;rw[←Y.out]at this;omega)
 have bb:=aa s
 clear U u t s al
 go_wp2_with (first|(go_at_call 129;refine bb.out.mono ?_;rintro e b2 ⟨y,rfl,s,be⟩)|fail)
 have bn:aB 0 b2 (wE (aG ls) (aG hs) M f v 0).toNat y:=by rw[←Y.out];exact s.le (Nat.zero_le _)
 go_ret2
 exact⟨⟨y,rfl,bn⟩,bw.trans be⟩
theorem mr (x n:Nat)(w:World)(am:x<2 ^ 64)(al:n≤1000):Calls Tryz.prog 75 #[.int .u64 (x:Int),.int .i64 (n:Int)] w fun e O=>(∃a,e=.returned (.slice a n n)∧bq O a (List.replicate n (x:Int)))∧ae w O:=by
 obtain⟨Y,V,Z,ab,ad⟩:=info_parts jK;have X:(x:Int)<18446744073709551616:=by omega
 go_enter Tryz.func75,Tryz.ntmps75
 go_wp2_with (first
  |(at_make;refine wpList_make_full _ rfl _ _ 103 rfl w.heap.size 56 Y (.int .u64 0) 1 Tryz.underlying103 V Z ab .i64 .i64 _ _ n rfl rfl rfl rfl (by rw[ad];omega) (by unfold maxLen;omega) (by simp) ?_;intro w1 N s)
  |fail)
 have Q:=aa (kM N);have W:ae w w1:=⟨s.os,s.tape,s.output,s.size,fun i hi=>s.block i hi (by simp)⟩;clear N s;go_wp2_with fail;go_loopg [6,11] n (fun gk s s wr=>∃(d:Nat) (rs:List Int),s=.int .i64 (d:Int)∧d+gk=n∧rs.length=n∧(∀i,i<d→rs[i]?=some (x:Int))∧bO wr w.heap.size rs∧af (fun k=>k=w.heap.size) w1 wr)
 case atStart=>exact⟨0,List.replicate n 0,rfl,by omega,by simp,fun i hi=>by omega,Q.out,af.refl _ _⟩
 case round=>
  obtain⟨d,rs,rfl,D,Q,O,s,N⟩:=hrel;have u:=aa s;have J:=aa N;have t:=aa Q;have I:=aa O;have T:=aa D;have V:=u.out.lt;clear s N Q O;by_cases z:d<n
  ·have s:1≤gk:=(by omega);have ah:(d:Int)<(n:Int):=(by omega);obtain⟨N,s⟩:∃N,rs[d]?=some N:=⟨_,aQ (by rw[t.out];exact z)⟩;have N:=u.out.cell s;have N:=u.out.frozen d;clear s D;go_wp2_with fail;go_roundg (gk-1)
   case rel=>exact⟨d+1,rs.set d (x:Int),congrArg (Value.int .i64) (by omega),by have:=T.out;omega,by rw[de,t.out],fun i hi=>by
    by_cases hid:i=d;·subst hid;rw[jA (by rw[t.out];exact z)]
    ·rw[fV (fun e=>hid e.symm)];exact I.out i (by omega),u.out.set d _ (by rw[t.out];exact z),J.out.setCell (Or.inl rfl) _⟩
   case measure=>omega
  ·have ah:¬(d:Int)<(n:Int):=by omega
   have E:rs=List.replicate n (x:Int):=by
    refine List.ext_getElem? (fun i=>?_);by_cases hi:i<n;·rw[I.out i (by omega),List.getElem?_replicate,ai hi]
    ·rw[eT (by rw[t.out];omega),eT (by simp;omega)]
   have U:Hid (bq wr (some ⟨w.heap.size,0,none⟩) (List.replicate n (x:Int))):=aa (by
    rw[←E]
    exact u.out.b1 (fun y s=>by rw[E]at s;rw[List.eq_of_mem_replicate s];exact⟨by omega,X⟩))
   clear E D;go_wp2_with fail;go_ret;exact⟨⟨_,rfl,U.out⟩,W.new J.out (fun k s=>by omega)⟩
theorem qF (n:Nat)(x:Int){k:Nat}(h:k<n):aG (List.replicate n x) k=x:=gv (by rw[List.getElem?_replicate,ai h])
theorem Am {lo hi lo' hi':Nat→Int}{g:Int→Bool}{n:Nat}:∀(k m:Nat) (x:Int),m+k≤n→(∀j,j<n→lo j=lo' j∧hi j=hi' j)→wX lo hi g k m x=wX lo' hi' g k m x:=by
 intro k;induction k with
 |zero=>intro m x _ _;rfl
 |succ k t=>
  intro m x hm s;show lo m*wX lo hi g k (m+1) x+hi m*wX lo hi g k (m+1) (x+2 ^ m)=lo' m*wX lo' hi' g k (m+1) x+hi' m*wX lo' hi' g k (m+1) (x+2 ^ m);rw[t (m+1) x (by omega) s,t (m+1) (x+2 ^ m) (by omega) s,(s m (by omega)).1,(s m (by omega)).2]
theorem qv {M:St}{n:Nat}(s:M.n=(n:Int))(f:Int)(v:Edge)(x y:Int):wE (aG (List.replicate n x)) (aG (List.replicate n y)) M f v 0=dg (fun _=>x) (fun _=>y) 0 n (bg M f v 0) (2 ^ n):=by
 have h:=Ah (fun _=>x) (fun _=>y) M (by omega) f v;rw[show M.n.toNat=n by omega]at h;rw[h];unfold wE;exact Am _ _ _ (by rw[s];simp) (fun j s=>⟨qF n x s,qF n y s⟩)
theorem vI {F:Nat→Prop}{w:World}{sb:Nat}{M:St}(h:aq F w sb M)(f:Int)(v:Edge)(U:v.ok)(n:Nat)(t:M.n=(n:Int))(Q:n≤8)(hm:cq M f v 0=0) :
  Calls Tryz.prog 73 #[.pointer (some ⟨sb,0,none⟩),.int .u8 f,.agg #[.int .u8 v.tag,.int .u32 v.to]] w fun e u=>(∃x,e=.returned (.tuple #[x,.int .u8 0])∧aB 0 u (bU (bg M f v 0) (2 ^ n)) x)∧ae w u:=by
 have E:(wE (aG (List.replicate n (1:Int))) (aG (List.replicate n (1:Int))) M f v 0).toNat=bU (bg M f v 0) (2 ^ n):=by
  rw[qv t,←sH,bG]
 have z:=aa (fun(s:World) (u:ae w s)=>cX (h.U u))
 rw[t]at z
 have J:=aa (fun(s:World) (u:ae w s) (a:Option Addr) (D:bq s a (List.replicate n (1:Int)))=>by
  have q:=qB (h.U u) f v U a a n n n (List.replicate n 1) (List.replicate n 1) t Q (by simp) (by simp) D D hm;rw[E]at q
  exact q)
 have I:=aa (fun(s:World)=>mr 1 n s (by decide) (by omega))
 clear h E hm t
 go_enter Tryz.func73,Tryz.ntmps73
 go_wp2_with (first
  |(go_at_call 48;refine(z.out _ kp).mono ?_;rintro e w1 ⟨rfl,rfl⟩)
  |(go_at_call 75;refine(I.out _).mono ?_;rintro e X ⟨⟨O,rfl,t⟩,s⟩;have u:=s.I (a:=⟨w.heap.size,0,none⟩) (v:=.int .u8 v.tag);have D:=s.I (a:=⟨w.heap.size,1,none⟩) (v:=.int .u32 v.to);have z:=aJ u;have N:=aa t;have W:ae w X:=kp;clear t)
  |(go_at_call 74;refine(J.out _ kp O N.out).mono ?_;rintro e Y ⟨⟨x,rfl,V⟩,T⟩)
  |fail)
 go_ret2
 exact⟨⟨x,rfl,V⟩,W.trans T⟩
theorem aB.d' {lo:Nat}{w u:World}{v g:Nat}{x:Value}{rs:List Int}(h:aB lo w v x)(J:bF w g rs)(N:af (fun k=>k=g) w u):aB lo u v x:=by
 obtain⟨a,cap,u,z,D⟩:=h;refine⟨a,cap,u,z,fun I=>?_⟩;obtain⟨g',u,z,s⟩:=D I;refine⟨g',u,z,s.keep N (fun E=>?_)⟩;subst E;obtain⟨u,O,_⟩:=J;obtain⟨u,t,_⟩:=s;rw[O]at t;cases t
theorem wO {K:Nat}(D:2≤K){l:List Int}(s:aM K l){i:Nat}{x:Int}(t:l[i]?=some x):(az K (l.drop i)).toNat%K=x.toNat∧(az K (l.drop i)).toNat / K=(az K (l.drop (i+1))).toNat:=by
 have z:=s x (dy t);have h0:=js (s.drop (i+1));rw[lH t];show(x+(K:Int)*az K (l.drop (i+1))).toNat%K=_∧(x+(K:Int)*az K (l.drop (i+1))).toNat / K=_;obtain⟨u,rfl⟩:=Int.eq_ofNat_of_zero_le z.1;obtain⟨t,s⟩:=Int.eq_ofNat_of_zero_le h0;rw[s,←Int.natCast_mul,←Int.natCast_add,bG,bG,bG];have s:u<K:=by omega
 exact⟨by rw[Nat.add_mul_mod_self_left,fC s],by rw[Nat.add_mul_div_left _ _ (by omega),Nat.div_eq_of_lt s,iD]⟩
theorem vU {F:Nat→Prop}{w:World}{sb:Nat}{M:St}(h:aq F w sb M)(f:Int)(v:Edge)(cf:v.ok)(n:Nat)(ab:M.n=(n:Int))(a9:n≤8)(hm:cq M f v 0=0) :
  Calls Tryz.prog 30 #[.pointer (some ⟨sb,0,none⟩),.int .u8 f,.agg #[.int .u8 v.tag,.int .u32 v.to]] w fun e X=>(∃g,e=.returned (.tuple #[.slice (some ⟨g,0,none⟩) (n+1) (n+1),.int .u8 0])∧w.heap.size≤g∧bF X g (cP n (bg M f v 0) (2 ^ n)))∧ae w X:=by
 obtain⟨cl,hi,ch,ci,cj⟩:=info_parts ja
 obtain⟨l,U⟩:∃l,l=cP n (bg M f v 0) (2 ^ n):=⟨_,rfl⟩
 have aw:2 ^ n≤256:=dp (cJ (by decide) a9) (by decide)
 have a1:l.length=n+1:=by rw[U];exact jn _ _ _
 have V:aM 1048576 l:=fun x t=>by
  rw[U]at t;have:=oZ n (bg M f v 0) (2 ^ n) x t;omega
 have bd:(wE (aG (List.replicate n (1:Int))) (aG (List.replicate n (1048576:Int))) M f v 0).toNat=(az 1048576 (l.drop 0)).toNat:=by
  rw[qv ab,List.drop_zero,U,wL];rfl
 have bb:∀i,(ar aj (az 1048576 (l.drop i)).toNat).length≤9:=fun i=>by
  refine eh aR ?_;have Y:=kT (V.drop i);have aw:=js (V.drop i);rw[List.length_drop,a1]at Y;have e:((1048576 ^ (n+1-i):Nat):Int)=((1048576:Nat):Int) ^ (n+1-i):=Int.natCast_pow _ _;have aw:1048576 ^ (n+1-i)≤1048576 ^ 9:=cJ (by decide) (by omega);have aw:1048576 ^ 9<aj ^ 9:=by decide
  omega
 have bc:=fun(i:Nat) (x:Int) (t:l[i]?=some x)=>wO (K:=1048576) (by decide) V t
 have ba:∀(i:Nat) (x:Int),l[i]?=some x→0≤x∧x<1048576:=fun i x t=>V x (dy t)
 rw[←U]
 have am:=aa (fun(s:World) (aw:ae w s)=>cX (h.U aw))
 rw[ab]at am
 have b4:=aa (fun(s:World) (aw:ae w s) (a b:Option Addr) (cc:bq s a (List.replicate n ((1:Nat):Int))) (cd:bq s b (List.replicate n ((1048576:Nat):Int)))=>by
  have q:=qB (h.U aw) f v cf a b n n n (List.replicate n 1) (List.replicate n 1048576) ab a9 (by simp) (by simp) cc cd hm;rw[bd]at q
  exact q)
 have al:=aa (fun(s:World)=>mr 1 n s (by decide) (by omega))
 have b1:=aa (fun(s:World)=>mr 1048576 n s (by decide) (by omega))
 have b2:=aa bb
 have b3:=aa bc
 have b0:=aa ba
 have a6:=aa a1
 clear h bd hm ab U V bb bc ba a1
 go_enter Tryz.func30,Tryz.ntmps30
 go_wp2_with fail
 obtain⟨z,Q⟩:∃z,z=w.alloc (.cells #[.int .u8 v.tag,.int .u32 v.to] 52):=⟨_,rfl⟩
 have cn:ae w z:=by rw[Q];exact(ae.refl _).alloc _
 have E:z.cell? ⟨w.heap.size,0,none⟩=some (.int .u8 v.tag):=by rw[Q];simp[go_sem]
 have I:z.cell? ⟨w.heap.size,1,none⟩=some (.int .u32 v.to):=by rw[Q];simp[go_sem]
 rw[←Q]
 clear Q
 go_cut [8,9] (fun a3 U Q=>∃x,a3=x∧U=.int .u8 0∧aB 0 Q (az 1048576 (l.drop 0)).toNat x∧ae z Q)
 case first=>
  go_region_held3 (fun X=>X.cell? ⟨w.heap.size,0,none⟩=some (.int .u8 v.tag)∧X.cell? ⟨w.heap.size,1,none⟩=some (.int .u32 v.to)) (go_keep) ((first
   |(go_at_call 48;refine(am.out _ kp).mono ?_;rintro e' cv ⟨rfl,rfl⟩)
   |(go_at_call 75;have cp:=al;clear cp;refine(al.out _).mono ?_;rintro e' a4 ⟨⟨ca,rfl,Q⟩,z⟩;have b5:=aa Q;have E:=z.cell E;have I:=z.cell I;clear al Q)
   |(go_at_call 75;refine(b1.out _).mono ?_;rintro e' cy ⟨⟨cb,rfl,Q⟩,z⟩;have b6:=aa Q;have E:=z.cell E;have I:=z.cell I;clear Q)
   |(go_at_call 74;refine(b4.out _ kp ca cb (b5.out.U kp) b6.out).mono ?_;rintro e' cx ⟨⟨a5,rfl,W⟩,T⟩;have av:=aa W;have E:=T.cell E;have I:=T.cell I;clear W)))
  all_goals(try go_wp2_with fail)
  all_goals go_meet
  all_goals exact⟨a5,rfl,rfl,av.out,kp⟩
 case rest=>
  obtain⟨u,rfl⟩:∃s,s=wc:=⟨_,rfl⟩;obtain⟨x,rfl,rfl,t,s⟩:=hcut;have b7:=aa t;have a2:ae w u:=cn.trans s;clear t s
  go_wp2_with (first
   |(go_at_call 48;refine(am.out _ a2).mono ?_;rintro e' cv ⟨rfl,rfl⟩)
   |(at_make;refine wpList_make_full _ rfl _ _ 22 rfl u.heap.size 3 cl (.int .i64 0) 1 Tryz.underlying22 hi ch ci .i64 .i64 _ _ (n+1) rfl rfl (by simp) (by simp) (by rw[cj];omega) (by unfold maxLen;omega) (by simp) ?_;intro a4 a' D)
   |fail)
  have bw:=aa (pG a');have a0:ae u a4:=⟨D.os,D.tape,D.output,D.size,fun i hi=>D.block i hi (by simp)⟩;have s:=a0.size;have ce:=a2.size;clear a' D;go_wp2_with fail;go_loopg [8,11,12,35] (n+1) (fun gk a3 s s s wr=>∃(i:Nat) (y:Value) (rs:List Int),s=.int .i64 (i:Int)∧a3=y∧i+gk=n+1∧aB 0 wr (az 1048576 (l.drop i)).toNat y∧rs.length=n+1∧rs.take i=l.take i∧bF wr u.heap.size rs∧af (fun k=>k=u.heap.size) a4 wr)
  case atStart=>exact⟨0,_,List.replicate (n+1) 0,rfl,rfl,by omega,b7.out.U a0,by simp,rfl,bw.out,af.refl _ _⟩
  case round=>
   obtain⟨i,y,rs,rfl,rfl,ay,E,z,D,s,t⟩:=hrel;have b8:=aa E;have ah:=aa s;have a8:=aa t;have N:=aa z;have a7:=aa D;have bt:=aa ay;have I:=ah.out.lt;clear E s t z D;by_cases Z:i<n+1
   ·have s:1≤gk:=(by omega);have co:(i:Int)<(n:Int)+1:=(by omega);obtain⟨J,ad⟩:∃J,l[i]?=some J:=⟨_,aQ (by rw[a6.out];exact Z)⟩;obtain⟨be,bh⟩:=b3.out i J ad;obtain⟨s,t⟩:=b0.out i J ad;have ax:=wk b8.out (by have:=b2.out i;omega);rw[be,bh,Int.toNat_of_nonneg s]at ax;have bi:=aa ax;have b9:=aa ad;obtain⟨o,s⟩:∃o,rs[i]?=some o:=⟨_,aQ (by rw[N.out];exact Z)⟩;have bv:=aa s;clear ad be bh ax s ay;go_wp2_with (first|(go_at_call 76;refine bi.out.mono ?_;rintro e' cx ⟨⟨a5,rfl,W⟩,T⟩;have av:=aa W;have O:=aa (ah.out.U T);have s:=O.out.cell bv.out;have s:=O.out.frozen i;have s:=O.out.lt;clear W)|fail)
    go_roundg (gk-1)
    case rel=>exact⟨i+1,a5,rs.set i J,congrArg (Value.int .i64) (by omega),rfl,by have:=bt.out;omega,((av.out.le (Nat.zero_le _)).d' O.out (af.setCell (af.refl (fun k=>k=u.heap.size) _) (Or.inl rfl) _)),by rw[de,N.out],by rw[ju (by rw[N.out];exact Z),a7.out,m8 b9.out],O.out.set i J (by rw[N.out];exact Z),af.setCell (af.bd a8.out (T.upd _)) (Or.inl rfl) _⟩
    case measure=>omega
   ·have t:i=n+1:=(by omega);have co:¬(i:Int)<(n:Int)+1:=by omega
    have s:rs=l:=by
     have Y:=a7.out;rw[t,fm (by rw[N.out];exact aI _),fm (by rw[a6.out];exact aI _)]at Y;exact Y
    have bn:=aa s;clear t s ay;go_wp2_with fail;go_ret2;exact⟨⟨u.heap.size,rfl,ce,by rw[←bn.out];exact ah.out⟩,a2.trans (a0.new a8.out (fun k s=>by omega))⟩
end Go.Proofs.YtafkamlhimkbmaaGreat
