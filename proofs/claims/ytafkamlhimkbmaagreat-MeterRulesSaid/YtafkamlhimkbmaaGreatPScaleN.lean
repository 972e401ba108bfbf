/-
  meter.scale: what stands in memory; scale.product.
-/
import Derived.Test.YtafkamlhimkbmaaGreatPScaleW
namespace Go.Proofs.YtafkamlhimkbmaaGreat
set_option maxRecDepth 1000000
set_option maxHeartbeats 8000000
set_option linter.unusedSimpArgs false
set_option linter.unusedVariables false
open Go.RowKit
structure gZ (w:World)(cb sb mb n:Nat)(f:Int)(ls hs:List Int):Prop where
 c0:w.cell? ⟨cb,0,none⟩=some (.pointer (some ⟨sb,0,none⟩))
 c1:w.cell? ⟨cb,1,none⟩=some (.int .u8 f)
 c2:∃al cl,w.cell? ⟨cb,2,none⟩=some (.slice al n cl)∧fS w al ls
 c3:∃ah ch,w.cell? ⟨cb,3,none⟩=some (.slice ah n ch)∧fS w ah hs
 c4:w.cell? ⟨cb,4,none⟩=some (.map (some mb))
 len:ls.length=n∧hs.length=n
 er:n≤8
 b1:aM aj ls∧aM aj hs
theorem gZ.U {w t:World}{cb sb mb n:Nat}{f:Int}{ls hs:List Int}(h:gZ w cb sb mb n f ls hs)(s:ae w t):gZ t cb sb mb n f ls hs:=by
 obtain⟨u,D,E,I⟩:=h.c2;obtain⟨t,z,J,N⟩:=h.c3;exact⟨s.cell h.c0,s.cell h.c1,⟨u,D,s.cell E,I.U s⟩,⟨t,z,s.cell J,N.U s⟩,s.cell h.c4,h.len,h.er,h.b1⟩
theorem gZ.map {w t:World}{cb sb mb n:Nat}{f:Int}{ls hs:List Int}(h:gZ w cb sb mb n f ls hs)(hm:∃es clock,w.heap[mb]?=some (.map es clock))(s:af (fun k=>k=mb) w t):gZ t cb sb mb n f ls hs:=by
 obtain⟨z,E,I,J⟩:=h.c2;obtain⟨u,D,N,O⟩:=h.c3;have go:∀{o:Nat} {v:Value},w.cell? ⟨cb,o,none⟩=some v→t.cell? ⟨cb,o,none⟩=some v:=fun t=>s.cellAt (fun e=>kd hm t e) t;exact⟨go h.c0,go h.c1,⟨z,E,go I,J.map hm s⟩,⟨u,D,go N,O.map hm s⟩,go h.c4,h.len,h.er,h.b1⟩
def aY (ls hs:List Int)(both:Bool):Nat→Int:=if both then eD (aG ls) (aG hs)else aG ls
theorem fN {ls hs:List Int}(t:aM aj ls)(s:aM aj hs)(both:Bool)(k:Nat):0≤aY ls hs both k∧aY ls hs both k≤2*aj:=by
 have u:=dV t k;have t:=dV s k;unfold aY eD;cases both;·rw[ag (by simp)];omega
 ·rw[ai rfl];show 0≤aG ls k+aG hs k∧aG ls k+aG hs k≤2*aj;omega
theorem dR {h:Nat→Int}(h0:∀j,0≤h j∧h j≤2*aj)(m:Nat):∀d,0≤aF h m d∧aF h m d≤((2*aj:Nat):Int) ^ d:=by
 intro d;have t:=pd (fun j=>(h0 j).1) m d;have s:=mz (h':=fun _=>((2*aj:Nat):Int)) (fun j=>(h0 j).1) (fun j=>by push_cast;exact(h0 j).2) m d;rw[xz]at s;exact⟨t,s⟩
theorem ir {v:Int}{d:Nat}(h0:0≤v)(t:v≤((2*aj:Nat):Int) ^ d)(s:d≤8):(ar aj v.toNat).length≤9:=by
 refine eh aR ?_;have e:(((2*aj) ^ d:Nat):Int)=((2*aj:Nat):Int) ^ d:=Int.natCast_pow _ _;have t:(2*aj) ^ d≤(2*aj) ^ 8:=cJ (by decide) s;have s:(2*aj) ^ 8<aj ^ 9:=by decide
 omega
theorem jQ {w:World}{cb sb mb n:Nat}{f:Int}{ls hs:List Int}(h:gZ w cb sb mb n f ls hs)(a b:Nat)(cj:b≤n)(ci:a≤n)(both:Bool) :
  Calls Tryz.prog 196 #[.pointer (some ⟨cb,0,none⟩),.int .i64 (a:Int),.int .i64 (b:Int),.bool both] w fun e a2=>∃x,e=.returned x∧aB w.heap.size a2 (aF (aY ls hs both) a (b-a)).toNat x∧ae w a2:=by
 have D:=fN h.b1.1 h.b1.2 both
 have N:=fun d=>dR D a d
 have a4:∀d,d≤8→(ar aj (aF (aY ls hs both) a d).toNat).length≤9:=fun d W=>ir (N d).1 (N d).2 W
 have a8:∀k,(ar aj (aY ls hs both k).toNat).length≤9:=fun k=>ir (d:=1) (D k).1 (by rw[Int.pow_succ,Int.pow_zero,Int.one_mul];push_cast;exact(D k).2) (by decide)
 have a9:∀d k,k=a+d→(aF (aY ls hs both) a d).toNat*(aY ls hs both k).toNat=(aF (aY ls hs both) a (d+1)).toNat:=fun d k s=>by
  subst s;have a5:=(N d).1;have ba:=(D (a+d)).1;obtain⟨a2,b3⟩:=Int.eq_ofNat_of_zero_le a5;obtain⟨a5,a2⟩:=Int.eq_ofNat_of_zero_le ba;show _=(aF (aY ls hs both) a d*aY ls hs both (a+d)).toNat;rw[b3,a2,←Int.natCast_mul,bG,bG,bG]
 have a7:=fun k=>dV h.b1.1 k
 have a3:=fun k=>dV h.b1.2 k
 obtain⟨a2,a5,b9,a'⟩:=h.c2
 obtain⟨a2,a5,ca,ba⟩:=h.c3
 have a5:=h.len.1
 have a2:=h.len.2
 have b3:=h.er
 have b6:=aJ h.c0
 have bn:=aa a'
 have bt:=aa ba
 have bh:=aa a5
 have bc:=aa a2
 have be:=aa a4
 have bv:=aa a8
 have bw:=aa a9
 have bi:=aa a7
 have bd:=aa a3
 have b3:b-a≤8:=by omega
 clear h D N a4 a8 a9 a7 a3 a' ba a5 a2
 dsimp only at b6
 go_enter Tryz.func196,Tryz.ntmps196
 go_wp2_with (first
  |(go_at_call 192;refine(kD 1 _ (by decide)).mono ?_;rintro e w1 ⟨v,rfl,D,b7⟩;have b0:=aa D;clear D)
  |fail)
 go_loopg [9,10,11] (b-a) (fun gk N D a2 wr=>∃(d:Nat) (x:Value),N=x∧D=.int .i64 ((a:Int)+(d:Int))∧d+gk=b-a∧aB w.heap.size wr (aF (aY ls hs both) a d).toNat x∧ae w wr)
 case atStart=>exact⟨0,v,rfl,by simp,by omega,b0.out,b7⟩
 case round=>
  obtain⟨d,x,rfl,rfl,X,D,s⟩:=hrel;have U:=aa D;have I:=aa X;clear D;by_cases a6:(a:Int)+(d:Int)<(b:Int)
  ·have ad:a+d<n:=(by omega);have D:1≤gk:=(by omega);obtain⟨p,z⟩:∃p,ls[a+d]?=some p:=⟨_,aQ (by rw[bh.out];exact ad)⟩;obtain⟨q,O⟩:∃q,hs[a+d]?=some q:=⟨_,aQ (by rw[bc.out];exact ad)⟩;obtain⟨D,N,b4,a0,ah⟩:=(bn.out.U s) (a+d) p z;obtain⟨D,N,b5,a1,al⟩:=(bt.out.U s) (a+d) q O;have am:=bi.out (a+d);have av:=bd.out (a+d);rw[gv z]at am;rw[gv O]at av;subst b4;subst b5;have D:=s.cell b9;have N:=s.cell ca;have N:=aJ a0;have N:=aJ a1;have N:=aJ D;have ax:=aa ah;have b1:=aa al;have Q:=aa (bw.out d (a+d) rfl);have D:=be.out d (by omega);have b8:=bv.out (a+d)
   have t:aY ls hs both (a+d)=if both then p+q else p:=by
    unfold aY eD;cases both;·rw[ag (by simp),ag (by simp),gv z]
    ·rw[ai rfl,ai rfl];show aG ls (a+d)+aG hs (a+d)=p+q;rw[gv z,gv O]
   have ay:(a:Int)+(d:Int)=((a+d:Nat):Int):=(by omega);have D:(ar aj p.toNat).length≤1:=eh aR (by rw[Nat.pow_one];omega);have D:(ar aj q.toNat).length≤1:=eh aR (by rw[Nat.pow_one];omega);obtain⟨cd,cf,rfl,-,-⟩:=cG ah;obtain⟨ce,ch,rfl,-,-⟩:=cG al;clear z O ah al X;rw[ay]at a6 ⊢;obtain⟨k,Y⟩:∃k,k=a+d:=⟨_,rfl⟩;rw[←Y]at a6 a0 a1 Q b8 t ad ⊢;have J:=aa Y;have z:(k:Int)<(n:Int):=(by omega);clear Y ay;cases both with
   |true=>
    rw[ai rfl]at t;have E:p.toNat+q.toNat=(aY ls hs true k).toNat:=(by rw[t];omega);have T:=aa E;clear t E am av
    go_wp2_with (first
     |(go_at_call 245;refine(mg ax.out b1.out (by omega) (by omega)).mono ?_;rintro e cl ⟨cn,rfl,z,Z⟩;rw[T.out]at z;have b2:=aa z;clear z)
     |(go_at_call 195;refine(fL (U.out.U Z) b2.out (by omega) (by omega)).mono ?_;rintro e cc ⟨aw,rfl,u,ab⟩;rw[Q.out]at u;have V:=aa u;clear u)
     |fail)
    go_roundg (gk-1)
    case rel=>exact⟨d+1,aw,rfl,congrArg (Value.int .i64) (by have:=J.out;omega),by have:=I.out;omega,V.out.le (by have:=s.size;have:=Z.size;omega),(s.trans Z).trans ab⟩
    case measure=>have:=I.out;have:=J.out;omega
   |false=>
    rw[ag (by simp)]at t;have E:p.toNat=(aY ls hs false k).toNat:=(by rw[t]);have T:=aa E;clear t E am av
    go_wp2_with (first
     |(go_at_call 195;refine(fL U.out ax.out (by omega) (by omega)).mono ?_;rintro e cc ⟨aw,rfl,u,ab⟩;rw[T.out,Q.out]at u;have V:=aa u;clear u)
     |fail)
    go_roundg (gk-1)
    case rel=>exact⟨d+1,aw,rfl,congrArg (Value.int .i64) (by have:=J.out;omega),by have:=I.out;omega,V.out.le (by have:=s.size;omega),s.trans ab⟩
    case measure=>have:=I.out;have:=J.out;omega
  ·have W:d=b-a∨b<a:=(by omega);have t:d=b-a:=(by omega);have bb:=aa t;clear W t X;go_wp2_with fail;go_ret;rw[←bb.out];exact⟨_,rfl,U.out,s⟩
open Go Go.RowKit
def gM (v:Value):Option (DataW Value×List MemPlace):=some (.held v,[])
structure qI (P:Int→Nat)(w:World)(S:List Int)(D:DataW Value):Prop where
 isMap:Maps.IsMap D
 hh:∀x,Maps.has D (.int .u32 x)=true↔x∈S
 hY:∀x∈S,∃v,(∀z,D.atKey (.int .u32 x) z=.held v)∧aB 0 w (P x) v
def dY (P:Int→Nat)(w:World)(mb:Nat)(S:List Int):Prop:=∃s,w.ownsMap Tryz.prog 50 gM mb S.length s∧qI P w S s
theorem dY.block {P:Int→Nat}{w:World}{mb:Nat}{S:List Int}(h:dY P w mb S):∃es clock,w.heap[mb]?=some (.map es clock):=by
 obtain⟨t,⟨es,clock,s,_⟩,_⟩:=h;exact⟨es,clock,s⟩
theorem dY.lt {P:Int→Nat}{w:World}{mb:Nat}{S:List Int}(h:dY P w mb S):mb<w.heap.size:=by
 obtain⟨es,clock,s⟩:=h.block;exact(Array.getElem?_eq_some_iff.1 s).1
theorem dY.U {P:Int→Nat}{w t:World}{mb:Nat}{S:List Int}(h:dY P w mb S)(s:ae w t):dY P t mb S:=by
 have I:=h.lt;obtain⟨t,⟨es,clock,E,rest⟩,u,z,D⟩:=h;refine⟨t,⟨es,clock,(s.block mb I).trans E,rest⟩,u,z,fun x J=>?_⟩;obtain⟨v,t,u⟩:=D x J;exact⟨v,t,u.U s⟩
theorem qH (w:World):(zeroValue 103).run Tryz.prog w=.ok (.slice none 0 0) w:=by kernel_rfl
theorem l8 {x:Int}(h0:0≤x)(t:x≤4294967295):keyOf Tryz.prog 50 (.int .u32 x)=some (.int .u32 x):=by
 have s:(Lit.int .u32 x).wf=true:=by simp[Lit.wf,show IntKind.u32.min=0 from rfl,show IntKind.u32.max=4294967295 from rfl];omega
 exact Maps.keyOf_int_mk Tryz.underlying50 s
theorem dY.ga {P:Int→Nat}{w:World}{mb:Nat}{S:List Int}(h:dY P w mb S){x:Int}(h0:0≤x)(E:x≤4294967295)(D:x∈S) :
  ∃v,aB 0 w (P x) v∧∀s,ae w s→(Instr.lookup 212 (.map (some mb)) (.int .u32 x) true).run Tryz.prog s=.ok (.tuple #[v,.bool true]) s:=by
 obtain⟨u,J,z⟩:=h
 obtain⟨v,Q,T⟩:=z.hY x D
 refine⟨v,T,fun s I=>?_⟩
 have N:s.ownsMap Tryz.prog 50 gM mb S.length u:=by
  obtain⟨es,clock,u,rest⟩:=J;exact⟨es,clock,(I.block mb (Array.getElem?_eq_some_iff.1 u).1).trans u,rest⟩
 obtain⟨U,ps,O,t⟩:=N.look_ok (Maps.int_keyed Tryz.underlying50) Tryz.underlying212 (qH s) (show gM (.slice none 0 0)=some (.held (.slice none 0 0),[])from rfl) (l8 h0 E)
 rw[Q]at t
 have e:U=v:=by
  unfold gM at t;cases t;rfl
 rw[O,(z.hh x).2 D,e]
theorem dY.new {P:Int→Nat}{w:World}{mb:Nat}{S:List Int}(h:dY P w mb S){x:Int}(h0:0≤x)(E:x≤4294967295)(T:x∉S) :
  ∀s,ae w s→(Instr.lookup 212 (.map (some mb)) (.int .u32 x) true).run Tryz.prog s=.ok (.tuple #[.slice none 0 0,.bool false]) s:=by
 obtain⟨u,N,J⟩:=h
 intro s I
 have O:s.ownsMap Tryz.prog 50 gM mb S.length u:=by
  obtain⟨es,clock,t,rest⟩:=N;exact⟨es,clock,(I.block mb (Array.getElem?_eq_some_iff.1 t).1).trans t,rest⟩
 have D:Maps.has u (.int .u32 x)=false:=by
  cases t:Maps.has u (.int .u32 x)with
  |false=>rfl
  |true=>exact absurd ((J.hh x).1 t) T
 obtain⟨U,ps,Q,z⟩:=O.look_ok (Maps.int_keyed Tryz.underlying50) Tryz.underlying212 (qH s) (show gM (.slice none 0 0)=some (.held (.slice none 0 0),[])from rfl) (l8 h0 E)
 rw[Maps.atKey_of_not_has D]at z
 have e:U=.slice none 0 0:=by
  unfold gM at z;cases z;rfl
 rw[Q,D,e]
theorem dY.put {P:Int→Nat}{w:World}{mb:Nat}{S:List Int}(h:dY P w mb S)(hS:S.length≤1000000){x:Int}(h0:0≤x)(E:x≤4294967295){v:Value}(Q:aB 0 w (P x) v) :
  ∃u,(Instr.mapUpdate 212 (.map (some mb)) (.int .u32 x) v).run Tryz.prog w=.ok () u∧dY P u mb (S++[x])∧af (fun k=>k=mb) w u:=by
 have hm:=h.block
 obtain⟨W,J,s⟩:=h
 obtain⟨u,O,N,I⟩:=J.update (Maps.int_keyed Tryz.underlying50) Tryz.underlying212 (by unfold maxLen;omega) (l8 h0 E) (show gM v=some (.held v,[])from rfl)
 have z:=af.fD I
 refine⟨u,O,⟨_,by rw[fW];exact N,s.isMap.put _ _,fun y=>?_,fun y t=>?_⟩,z⟩
 ·by_cases hs:y=x
  ·subst hs;rw[Maps.has_put_same s.isMap (show WideAt.IsKeyLit (.int .u32 y)from True.intro)];simp
  ·rw[Maps.has_put_other (fun e=>hs (by cases e;rfl)),s.hh y];simp[hs]
 ·by_cases hs:y=x
  ·subst hs;exact⟨v,fun D=>Maps.atKey_put_same s.isMap (show WideAt.IsKeyLit (.int .u32 y)from True.intro) _ _,Q.map hm z⟩
  ·have T:y∈S:=by
    rcases List.mem_append.1 t with t|t;·exact t
    ·exact absurd (cZ.1 t) hs
   obtain⟨t,U,V⟩:=s.hY y T;exact⟨t,fun D=>by rw[Maps.atKey_put_other (fun e=>hs (by cases e;rfl))];exact U D,V.map hm z⟩
structure cg (F:Nat→Prop)(P:Int→Nat)(cb sb mb n:Nat)(f:Int)(ls hs:List Int)(M:St)(w:World)(S:List Int):Prop where
 a':aq F w sb M
 sc:gZ w cb sb mb n f ls hs
 kept:dY P w mb S
 nF:¬F mb
 hn:M.n=(n:Int)
variable {F:Nat→Prop}{P:Int→Nat}{cb sb mb n:Nat}{f:Int}{ls hs:List Int}{M:St}{w:World}{S:List Int}
theorem cg.U {t:World}(h:cg F P cb sb mb n f ls hs M w S)(s:ae w t):cg F P cb sb mb n f ls hs M t S:=
 ⟨h.a'.U s,h.sc.U s,h.kept.U s,h.nF,h.hn⟩
theorem cg.c7 {t:World}{u:List Int}(h:cg F P cb sb mb n f ls hs M w S)(z:af (fun k=>k=mb) w t)(s:dY P t mb u):cg F P cb sb mb n f ls hs M t u:=
 ⟨h.a'.keep z (fun k s e=>h.nF (e ▸ s)),h.sc.map h.kept.block z,s,h.nF,h.hn⟩
def dw (F:Nat→Prop)(P:Int→Nat)(cb sb mb n:Nat)(f:Int)(ls hs:List Int)(M:St)(S:List Int)(v z:Nat)(u:World)(e:Ending)(s:World):Prop:=
 ∃x t,e=.returned x∧aB 0 s v x∧cg F P cb sb mb n f ls hs M s t∧t.length≤S.length+z∧af (fun k=>k=mb) u s
theorem iO {s v a b:Nat}(t:(ar aj s).length≤a)(u:(ar aj v).length≤b):(ar aj (s*v)).length≤a+b:=by
 have s:=fs aR t;have t:=fs aR u;refine eh aR ?_;rw[Nat.pow_add];exact Nat.mul_lt_mul'' s t
theorem qP {s v a:Nat}(t:(ar aj s).length≤a)(u:(ar aj v).length≤a):(ar aj (s+v)).length≤a+1:=by
 have s:=fs aR t;have s:=fs aR u;refine eh aR ?_;have s:aj ^ (a+1)=aj ^ a*aj:=dA _ _;have s:aj ^ a*2≤aj ^ a*aj:=Nat.mul_le_mul_left _ (by decide);omega
theorem aB.c5 {lo:Nat}{w s:World}{v:Nat}{x:Value}(h:aB lo w v x){mb:Nat}(hm:∃es clock,w.heap[mb]?=some (.map es clock))(t:af (fun k=>k=mb) w s):aB 0 s v x:=(h.map hm t).le (Nat.zero_le _)
theorem yQ (h:cg F P cb sb mb n f ls hs M w S)(id:Int)(b4:0≤id)(b5:id≤4294967295)(s b:Nat)(lo hi:Edge)(d9:lo.ok)(d8:hi.ok)(eA:s≤b)(b3:b<n)(ba:id∉S)(Q:Nat)(en:S.length+2*Q≤100000)(W X:Nat)(b1:(ar aj W).length≤9)(b2:(ar aj X).length≤9)(dB:f=1∨f=2∨f=4∨f=5)
  (Y:P id=(aF (aY ls hs true) s (b-s)).toNat*((aG ls b).toNat*W+(aG hs b).toNat*X))
  (b9:∀(t:World) (O:List Int),cg F P cb sb mb n f ls hs M t O→O.length≤S.length→Calls Tryz.prog 130 #[.pointer (some ⟨cb,0,none⟩),.agg #[.int .u8 lo.tag,.int .u32 lo.to],.int .i64 ((b:Int)+1)] t (dw F P cb sb mb n f ls hs M O W Q t))
  (ca:∀(t:World) (O:List Int),cg F P cb sb mb n f ls hs M t O→O.length≤S.length+Q→Calls Tryz.prog 130 #[.pointer (some ⟨cb,0,none⟩),.agg #[.int .u8 hi.tag,.int .u32 hi.to],.int .i64 ((b:Int)+1)] t (dw F P cb sb mb n f ls hs M O X Q t)) :
  Calls Tryz.prog 194 #[.pointer (some ⟨cb,0,none⟩),.int .u32 id,.agg #[.int .u8 f,.int .u8 (s:Int),.int .u8 (b:Int),.int .u8 lo.tag,.int .u32 lo.to,.int .u8 hi.tag,.int .u32 hi.to]] w (dw F P cb sb mb n f ls hs M S (P id) (2*Q+1) w):=by
 have b0:=h.kept.new b4 b5 ba
 have O:=h.sc.c4
 have en:=h.sc.c1
 have d5:=aJ O
 have O:=h.sc.er
 have bi:=aa h
 have cp:=aa b0
 have c':=aa b9
 have da:=aa ca
 have bn:=aa Y
 have a7:=aa b1
 have a8:=aa b2
 have O:=aa ba
 have bt:Hid (IntKind.i64.wrap ((b:Int)+1)=(b:Int)+1):=aa (by unfold IntKind.wrap;simp[IntKind.signed,IntKind.bits];omega)
 have O:(f==3)=false:=by simp;omega
 clear h b0 b9 ca Y b1 b2 ba dB
 dsimp only at d5
 obtain⟨O,ba⟩:=d9
 obtain⟨O,ba⟩:=d8
 go_enter Tryz.func194,Tryz.ntmps194
 have Z:=cp.out (w.alloc (.cells #[.int .u8 f,.int .u8 (s:Int),.int .u8 (b:Int),.int .u8 lo.tag,.int .u32 lo.to,.int .u8 hi.tag,.int .u32 hi.to] 134)) kp
 go_wp2_with fail
 go_region
 go_wp2_with fail
 obtain⟨z,T⟩:∃z,z=(w.alloc (.cells #[.int .u8 f,.int .u8 (s:Int),.int .u8 (b:Int),.int .u8 lo.tag,.int .u32 lo.to,.int .u8 hi.tag,.int .u32 hi.to] 134)).drew:=⟨_,rfl⟩
 have cc:ae w z:=by rw[T];exact((ae.refl w).alloc _).drew
 have a3:z.cell? ⟨w.heap.size,3,none⟩=some (.int .u8 lo.tag):=by rw[T];simp[go_sem]
 have a4:z.cell? ⟨w.heap.size,4,none⟩=some (.int .u32 lo.to):=by rw[T];simp[go_sem]
 have al:z.cell? ⟨w.heap.size,5,none⟩=some (.int .u8 hi.tag):=by rw[T];simp[go_sem]
 have a5:z.cell? ⟨w.heap.size,6,none⟩=some (.int .u32 hi.to):=by rw[T];simp[go_sem]
 rw[←T]
 have N:¬(w.heap.size=mb):=fun e=>by have:=bi.out.kept.lt;omega
 clear T Z
 go_cut [11,12] (fun T ba O=>∃(x y:Value) (ad:List Int),T=x∧ba=y∧aB 0 O W x∧aB 0 O X y∧cg F P cb sb mb n f ls hs M O ad∧ad.length≤S.length+2*Q∧af (fun k=>k=mb) z O)
 case first=>
  have a6:=aa (bi.out.U cc)
  go_region_held3 (fun D=>D.cell? ⟨w.heap.size,3,none⟩=some (.int .u8 lo.tag)∧D.cell? ⟨w.heap.size,4,none⟩=some (.int .u32 lo.to)∧D.cell? ⟨w.heap.size,5,none⟩=some (.int .u8 hi.tag)∧D.cell? ⟨w.heap.size,6,none⟩=some (.int .u32 hi.to)) (go_keep) ((first
   |(go_at_call 130;have ah:=a6;clear ah;(try rw[bt.out]);refine(c'.out _ _ (a6.out.U kp) (aI _)).mono ?_;rintro e' eB ⟨ec,ee,rfl,T,O,ba,J⟩;have am:=aa O;have c0:=aa T;have a3:=J.cellAt N a3;have a4:=J.cellAt N a4;have al:=J.cellAt N al;have a5:=J.cellAt N a5;clear a6 O T)
   |(go_at_call 130;(try rw[bt.out]);refine(da.out _ _ (am.out.U kp) (by omega)).mono ?_;rintro e' eR ⟨ed,db,rfl,T,O,a6,ab⟩;have co:=aa O;have c1:=aa T;have a3:=ab.cellAt N a3;have a4:=ab.cellAt N a4;have al:=ab.cellAt N al;have a5:=ab.cellAt N a5;clear O T)))
  all_goals(try go_wp2_with fail)
  all_goals go_meet
  all_goals exact⟨ec,ed,db,rfl,rfl,c0.out.c5 am.out.kept.block ab,c1.out,co.out,by omega,af.bd (af.bd (af.refl _ _).drew J) ab⟩
 case rest=>
  obtain⟨dj,rfl⟩:∃t,t=wc:=⟨_,rfl⟩;obtain⟨x,y,ad,rfl,rfl,bb,bc,u,N,ea⟩:=hcut;obtain⟨el,er,rfl,-,-⟩:=cG bb;obtain⟨em,et,rfl,-,-⟩:=cG bc;have a9:=u.sc.c1;have d4:=u.sc.c4;have d6:=aJ a9;obtain⟨N,ds,U,cd⟩:=u.sc.c2;obtain⟨N,dl,V,ce⟩:=u.sc.c3;obtain⟨p,a0⟩:∃p,ls[b]?=some p:=⟨_,aQ (by rw[u.sc.len.1];exact b3)⟩;obtain⟨q,Z⟩:∃q,hs[b]?=some q:=⟨_,aQ (by rw[u.sc.len.2];exact b3)⟩;obtain⟨bv,N,d0,E,bd⟩:=cd b p a0;obtain⟨bw,N,d1,I,be⟩:=ce b q Z;subst d0;subst d1;obtain⟨ch,cj,rfl,-,-⟩:=cG bd;obtain⟨ci,cl,rfl,-,-⟩:=cG be;have N:=dV u.sc.b1.1 b;have O:=dV u.sc.b1.2 b;rw[gv a0]at N;rw[gv Z]at O;have b7:(ar aj p.toNat).length≤1:=eh aR (by rw[Nat.pow_one];omega);have b8:(ar aj q.toNat).length≤1:=eh aR (by rw[Nat.pow_one];omega);have Y:=bn.out;rw[gv a0,gv Z]at Y;have cx:=aa Y;have cD:=aa bb;have c2:=aa bc;have cn:=aa u;have av:=aa bd;have aw:=aa be;have d2:=aJ E;have d3:=aJ I;have g0:(b:Int)<(n:Int):=by omega
  clear a0 Z bb bc u bd be cd ce N O Y bn;dsimp only at d6 d2 d3;go_wp2_with fail;go_cut [13] (fun N u=>∃bh:Value,N=bh∧aB 0 u (p.toNat*W+q.toNat*X) bh∧ae dj u)
  case first=>
   go_region_held3 (fun D=>D.cell? ⟨cb,2,none⟩=some (.slice (some ⟨bv,0,none⟩) n ds)∧D.cell? ⟨cb,3,none⟩=some (.slice (some ⟨bw,0,none⟩) n dl)∧D.cell? ⟨bv,b,none⟩=some (.slice ch (ar aj p.toNat).length cj)∧D.cell? ⟨bw,b,none⟩=some (.slice ci (ar aj q.toNat).length cl)) (go_keep) ((first
    |(go_at_call 195;have ah:=av;clear ah;refine(fL (av.out.U kp) (cD.out.U kp) (by omega) (by have:=a7.out;omega)).mono ?_;rintro e' eS ⟨al,rfl,D,u⟩;have c4:=aa D;have U:=u.cell U;have V:=u.cell V;have E:=u.cell E;have I:=u.cell I;clear av D)
    |(go_at_call 195;have ah:=aw;clear ah;refine(fL (aw.out.U kp) (c2.out.U kp) (by omega) (by have:=a8.out;omega)).mono ?_;rintro e' e0 ⟨e4,rfl,D,u⟩;have c5:=aa D;have U:=u.cell U;have V:=u.cell V;have E:=u.cell E;have I:=u.cell I;clear aw D)
    |(go_at_call 245;refine(mg (c4.out.U kp) (c5.out.U kp) (dp (iO b7 a7.out) (by decide)) (dp (iO b8 a8.out) (by decide))).mono ?_;rintro e' e1 ⟨e5,rfl,D,u⟩;have c6:=aa D;have U:=u.cell U;have V:=u.cell V;have E:=u.cell E;have I:=u.cell I;clear D)))
   all_goals(try go_wp2_with fail)
   all_goals go_meet
   all_goals exact⟨_,rfl,c6.out.le (Nat.zero_le _),kp⟩
  case rest=>
   obtain⟨dk,rfl⟩:∃t,t=wc:=⟨_,rfl⟩;obtain⟨bh,rfl,N,u⟩:=hcut;have t:=cn.out.U u;have am:=aa t;have cz:=aa (jQ t.sc s b (by omega) (by omega) true);have a9:=t.sc.c1;have d4:=t.sc.c4;have d7:=aJ a9;have c3:=aa N;have O:(ar aj (p.toNat*W+q.toNat*X)).length≤11:=qP (a:=10) (dp (iO b7 a7.out) (by decide)) (dp (iO b8 a8.out) (by decide));have D:(ar aj (aF (aY ls hs true) s (b-s)).toNat).length≤9:=ir (dR (fN t.sc.b1.1 t.sc.b1.2 true) s (b-s)).1 (dR (fN t.sc.b1.1 t.sc.b1.2 true) s (b-s)).2 (by omega);have c8:=aa O;have cy:=aa D;have J:af (fun k=>k=mb) z dk:=af.bd ea (u.upd _);have cB:=aa J;clear t N O D J av aw U V E I;dsimp only at d7
   go_wp2_with (first
    |(go_at_call 196;refine cz.out.mono ?_;rintro e e2 ⟨e6,rfl,s,ay⟩;have c7:=aa s;clear s)
    |(go_at_call 195;refine(fL c7.out (c3.out.U ay) (by have:=cy.out;omega) (by have:=c8.out;omega)).mono ?_;rintro e e3 ⟨cf,rfl,a2,a'⟩;rw[←cx.out]at a2;have ax:=am.out.U (ay.trans a');obtain⟨eb,ez,b6,a1⟩:=ax.kept.put (by omega) b4 b5 (a2.le (Nat.zero_le _));have d4:=a'.cell (ay.cell d4);have ev:=aJ d4;have cv:Hid (dw F P cb sb mb n f ls hs M S (P id) (2*Q+1) w (.returned cf) eb):=aa ⟨cf,ad++[id],rfl,(a2.c5 ax.kept.block a1),ax.c7 a1 b6,by rw[fW];show ad.length+1≤_;omega,af.bd (af.bd (cc.upd _) cB.out) (af.bd ((ay.trans a').upd _) a1)⟩;clear a2 ax b6 a1)
    |fail)
   go_ret;exact cv.out
theorem yR (h:cg F P cb sb mb n f ls hs M w S)(id:Int)(b7:0≤id)(b8:id≤4294967295)(s b:Nat)(lo hi:Edge)(c5:lo.ok)(c3:hi.ok)(d5:s≤b)(ds:b<n)(bb:id∉S)(J:Nat)(d1:S.length+2*J≤100000)(V W:Nat)(b5:(ar aj V).length≤9)(b6:(ar aj W).length≤9)(b0:f=3)
  (b2:P id=(aF (aY ls hs false) s (b+1-s)).toNat*V+((aF (aY ls hs true) s (b+1-s)).toNat-(aF (aY ls hs false) s (b+1-s)).toNat)*W)
  (cc:∀(t:World) (I:List Int),cg F P cb sb mb n f ls hs M t I→I.length≤S.length→Calls Tryz.prog 130 #[.pointer (some ⟨cb,0,none⟩),.agg #[.int .u8 lo.tag,.int .u32 lo.to],.int .i64 ((b:Int)+1)] t (dw F P cb sb mb n f ls hs M I V J t))
  (cd:∀(t:World) (I:List Int),cg F P cb sb mb n f ls hs M t I→I.length≤S.length+J→Calls Tryz.prog 130 #[.pointer (some ⟨cb,0,none⟩),.agg #[.int .u8 hi.tag,.int .u32 hi.to],.int .i64 ((b:Int)+1)] t (dw F P cb sb mb n f ls hs M I W J t)) :
  Calls Tryz.prog 194 #[.pointer (some ⟨cb,0,none⟩),.int .u32 id,.agg #[.int .u8 f,.int .u8 (s:Int),.int .u8 (b:Int),.int .u8 lo.tag,.int .u32 lo.to,.int .u8 hi.tag,.int .u32 hi.to]] w (dw F P cb sb mb n f ls hs M S (P id) (2*J+1) w):=by
 have b1:=h.kept.new b7 b8 bb
 have I:=h.sc.c4
 have ds:=h.sc.c1
 have c1:=aJ I
 have I:=h.sc.er
 have be:=aa h
 have cj:=aa b1
 have cB:=aa cc
 have cD:=aa cd
 have a4:=aa b2
 have bn:=aa b5
 have bt:=aa b6
 have I:=aa bb
 have bi:Hid (IntKind.i64.wrap ((b:Int)+1)=(b:Int)+1):=aa (by unfold IntKind.wrap;simp[IntKind.signed,IntKind.bits];omega)
 have I:(f==3)=true:=by simp[b0]
 clear h b1 cc cd b2 b5 b6 bb b0
 dsimp only at c1
 obtain⟨I,bb⟩:=c5
 obtain⟨I,bb⟩:=c3
 go_enter Tryz.func194,Tryz.ntmps194
 have c6:=cj.out (w.alloc (.cells #[.int .u8 f,.int .u8 (s:Int),.int .u8 (b:Int),.int .u8 lo.tag,.int .u32 lo.to,.int .u8 hi.tag,.int .u32 hi.to] 134)) kp
 go_wp2_with fail
 go_region
 go_wp2_with fail
 obtain⟨z,N⟩:∃z,z=(w.alloc (.cells #[.int .u8 f,.int .u8 (s:Int),.int .u8 (b:Int),.int .u8 lo.tag,.int .u32 lo.to,.int .u8 hi.tag,.int .u32 hi.to] 134)).drew:=⟨_,rfl⟩
 have ce:ae w z:=by rw[N];exact((ae.refl w).alloc _).drew
 have a0:z.cell? ⟨w.heap.size,3,none⟩=some (.int .u8 lo.tag):=by rw[N];simp[go_sem]
 have a1:z.cell? ⟨w.heap.size,4,none⟩=some (.int .u32 lo.to):=by rw[N];simp[go_sem]
 have ab:z.cell? ⟨w.heap.size,5,none⟩=some (.int .u8 hi.tag):=by rw[N];simp[go_sem]
 have a2:z.cell? ⟨w.heap.size,6,none⟩=some (.int .u32 hi.to):=by rw[N];simp[go_sem]
 rw[←N]
 have D:¬(w.heap.size=mb):=fun e=>by have:=be.out.kept.lt;omega
 clear N c6
 go_cut [11,12] (fun N bb I=>∃(x y:Value) (U:List Int),N=x∧bb=y∧aB 0 I V x∧aB 0 I W y∧cg F P cb sb mb n f ls hs M I U∧U.length≤S.length+2*J∧af (fun k=>k=mb) z I)
 case first=>
  have a3:=aa (be.out.U ce)
  go_region_held3 (fun z=>z.cell? ⟨w.heap.size,3,none⟩=some (.int .u8 lo.tag)∧z.cell? ⟨w.heap.size,4,none⟩=some (.int .u32 lo.to)∧z.cell? ⟨w.heap.size,5,none⟩=some (.int .u8 hi.tag)∧z.cell? ⟨w.heap.size,6,none⟩=some (.int .u32 hi.to)) (go_keep) ((first
   |(go_at_call 130;have Z:=a3;clear Z;(try rw[bi.out]);refine(cB.out _ _ (a3.out.U kp) (aI _)).mono ?_;rintro e' d7 ⟨da,dj,rfl,I,z,N,Y⟩;have bh:=aa z;have cn:=aa I;have a0:=Y.cellAt D a0;have a1:=Y.cellAt D a1;have ab:=Y.cellAt D ab;have a2:=Y.cellAt D a2;clear a3 z I)
   |(go_at_call 130;(try rw[bi.out]);refine(cD.out _ _ (bh.out.U kp) (by omega)).mono ?_;rintro e' d8 ⟨db,c0,rfl,I,z,N,O⟩;have ci:=aa z;have co:=aa I;have a0:=O.cellAt D a0;have a1:=O.cellAt D a1;have ab:=O.cellAt D ab;have a2:=O.cellAt D a2;clear z I)))
  all_goals(try go_wp2_with fail)
  all_goals go_meet
  all_goals exact⟨da,db,c0,rfl,rfl,cn.out.c5 bh.out.kept.block O,co.out,ci.out,by omega,af.bd (af.bd (af.refl _ _).drew Y) O⟩
 case rest=>
  obtain⟨a9,rfl⟩:∃t,t=wc:=⟨_,rfl⟩;obtain⟨x,y,U,rfl,rfl,bc,bd,u,z,c7⟩:=hcut;obtain⟨dk,dB,rfl,-,-⟩:=cG bc;obtain⟨dl,d0,rfl,-,-⟩:=cG bd;have z:=u.sc.c1;have d4:=u.sc.c4;have c2:=aJ z;have a6:=aa bc;have cp:=aa bd;have ch:=aa u;have T:=aa (fun(t:World) (z:ae a9 t)=>jQ (u.sc.U z) s (b+1) (by omega) (by omega) false);have a5:=aa (fun(t:World) (z:ae a9 t)=>jQ (u.sc.U z) s (b+1) (by omega) (by omega) true);have Q:=fun c=>fN u.sc.b1.1 u.sc.b1.2 c;have av:(ar aj (aF (aY ls hs false) s (b+1-s)).toNat).length≤9:=ir (dR (Q false) s _).1 (dR (Q false) s _).2 (by omega);have aw:(ar aj (aF (aY ls hs true) s (b+1-s)).toNat).length≤9:=ir (dR (Q true) s _).1 (dR (Q true) s _).2 (by omega)
  have am:(aF (aY ls hs false) s (b+1-s)).toNat≤(aF (aY ls hs true) s (b+1-s)).toNat:=Int.toNat_le_toNat (mz (fun j=>(Q false j).1) (fun j=>by
   have t:=dV u.sc.b1.2 j;show aG ls j≤aG ls j+aG hs j
   omega) s _)
  obtain⟨a8,b3⟩:∃a7,a7=(aF (aY ls hs false) s (b+1-s)).toNat:=⟨_,rfl⟩;obtain⟨bw,b4⟩:∃a7,a7=(aF (aY ls hs true) s (b+1-s)).toNat:=⟨_,rfl⟩;rw[←b3]at T a4 av am;rw[←b4]at a5 a4 aw am;have s:(ar aj (bw-a8)).length≤9:=eh aR (Nat.lt_of_le_of_lt (Nat.sub_le _ _) (fs aR aw));have t:(ar aj (a8*V)).length≤18:=iO av bn.out;have z:(ar aj ((bw-a8)*W)).length≤18:=iO s bt.out;have E:=aa (And.intro av (And.intro aw (And.intro am (And.intro s (And.intro t z)))));clear bc bd u Q av aw am s t z b3 b4;dsimp only at c2;have s:((b+1:Nat):Int)=(b:Int)+1:=by omega
  rw[s]at T a5;clear s
  go_wp2_with (first
   |(go_at_call 196;have Z:=T;clear Z;refine(T.out _ (ae.refl _)).mono ?_;rintro e c' ⟨ab,rfl,s,ah⟩;have bv:=aa s;have t:ae a9 c':=ah;clear T s)
   |(go_at_call 196;refine(a5.out _ kp).mono ?_;rintro e d9 ⟨ed,rfl,s,X⟩;have cv:=aa s;clear s)
   |(go_at_call 244;refine(vW cv.out (bv.out.U X) E.out.2.2.1 (by have:=E.out.2.1;omega) (by have:=E.out.1;omega)).mono ?_;rintro e ea ⟨ee,rfl,s,al⟩;have cx:=aa s;clear s)
   |(go_at_call 195;have Z:=a6;clear Z;refine(fL (bv.out.U (X.trans al)) (a6.out.U ((ah.trans X).trans al)) (by have:=E.out.1;omega) (by have:=bn.out;omega)).mono ?_;rintro e eb ⟨el,rfl,s,ba⟩;have cy:=aa s;clear s a6)
   |(go_at_call 195;refine(fL (cx.out.U ba) (cp.out.U (((ah.trans X).trans al).trans ba)) (by have:=E.out.2.2.2.1;omega) (by have:=bt.out;omega)).mono ?_;rintro e ec ⟨em,rfl,s,b9⟩;have cz:=aa s;clear s)
   |(go_at_call 245;refine(mg (cy.out.U b9) cz.out (by have:=E.out.2.2.2.2.1;omega) (by have:=E.out.2.2.2.2.2;omega)).mono ?_;rintro e d6 ⟨cf,rfl,ay,c4⟩;rw[←a4.out]at ay;have a':=((((ah.trans X).trans al).trans ba).trans b9).trans c4;have ad:=ch.out.U a';obtain⟨c8,d3,ca,ax⟩:=ad.kept.put (by omega) b7 b8 (ay.le (Nat.zero_le _));have d4:=a'.cell d4;have d2:=aJ d4;have cl:Hid (dw F P cb sb mb n f ls hs M S (P id) (2*J+1) w (.returned cf) c8):=aa ⟨cf,U++[id],rfl,(ay.c5 ad.kept.block ax),ad.c7 ax ca,by rw[fW];show U.length+1≤_;omega,af.bd (af.bd (ce.upd _) c7) (af.bd (a'.upd _) ax)⟩;clear ay ad ca ax)
   |fail)
  go_ret;exact cl.out
theorem yP (h:cg F P cb sb mb n f ls hs M w S)(id:Int)(E:0≤id)(J:id≤4294967295)(r:Rec)(N:id∈S)(t:Nat) :
  Calls Tryz.prog 194 #[.pointer (some ⟨cb,0,none⟩),.int .u32 id,.agg #[.int .u8 r.ad,.int .u8 r.top,.int .u8 r.J,.int .u8 r.lo.tag,.int .u32 r.lo.to,.int .u8 r.hi.tag,.int .u32 r.hi.to]] w (dw F P cb sb mb n f ls hs M S (P id) t w):=by
 obtain⟨v,u,t⟩:=h.kept.ga E J N
 have E:=h.sc.c4
 have I:=aJ E
 have z:=aa h
 have D:=aa u
 have E:=t (w.alloc (.cells #[.int .u8 r.ad,.int .u8 r.top,.int .u8 r.J,.int .u8 r.lo.tag,.int .u32 r.lo.to,.int .u8 r.hi.tag,.int .u32 r.hi.to] 134)) kp
 clear h t u
 dsimp only at I
 go_enter Tryz.func194,Tryz.ntmps194
 go_wp2_with fail
 go_ret
 have s:ae w (w.alloc (.cells #[.int .u8 r.ad,.int .u8 r.top,.int .u8 r.J,.int .u8 r.lo.tag,.int .u32 r.lo.to,.int .u8 r.hi.tag,.int .u32 r.hi.to] 134)):=(ae.refl w).alloc _
 exact⟨v,S,rfl,D.out.U s,z.out.U s,by omega,s.upd _⟩
end Go.Proofs.YtafkamlhimkbmaaGreat
