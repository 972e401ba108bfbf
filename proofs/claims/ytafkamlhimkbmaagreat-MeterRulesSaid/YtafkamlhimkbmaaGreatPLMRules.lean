/-
  Proved: the statement MeterRules, for every input.
-/
import Derived.Test.YtafkamlhimkbmaaGreatPDiaInv
import Derived.Test.YtafkamlhimkbmaaGreatPLSum
import Derived.Test.YtafkamlhimkbmaaGreatPMeterA
import Derived.Test.YtafkamlhimkbmaaGreatRows
namespace Go.Proofs.YtafkamlhimkbmaaGreat
set_option maxRecDepth 1000000
set_option maxHeartbeats 8000000
set_option linter.unusedSimpArgs false
set_option linter.unusedVariables false
open Go.ChangeShapes Go.WideShapes Go.ChangeAt Go.RowKit
theorem kB {M:St}{f:Int}{v:Edge}(s:1≤f∧f≤5)(u:0≤M.n)(t:M.leads f v 0=true):cq M f v 0=0:=by
 unfold cq;rw[ag (by unfold bZ;simp[s.1,s.2]),ag (by omega),ag (by rw[t];simp)]
theorem zG {M:St}(z:M.wf)(u:∀id r,look M.cs id=some r→r.ok){n:Nat}(D:M.n=(n:Int)){rs:List Int}{id:Int}(h:id∈bV M.cs rs):iv M id<n:=by
 have t:=(fJ.1 h).some;cases s:look M.cs id with
 |none=>exact absurd s t
 |some r=>
  have g:=z.b4 s;have t:=g.tb;have t:=g.bn;have t:=(u id r s).top.1;unfold iv;rw[s];show r.top.toNat<n;omega
theorem vM (n f a b:Int)(w:World)(h:n<0∨6<n∨f<1∨5<f) :
  Calls Tryz.prog 6 #[.int .i64 n,.int .u8 f,.int .u64 a,.int .u64 b] w fun e t=>e=.returned (.bool true)∧ae w t:=by
 have s:n<0∨(¬n<0∧6<n)∨(¬n<0∧¬6<n∧f<1)∨(¬n<0∧¬6<n∧¬f<1∧5<f):=by omega
 clear h
 rcases s with s|⟨s,t⟩|⟨s,t,u⟩|⟨s,t,u,z⟩
 all_goals
  go_enter Tryz.func6,Tryz.ntmps6
  go_wp2_with (first|(go_at_call 22;refine(oA _).mono ?_;rintro e w1 ⟨rfl,s⟩)|fail)
  go_ret
  exact⟨rfl,kp⟩
theorem vK (k:Nat)(f a b:Int)(w:World)(a9:k≤6)(it:1≤f)(i0:f≤5)(gR:0≤a)(g2:a≤18446744073709551615)(ch:0≤b)(g4:b≤18446744073709551615) :
  Calls Tryz.prog 6 #[.int .i64 (k:Int),.int .u8 f,.int .u64 a,.int .u64 b] w fun e U=>e=.returned (.bool true)∧ae w U:=by
 have gn:2 ^ k≤64:=dp (cJ (by decide) a9) (by decide)
 have hf:0<2 ^ k:=iC (by decide)
 have b1:=aa (And.intro hf gn)
 have a8:=aa (And.intro it i0)
 have db:=aa (And.intro (And.intro gR g2) (And.intro ch g4))
 clear gn hf gR g2 ch g4
 go_enter Tryz.func6,Tryz.ntmps6
 go_wp2_with (first|(go_at_call 22;refine(oA _).mono ?_;rintro e w1 ⟨rfl,a0⟩)|fail)
 refine(tx (k:Int) _ (by omega) (by omega)).mono ?_
 rintro e hA ⟨ob,sb,al,am,F,rfl,a4,hF,g4,hf,gn⟩
 have ed:=aa gn
 have g2:=a0.size
 have it:=a4.size
 have gR:ae w hA:=a0.trans a4
 have fX:=aa gR
 have fD:=aa (fun i (hi:F i)=>dp g2 (hF i hi))
 have i5:w.heap.size≤al:=by omega
 have i6:w.heap.size≤am:=by omega
 clear a0 a4 gn hF gR g4 hf g2 it
 go_wp2_with fail
 refine(nm k (by omega) a db.out.1.1 db.out.1.2 _).mono ?_
 rintro e j' ⟨bs,g5,rfl,a6,bb⟩
 have gn:=aa a6
 have gR:=aa g5
 have dj:=aa bb
 clear a6 g5 bb
 have hb:=fun(s:World) (T:ae j' s)=>oz f a8.out (sb:=sb) (B:=hA.heap.size) (bs:=bs) k (by omega) 0 (2 ^ k) 0 F s (St.new (k:Int) 1500) ((ed.out.a'.U dj.out).U T) (gn.out.keep (ae.upd T (fun _=>False)) (fun h=>h)) (fun W=>by have:=ed.out.a'.lt _ W;omega) (by omega) (aI _) (by have:=b1.out;omega) (by rw[gR.out];omega) (by simp[St.new]) (by simp[St.new,St.len];have:=b1.out;omega)
 have f0:=aa hb
 clear hb
 go_wp2_with fail
 refine(f0.out _ kp).mono ?_
 rintro e E ⟨x,f3,rfl,hj,hh,fa,⟨⟨b8,gB,O⟩,e9⟩⟩
 have gu:bj b8 E ob sb al am f3 (fun _=>none):=(ed.out.U dj.out).store e9 gB O fa.ext
 have ho:ae w E:=af.U (F:=F) ((ae.upd (fX.out.trans dj.out) F).bd e9) (fun i hi W=>by have:=fD.out i W;omega)
 have gx:∀i,b8 i→w.heap.size≤i:=fun i hi=>by
  have hz:=(fX.out.trans dj.out).size;rcases O i hi with q|q;·exact fD.out i q
  ·omega
 have ca:=aa gu
 have f2:=aa ho
 have fz:=aa gx
 have hZ:=aa hh
 have b2:=aa fa
 have bd:=aa hj
 obtain⟨⟨dj,ed⟩,fD,fX⟩:=hj
 clear gu ho gx hh fa gB O e9 f0
 go_wp2_with fail
 refine(nm k (by omega) b db.out.2.1 db.out.2.2 _).mono ?_
 rintro e hB ⟨cs,g6,rfl,ev,a9⟩
 have hn:ae E hB:=((ae.refl E).alloc _).trans a9
 have hx:=(aE.cf E [.int .u8 x.tag,.int .u32 x.to] 52).U a9
 have jv:=a9.size
 simp only[ak]at ev jv
 have db:=aa ev
 have dj:=aa g6
 have dk:=aa hn
 have hR:=aa hx
 clear ev g6 a9 hx hn
 have hc:=fun(s:World) (T:ae hB s)=>oz f a8.out (sb:=sb) (B:=E.heap.size+1) (bs:=cs) k (by omega) 0 (2 ^ k) 0 b8 s f3 ((ca.out.a'.U dk.out).U T) (db.out.keep (ae.upd T (fun _=>False)) (fun h=>h)) (fun W=>by have:=ca.out.a'.lt _ W;omega) (by omega) (aI _) (by have:=b1.out;omega) (by rw[dj.out];omega) (by have:=b2.out.ext.n;simp[St.new]at this;omega) (by have:=b2.out.len;have:=b2.out.a7;simp[St.new,St.len]at *;have:=b1.out;omega)
 have f1:=aa hc
 clear hc
 go_wp2_with fail
 refine(f1.out _ kp).mono ?_
 rintro e t ⟨y,N,rfl,d9,fb,cn,⟨⟨b9,gC,bt⟩,c0⟩⟩
 have cf:bj b9 t ob sb al am N (fun _=>none):=(ca.out.U dk.out).store c0 gC bt cn.ext
 have fg:ae w t:=af.U (F:=b8) ((ae.upd (f2.out.trans dk.out) b8).bd c0) (fun i hi W=>by have:=fz.out i W;omega)
 have gy:∀i,b9 i→w.heap.size≤i:=fun i hi=>by
  have hz:=(f2.out.trans dk.out).size;rcases bt i hi with q|q;·exact fz.out i q
  ·omega
 have fj:¬b8 E.heap.size:=fun W=>by have:=ca.out.a'.lt _ W;omega
 have hy:=hR.out.upd c0 fj
 have hr:¬b9 E.heap.size:=fun W=>by
  rcases bt _ W with q|q;·exact fj q
  ·omega
 have ht:¬b9 t.heap.size:=fun W=>by have:=cf.a'.lt _ W;omega
 have hq:¬b9 (t.heap.size+1):=fun W=>by have:=cf.a'.lt _ W;omega
 have b8:=c0.size
 have ii:=ca.out.lt
 obtain⟨b8,db,dj⟩:=ii
 obtain⟨b8,db,dj⟩:=cf.lt
 have cy:N.n=(k:Int):=by have c8:=b2.out.ext.n;have c':=cn.ext.n;rw[c',c8];rfl
 have g9:N.len≤126:=by have c8:=b2.out.len;have c':=cn.len;simp[St.new,St.len]at *;have:=b1.out;omega
 have hg:N.a7=1500:=by have c8:=b2.out.a7;have c':=cn.a7;rw[c',c8];rfl
 have c1:=cf.a'.wf
 have bc:N.leads f x 0=true:=cn.ext.leads (aN.leads ca.out.a'.wf a8.out hZ.out.1 (by have:=b2.out.ext.n;simp[St.new]at this;omega))
 have b4:N.leads f y 0=true:=aN.leads c1 a8.out fb.1 (by omega)
 have is:=sK a9
 have io:=lD k
 have d8:∀(r:Int) (a3 v:Edge),(r=192∨r=252∨r=15)→a3.ok→v.ok→N.leads f a3 0=true→N.leads f v 0=true→dv N ⟨f,r,0,a3,v,⟨0,0⟩⟩:=fun r a3 v cz b8 fo b2 fi=>
  ⟨a8.out,cz,Int.le_refl _,by show(0:Int)≤N.n;omega,b2,fi,ma a8.out (Int.le_refl (0:Int)) (show(0:Int)≤N.n by omega) c1.b0,⟨by show 0≤f∧f≤255;omega,by show 0≤r∧r≤255;omega,by show(0:Int)≤0∧(0:Int)≤255;omega,b8,fo,eF⟩⟩
 have d7:∀(M:St) (c:Int),ck N M c→c≤2*aX k→M.n=(k:Int)∧M.len+aX k≤M.a7∧M.a7<1048576:=fun M c b0 b2=>by
  have c8:=b0.ext.n;have c':=b0.len;have hz:=b0.a7;exact⟨by omega,by omega,by omega⟩
 have hD:=aa (fun(I:Nat→Prop) (s:World) (h:cI w (t.heap.size+1) ob sb al am f N x y E.heap.size t.heap.size 0 (fun _=>True) I s)=>h.post (k:=k) (j:=⟨f,192,0,x,y,⟨0,0⟩⟩) (fun _ _ _ _ _=>trivial) rfl (fun F M ga cv cx T=>by
  obtain⟨g1,X,V⟩:=d7 M 0 T (by omega)
  exact lR k cv f 8 192 (by omega) x y ((d8 192 x y (by omega) bd.out d9 bc b4).ext T.ext) g1 X V cx))
 have hE:=aa (fun(u:Edge) (I:Nat→Prop) (s:World) (h:cI w (t.heap.size+1) ob sb al am f N x y E.heap.size t.heap.size (0+aX k) (fun M=>True∧bB M ⟨f,192,0,x,y,⟨0,0⟩⟩ u) I s)=>h.post (k:=k) (j:=⟨f,252,0,x,y,⟨0,0⟩⟩) (fun M M' d5 b0 W=>⟨trivial,W.2.ext d5 b0⟩) rfl (fun F M ga cv cx T=>by
  obtain⟨g1,X,V⟩:=d7 M _ T (by omega)
  exact lR k cv f 14 252 (by omega) x y ((d8 252 x y (by omega) bd.out d9 bc b4).ext T.ext) g1 X V cx))
 have hG:=aa (fun(u D:Edge) (I:Nat→Prop) (s:World) (h:cI w (t.heap.size+1) ob sb al am f N x y E.heap.size t.heap.size (0+aX k+aX k) (fun M=>(True∧bB M ⟨f,192,0,x,y,⟨0,0⟩⟩ u)∧bB M ⟨f,252,0,x,y,⟨0,0⟩⟩ D) I s)=>h.post (k:=k) (j:=⟨f,15,0,x,x,⟨0,0⟩⟩) (fun M M' d5 b0 W=>⟨⟨trivial,W.1.2.ext d5 b0⟩,W.2.ext d5 b0⟩) rfl (fun F M ga cv cx T=>by
  obtain⟨g1,X,V⟩:=d7 M _ T (by omega)
  exact tY k cv f x ((d8 15 x x (by omega) bd.out bd.out bc bc).ext T.ext) g1 X V cx))
 have bw:cI w (t.heap.size+1) ob sb al am f N x y E.heap.size t.heap.size 0 (fun _=>True) (fun _=>False) ((t.alloc (.cells #[.int .u8 y.tag,.int .u32 y.to] 52)).alloc (.cells #[.pointer (some ⟨ob,0,none⟩),.int .u8 f,.bool false] 66)):=by
  have W:ae t ((t.alloc (.cells #[.int .u8 y.tag,.int .u32 y.to] 52)).alloc (.cells #[.pointer (some ⟨ob,0,none⟩),.int .u8 f,.bool false] 66)):=((ae.refl _).alloc _).alloc _;have ph:=aE.cf (t.alloc (.cells #[.int .u8 y.tag,.int .u32 y.to] 52)) (iZ ob f) 66;rw[ak]at ph;have b0:=fg.size;exact⟨⟨b9,N,_,cf.U W,⟨ph,hq,by omega,by omega,by omega⟩,ck.refl c1,trivial,hr,ht,fun _ h=>h.elim,gy⟩,hy.U W,(aE.cf t [.int .u8 y.tag,.int .u32 y.to] 52).U ((ae.refl _).alloc _),fg.trans W,fun _ h=>h.elim,fun _ h=>h.elim,⟨i5,i6,by omega⟩,⟨by omega,by omega,by omega,by omega,by omega,by omega⟩⟩
 have h1:=aa (And.intro d9 (And.intro cy (And.intro bc (And.intro b4 c1))))
 obtain⟨⟨W,b0⟩,b2,b8⟩:y.ok:=d9
 have W:=aa (And.intro fb (And.intro g9 hg))
 clear cf fg gy hy fj hr ht hq gC bt c0 fb cn f1 g9 hg c1 bc b4 d8 d7 cy is io
 go_wp2_with fail
 obtain⟨ah,gP⟩:∃ah,ah=((t.alloc (.cells #[.int .u8 y.tag,.int .u32 y.to] 52)).alloc (.cells #[.pointer (some ⟨ob,0,none⟩),.int .u8 f,.bool false] 66)):=⟨_,rfl⟩
 rw[←gP]at bw ⊢
 clear gP
 have W:=bw.rx.lt
 have W:=bw.ry.lt
 have j0:=bw.rx.cell 0 (.int .u8 x.tag) rfl
 have j1:=bw.rx.cell 1 (.int .u32 x.to) rfl
 have j2:=bw.ry.cell 0 (.int .u8 y.tag) rfl
 have j3:=bw.ry.cell 1 (.int .u32 y.to) rfl
 have W:∀o o':Obj,((ah.alloc o).alloc o').cell? ⟨E.heap.size,0,none⟩=some (.int .u8 x.tag):=fun o o'=>(((ae.refl _).alloc o).alloc o').cell j0
 have W:∀o o':Obj,((ah.alloc o).alloc o').cell? ⟨E.heap.size,1,none⟩=some (.int .u32 x.to):=fun o o'=>(((ae.refl _).alloc o).alloc o').cell j1
 have W:∀o o':Obj,((ah.alloc o).alloc o').cell? ⟨t.heap.size,0,none⟩=some (.int .u8 y.tag):=fun o o'=>(((ae.refl _).alloc o).alloc o').cell j2
 have W:∀o o':Obj,((ah.alloc o).alloc o').cell? ⟨t.heap.size,1,none⟩=some (.int .u32 y.to):=fun o o'=>(((ae.refl _).alloc o).alloc o').cell j3
 have W:E.heap.size<ah.heap.size+1:=by omega
 have W:t.heap.size<ah.heap.size+1:=by omega
 have W:E.heap.size<ah.heap.size+1+1:=by omega
 have W:t.heap.size<ah.heap.size+1+1:=by omega
 have W:ah.heap.size≠E.heap.size:=by omega
 have W:ah.heap.size≠t.heap.size:=by omega
 have W:ah.heap.size+1≠E.heap.size:=by omega
 have W:ah.heap.size+1≠t.heap.size:=by omega
 have W:ah.heap.size+1+1≠E.heap.size:=by omega
 have W:ah.heap.size+1+1≠t.heap.size:=by omega
 go_cut [18,19,20] (fun ah b0 b2 W=>∃(b5 b6 b7:Nat) (u D J:Edge),ah=.pointer (some ⟨b5,0,none⟩)∧b0=.pointer (some ⟨b6,0,none⟩)∧b2=.pointer (some ⟨b7,0,none⟩)∧(u.ok∧D.ok∧J.ok) ∧
   nc w (t.heap.size+1) ob sb al am f N x y E.heap.size t.heap.size (0+aX k+aX k+aX k) (fun M=>((True∧bB M ⟨f,192,0,x,y,⟨0,0⟩⟩ u)∧bB M ⟨f,252,0,x,y,⟨0,0⟩⟩ D)∧bB M ⟨f,15,0,x,x,⟨0,0⟩⟩ J) W ∧
   W.cell? ⟨b5,0,none⟩=some (.int .u8 u.tag)∧W.cell? ⟨b5,1,none⟩=some (.int .u32 u.to)∧W.cell? ⟨b6,0,none⟩=some (.int .u8 D.tag)∧W.cell? ⟨b6,1,none⟩=some (.int .u32 D.to)∧W.cell? ⟨b7,0,none⟩=some (.int .u8 J.tag)∧W.cell? ⟨b7,1,none⟩=some (.int .u32 J.to))
 case first=>
  refine wp_region_held_drew (S:=(fun U=>U.cell? ⟨E.heap.size,0,none⟩=some (.int .u8 x.tag)∧U.cell? ⟨E.heap.size,1,none⟩=some (.int .u32 x.to)∧U.cell? ⟨t.heap.size,0,none⟩=some (.int .u8 y.tag)∧U.cell? ⟨t.heap.size,1,none⟩=some (.int .u32 y.to))) (by kernel_rfl) (by go_keep) (fun W=>?_);refine wpAnyH_take (i:=0) (v:=?_) rfl (by kernel_rfl) (by kernel_rfl) (by kernel_rfl) (fun _ _ _ h=>h) (Or.inl ⟨by rfl,?_⟩) (by assumption) ?_;rotate_left
  ·intro U b3;go_split_ands;go_simp;try with_reducible rfl
  simp only[List.getElem_toArray,List.getElem_cons_succ,List.getElem_cons_zero,Act.put,List.setIfInBounds_toArray,List.set_cons_zero,List.set_cons_succ];refine wpAnyH_take (i:=1) (v:=?_) rfl (by kernel_rfl) (by kernel_rfl) (by kernel_rfl) (fun _ _ _ h=>h) (Or.inl ⟨by rfl,?_⟩) (by assumption) ?_;rotate_left
  ·intro U b3;go_split_ands;go_simp;try with_reducible rfl
  simp only[List.getElem_toArray,List.getElem_cons_succ,List.getElem_cons_zero,Act.put,List.setIfInBounds_toArray,List.set_cons_zero,List.set_cons_succ];refine wpAnyH_take (i:=2) (v:=?_) rfl (by kernel_rfl) (by kernel_rfl) (by kernel_rfl) (fun _ _ _ h=>h) (Or.inl ⟨by rfl,?_⟩) (by assumption) ?_;rotate_left
  ·intro U b3;go_split_ands;go_simp;try with_reducible rfl
  simp only[List.getElem_toArray,List.getElem_cons_succ,List.getElem_cons_zero,Act.put,List.setIfInBounds_toArray,List.set_cons_zero,List.set_cons_succ];refine wpAnyH_take (i:=4) (v:=?_) rfl (by kernel_rfl) (by kernel_rfl) (by kernel_rfl) (fun _ _ _ h=>h) (Or.inl ⟨by rfl,?_⟩) (by assumption) ?_;rotate_left
  ·intro U b3;go_split_ands;go_simp;try with_reducible rfl
  simp only[List.getElem_toArray,List.getElem_cons_succ,List.getElem_cons_zero,Act.put,List.setIfInBounds_toArray,List.set_cons_zero,List.set_cons_succ];refine wpAnyH_take (i:=5) (v:=?_) rfl (by kernel_rfl) (by kernel_rfl) (by kernel_rfl) (fun _ _ _ h=>h) (Or.inl ⟨by rfl,?_⟩) (by assumption) ?_;rotate_left
  ·intro U b3;go_split_ands;go_simp;try with_reducible rfl
  simp only[List.getElem_toArray,List.getElem_cons_succ,List.getElem_cons_zero,Act.put,List.setIfInBounds_toArray,List.set_cons_zero,List.set_cons_succ];refine wpAnyH_take (i:=6) (v:=?_) rfl (by kernel_rfl) (by kernel_rfl) (by kernel_rfl) (fun _ _ _ h=>h) (Or.inl ⟨by rfl,?_⟩) (by assumption) ?_;rotate_left
  ·intro U b3;go_split_ands;go_simp;try with_reducible rfl
  simp only[List.getElem_toArray,List.getElem_cons_succ,List.getElem_cons_zero,Act.put,List.setIfInBounds_toArray,List.set_cons_zero,List.set_cons_succ];refine wpAnyH_take (i:=8) (v:=?_) rfl (by kernel_rfl) (by kernel_rfl) (by kernel_rfl) (fun _ _ _ h=>h) (Or.inl ⟨by rfl,?_⟩) (by assumption) ?_;rotate_left
  ·intro U b3;go_split_ands;go_simp;try with_reducible rfl
  simp only[List.getElem_toArray,List.getElem_cons_succ,List.getElem_cons_zero,Act.put,List.setIfInBounds_toArray,List.set_cons_zero,List.set_cons_succ];refine wpAnyH_take (i:=9) (v:=?_) rfl (by kernel_rfl) (by kernel_rfl) (by kernel_rfl) (fun _ _ _ h=>h) (Or.inl ⟨by rfl,?_⟩) (by assumption) ?_;rotate_left
  ·intro U b3;go_split_ands;go_simp;try with_reducible rfl
  simp only[List.getElem_toArray,List.getElem_cons_succ,List.getElem_cons_zero,Act.put,List.setIfInBounds_toArray,List.set_cons_zero,List.set_cons_succ];have i1:∀i j,i<9→j<9→([3,7,10,11,12,13,14,15,16]:List Nat).getD i 0=([3,7,10,11,12,13,14,15,16]:List Nat).getD j 0→i=j:=fun i j hi W=>(show∀i,i<9→∀j,j<9→([3,7,10,11,12,13,14,15,16]:List Nat).getD i 0=([3,7,10,11,12,13,14,15,16]:List Nat).getD j 0→i=j by decide) i hi j W;have i2:∀i j,i<9→j<9→∀d,([some 87,some 91,some 94,some 18,some 19,some 20,none,none,none]:List (Option Nat)).getD i none=some d→([some 87,some 91,some 94,some 18,some 19,some 20,none,none,none]:List (Option Nat)).getD j none=some d→i=j:=fun i j hi W d d3 ah=>(show∀i,i<9→∀j,j<9→([some 87,some 91,some 94,some 18,some 19,some 20,none,none,none]:List (Option Nat)).getD i none=([some 87,some 91,some 94,some 18,some 19,some 20,none,none,none]:List (Option Nat)).getD j none→(([some 87,some 91,some 94,some 18,some 19,some 20,none,none,none]:List (Option Nat)).getD i none).isSome=true→i=j by decide) i hi j W (d3.trans ah.symm) (by rw[d3];rfl)
  have i3:∀i,i<9→∀x,([some 87,some 91,some 94,some 18,some 19,some 20,none,none,none]:List (Option Nat)).getD i none=some x→x<95:=fun i hi x d3=>by
   have q:=(show∀i,i<9→(([some 87,some 91,some 94,some 18,some 19,some 20,none,none,none]:List (Option Nat)).getD i none).getD 0<95 by decide) i hi;rw[d3]at q;exact q
  have cl:∀(o:Nat→Option Value) (s:World),bp (fun I s=>cI w (t.heap.size+1) ob sb al am f N x y E.heap.size t.heap.size (0) (fun M=>True) I s) (fun u I s=>u.ok∧cI w (t.heap.size+1) ob sb al am f N x y E.heap.size t.heap.size (0+aX k) (fun M=>True∧bB M ⟨f,192,0,x,y,⟨0,0⟩⟩ u) I s) (fun u D I s=>(u.ok∧D.ok)∧cI w (t.heap.size+1) ob sb al am f N x y E.heap.size t.heap.size (0+aX k+aX k) (fun M=>(True∧bB M ⟨f,192,0,x,y,⟨0,0⟩⟩ u)∧bB M ⟨f,252,0,x,y,⟨0,0⟩⟩ D) I s) (fun u D J I s=>(u.ok∧D.ok∧J.ok)∧fy w (t.heap.size+1) ob sb al am f N x y E.heap.size t.heap.size (0+aX k+aX k+aX k) (fun M=>((True∧bB M ⟨f,192,0,x,y,⟨0,0⟩⟩ u)∧bB M ⟨f,252,0,x,y,⟨0,0⟩⟩ D)∧bB M ⟨f,15,0,x,x,⟨0,0⟩⟩ J) I s) o s→s.cell? ⟨E.heap.size,0,none⟩=some (.int .u8 x.tag)∧s.cell? ⟨E.heap.size,1,none⟩=some (.int .u32 x.to)∧s.cell? ⟨t.heap.size,0,none⟩=some (.int .u8 y.tag)∧s.cell? ⟨t.heap.size,1,none⟩=some (.int .u32 y.to):=fun o s h=>
   h.get (fun _ h=>⟨h.rx.cell 0 _ rfl,h.rx.cell 1 _ rfl,h.ry.cell 0 _ rfl,h.ry.cell 1 _ rfl⟩) (fun _ _ h=>⟨h.2.rx.cell 0 _ rfl,h.2.rx.cell 1 _ rfl,h.2.ry.cell 0 _ rfl,h.2.ry.cell 1 _ rfl⟩) (fun _ _ _ h=>⟨h.2.rx.cell 0 _ rfl,h.2.rx.cell 1 _ rfl,h.2.ry.cell 0 _ rfl,h.2.ry.cell 1 _ rfl⟩) (fun _ _ _ _ h=>⟨h.2.rx.cell 0 _ rfl,h.2.rx.cell 1 _ rfl,h.2.ry.cell 0 _ rfl,h.2.ry.cell 1 _ rfl⟩)
  refine Aq 9 0 (fun q=>([3,7,10,11,12,13,14,15,16]:List Nat).getD q 0) (fun q=>([some 87,some 91,some 94,some 18,some 19,some 20,none,none,none]:List (Option Nat)).getD q none) (fun q=>([[],[0],[1],[],[],[],[2,3],[4,6],[5,7]]:List (List Nat)).getD q []) i1 i2 (fun i hi x W=>dz (i3 i hi x W) (Nat.le_of_ble_eq_true (by kernel_rfl))) (by kernel_rfl)
   (bp (fun I s=>cI w (t.heap.size+1) ob sb al am f N x y E.heap.size t.heap.size (0) (fun M=>True) I s) (fun u I s=>u.ok∧cI w (t.heap.size+1) ob sb al am f N x y E.heap.size t.heap.size (0+aX k) (fun M=>True∧bB M ⟨f,192,0,x,y,⟨0,0⟩⟩ u) I s) (fun u D I s=>(u.ok∧D.ok)∧cI w (t.heap.size+1) ob sb al am f N x y E.heap.size t.heap.size (0+aX k+aX k) (fun M=>(True∧bB M ⟨f,192,0,x,y,⟨0,0⟩⟩ u)∧bB M ⟨f,252,0,x,y,⟨0,0⟩⟩ D) I s) (fun u D J I s=>(u.ok∧D.ok∧J.ok)∧fy w (t.heap.size+1) ob sb al am f N x y E.heap.size t.heap.size (0+aX k+aX k+aX k) (fun M=>((True∧bB M ⟨f,192,0,x,y,⟨0,0⟩⟩ u)∧bB M ⟨f,252,0,x,y,⟨0,0⟩⟩ D)∧bB M ⟨f,15,0,x,x,⟨0,0⟩⟩ J) I s)) ?h0 ?hs ?he
  case h0=>exact⟨fun _=>False,fun _ _ _ h=>(by cases h),fun _ _ _ _ _ _ h=>(by cases h),fun _ h=>h.elim,.inl ⟨rfl,rfl,rfl,fun _ _=>rfl,bw.drew⟩⟩
  case hs=>
   intro o s q b' E Q cj bn ab av;have ih:q=0∨q=1∨q=2∨q=3∨q=4∨q=5∨q=6∨q=7∨q=8:=(by omega);rcases ih with rfl|rfl|rfl|rfl|rfl|rfl|rfl|rfl|rfl
   ·obtain⟨I,cB,a1⟩:=Q.hv cj;have cp:=(ab 84 (by decide)).trans (show _=.pointer (some ⟨t.heap.size+1,0,none⟩) by kernel_rfl);have a5:=(ab 85 (by decide)).trans (show _=.agg #[.int .u8 x.tag,.int .u32 x.to] by kernel_rfl);have a':=(ab 86 (by decide)).trans (show _=.agg #[.int .u8 y.tag,.int .u32 y.to] by kernel_rfl);simp only[Act.eval,Array.getD_eq_getD_getElem?]at cp a5 a';clear ab av;show wpOp _ _ _ 3 _ _ _;refine wpOp_step (o:=_) rfl (fun K Z=>?_);rw[ai (by rfl)];go_simp;refine(hD.out I s cB).mono ?_;rintro e a3 ⟨da,rfl,c3,O,-,-,-,-,-,-,-,c4⟩;exact Z _ _ ⟨⟨O.rx.cell 0 _ rfl,O.rx.cell 1 _ rfl,O.ry.cell 0 _ rfl,O.ry.cell 1 _ rfl⟩,_,rfl,a1 da a3 c4 ⟨c3,O⟩⟩
   ·obtain⟨u,I,⟨c6,cB⟩,a1⟩:=Q.hx cj (bn 0 (by decide));have cp:=(ab 88 (by decide)).trans (show _=.pointer (some ⟨t.heap.size+1,0,none⟩) by kernel_rfl);have a5:=(ab 89 (by decide)).trans (show _=.agg #[.int .u8 x.tag,.int .u32 x.to] by kernel_rfl);have a':=(ab 90 (by decide)).trans (show _=.agg #[.int .u8 y.tag,.int .u32 y.to] by kernel_rfl);simp only[Act.eval,Array.getD_eq_getD_getElem?]at cp a5 a';clear ab av;show wpOp _ _ _ 7 _ _ _;refine wpOp_step (o:=_) rfl (fun K Z=>?_);rw[ai (by rfl)];go_simp;refine(hE.out u I s cB).mono ?_;rintro e a3 ⟨da,rfl,c3,O,-,-,-,-,-,-,-,c4⟩;exact Z _ _ ⟨⟨O.rx.cell 0 _ rfl,O.rx.cell 1 _ rfl,O.ry.cell 0 _ rfl,O.ry.cell 1 _ rfl⟩,_,rfl,a1 da a3 c4 ⟨⟨c6,c3⟩,O⟩⟩
   ·obtain⟨u,D,I,⟨⟨c6,fl⟩,cB⟩,a1⟩:=Q.hy cj (bn 1 (by decide));have cp:=(ab 92 (by decide)).trans (show _=.pointer (some ⟨t.heap.size+1,0,none⟩) by kernel_rfl);have a5:=(ab 93 (by decide)).trans (show _=.agg #[.int .u8 x.tag,.int .u32 x.to] by kernel_rfl);simp only[Act.eval,Array.getD_eq_getD_getElem?]at cp a5;clear ab av;show wpOp _ _ _ 10 _ _ _;refine wpOp_step (o:=_) rfl (fun K Z=>?_);rw[ai (by rfl)];go_simp;refine(hG.out u D I s cB).mono ?_;rintro e a3 ⟨da,rfl,c3,O,-,-,-,-,-,-,-,c4⟩;exact Z _ _ ⟨⟨O.rx.cell 0 _ rfl,O.rx.cell 1 _ rfl,O.ry.cell 0 _ rfl,O.ry.cell 1 _ rfl⟩,_,rfl,a1 da a3 c4 ⟨⟨c6,fl,c3⟩,O.fill⟩⟩
   ·have ad:=Q.box (ob:=.cells #[.int .u8 0,.int .u32 0] 52) (q:=3) (.inl rfl) cj (fun _ h=>h.alloc) (fun _ _ h=>⟨h.1,h.2.alloc⟩) (fun _ _ _ h=>⟨h.1,h.2.alloc⟩) (fun _ _ _ _ h=>⟨h.1,h.2.alloc⟩);have hS:=cl _ _ ad;clear ab av Q;show wpOp _ _ _ 11 _ _ _;refine wpOp_step (o:=_) rfl (fun K Z=>?_);rw[ai (by rfl)];go_simp;exact Z _ _ ⟨hS,_,rfl,ad⟩
   ·have ad:=Q.box (ob:=.cells #[.int .u8 0,.int .u32 0] 52) (q:=4) (.inr (.inl rfl)) cj (fun _ h=>h.alloc) (fun _ _ h=>⟨h.1,h.2.alloc⟩) (fun _ _ _ h=>⟨h.1,h.2.alloc⟩) (fun _ _ _ _ h=>⟨h.1,h.2.alloc⟩);have hS:=cl _ _ ad;clear ab av Q;show wpOp _ _ _ 12 _ _ _;refine wpOp_step (o:=_) rfl (fun K Z=>?_);rw[ai (by rfl)];go_simp;exact Z _ _ ⟨hS,_,rfl,ad⟩
   ·have ad:=Q.box (ob:=.cells #[.int .u8 0,.int .u32 0] 52) (q:=5) (.inr (.inr rfl)) cj (fun _ h=>h.alloc) (fun _ _ h=>⟨h.1,h.2.alloc⟩) (fun _ _ _ h=>⟨h.1,h.2.alloc⟩) (fun _ _ _ _ h=>⟨h.1,h.2.alloc⟩);have hS:=cl _ _ ad;clear ab av Q;show wpOp _ _ _ 13 _ _ _;refine wpOp_step (o:=_) rfl (fun K Z=>?_);rw[ai (by rfl)];go_simp;exact Z _ _ ⟨hS,_,rfl,ad⟩
   ·obtain⟨u,D,J,B,I,g0,g1,X,V,a6,⟨c7,a2⟩,a1⟩:=Q.store (q:=3) (.inl rfl) (bn 3 (by decide)) (bn 2 (by decide));have a5:=av 3 18 _ (by decide) rfl V;have a':=av 0 87 _ (by decide) rfl g0;simp only[Act.eval,Array.getD_eq_getD_getElem?]at a5 a';obtain⟨hC,Y⟩:=a2.bz B a6;have f7:=Y.cell 0 _ rfl;have cc:=Y.cell 1 _ rfl;have f8:=Y.frz;have aw:af (fun i=>i=B) s ((s.setCell ⟨B,0,none⟩ (.int .u8 u.tag)).setCell ⟨B,1,none⟩ (.int .u32 u.to)):=iy (P:=fun i=>i=B) rfl (iy (P:=fun i=>i=B) rfl (af.refl _ _) _ _) _ _;have a7:aE ((s.setCell ⟨B,0,none⟩ (.int .u8 u.tag)).setCell ⟨B,1,none⟩ (.int .u32 u.to)) B (dN (ez u D J 3)):=(Y.set (o:=0) (by simp[dN]) _).set (o:=1) (by simp[dN]) _;have bv:=a2.store a6 aw a7;have ad:=a1 (.bool true) _ aw a7 ⟨c7,bv⟩;have hS:=cl _ _ ad;clear ab av Q a1 aw a7 a2 bv Y g0 g1 X V;show wpOp _ _ _ 14 _ _ _;refine wpOp_step (o:=_) rfl (fun K Z=>?_);rw[ai (by rfl)];go_simp;exact Z _ _ ⟨hS,_,rfl,ad⟩
   ·obtain⟨u,D,J,B,I,g0,g1,X,V,a6,⟨c7,a2⟩,a1⟩:=Q.store (q:=4) (.inr (.inl rfl)) (bn 4 (by decide)) (Q.hq (q:=3) (.inl rfl) (bn 6 (by decide)));have a5:=av 4 19 _ (by decide) rfl V;have a':=av 1 91 _ (by decide) rfl g1;simp only[Act.eval,Array.getD_eq_getD_getElem?]at a5 a';obtain⟨hC,Y⟩:=a2.bz B a6;have f7:=Y.cell 0 _ rfl;have cc:=Y.cell 1 _ rfl;have f8:=Y.frz;have aw:af (fun i=>i=B) s ((s.setCell ⟨B,0,none⟩ (.int .u8 D.tag)).setCell ⟨B,1,none⟩ (.int .u32 D.to)):=iy (P:=fun i=>i=B) rfl (iy (P:=fun i=>i=B) rfl (af.refl _ _) _ _) _ _;have a7:aE ((s.setCell ⟨B,0,none⟩ (.int .u8 D.tag)).setCell ⟨B,1,none⟩ (.int .u32 D.to)) B (dN (ez u D J 4)):=(Y.set (o:=0) (by simp[dN]) _).set (o:=1) (by simp[dN]) _;have bv:=a2.store a6 aw a7;have ad:=a1 (.bool true) _ aw a7 ⟨c7,bv⟩;have hS:=cl _ _ ad;clear ab av Q a1 aw a7 a2 bv Y g0 g1 X V;show wpOp _ _ _ 15 _ _ _;refine wpOp_step (o:=_) rfl (fun K Z=>?_);rw[ai (by rfl)];go_simp;exact Z _ _ ⟨hS,_,rfl,ad⟩
   ·obtain⟨u,D,J,B,I,g0,g1,X,V,a6,⟨c7,a2⟩,a1⟩:=Q.store (q:=5) (.inr (.inr rfl)) (bn 5 (by decide)) (Q.hq (q:=4) (.inr (.inl rfl)) (bn 7 (by decide)));have a5:=av 5 20 _ (by decide) rfl V;have a':=av 2 94 _ (by decide) rfl X;simp only[Act.eval,Array.getD_eq_getD_getElem?]at a5 a';obtain⟨hC,Y⟩:=a2.bz B a6;have f7:=Y.cell 0 _ rfl;have cc:=Y.cell 1 _ rfl;have f8:=Y.frz;have aw:af (fun i=>i=B) s ((s.setCell ⟨B,0,none⟩ (.int .u8 J.tag)).setCell ⟨B,1,none⟩ (.int .u32 J.to)):=iy (P:=fun i=>i=B) rfl (iy (P:=fun i=>i=B) rfl (af.refl _ _) _ _) _ _;have a7:aE ((s.setCell ⟨B,0,none⟩ (.int .u8 J.tag)).setCell ⟨B,1,none⟩ (.int .u32 J.to)) B (dN (ez u D J 5)):=(Y.set (o:=0) (by simp[dN]) _).set (o:=1) (by simp[dN]) _;have bv:=a2.store a6 aw a7;have ad:=a1 (.bool true) _ aw a7 ⟨c7,bv⟩;have hS:=cl _ _ ad;clear ab av Q a1 aw a7 a2 bv Y g0 g1 X V;show wpOp _ _ _ 16 _ _ _;refine wpOp_step (o:=_) rfl (fun K Z=>?_);rw[ai (by rfl)];go_simp;exact Z _ _ ⟨hS,_,rfl,ad⟩
  case he=>
   intro o s b' Q g3 ch;obtain⟨u,D,J,b5,b6,b7,j4,j5,j6,I,g0,g1,X,V,gb,gc,d1,d2,gf,ee,el,em,⟨⟨c6,fl,i9⟩,a2⟩⟩:=Q.done g3;have h4:=ee.cell 0 _ rfl;have h5:=ee.cell 1 _ rfl;have h6:=el.cell 0 _ rfl;have h7:=el.cell 1 _ rfl;have h8:=em.cell 0 _ rfl;have h9:=em.cell 1 _ rfl;have hM:=aa a2.hB;simp only[cM,g0,g1,X,V,gb,gc,d1,d2,gf]at ch;clear a2 Q g3 g0 g1 X V gb gc d1 d2 gf ee el em;refine wpAnyH_done (by kernel_rfl) ?_ _;rw[ch];clear ch;simp only[List.getD_cons_zero,List.getD_cons_succ,Act.put,List.setIfInBounds_toArray,List.set_cons_zero,List.set_cons_succ];try go_wp2_with fail
   go_meet;exact⟨b5,b6,b7,u,D,J,rfl,rfl,rfl,⟨c6,fl,i9⟩,hM.out,h4,h5,h6,h7,h8,h9⟩
 case rest=>
  obtain⟨b5,b6,b7,u,D,J,rfl,rfl,rfl,⟨hu,hv,hw⟩,cz,dB,d0,cd,ce,be,bh⟩:=hcut;obtain⟨⟨t,z,E,ba,gz,d6,⟨⟨-,ea⟩,eb⟩,ec⟩,fp,fv,hp⟩:=cz;obtain⟨hl,cy,bc,b4,i7⟩:=h1.out;have c5:z.n=(k:Int):=d6.ext.n.trans cy;have c2:=d6.ext.leads bc;have hk:=d6.ext.leads b4;have f4:bg z f u 0=List.zipWith (cE 192) (bg z f x 0) (bg z f y 0):=lP ea rfl;have f5:bg z f D 0=List.zipWith (cE 252) (bg z f x 0) (bg z f y 0):=lP eb rfl;have f6:bg z f J 0=List.zipWith (cE 15) (bg z f x 0) (bg z f x 0):=lP ec rfl;have ha:(bg z f x 0).length=2 ^ k:=by rw[mN];congr 1;omega
  have cb:=sJ (us:=bg z f x 0) (vs:=bg z f y 0) (by rw[mN,mN]) (2 ^ k);have co:=sI (us:=bg z f x 0) (2 ^ k) (by rw[ha];exact aI _);rw[←f4,←f5]at cb;rw[←f6]at co;have ci:∀v:Edge,v.ok→z.leads f v 0=true→∀s,ae wc s→Calls Tryz.prog 28 #[.pointer (some ⟨sb,0,none⟩),.int .u8 f,.agg #[.int .u8 v.tag,.int .u32 v.to]] s fun e U=>e=.returned (.tuple #[.int .i64 (bU (bg z f v 0) (2 ^ k):Int),.bool true])∧ae s U:=fun v fo fi s T=>uX (ba.a'.U T) f v fo k c5 (by omega) (kB a8.out (by omega) fi);have eS:=ci x bd.out c2;have e0:=ci y hl hk;have eA:=ci u hu ea.lead;have eB:=ci D hv eb.lead;have eR:=ci J hw ec.lead;have hd:=fun(s:World) (T:ae wc s)=>vU (ba.a'.U T) f x bd.out k c5 (by omega) (kB a8.out (by omega) c2);have e7:=fun(s:World) (T:ae wc s)=>vV (ba.a'.U T) f x bd.out k c5 (by omega) (kB a8.out (by omega) c2);have cD:=fun(s:World) (T:ae wc s)=>lE (ba.a'.U T) f x 0 bd.out;rw[kB a8.out (by omega) c2]at cD;simp only[if_true]at cD;have e5:=iY (bg z f x 0) (2 ^ k);have e6:=iY (bg z f y 0) (2 ^ k);have e2:=iY (bg z f u 0) (2 ^ k);have e3:=iY (bg z f D 0) (2 ^ k);have e4:=iY (bg z f J 0) (2 ^ k)
  have O:∀(g:Nat) (s:World),bF s g (cP k (bg z f x 0) (2 ^ k))→Calls Tryz.prog 33 #[.slice (some ⟨g,0,none⟩) (k+1) (k+1)] s fun e U=>e=.returned (.int .i64 (bU (bg z f x 0) (2 ^ k):Int))∧ae s U:=fun g s Q=>by
   have q:=pX (some ⟨g,0,none⟩) (k+1) (2 ^ k) (cP k (bg z f x 0) (2 ^ k)) s Q.d' (by rw[jn];omega) (by have:=b1.out;omega) (fun a3 aw=>oZ k _ _ a3 aw);rw[wM,jn]at q;exact q
  have g7:=pq ba.a'.wf ba.a'.cp [x.to]
  have bt:∀(g:Nat) (s:World),bF s g (dS z k (bV z.cs [x.to]) (bV z.cs [x.to]).length)→Calls Tryz.prog 33 #[.slice (some ⟨g,0,none⟩) k k] s fun e U=>e=.returned (.int .i64 ((bV z.cs [x.to]).length:Int))∧ae s U:=fun g s Q=>by
   have q:=pX (some ⟨g,0,none⟩) k (bV z.cs [x.to]).length _ s Q.d' (by rw[jR];omega) (by omega) (fun a3 aw=>pk z k _ _ a3 aw);rw[xA z k _ (fun id hid=>zG ba.a'.wf (fun id r cz=>ba.a'.b7 cz) c5 hid) _ (aI _),jR]at q;exact q
  obtain⟨ds,gj⟩:∃c,c=bU (bg z f x 0) (2 ^ k):=⟨_,rfl⟩;obtain⟨et,gl⟩:∃c,c=bU (bg z f y 0) (2 ^ k):=⟨_,rfl⟩;obtain⟨cc,g1⟩:∃c,c=bU (bg z f u 0) (2 ^ k):=⟨_,rfl⟩;obtain⟨en,X⟩:∃c,c=bU (bg z f D 0) (2 ^ k):=⟨_,rfl⟩;obtain⟨er,V⟩:∃c,c=bU (bg z f J 0) (2 ^ k):=⟨_,rfl⟩;obtain⟨t,gh⟩:∃c,c=(bV z.cs [x.to]).length:=⟨_,rfl⟩;rw[←gj]at eS O cb co e5;rw[←gl]at e0 cb e6;rw[←g1]at eA cb e2;rw[←X]at eB cb e3;rw[←V]at eR co e4;rw[←gh]at cD bt g7 e7;have e8:=fun(s:World)=>pL k (by omega) s;obtain⟨dl,bi⟩:∃dl,dl=2 ^ k:=⟨_,rfl⟩;rw[←bi]at e8 co;have s:dl≤64:=by rw[bi];exact b1.out.2
  have s:ds≤64:=by rw[←bi]at e5;omega
  have s:et≤64:=by rw[←bi]at e6;omega
  have s:cc≤64:=by rw[←bi]at e2;omega
  have s:en≤64:=by rw[←bi]at e3;omega
  have s:er≤64:=by rw[←bi]at e4;omega
  have s:(ds:Int)≤64:=by omega
  have s:(et:Int)≤64:=by omega
  have s:(cc:Int)≤64:=by omega
  have s:(en:Int)≤64:=by omega
  have s:(er:Int)≤64:=by omega
  have h2:=aa (show(ds:Int)+(et:Int)=(cc:Int)+(en:Int) by omega);have h3:=aa (show((ds:Int)+(er:Int) !=(dl:Int))=false by simp;omega);have hH:=aa eS;have hI:=aa e0;have hJ:=aa eA;have hK:=aa eB;have hL:=aa eR;have hO:=aa hd;have hP:=aa e7;have hY:=aa cD;have hV:=aa O;have hW:=aa bt;have hX:=aa e8;have hN:=aa hp;have s:=gz.row.cell 2 (.bool false) rfl;have ax:=fp.cell 0 (.int .u8 x.tag) rfl;have ay:=fp.cell 1 (.int .u32 x.to) rfl;have f9:=fv.cell 0 (.int .u8 y.tag) rfl;have f':=fv.cell 1 (.int .u32 y.to) rfl;clear eS e0 eA eB eR hd e7 cD O bt e8 hp ba gz d6 ea eb ec fp fv f4 f5 f6 cb co ha ci e5 e6 e2 e3 e4 gj gl g1 X V gh c2 hk c5 i7 bc b4 cy bi hu hv hw hl g7;go_wp2_with fail;refine(hH.out _ kp).mono ?_;rintro e s ⟨rfl,a0⟩;replace f9:=a0.cell f9;replace f':=a0.cell f';replace ax:=a0.cell ax;replace ay:=a0.cell ay;replace dB:=a0.cell dB;replace d0:=a0.cell d0;replace cd:=a0.cell cd;replace ce:=a0.cell ce;replace be:=a0.cell be;replace bh:=a0.cell bh;go_wp2_with fail;refine(hI.out _ kp).mono ?_;rintro e s ⟨rfl,a4⟩;replace dB:=a4.cell dB;replace d0:=a4.cell d0;replace ax:=a4.cell ax;replace ay:=a4.cell ay;replace cd:=a4.cell cd;replace ce:=a4.cell ce;replace be:=a4.cell be;replace bh:=a4.cell bh;go_wp2_with fail;refine(hJ.out _ kp).mono ?_;rintro e s ⟨rfl,bb⟩;replace cd:=bb.cell cd;replace ce:=bb.cell ce;replace ax:=bb.cell ax;replace ay:=bb.cell ay;replace be:=bb.cell be;replace bh:=bb.cell bh;go_wp2_with fail;refine(hK.out _ kp).mono ?_;rintro e s ⟨rfl,s⟩;replace be:=s.cell be;replace bh:=s.cell bh;replace ax:=s.cell ax;replace ay:=s.cell ay;go_wp2_with fail;refine(hL.out _ kp).mono ?_;rintro e s ⟨rfl,s⟩;replace ax:=s.cell ax;replace ay:=s.cell ay;have i':=h2.out;have jp:=h3.out;go_wp2_with (first|(go_at_call 29;refine(hX.out _).mono ?_;rintro e U ⟨rfl,rfl⟩)|fail)
  clear i' jp;refine(hO.out _ kp).mono ?_;rintro e j4 ⟨⟨d1,rfl,-,s⟩,a9⟩;have hT:=aa s;replace ax:=a9.cell ax;replace ay:=a9.cell ay;clear s;go_wp2_with fail;refine(hP.out _ kp).mono ?_;rintro e j5 ⟨⟨d2,rfl,-,s⟩,e1⟩;have hU:=aa s;replace ax:=e1.cell ax;replace ay:=e1.cell ay;clear s;go_wp2_with fail;refine(hY.out _ kp).mono ?_;rintro e j6 ⟨rfl,g8⟩;go_wp2_with fail;refine(hV.out d1 _ (hT.out.U (e1.trans g8))).mono ?_;rintro e s ⟨rfl,i4⟩;go_wp2_with fail;refine(hW.out d2 _ (hU.out.U (g8.trans i4))).mono ?_;rintro e s ⟨rfl,s⟩;go_wp2_with fail;go_ret;exact⟨rfl,by have:=hN.out;(exact kp)⟩
theorem vO (n f a b:Int)(w:World)(_:(Lit.int .i64 n).wf=true)(_:(Lit.int .u8 f).wf=true)(s:(Lit.int .u64 a).wf=true)(t:(Lit.int .u64 b).wf=true) :
  Calls Tryz.prog 6 #[.int .i64 n,.int .u8 f,.int .u64 a,.int .u64 b] w fun e u=>e=.returned (.bool true)∧ae w u:=by
 have u:=wf_u64 s
 have s:=wf_u64 t
 by_cases h:n<0∨6<n∨f<1∨5<f
 ·exact vM n f a b w h
 ·obtain⟨k,rfl⟩:∃k:Nat,n=(k:Int):=⟨n.toNat,by omega⟩;exact vK k f a b w (by omega) (by omega) (by omega) (by omega) (by omega) (by omega) (by omega)
theorem vL (os:Os)(J:os.Started)(H:Type)(enc:TypeId×Value→H) :
  ReturnsInHanded {} Tryz.checked os 6 .any (Rows.meterRulesSpec.pre6 enc Tryz.prog Tryz.f6 Rows.meterRulesRow.domain false) (Rows.meterRulesSpec.post enc Tryz.prog Tryz.f6 false true false false):=by
 refine returnsInHanded_of_change (C:=Tryz.checked) own J (by kernel_rfl) Tryz.func6
  (ChangeSpec.witness6 (enc:=enc) (C:=Tryz.checked) false ⟨#[],#[.int .i64 0,.int .u8 0,.int .u64 0,.int .u64 0],[]⟩ 12 (by kernel_rfl) (by kernel_rfl) (by kernel_rfl) (by kernel_rfl)) ?_
 intro t Y args Z gs before I E J _
 have s:∀(j:Nat) J v,Tryz.f6.params[j]?=some J→args[j]?=some v→Value.okWide Tryz.prog t .any Y J v:=I
 have av:=E
 obtain⟨p,q,D,am,rfl,J,Y⟩:=E
 have u:DataW.TrodAll enc Tryz.prog t 0 (fun _=>true) true Tryz.f6.params.toList args.toList Z p:=D
 rw[Tryz.params6]at u s
 have al:=u
 obtain⟨N,bw,a4,a8,bc,bi,bb,rfl,rfl,h0,aw⟩:=trodAll_cons u
 obtain⟨O,b0,a5,a9,bd,bn,rfl,rfl,rfl,ab,ax⟩:=trodAll_cons aw
 obtain⟨Q,b1,a6,a',be,bt,rfl,rfl,rfl,ad,ay⟩:=trodAll_cons ax
 obtain⟨T,b2,a7,ba,bh,bv,rfl,rfl,rfl,ah,a0⟩:=trodAll_cons ay
 obtain⟨rfl,rfl,rfl⟩:=trodAll_nil a0
 obtain rfl:args=#[N,O,Q,T]:=by cases args;simp_all
 obtain⟨rfl,rfl⟩:=trodVars_none am
 obtain⟨U,rfl,rfl,rfl,a1⟩:=open_int Tryz.underlying3 (s 0 3 N rfl rfl) h0
 obtain⟨V,rfl,rfl,rfl,w1⟩:=open_int Tryz.underlying5 (s 1 5 O rfl rfl) ab
 obtain⟨W,rfl,rfl,rfl,a2⟩:=open_int Tryz.underlying56 (s 2 56 Q rfl rfl) ad
 obtain⟨X,rfl,rfl,rfl,a3⟩:=open_int Tryz.underlying56 (s 3 56 T rfl rfl) ah
 clear D I
 refine(vO U V W X t a1 w1 a2 a3).mono fun e s ⟨he,z⟩=>?_
 subst he
 exact⟨_,rfl,_,_,_,[],_,[],av,trodAll_mk1 (shut_bool Tryz.underlying4 _),qg uW z _ _ _ _ (by kernel_rfl) al,rfl,Below.frame z _,fun h=>by cases h⟩
theorem vN:Rows.meterRulesRow.holds Tryz.pinned (OpenSpec.ofChange Rows.meterRulesSpec):=
 OpenClaim.holds_of_wide 6 Tryz.f6 rfl rfl rfl rfl rfl rfl rfl ⟨rfl,rfl,rfl,rfl,rfl⟩ rfl rfl rfl rfl rfl (by as_aux_lemma=>kernel_rfl) Tryz.func6 (by unfold joinedFacts;(repeat' with_reducible refine Bool.and_eq_true_iff.2 ⟨?_,?_⟩);all_goals as_aux_lemma=>kernel_rfl)
  (of_decide_eq_true (by as_aux_lemma=>kernel_rfl)) (by unfold Func.isWrapper;first|(rw[ai (by decide +kernel)];kernel_rfl)|(rw[ag (by decide +kernel)];exact⟨rfl,rfl⟩))
  (fun os s H enc _=>vL os s H enc)
theorem meterRules_proved:Rows.MeterRulesSaid:=vN
end Go.Proofs.YtafkamlhimkbmaaGreat
