/-
  Proved: the statement SiftAsks, for every input.
-/
import Derived.Test.YtafkamlhimkbmaaGreatPSiftAs
import Derived.Test.YtafkamlhimkbmaaGreatRows
namespace Go.Proofs.YtafkamlhimkbmaaGreat
set_option maxRecDepth 1000000
set_option maxHeartbeats 8000000
set_option linter.unusedSimpArgs false
set_option linter.unusedVariables false
open Go.ChangeShapes Go.WideShapes Go.ChangeAt Go.RowKit
theorem CK (n gr:Int)(t a2 z:Option Addr)(j A q cap2 s cap3:Nat)(w:World)(h:30<j∨n<0∨6<n∨16<q∨3<s) :
  Calls Tryz.prog 7 #[.int .i64 n,.slice t j A,.slice a2 q cap2,.slice z s cap3,.int .i64 gr] w fun e w'=>e=.returned (.bool true)∧ae w w':=by
 have B:30<j∨(¬30<j∧n<0)∨(¬30<j∧¬n<0∧6<n)∨(¬30<j∧¬n<0∧¬6<n∧16<q)∨(¬30<j∧¬n<0∧¬6<n∧¬16<q∧3<s):=by omega
 clear h
 rcases B with j|⟨j,q⟩|⟨j,q,s⟩|⟨j,q,s,t⟩|⟨j,q,s,t,z⟩
 all_goals
  go_enter Tryz.func7,Tryz.ntmps7
  go_wp2_with (first|(go_at_call 8;refine(rI _).mono ?_;rintro e w1 ⟨rfl,E⟩)|fail)
  go_ret
  exact⟨rfl,E⟩
theorem zI (M:St)(j:Int×Edge):∀rs:List (Int×Edge),bh M (rs++[j])=if bh M rs≠0 then bh M rs else if aR j.1=false then 4 else if dX M j.1 j.2 0=false then 1 else 0:=by
 intro rs;induction rs with
 |nil=>rfl
 |cons r rs j=>
  rw[List.cons_append,kh,kh,j];by_cases q:aR r.1=false;·simp[q]
  ·by_cases s:dX M r.1 r.2 0=false;·simp[q,s]
   ·simp[q,s]
theorem sj (M:St)(rs:List (Int×Edge)):bh M rs=0∨bh M rs=1∨bh M rs=4:=by
 induction rs with
 |nil=>exact .inl rfl
 |cons r rs j=>
  rw[kh];split;·exact .inr (.inr rfl)
  ·split;·exact .inr (.inl rfl)
   ·exact j
theorem CI (n gr:Int)(e3 a2 g8:Option Addr)(ed g' av cap2 bp cap3:Nat)(xs:List Rec)(ps:List Int)(rs:List (Int×Edge))(w:World)(he:ed≤30)(db:0≤n)(hf:n≤6)(k2:av≤16)(bn:bp≤3)(hI:jl w e3 ed xs)(j2:ni w a2 av ps)(j4:nj w g8 bp rs) :
  Calls Tryz.prog 7 #[.int .i64 n,.slice e3 ed g',.slice a2 av cap2,.slice g8 bp cap3,.int .i64 gr] w fun e w'=>e=.returned (.bool true)∧ae w w':=by
 obtain⟨hz,hy,-⟩:=j2
 obtain⟨hD,hC⟩:=j4
 obtain⟨eb,dl,d5,d6,d7⟩:=info_parts oI
 obtain⟨ec,dr,d8,d9,ea⟩:=info_parts oH
 have g5:=aa hI
 have b5:=aa hz
 have c5:=aa hy
 have bi:=aa hD
 have ev:=aa hC
 clear hI hz hy hD hC
 go_enter Tryz.func7,Tryz.ntmps7
 go_wp2_with (first|(go_at_call 8;refine(rI _).mono ?_;rintro e w1 ⟨rfl,dB⟩)|fail)
 refine(wA n 2000 e3 ed g' xs _ db (by omega) (by omega) (by omega) (by omega) (g5.out.ad dB)).mono ?_
 rintro e hL ⟨sb,mb,M,kk,rfl,e8,h9,hh,hg⟩
 subst h9
 have T:ae w hL:=dB.trans e8.a4
 have j5:=dB.size
 have ed:=pc a2 cap2 ps hL (c5.out.ad T) (by rw[b5.out];omega)
 rw[b5.out]at ed
 have gb:=aa ed
 have cD:=aa e8
 have hX:=aa (⟨hh,hg⟩:_∧_)
 have ch:=aa T
 clear ed e8 hh hg T dB
 go_wp2_with fail
 refine gb.out.mono ?_
 rintro e bq ⟨a3,cl⟩
 obtain⟨op,hd,cd,code,all,rfl,bf,hn⟩:∃(op:Option Addr) (hd:Int) (cd:List Int) (code all:Int),e=.returned (.tuple #[.pointer op,.int .u8 hd])∧na w bq sb mb op a2 av cap2 gr rs cd code all ∧
   (if aF ps=true then(code=jI M av gr rs∧all=kc M av rs)else(code=2∧all=2)):=by
  by_cases be:aF ps=true
  ·simp only[ah be]at cl ⊢;obtain⟨k3,Fo,rfl,h',e9⟩:=cl;obtain⟨⟨F,G,al,bg,ce,kd,dB⟩,f1⟩:=cD.out;have dB:=ch.out.size;have dB:=f1.size
   have:=vh (w:=w) (cap2:=cap2) (gr:=gr) (rs:=rs) (a2:=a2) (al.ad a3) h' (bg.ad a3) ce (fun k s=>⟨fun L=>by have:=al.lt k L;have:=e9 k s;omega,fun L=>by have:=bg.lt k L;have:=e9 k s;omega⟩) (fun k s=>by
    rcases s with q|q;·have:=kd k q;omega
    ·have:=e9 k q;omega) hX.out.1 hf be (by rw[bi.out];omega) c5.out (ch.out.trans a3)
   rw[b5.out]at this;exact⟨_,_,_,_,_,rfl,this,rfl,rfl⟩
  ·simp only[ag be]at cl ⊢;have:=vl (w:=w) (w0:=bq) (sb:=sb) (mb:=mb) (cap2:=cap2) (gr:=gr) (rs:=rs) c5.out (by rw[b5.out];omega) (ch.out.trans a3) (by simpa using be);rw[b5.out]at this;exact⟨none,1,[],2,2,cl,this,rfl,rfl⟩
 have j6:=a3.size
 obtain⟨⟨F,G,al,bg,-,-,-⟩,f1⟩:=cD.out
 have e9:=fun(f:Int) (j:World)=>BS f j
 have d2:=fun(f:Int) (e:Edge) (dB:e.ok) (j:World) (t:ae bq j)=>Br (bg.ad (a3.trans t)) f e 0 dB
 have g8:=fun(j:World) (t:ae bq j)=>Cd (cD.out.ad (a3.trans t))
 have e8:=fun(j:World) (t:ae bq j) (a:Option Addr) (c:Nat) (dB:fu j a bp (rs.map Prod.snd))=>mM (bg.ad (a3.trans t)) a bp c (rs.map Prod.snd) dB (by omega)
 have e3:=fun(j:World) (t:ae bq j) (a:Option Addr) (c:Nat) (co:cA j a rs) (dB:bh M rs=0)=>tE (al.ad (a3.trans t)) a c rs co (by rw[bi.out];omega) dB
 have ed:=fun(j:World) (t:ae bq j) (a:Option Addr) (c:Nat) (co:cA j a rs) (dB:bh M rs≠0)=>CR (al.ad (a3.trans t)) a c rs co (by rw[bi.out];omega) dB
 rw[bi.out]at e3 ed
 have dB:∀(d:Nat) (f:Int) (e:Edge),rs[d]?=some (f,e)→bh M (rs.take (d+1))=if bh M (rs.take d)≠0 then bh M (rs.take d)else if aR f=false then 4 else if dX M f e 0=false then 1 else 0:=fun d f e b0=>by rw[gT b0,zI]
 have c6:=aa e9
 have c7:=aa d2
 have c9:=aa g8
 have gu:=aa e8
 have g1:=aa e3
 have g0:=aa ed
 have g2:=aa dB
 have gh:=aa bf
 have f6:=aa hn
 have em:=aa (ch.out.trans a3)
 have g':w.heap.size≤bq.heap.size:=by have:=ch.out.size;omega
 have h1:=aa (ev.out.ad em.out)
 clear cl bf hn e9 d2 g8 e8 e3 ed dB al bg f1 a3 gb j6 j5
 obtain⟨S,ih⟩:∃j,j=bq:=⟨bq,rfl⟩
 subst ih
 go_wp2_with fail
 go_loopg [16,17,18,19,20] bp (fun gk a3 bq ch cl dB wr=>∃(d:Nat) (cf cg:Value),a3=cf∧bq=cg∧ch=.int .i64 (bh M (rs.take d))∧cl=.int .i64 (d:Int)∧d+gk=bp∧wr.ownsRow S.heap.size 55 3 cf d ((rs.take d).flatMap cR)∧wr.ownsRow S.heap.size 52 2 cg d ((rs.take d).flatMap (fun r=>ig r.2))∧ae S wr)
 case atStart=>exact⟨0,_,_,rfl,rfl,rfl,rfl,by omega,World.ownsRow_nil _ _ _ _,World.ownsRow_nil _ _ _ _,ae.refl _⟩
 case round=>
  obtain⟨d,cf,cg,rfl,rfl,rfl,rfl,a3,bn,b7,s⟩:=hrel;obtain⟨X,ab,rfl,j'⟩:=dv bn;obtain⟨a1,a7,rfl,a3⟩:=dv b7;have a0:=aa bn;have bt:=aa b7;clear bn b7 j' a3;by_cases jv:d<bp
  ·obtain⟨⟨f,e⟩,b0⟩:∃b,rs[d]?=some b:=⟨_,ar (by rw[bi.out];exact jv)⟩;obtain⟨i2,cb,b,off,rfl,O,I,J⟩:=h1.out d _ b0;have g4:=aa (gT b0);have fD:=g2.out d f e b0;have cp:=sj M (rs.take d);obtain⟨ha,hm⟩:∃c,c=bh M (rs.take d):=⟨_,rfl⟩;rw[←hm]at fD cp ⊢;dsimp only at i2 cb O I J;have kb:=aB O;dsimp only at kb;replace O:=s.cell O;replace I:=s.cell I;replace J:=s.cell J;have a3:=s.size;have al:d+1≤maxLen:=(by unfold maxLen;omega);have bg:(d+1)*12≤140737488355328:=(by omega);have ce:(d+1)*8≤140737488355328:=(by omega);have a4:(Value.slice X d ab).ownBlock≠some b:=fun L=>(by have:=gd a0.out L;omega);have a5:(Value.slice a1 d a7).ownBlock≠some b:=fun L=>(by have:=gd bt.out L;omega);have g9:=lD a0.out bt.out (by decide);have cy:=aa g9;have c8:=aa (fun(j:World) (t:ae S j)=>c7.out f e cb j t);have c':=aa fD;have c1:=aa s;have a3:Hid (∀v:Value,(∃(y:Int),bh M (rs.take (d+1))=y∧v=.int .i64 y)→v=.int .i64 (bh M (rs.take (d+1)))):=aa (by rintro v ⟨y,he,db⟩;rw[he,db]);clear b0 fD hm g9 s
   have hp:∀(y:Int) (N:World),y=bh M (rs.take (d+1))→ae S N→(∀(b1 b2:Value),N.ownsRow S.heap.size 55 3 b1 (d+1) ((rs.take d).flatMap cR++[.int .u8 f,.int .u8 e.tag,.int .u32 e.to])→N.ownsRow S.heap.size 52 2 b2 (d+1) ((rs.take d).flatMap (fun r=>ig r.2)++[.int .u8 e.tag,.int .u32 e.to]) →
     ∃(d':Nat) (cf cg:Value),b1=cf∧b2=cg∧Value.int .i64 y=.int .i64 (bh M (rs.take d'))∧Value.int .i64 ((d:Int)+1)=.int .i64 (d':Int)∧d'+(gk-1)=bp∧N.ownsRow S.heap.size 55 3 cf d' ((rs.take d').flatMap cR)∧N.ownsRow S.heap.size 52 2 cg d' ((rs.take d').flatMap (fun r=>ig r.2))∧ae S N):=fun y N fE jp b1 b2 j0 j1=>by
    refine⟨d+1,b1,b2,rfl,rfl,by rw[fE],by push_cast;rfl,by omega,?_,?_,jp⟩
    ·rw[g4.out,jV];exact j0
    ·rw[g4.out,jV];exact j1
   have cS:=aa hp;clear hp;by_cases bx:ha=0
   ·subst bx;have ad:=c'.out;rw[ag (by simp)]at ad;cases cj:aR f with
    |false=>
     rw[cj]at ad;have A:Hid ((4:Int)=bh M (rs.take (d+1))):=aa (by rw[ad];simp);clear ad c8 c7;go_wp2_with (first|(at_builtin;refine wpList_append_own _ rfl _ _ 31 rfl S.heap.size 55 eb (.agg #[.int .u8 0,.int .u8 0,.int .u32 0]) 3 12 Tryz.underlying31 dl d5 d6 d7 rfl (by decide) (.slice X d ab) d ((rs.take d).flatMap cR) rfl (a0.out.alloc _) ⟨wr.heap.size,0,none⟩ 1 1 [.int .u8 f,.int .u8 e.tag,.int .u32 e.to] rfl rfl (eU _ _ _ _ rfl) (by simp[Value.oneCell']) (by exact al) (by exact bg) (by simp;omega) ?_;intro b1 W bb a8 _;have B:af (fun k=>(Value.slice X d ab).ownBlock=some k) wr W:=af.b8 (by repeat (first|exact af.refl _ _|refine af.alloc ?_ _|refine af.drew ?_)) a8 (fun k s=>.inl s);have O:=B.cellAt a4 O;have I:=B.cellAt a4 I;have J:=B.cellAt a4 J;have b6:=aa B;have a6:=aa bb;have Z:=aa (B.bp (fun k s L=>cy.out k L s) bt.out);have f2:=B.size;clear B bb a8)|(at_builtin;refine wpList_append_own _ rfl _ _ 34 rfl S.heap.size 52 ec (.agg #[.int .u8 0,.int .u32 0]) 2 8 Tryz.underlying34 dr d8 d9 ea rfl (by decide) (.slice a1 d a7) d ((rs.take d).flatMap (fun r=>ig r.2)) rfl (Z.out.alloc _) ⟨W.heap.size,0,none⟩ 1 1 [.int .u8 e.tag,.int .u32 e.to] rfl rfl (eU _ _ _ _ rfl) (by simp[Value.oneCell']) (by exact al) (by exact ce) (by simp;omega) ?_;intro b2 aw bd a' _;have E:af (fun k=>(Value.slice a1 d a7).ownBlock=some k) W aw:=af.b8 (by repeat (first|exact af.refl _ _|refine af.alloc ?_ _|refine af.drew ?_)) a' (fun k s=>.inl s);have O:=E.cellAt a5 O;have I:=E.cellAt a5 I;have J:=E.cellAt a5 J;have b3:=aa (E.bp (fun k s L=>lD a6.out Z.out (by decide) k s L) a6.out);have b4:=aa bd;have am:=aa ((c1.out.new b6.out (fun k T=>gd a0.out T)).new E (fun k T=>gd Z.out T));have f3:=E.size;clear E bd a')|(go_at_call 36;refine(c6.out f _).mono ?_;rw[cj];rintro hc hM ⟨rfl,rfl⟩)|fail)
     go_roundg (gk-1)
     case rel=>exact cS.out _ _ A.out am.out _ _ b3.out b4.out
     case measure=>omega
    |true=>
     rw[cj]at ad;cases d1:dX M f e 0 with
     |false=>
      rw[d1]at ad;have A:Hid ((1:Int)=bh M (rs.take (d+1))):=aa (by rw[ad];simp);clear ad;go_wp2_with (first|(at_builtin;refine wpList_append_own _ rfl _ _ 31 rfl S.heap.size 55 eb (.agg #[.int .u8 0,.int .u8 0,.int .u32 0]) 3 12 Tryz.underlying31 dl d5 d6 d7 rfl (by decide) (.slice X d ab) d ((rs.take d).flatMap cR) rfl (a0.out.alloc _) ⟨wr.heap.size,0,none⟩ 1 1 [.int .u8 f,.int .u8 e.tag,.int .u32 e.to] rfl rfl (eU _ _ _ _ rfl) (by simp[Value.oneCell']) (by exact al) (by exact bg) (by simp;omega) ?_;intro b1 W bb a8 _;have B:af (fun k=>(Value.slice X d ab).ownBlock=some k) wr W:=af.b8 (by repeat (first|exact af.refl _ _|refine af.alloc ?_ _|refine af.drew ?_)) a8 (fun k s=>.inl s);have O:=B.cellAt a4 O;have I:=B.cellAt a4 I;have J:=B.cellAt a4 J;have b6:=aa B;have a6:=aa bb;have Z:=aa (B.bp (fun k s L=>cy.out k L s) bt.out);have f2:=B.size;clear B bb a8)|(at_builtin;refine wpList_append_own _ rfl _ _ 34 rfl S.heap.size 52 ec (.agg #[.int .u8 0,.int .u32 0]) 2 8 Tryz.underlying34 dr d8 d9 ea rfl (by decide) (.slice a1 d a7) d ((rs.take d).flatMap (fun r=>ig r.2)) rfl (Z.out.alloc _) ⟨W.heap.size,0,none⟩ 1 1 [.int .u8 e.tag,.int .u32 e.to] rfl rfl (eU _ _ _ _ rfl) (by simp[Value.oneCell']) (by exact al) (by exact ce) (by simp;omega) ?_;intro b2 aw bd a' _;have E:af (fun k=>(Value.slice a1 d a7).ownBlock=some k) W aw:=af.b8 (by repeat (first|exact af.refl _ _|refine af.alloc ?_ _|refine af.drew ?_)) a' (fun k s=>.inl s);have O:=E.cellAt a5 O;have I:=E.cellAt a5 I;have J:=E.cellAt a5 J;have b3:=aa (E.bp (fun k s L=>lD a6.out Z.out (by decide) k s L) a6.out);have b4:=aa bd;have am:=aa ((c1.out.new b6.out (fun k T=>gd a0.out T)).new E (fun k T=>gd Z.out T));have f3:=E.size;clear E bd a')|(go_at_call 36;refine(c6.out f _).mono ?_;rw[cj];rintro hc hM ⟨rfl,rfl⟩)|(go_at_call 37;refine(c8.out _ (am.out.trans kp)).mono ?_;rw[d1];rintro hb hJ ⟨rfl,i5⟩)|fail)
      go_roundg (gk-1)
      case rel=>exact cS.out _ _ A.out (am.out.trans kp) _ _ (ae.bp (show ae aw _ from kp) b3.out) (ae.bp (show ae aw _ from kp) b4.out)
      case measure=>omega
     |true=>
      rw[d1]at ad;have A:Hid ((0:Int)=bh M (rs.take (d+1))):=aa (by rw[ad];simp);clear ad;go_wp2_with (first|(at_builtin;refine wpList_append_own _ rfl _ _ 31 rfl S.heap.size 55 eb (.agg #[.int .u8 0,.int .u8 0,.int .u32 0]) 3 12 Tryz.underlying31 dl d5 d6 d7 rfl (by decide) (.slice X d ab) d ((rs.take d).flatMap cR) rfl (a0.out.alloc _) ⟨wr.heap.size,0,none⟩ 1 1 [.int .u8 f,.int .u8 e.tag,.int .u32 e.to] rfl rfl (eU _ _ _ _ rfl) (by simp[Value.oneCell']) (by exact al) (by exact bg) (by simp;omega) ?_;intro b1 W bb a8 _;have B:af (fun k=>(Value.slice X d ab).ownBlock=some k) wr W:=af.b8 (by repeat (first|exact af.refl _ _|refine af.alloc ?_ _|refine af.drew ?_)) a8 (fun k s=>.inl s);have O:=B.cellAt a4 O;have I:=B.cellAt a4 I;have J:=B.cellAt a4 J;have b6:=aa B;have a6:=aa bb;have Z:=aa (B.bp (fun k s L=>cy.out k L s) bt.out);have f2:=B.size;clear B bb a8)|(at_builtin;refine wpList_append_own _ rfl _ _ 34 rfl S.heap.size 52 ec (.agg #[.int .u8 0,.int .u32 0]) 2 8 Tryz.underlying34 dr d8 d9 ea rfl (by decide) (.slice a1 d a7) d ((rs.take d).flatMap (fun r=>ig r.2)) rfl (Z.out.alloc _) ⟨W.heap.size,0,none⟩ 1 1 [.int .u8 e.tag,.int .u32 e.to] rfl rfl (eU _ _ _ _ rfl) (by simp[Value.oneCell']) (by exact al) (by exact ce) (by simp;omega) ?_;intro b2 aw bd a' _;have E:af (fun k=>(Value.slice a1 d a7).ownBlock=some k) W aw:=af.b8 (by repeat (first|exact af.refl _ _|refine af.alloc ?_ _|refine af.drew ?_)) a' (fun k s=>.inl s);have O:=E.cellAt a5 O;have I:=E.cellAt a5 I;have J:=E.cellAt a5 J;have b3:=aa (E.bp (fun k s L=>lD a6.out Z.out (by decide) k s L) a6.out);have b4:=aa bd;have am:=aa ((c1.out.new b6.out (fun k T=>gd a0.out T)).new E (fun k T=>gd Z.out T));have f3:=E.size;clear E bd a')|(go_at_call 36;refine(c6.out f _).mono ?_;rw[cj];rintro hc hM ⟨rfl,rfl⟩)|(go_at_call 37;refine(c8.out _ (am.out.trans kp)).mono ?_;rw[d1];rintro hb hJ ⟨rfl,i5⟩)|fail)
      go_roundg (gk-1)
      case rel=>exact cS.out _ _ A.out (am.out.trans kp) _ _ (ae.bp (show ae aw _ from kp) b3.out) (ae.bp (show ae aw _ from kp) b4.out)
      case measure=>omega
   ·have ad:=c'.out;rw[ah bx]at ad;have A:=aa ad.symm;have ca:(ha==0)=false:=(by simpa using bx);clear ad c8 c7;go_wp2_with (first|(at_builtin;refine wpList_append_own _ rfl _ _ 31 rfl S.heap.size 55 eb (.agg #[.int .u8 0,.int .u8 0,.int .u32 0]) 3 12 Tryz.underlying31 dl d5 d6 d7 rfl (by decide) (.slice X d ab) d ((rs.take d).flatMap cR) rfl (a0.out.alloc _) ⟨wr.heap.size,0,none⟩ 1 1 [.int .u8 f,.int .u8 e.tag,.int .u32 e.to] rfl rfl (eU _ _ _ _ rfl) (by simp[Value.oneCell']) (by exact al) (by exact bg) (by simp;omega) ?_;intro b1 W bb a8 _;have B:af (fun k=>(Value.slice X d ab).ownBlock=some k) wr W:=af.b8 (by repeat (first|exact af.refl _ _|refine af.alloc ?_ _|refine af.drew ?_)) a8 (fun k s=>.inl s);have O:=B.cellAt a4 O;have I:=B.cellAt a4 I;have J:=B.cellAt a4 J;have b6:=aa B;have a6:=aa bb;have Z:=aa (B.bp (fun k s L=>cy.out k L s) bt.out);have f2:=B.size;clear B bb a8)|(at_builtin;refine wpList_append_own _ rfl _ _ 34 rfl S.heap.size 52 ec (.agg #[.int .u8 0,.int .u32 0]) 2 8 Tryz.underlying34 dr d8 d9 ea rfl (by decide) (.slice a1 d a7) d ((rs.take d).flatMap (fun r=>ig r.2)) rfl (Z.out.alloc _) ⟨W.heap.size,0,none⟩ 1 1 [.int .u8 e.tag,.int .u32 e.to] rfl rfl (eU _ _ _ _ rfl) (by simp[Value.oneCell']) (by exact al) (by exact ce) (by simp;omega) ?_;intro b2 aw bd a' _;have E:af (fun k=>(Value.slice a1 d a7).ownBlock=some k) W aw:=af.b8 (by repeat (first|exact af.refl _ _|refine af.alloc ?_ _|refine af.drew ?_)) a' (fun k s=>.inl s);have O:=E.cellAt a5 O;have I:=E.cellAt a5 I;have J:=E.cellAt a5 J;have b3:=aa (E.bp (fun k s L=>lD a6.out Z.out (by decide) k s L) a6.out);have b4:=aa bd;have am:=aa ((c1.out.new b6.out (fun k T=>gd a0.out T)).new E (fun k T=>gd Z.out T));have f3:=E.size;clear E bd a')|fail)
    go_roundg (gk-1)
    case rel=>exact cS.out _ _ A.out am.out _ _ b3.out b4.out
    case measure=>omega
  ·obtain rfl:d=bp:=(by omega);have hH:rs.take d=rs:=ic (by rw[bi.out];omega)
   have cb:∀r∈rs,(0≤r.1∧r.1≤255)∧r.2.ok:=fun r co=>by
    obtain⟨i,hi⟩:=List.mem_iff_getElem?.1 co;exact⟨(ev.out i r hi).1,(ev.out i r hi).2.1⟩
   have bn:=a0.out;have b7:=bt.out;rw[hH]at bn b7 ⊢;have ds:=fun(j:World) (t:ae wr j)=>B4 bn bi.out.symm (t.av (fun _=>False)) (fun _ h=>h.elim) cb;have hr:∀(j:World),ae wr j→fu j a1 d (rs.map Prod.snd):=fun j t=>⟨by rw[fy,bi.out],xA b7 bi.out.symm (t.av (fun _=>False)) (fun _ h=>h.elim) cb⟩
   have hk:∀b off,X=some ⟨b,off,none⟩→S.heap.size≤b:=fun b off e=>by
    rcases bn.2 with⟨e7,d3⟩|⟨L,B,E,e7,i1,_⟩
    ·cases e7;cases e
    ·cases e7;cases e;exact i1
   have hw:=qu bn;have cp:=sj M rs;obtain⟨own,cc⟩:∃c,c=bh M rs:=⟨_,rfl⟩
   have ka:∃b9:Int,(own≠0→b9=0)∧(own=0→b9=((aU M.cs ((rs.map Prod.snd).map Edge.to)).length:Int))∧∀j,ae wr j→Calls Tryz.prog 19 #[.pointer (some ⟨sb,0,none⟩),.slice X d ab] j fun e w'=>e=.returned (.tuple #[.int .i64 b9,.int .u8 own])∧ae j w':=by
    by_cases br:own=0
    ·refine⟨_,fun h=>absurd br h,fun _=>rfl,fun j t=>?_⟩;have:=g1.out j (s.trans t) X ab (ds j t) (by rw[←cc];exact br);rw[br];exact this
    ·refine⟨0,fun _=>rfl,fun h=>absurd h br,fun j t=>?_⟩;have:=g0.out j (s.trans t) X ab (ds j t) (by rw[←cc];exact br);rw[←cc]at this;exact this
   obtain⟨b9,hj,fb,hG⟩:=ka;obtain⟨b8,e'⟩:∃b8,b8=(aU M.cs ((rs.map Prod.snd).map Edge.to)).length:=⟨_,rfl⟩;rw[←e']at fb
   have hB:∀j,ae wr j→Calls Tryz.prog 38 #[.pointer (some ⟨mb,0,none⟩),.slice a1 d a7] j fun e w'=>∃e2 e4,e=.returned (.slice e2 b8 e4)∧ae j w':=fun j t=>(gu.out j (s.trans t) a1 a7 (hr j t)).mono (by
    rintro e w' ⟨v,rfl,⟨e2,e4,rfl,-⟩,i4⟩;rw[←e']
    exact⟨e2,e4,rfl,i4⟩)
   rw[←cc]at cp ⊢;have g3:=aa hG;have gj:=aa hB;have c0:=aa ds;have er:=aa (⟨hk,hw⟩:_∧_);have hZ:=aa cc;have eS:=aa (⟨hj,fb⟩:_∧_);have gv:=aa cp;have c4:=aa s;have fv:=fun(j:World) (t:ae w j)=>sV a2 cap2 ps j (c5.out.ad t) (by rw[b5.out];omega);rw[b5.out]at fv;have gx:=aa fv;obtain⟨g6,ii⟩:∃j,j=wr:=⟨wr,rfl⟩;subst ii;obtain⟨bs,fs⟩:∃n,n=M.n:=⟨_,rfl⟩;rw[←fs]at db hf ⊢;have hY:=aa fs;clear bn b7 hH cb ds hr hk hw cc hj fb hG hB e' fv gu g1 g0 g2 c6 c7 a0 bt cD g5 s cp fs;go_upto_region 23 with(first|(go_at_call 19;refine(g3.out _ kp).mono ?_;rintro s W ⟨rfl,i9⟩)|fail)
   go_cut [150] (fun s N=>s=.bool false∧ae W N)
   case first=>
    by_cases br:own=0
    ·subst br;have d3:b9=(b8:Int):=eS.out.2 rfl;subst d3;have j3:((b8:Int) !=(b8:Int))=false:=by simp
     go_wp2_with (first
      |(go_at_call 38;refine(gj.out _ kp).mono ?_;rintro k0 k4 ⟨kr,kE,rfl,s⟩)
      |(go_at_call 39;refine(c9.out _ (c4.out.trans kp)).mono ?_;rintro h8 aw ⟨rfl,i'⟩)
      |fail)
     go_meet;exact⟨rfl,kp⟩
    ·have d3:b9=0:=eS.out.1 br;subst d3;have j3:(own==0)=false:=(by simpa using br);have s:(own != own)=false:=(by simp);have d2:0≤own∧own≤255:=by rcases gv.out with h|h|h<;>omega
     obtain⟨s,B⟩:=d2
     go_wp2_with (first
      |(go_at_call 39;refine(c9.out _ (c4.out.trans kp)).mono ?_;rintro h8 aw ⟨rfl,i'⟩)
      |fail)
     go_meet;exact⟨rfl,kp⟩
   case rest=>
    as_aux_lemma=>
    obtain⟨rfl,U⟩:=hcut;have hS:=aa U;have hs:ae g6 wc:=(show ae g6 W from kp).trans U;have c3:=aa hs;obtain⟨e0,fa⟩:∃j,j=wc:=⟨wc,rfl⟩;subst fa;obtain⟨I,dj⟩:∃c:Int,c=if gr<0∨1000<gr then 1 else own:=⟨_,rfl⟩;obtain⟨J,dk⟩:∃c:Int,c=if 5<bs then 12 else own:=⟨_,rfl⟩
    have ca:code=(if aF ps=true then(if bs≠(av:Int)then 1 else I)else 2)∧all=(if aF ps=true then(if bs≠(av:Int)then 1 else J)else 2):=by
     have h:=f6.out;by_cases be:aF ps=true
     ·rw[ah be]at h;rw[ah be,ah be,h.1,h.2,dj,dk,hZ.out];unfold jI kc;rw[←hY.out];exact⟨rfl,rfl⟩
     ·rw[ag be]at h;rw[ag be,ag be];exact h
    have ho:(0≤code∧code≤12)∧(0≤all∧all≤12):=by
     have h:=gv.out;rw[ca.1,ca.2,dj,dk];refine⟨⟨?_,?_⟩,?_,?_⟩<;>(repeat' split)<;>omega
    obtain⟨e5,fi⟩:∃c:Int,c=if bs≠(av:Int)then 1 else I:=⟨_,rfl⟩;obtain⟨e6,fj⟩:∃c:Int,c=if bs≠(av:Int)then 1 else J:=⟨_,rfl⟩;rw[←fi,←fj]at ca;have cE:=aa ca;have f4:=aa dj;have ee:=aa dk;have eg:=aa fi;have ek:=aa fj;have hN:=aa ho;clear ca dj dk fi fj ho U hS i9 g3 gj eS f6 hs;obtain⟨bw,fl⟩:∃bw:Bool,bw=decide (gr<0∨1000<gr):=⟨_,rfl⟩;have hl:I=if bw=true then 1 else own:=(by rw[f4.out,fl];simp);have f5:=aa hl;have el:=aa fl;clear hl fl;go_upto_region 26 with fail
    go_cut [158] (fun s N=>s=.bool bw∧ae e0 N)
    case first=>
     by_cases Y:gr<0
     ·have z:true=bw:=(by rw[el.out];simp[Y]);have A:=aa z;clear z;go_wp2_with fail;go_meet;exact⟨congrArg Value.bool A.out,kp⟩
     ·by_cases da:1000<gr
      ·have z:true=bw:=(by rw[el.out];simp[da]);have A:=aa z;clear z;go_wp2_with fail;go_meet;exact⟨congrArg Value.bool A.out,kp⟩
      ·have z:false=bw:=(by rw[el.out];simp[Y,da]);have A:=aa z;clear z;go_wp2_with fail;go_meet;exact⟨congrArg Value.bool A.out,kp⟩
    case rest=>
    as_aux_lemma=>
    obtain⟨rfl,ht⟩:=hcut;have c3:=aa (c3.out.trans ht);obtain⟨e0,fa⟩:∃j,j=wc:=⟨wc,rfl⟩;subst fa;clear ht;go_upto_if 158 with fail
    go_cut [23] (fun cv N=>cv=.int .i64 I∧ae e0 N)
    case first=>
     cases bw with
     |true=>
      have z:(1:Int)=I:=(by rw[f5.out];simp);have A:=aa z;clear z;go_wp2_with fail;go_meet;exact⟨congrArg (Value.int .i64) A.out,kp⟩
     |false=>
      have z:own=I:=(by rw[f5.out];simp);have A:=aa z;clear z;go_wp2_with fail;go_meet;exact⟨congrArg (Value.int .i64) A.out,kp⟩
    case rest=>
     as_aux_lemma=>
     obtain⟨rfl,U⟩:=hcut;have f9:=aa (c3.out.trans U);obtain⟨h4,io⟩:∃j,j=wc:=⟨wc,rfl⟩;subst io;clear U c3;go_upto_if 160 with fail
     go_cut [24] (fun cx N=>cx=.int .i64 J∧ae h4 N)
     case first=>
      by_cases Y:5<bs
      ·have z:(12:Int)=J:=(by rw[ee.out,ah Y]);have A:=aa z;clear z;go_wp2_with fail;go_meet;exact⟨congrArg (Value.int .i64) A.out,kp⟩
      ·have z:own=J:=(by rw[ee.out,ag Y]);have A:=aa z;clear z;go_wp2_with fail;go_meet;exact⟨congrArg (Value.int .i64) A.out,kp⟩
     case rest=>
      as_aux_lemma=>
      obtain⟨rfl,U⟩:=hcut;have f':=aa (f9.out.trans U);obtain⟨h5,iq⟩:∃j,j=wc:=⟨wc,rfl⟩;subst iq;clear U f9;go_upto_if 164 with fail
      go_cut [23,24] (fun cv cx N=>cv=.int .i64 e5∧cx=.int .i64 e6∧ae h5 N)
      case first=>
       by_cases Y:bs=(av:Int)
       ·have z:I=e5∧J=e6:=(by rw[eg.out,ek.out,ag (by simpa using Y),ag (by simpa using Y)];exact⟨rfl,rfl⟩);have A:=aa z;have i3:((av:Int) != bs)=false:=(by simp[Y]);clear z Y;go_wp2_with fail;go_meet;exact⟨congrArg (Value.int .i64) A.out.1,congrArg (Value.int .i64) A.out.2,kp⟩
       ·have z:(1:Int)=e5∧(1:Int)=e6:=(by rw[eg.out,ek.out,ah Y,ah Y];exact⟨rfl,rfl⟩);have A:=aa z;have i3:((av:Int) != bs)=true:=(by simp;exact fun e=>Y e.symm);clear z Y;go_wp2_with fail;go_meet;exact⟨congrArg (Value.int .i64) A.out.1,congrArg (Value.int .i64) A.out.2,kp⟩
      case rest=>
       as_aux_lemma=>
       obtain⟨rfl,rfl,U⟩:=hcut;have am:=aa (f'.out.trans U);obtain⟨e1,is⟩:∃j,j=wc:=⟨wc,rfl⟩;subst is;clear U f' f4 ee eg ek;have fp:ae w e1:=(em.out.trans c4.out).trans am.out;have hT:=aa fp;have fx:=gx.out e1 fp;obtain⟨f0,hx⟩:∃f0,f0=aF ps:=⟨_,rfl⟩;rw[←hx]at fx cE;have h2:=aa fx;clear fx fp gx hx;go_upto_if 167 with(first|(go_at_call 9;refine h2.out.mono ?_;rintro hb hJ ⟨rfl,rfl⟩)|fail)
       go_cut [23,24] (fun cv cx N=>cv=.int .i64 code∧cx=.int .i64 all∧ae e1 N)
       case first=>
        cases f0 with
        |true=>
         have z:=cE.out;rw[ah rfl,ah rfl]at z;have A:=aa z;clear z;go_wp2_with fail;go_meet;exact⟨congrArg (Value.int .i64) A.out.1.symm,congrArg (Value.int .i64) A.out.2.symm,kp⟩
        |false=>
         have z:=cE.out;rw[ag (by simp),ag (by simp)]at z;have A:=aa z;clear z;go_wp2_with fail;go_meet;exact⟨congrArg (Value.int .i64) A.out.1.symm,congrArg (Value.int .i64) A.out.2.symm,kp⟩
       case rest=>
        as_aux_lemma=>
        obtain⟨rfl,rfl,U⟩:=hcut;have ci:=aa (am.out.trans U);obtain⟨bv,it⟩:∃j,j=wc:=⟨wc,rfl⟩;subst it;have bD:=c4.out.trans ci.out;have bf:=gh.out;have fr:=fun(h:all≠0) (j:World) (t:ae bv j)=>bf.e1 h X ab j (bD.trans t) (c0.out j (ci.out.trans t));have fz:=fun(h:code≠0) (j:World) (t:ae bv j)=>bf.h3 h X ab j (bD.trans t) (c0.out j (ci.out.trans t));have ft:=fun(h:code=0) (j:World) (t:ae bv j)=>bf.ok h X ab j (bD.trans t) (c0.out j (ci.out.trans t)) er.out.1 er.out.2;have hA:=fun(j:World) (t:ae bv j)=>bf.perm j (bD.trans t);have hv:=fun(j:World) (t:ae bv j)=>bf.hT j (bD.trans t);have hE:=fun(j:World) (t:ae bv j)=>c9.out j (bD.trans t);have hint:=fun(x y:Option Addr) (s t:Nat) (j:World) (b0:bH j x cd) (fE:bH j y cd)=>yH x y s t cd cd j b0 fE (by have:=bf.hg;omega) (by have:=bf.hg;omega);simp only[decide_true]at hint;rw[bi.out]at fr fz ft;have hu:ae w bv:=em.out.trans bD;have ga:=aa fr;have eR:=aa fz;have et:=aa ft;have h0:=aa hA;have hW:=aa hv;have gC:=aa hE;have hQ:=aa hint;have hU:=aa hu;obtain⟨⟨z,A⟩,s,t⟩:=hN.out;clear U am cE bD bf fr fz ft hA hv hE hint hu gh er c0 c9 ci hT;go_upto_if 169 with fail
        go_cut [10,25,26] (fun s s s N=>ae bv N)
        case first=>
         by_cases fg:all=0
         ·subst fg;go_wp2_with fail;go_meet;exact ae.refl _
         ·have Y:(all != 0)=true:=(by simpa using fg);have da:(all != all)=false:=(by simp);have hV:=aa (ga.out fg);go_wp2_with fail;refine(hV.out _ (ae.refl _)).mono ?_;rintro s kf ⟨rfl,s⟩;have h3:=aa (gC.out kf s);have hR:=aa s;clear s;go_wp2_with fail;refine h3.out.mono ?_;rintro s s ⟨rfl,i6⟩;go_wp2_with fail;go_meet;exact hR.out.trans i6
        case rest=>
         as_aux_lemma=>
         have U:=hcut;have ep:=aa U;obtain⟨g7,i0⟩:∃j,j=wc:=⟨wc,rfl⟩;subst i0;clear ga U;by_cases bx:code=0
         ·have gc:=aa (et.out bx g7 ep.out);subst bx;clear eR et;go_wp2_with fail;refine gc.out.mono ?_;rintro h6 hK ⟨k1,rfl,cn,j⟩;have c':=aa (j hK (ae.refl _));have c2:=aa cn;clear j cn gc;go_wp2_with fail;refine c'.out.mono ?_;rintro h7 ki ⟨rfl,d0⟩;go_wp2_with fail;go_ret;exact⟨rfl,c2.out.trans d0⟩
         ·have Y:(code != 0)=true:=(by simpa using bx);have da:(code==code)=true:=(by simp);have gB:=aa (eR.out bx g7 ep.out);clear eR et;go_wp2_with fail;refine gB.out.mono ?_;rintro h6 hK ⟨rfl,cn⟩;have c2:=aa (ep.out.trans cn);clear cn gB;go_wp2_with fail;refine(gC.out _ c2.out).mono ?_;rintro h7 ki ⟨rfl,d0⟩;have f7:=aa (c2.out.trans d0);clear d0;go_wp2_with fail;refine(h0.out _ f7.out).mono ?_;rintro j j ⟨kl,kt,rfl,j,s⟩;have f8:=aa (f7.out.trans s);have hO:=aa j;clear s j;go_wp2_with fail;refine(hW.out _ f8.out).mono ?_;rintro j j ⟨kq,kw,rfl,hq,rfl⟩;have hP:=aa hq;clear hq;go_wp2_with fail;refine(hQ.out _ _ _ _ _ hO.out hP.out).mono ?_;rintro j j ⟨rfl,i7⟩;go_wp2_with fail;go_ret;exact⟨rfl,hU.out.trans (f8.out.trans i7)⟩
theorem CM (n:Int)(t:Option Addr)(j A:Nat)(xs:List Rec)(a2:Option Addr)(q cap2:Nat)(ps:List Int)(z:Option Addr)(s cap3:Nat)(rs:List (Int×Edge))(gr:Int)(w:World)(_:(Lit.int .i64 n).wf=true)(I:jl w t j xs)(B:ni w a2 q ps)(E:nj w z s rs)(_:(Lit.int .i64 gr).wf=true) :
  Calls Tryz.prog 7 #[.int .i64 n,.slice t j A,.slice a2 q cap2,.slice z s cap3,.int .i64 gr] w fun e w'=>e=.returned (.bool true)∧ae w w':=by
 by_cases h:30<j∨n<0∨6<n∨16<q∨3<s
 ·exact CK n gr t a2 z j A q cap2 s cap3 w h
 ·exact CI n gr t a2 z j A q cap2 s cap3 xs ps rs w (by omega) (by omega) (by omega) (by omega) (by omega) I B E
theorem CJ (os:Os)(E:os.Started)(H:Type)(enc:TypeId×Value→H) :
  ReturnsInHanded {} Tryz.checked os 7 .any (Rows.siftAsksSpec.pre6 enc Tryz.prog Tryz.f7 Rows.siftAsksRow.domain false) (Rows.siftAsksSpec.post enc Tryz.prog Tryz.f7 false true false false):=by
 refine returnsInHanded_of_change (C:=Tryz.checked) own E (by kernel_rfl) Tryz.func7
  (ChangeSpec.witness6 (enc:=enc) (C:=Tryz.checked) false ⟨#[],#[.int .i64 0,.slice none 0 0,.slice none 0 0,.slice none 0 0,.int .i64 0],[]⟩ 12 (by kernel_rfl) (by kernel_rfl) (by kernel_rfl) (by kernel_rfl)) ?_
 intro q Y args ab gs before B A E _
 have j:∀(E:Nat) I v,Tryz.f7.params[E]?=some I→args[E]?=some v→Value.okWide Tryz.prog q .any Y I v:=B
 have a3:=A
 obtain⟨p,b8,z,a1,rfl,E,I⟩:=A
 have s:DataW.TrodAll enc Tryz.prog q 0 (fun _=>true) true Tryz.f7.params.toList args.toList ab p:=z
 rw[Tryz.params7]at s j
 have a0:=s
 obtain⟨J,ce,br,bw,b3,b9,b2,rfl,rfl,ad,a8⟩:=trodAll_cons s
 obtain⟨L,cf,bs,bx,b4,ca,rfl,rfl,rfl,al,a'⟩:=trodAll_cons a8
 obtain⟨N,cg,bt,bD,b5,cb,rfl,rfl,rfl,am,bb⟩:=trodAll_cons a'
 obtain⟨O,ch,bv,b0,b6,cc,rfl,rfl,rfl,av,bd⟩:=trodAll_cons bb
 obtain⟨S,ci,d4,b1,b7,cd,rfl,rfl,rfl,aw,be⟩:=trodAll_cons bd
 obtain⟨rfl,rfl,rfl⟩:=trodAll_nil be
 obtain rfl:args=#[J,L,N,O,S]:=by cases args;simp_all
 obtain⟨rfl,rfl⟩:=trodVars_none a1
 obtain⟨T,rfl,rfl,rfl,w0⟩:=open_int Tryz.underlying3 (j 0 3 J rfl rfl) ad
 obtain⟨U,a5,Z,rfl⟩:=okWide_slice Tryz.underlying77 (j 1 77 L rfl rfl)
 obtain⟨bf,w1⟩:=Ai al
 obtain⟨a2,a6,cap2,rfl⟩:=okWide_slice Tryz.underlying22 (j 2 22 N rfl rfl)
 obtain⟨bg,bn⟩:=Ah am
 obtain⟨W,a7,cap3,rfl⟩:=okWide_slice Tryz.underlying78 (j 3 78 O rfl rfl)
 obtain⟨bi,bp⟩:=Aj av
 obtain⟨X,rfl,rfl,rfl,bq⟩:=open_int Tryz.underlying3 (j 4 3 S rfl rfl) aw
 clear z B
 refine(CM T U a5 Z bf a2 a6 cap2 bg W a7 cap3 bi X q w0 w1 bn bp bq).mono fun e W' ⟨a4,t⟩=>?_
 subst a4
 exact⟨_,rfl,_,_,_,[],_,[],a3,trodAll_mk1 (shut_bool Tryz.underlying4 _),uc zg t _ _ _ _ (by kernel_rfl) a0,rfl,Below.frame t _,fun h=>by cases h⟩
theorem CL:Rows.siftAsksRow.holds Tryz.pinned (OpenSpec.ofChange Rows.siftAsksSpec):=
 OpenClaim.holds_of_wide 7 Tryz.f7 rfl rfl rfl rfl rfl rfl rfl ⟨rfl,rfl,rfl,rfl,rfl⟩ rfl rfl rfl rfl rfl (by as_aux_lemma=>kernel_rfl) Tryz.func7 (by unfold joinedFacts;(repeat' with_reducible refine Bool.and_eq_true_iff.2 ⟨?_,?_⟩);all_goals as_aux_lemma=>kernel_rfl)
  (of_decide_eq_true (by as_aux_lemma=>kernel_rfl)) (by unfold Func.isWrapper;first|(rw[ah (by decide +kernel)];kernel_rfl)|(rw[ag (by decide +kernel)];exact⟨rfl,rfl⟩))
  (fun os j H enc _=>CJ os j H enc)
theorem siftAsks_proved:Rows.SiftAsksSaid:=CL
end Go.Proofs.YtafkamlhimkbmaaGreat
