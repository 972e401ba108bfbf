/-
  nat.Add.
-/
import Derived.Test.YtpgcbmbnognieaaGreatPDigA
namespace Go.Proofs.YtpgcbmbnognieaaGreat
set_option linter.unusedSimpArgs false
set_option linter.unusedVariables false
set_option maxHeartbeats 600000
open Go.RowKit

theorem add64_run (x y c:Int) (hx:0 ≤ x) (hy:0 ≤ y) (hc0:0 ≤ c) (hc:c ≤ 1) (w:World):(callFunc 243 #[.int .u64 x,.int .u64 y,.int .u64 c]).run Tryz.prog w=.ok (.value (.tuple #[.int .u64 ((x + y + c) % 18446744073709551616),.int .u64 ((x + y + c) / 18446744073709551616)])) w:=by
 rw [run_callFunc_extern Tryz.func243 (by kernel_rfl) (by kernel_rfl) (by kernel_rfl) (e:=add64Entry) (by kernel_rfl),run_add64 x y c hx hy hc0 hc]
 rfl

theorem add64_hid (x y c:Int) (hx:0 ≤ x) (hy:0 ≤ y) (hc0:0 ≤ c) (hc:c ≤ 1):∃ s k:Int,(∀ w,(callFunc 243 #[.int .u64 x,.int .u64 y,.int .u64 c]).run Tryz.prog w=.ok (.value (.tuple #[.int .u64 s,.int .u64 k])) w) ∧ s=(x + y + c) % B64 ∧ k=(x + y + c) / B64:=
 ⟨_,_,add64_run x y c hx hy hc0 hc,rfl,rfl⟩

theorem word_at {w:World} {a:Option Addr} {ws:List Int} (h:WordsAt w a ws) (i:Nat) (hi:i < ws.length):∃ x b off,ws[i]?=some x ∧ 0 ≤ x ∧ x < 2 ^ 64 ∧ a=some ⟨b,off,none⟩ ∧ w.cell? ⟨b,off + i,none⟩=some (.int .u64 x):=by
 obtain ⟨x,hx⟩:∃ x,ws[i]?=some x:=⟨_,List.getElem?_eq_getElem hi⟩
 obtain ⟨h1,b,off,ha,hc⟩:=h i x hx
 exact ⟨x,b,off,hx,h1.1,h1.2,ha,hc⟩

set_option maxRecDepth 100000 in
set_option maxHeartbeats 400000 in
theorem nadd_calls {lo lo' u v:Nat} {x y:Value} {w:World} (hx:NatV lo w u x) (hy:NatV lo' w v y) (hu:(natW B64 u).length ≤ 32) (hv:(natW B64 v).length ≤ 32) :
  Calls Tryz.prog 240 #[x,y] w fun e w'=>∃ z,e=.returned (.tuple #[z,.bool true]) ∧ NatV w.heap.size w' (u + v) z ∧ Keeps w w':=by
 obtain ⟨j0,hj,jz0,jz1,jz2⟩:=info_parts info_u64
 -- the greater one first
 have main:∀ u1 v1:Nat,u1 + v1=u + v → (natW B64 v1).length ≤ (natW B64 u1).length → (natW B64 u1).length ≤ 32 →
   ((∃ hlt:¬ ((natW B64 u1).length:Int) < ((natW B64 v1).length:Int),Calls Tryz.prog 241 #[x,y] w fun e w'=>∃ x' y',e=.returned (.tuple #[x',y',.bool true]) ∧ NatV w.heap.size w' u1 x' ∧ NatV w.heap.size w' v1 y' ∧ Keeps w w') ∨
    (∃ hlt:((natW B64 v1).length:Int) < ((natW B64 u1).length:Int),Calls Tryz.prog 241 #[x,y] w fun e w'=>∃ x' y',e=.returned (.tuple #[x',y',.bool true]) ∧ NatV w.heap.size w' v1 x' ∧ NatV w.heap.size w' u1 y' ∧ Keeps w w')) →
   Calls Tryz.prog 240 #[x,y] w fun e w'=>∃ z,e=.returned (.tuple #[z,.bool true]) ∧ NatV w.heap.size w' (u + v) z ∧ Keeps w w':=by
  intro u1 v1 huv hle h32 hcase
  have hval:valW B64 (addB B64 (natW B64 u1).length (natW B64 u1) (natW B64 v1) 0)=((u + v:Nat):Int):=by
   rw [addB_val B64 _ _ _ _ (Nat.le_refl _) hle,valW_natW b64_two,valW_natW b64_two]
   omega
  have hokR:=addB_ok b64_two (natW B64 u1).length (natW B64 u1) (natW B64 v1) 0 (by omega) (natW_ok b64_two _) (natW_ok b64_two _)
  have hlenR:=addB_len B64 (natW B64 u1).length (natW B64 u1) (natW B64 v1) 0
  have hbig:u + v < B64 ^ 34:=by
   have h1:=natW_lt b64_two h32
   have h2:=natW_lt b64_two (Nat.le_trans hle h32)
   have h3:B64 ^ 32 + B64 ^ 32 ≤ B64 ^ 34:=by decide
   omega
  have hl64:(natW B64 (u + v)).length ≤ 64:=Nat.le_trans (natW_len b64_two hbig) (by decide)
  obtain ⟨R,hR⟩:∃ R,R=addB B64 (natW B64 u1).length (natW B64 u1) (natW B64 v1) 0:=⟨_,rfl⟩
  have hinv0:([]:List Int) ++ addB B64 ((natW B64 u1).length - 0) ((natW B64 u1).drop 0) ((natW B64 v1).drop 0) 0=R:=by rw [hR];rfl
  rw [← hR] at hval hokR hlenR
  clear hR hbig huv
  have hTold:∀ (W:World) (g cap:Nat) (ws:List Int),ws=R → RowU W g ws → ws.length ≤ cap → Calls Tryz.prog 244 #[.slice (some ⟨g,0,none⟩) ws.length cap] W fun e w'=>∃ z,e=.returned (.tuple #[z,.bool true]) ∧ NatV W.heap.size w' (u + v) z ∧ Keeps W w':=fun W g cap ws he hrow hc=>by
   subst he
   have q:=told_calls cap ws W hrow hokR (by omega) hc (by rw [hval,Int.toNat_natCast];exact hl64)
   rw [hval,Int.toNat_natCast] at q
   exact q
  obtain ⟨us,hus⟩:∃ us,us=natW B64 u1:=⟨_,rfl⟩
  obtain ⟨vs,hvs⟩:∃ vs,vs=natW B64 v1:=⟨_,rfl⟩
  have huok:WordsOk B64 us:=by rw [hus];exact natW_ok b64_two _
  have hvok:WordsOk B64 vs:=by rw [hvs];exact natW_ok b64_two _
  have hB:(∃ hlt:¬ (us.length:Int) < (vs.length:Int),Calls Tryz.prog 241 #[x,y] w fun e w'=>∃ a1 c1 a2 c2,e=.returned (.tuple #[.slice a1 us.length c1,.slice a2 vs.length c2,.bool true]) ∧ WordsAt w' a1 us ∧ WordsAt w' a2 vs ∧ Keeps w w') ∨
    (∃ hlt:(vs.length:Int) < (us.length:Int),Calls Tryz.prog 241 #[x,y] w fun e w'=>∃ a1 c1 a2 c2,e=.returned (.tuple #[.slice a2 vs.length c2,.slice a1 us.length c1,.bool true]) ∧ WordsAt w' a1 us ∧ WordsAt w' a2 vs ∧ Keeps w w'):=by
   rw [hus,hvs]
   rcases hcase with ⟨hlt,hc⟩ | ⟨hlt,hc⟩
   ·refine .inl ⟨hlt,hc.mono ?_⟩
    rintro e w1 ⟨x',y',rfl,h1,h2,hk⟩
    obtain ⟨a1,c1,rfl,-,q1⟩:=natV_len h1
    obtain ⟨a2,c2,rfl,-,q2⟩:=natV_len h2
    exact ⟨a1,c1,a2,c2,rfl,q1,q2,hk⟩
   ·refine .inr ⟨hlt,hc.mono ?_⟩
    rintro e w1 ⟨x',y',rfl,h1,h2,hk⟩
    obtain ⟨a2,c2,rfl,-,q2⟩:=natV_len h1
    obtain ⟨a1,c1,rfl,-,q1⟩:=natV_len h2
    exact ⟨a1,c1,a2,c2,rfl,q1,q2,hk⟩
  rw [← hus,← hvs] at hinv0 hle
  rw [← hus] at h32 hlenR
  clear hcase hval hl64 hus hvs hokR
  obtain ⟨n1,hn1⟩:∃ n,n=us.length:=⟨_,rfl⟩
  obtain ⟨n2,hn2⟩:∃ n,n=vs.length:=⟨_,rfl⟩
  rw [← hn1,← hn2] at hB hle
  rw [← hn1] at h32 hlenR hinv0
  have HN1:=Lib.hid hn1
  have HN2:=Lib.hid hn2
  have HT:=Lib.hid hTold
  have HI0:=Lib.hid hinv0
  have HLR:=Lib.hid hlenR
  have HUO:=Lib.hid huok
  have HVO:=Lib.hid hvok
  have e10:((n1:Int) + 1)=((n1 + 1:Nat):Int):=by omega
  have E10:=Lib.hid e10
  clear hTold hinv0 hlenR huok hvok hn1 hn2 e10
  rcases hB with ⟨hlt,hB⟩ | ⟨hlt,hB⟩
  all_goals
   have HB:=Lib.hid hB
   clear hB
   go_enter Tryz.func240,Tryz.ntmps240
   go_wp2_with (first
    | (go_at_call 241;refine HB.out.mono ?_;rintro e w1 ⟨a1,c1,a2,c2,rfl,hw1,hw2,hk1⟩;have HW1:=Lib.hid hw1;have HW2:=Lib.hid hw2;clear hw1 hw2)
    | (at_make;refine wpList_make_full _ rfl _ _ 26 rfl w1.heap.size 50 j0 (.int .u64 0) 1 Tryz.underlying26 hj jz0 jz1 .i64 .i64 _ _ (n1 + 1) rfl rfl (by simp) (by simp) (by rw [jz2];omega) (by unfold maxLen;omega) (by simp) ?_;intro w2 hown2 hg2)
    | fail)
   have HR2:=Lib.hid (rowU_made hown2)
   have hkk:Keeps w1 w2:=⟨hg2.os,hg2.tape,hg2.output,hg2.size,fun i hi=>hg2.block i hi (by simp)⟩
   have hks:=hk1.size
   have hszz:=hkk.size
   clear hown2 hg2
   go_wp2_with fail
   go_loopg [8,9,10,11,34] n1 (fun gk s8 s9 s10 s11 s34 wr=>∃ (i:Nat) (c:Int) (rs:List Int),s34=.int .i64 (i:Int) ∧ s8=.int .u64 c ∧ i + gk=n1 ∧ 0 ≤ c ∧ c ≤ 1 ∧ rs.length=n1 + 1 ∧ rs.take i ++ addB B64 (n1 - i) (us.drop i) (vs.drop i) c=R ∧ RowU wr w1.heap.size rs ∧ Upd (fun k=>k=w1.heap.size) w2 wr)
   case atStart=>exact ⟨0,0,List.replicate (n1 + 1) 0,rfl,rfl,by omega,by omega,by omega,by simp,by rw [List.take_zero];exact HI0.out,HR2.out,Upd.refl _ _⟩
   case round=>
    obtain ⟨i,c,rs,rfl,rfl,hig,c0,c1',hrl,hinv,hR,hU⟩:=hrel
    have HINV:=Lib.hid hinv
    have HR:=Lib.hid hR
    have HU:=Lib.hid hU
    have HRL:=Lib.hid hrl
    clear hinv hR hU hrl
    have hkr:Keeps w1 wr:=hkk.new HU.out (fun k hk=>by omega)
    by_cases hi:i < n1
    ·obtain ⟨p,b1,o1,hp,hp0,hp1,ha1,hcp⟩:=word_at (HW1.out.keeps hkr) i (by rw [← HN1.out];exact hi)
     subst ha1
     have hb1:=lt_of_cell hcp
     have cf:=HR.out.frozen i
     have hrlt:=HR.out.lt
     obtain ⟨z,hz⟩:∃ z,rs[i]?=some z:=⟨_,List.getElem?_eq_getElem (by rw [HRL.out];omega)⟩
     have cz:=HR.out.cell hz
     have q0:(i:Int) < (n1:Int):=by omega
     have nb1:b1 ≠ w1.heap.size:=fun e=>by have:=lt_of_cell hcp;subst e;have:=(HW1.out i p hp).2;obtain ⟨b,o,e,hc⟩:=this;cases e;have:=lt_of_cell hc;simp at this
     by_cases hi2:i < n2
     ·obtain ⟨q,b2,o2,hq,hq0,hq1,ha2,hcq⟩:=word_at (HW2.out.keeps hkr) i (by rw [← HN2.out];exact hi2)
      subst ha2
      have hb2:=lt_of_cell hcq
      have q02:(i:Int) < (n2:Int):=by omega
      obtain ⟨s,k,hrun,hs,hk⟩:=add64_hid p q c hp0 hq0 c0 c1'
      have hst:=addB_step hi HINV.out
      rw [drop_headD hp,drop_headD hq,← hs,← hk] at hst
      have hkr2:0 ≤ k ∧ k ≤ 1:=by rw [hk];exact add_carry ⟨hp0,by show p < 2 ^ 64;exact hp1⟩ ⟨hq0,hq1⟩ ⟨c0,c1'⟩
      have HST:=Lib.hid hst
      have HZ:=Lib.hid hz
      clear hst hs hk hp hq hz
      obtain ⟨k0,k1'⟩:=hkr2
      go_wp2_with (simp only [hrun])
      go_roundg (gk - 1)
      case rel=>exact ⟨i + 1,k,rs.set i s,congrArg (Value.int .i64) (by omega),rfl,by omega,k0,k1',by rw [List.length_set,HRL.out],by rw [wset_take (by rw [HRL.out];omega)];exact HST.out,HR.out.set i s (by rw [HRL.out];omega),HU.out.setCell (Or.inl rfl) _⟩
      case measure=>omega
     ·have q02:¬ (i:Int) < (n2:Int):=by omega
      obtain ⟨s,k,hrun,hs,hk⟩:=add64_hid p 0 c hp0 (Int.le_refl 0) c0 c1'
      have hst:=addB_step hi HINV.out
      rw [drop_headD hp,drop_headD_none (by rw [← HN2.out];omega),← hs,← hk] at hst
      have hkr2:0 ≤ k ∧ k ≤ 1:=by rw [hk];exact add_carry ⟨hp0,by show p < 2 ^ 64;exact hp1⟩ ⟨Int.le_refl 0,by decide⟩ ⟨c0,c1'⟩
      have HST:=Lib.hid hst
      have HZ:=Lib.hid hz
      clear hst hs hk hp hz
      obtain ⟨k0,k1'⟩:=hkr2
      go_wp2_with (simp only [hrun])
      go_roundg (gk - 1)
      case rel=>exact ⟨i + 1,k,rs.set i s,congrArg (Value.int .i64) (by omega),rfl,by omega,k0,k1',by rw [List.length_set,HRL.out],by rw [wset_take (by rw [HRL.out];omega)];exact HST.out,HR.out.set i s (by rw [HRL.out];omega),HU.out.setCell (Or.inl rfl) _⟩
      case measure=>omega
    ·have hie:i=n1:=by omega
     subst hie
     have q0:¬ (i:Int) < (i:Int):=by omega
     have cf:=HR.out.frozen i
     have hrlt:=HR.out.lt
     obtain ⟨z,hz⟩:∃ z,rs[i]?=some z:=⟨_,List.getElem?_eq_getElem (by rw [HRL.out];omega)⟩
     have cz:=HR.out.cell hz
     have hfin:rs.set i c=R:=by
      have h1:=HINV.out
      rw [Nat.sub_self] at h1
      rw [← h1]
      show rs.set i c=rs.take i ++ [c]
      have h2:=wset_take (l:=rs) (i:=i) (y:=c) (by rw [HRL.out];omega)
      rw [← h2,List.take_of_length_le (by rw [List.length_set,HRL.out];omega)]
     have hlen2:(rs.set i c).length=i + 1:=by rw [List.length_set,HRL.out]
     have hrow2:=HR.out.set i c (by rw [HRL.out];omega)
     have hT2:=HT.out _ _ (i + 1) _ hfin hrow2 (by rw [hlen2];exact Nat.le_refl _)
     rw [hlen2] at hT2
     have HT2:=Lib.hid hT2
     clear hfin hlen2 hrow2 hT2 hz
     go_wp2_with (first | (go_at_call 244;refine HT2.out.mono ?_;rintro e w5 ⟨zv,rfl,hzv,hk5⟩) | fail)
     go_ret2
     have hke:Keeps w (wr.setCell ⟨w1.heap.size,i,none⟩ (.int .u64 c)):=hk1.trans (hkk.new (HU.out.setCell (Or.inl rfl) _) (fun k hk=>by omega))
     exact ⟨zv,rfl,hzv.le hke.size,hke.trans hk5⟩
 rcases Nat.lt_or_ge (natW B64 u).length (natW B64 v).length with hlt | hge
 ·refine main v u (Nat.add_comm v u) (Nat.le_of_lt hlt) hv (.inr ⟨by omega,?_⟩)
  exact nboth_calls hx hy (by omega) (by omega)
 ·refine main u v rfl hge hu (.inl ⟨by omega,?_⟩)
  exact nboth_calls hx hy (by omega) (by omega)

theorem trim_take {b:Nat} (hb:2 ≤ b) (ds:List Int) (ho:WordsOk b ds):∃ n,n ≤ ds.length ∧ ds.take n=natW b (valW b ds).toNat:=by
 obtain ⟨k,hk⟩:∃ k,k=ds.length:=⟨_,rfl⟩
 induction k generalizing ds with
 | zero=>
  have:ds=[]:=List.length_eq_zero_iff.1 hk.symm
  subst this
  exact ⟨0,Nat.le_refl _,by show []=natW b 0;rw [natW_zero]⟩
 | succ k ih=>
  rcases List.eq_nil_or_concat ds with h | ⟨l,x,h⟩
  ·rw [h] at hk;cases hk
  ·rw [List.concat_eq_append] at h
   subst h
   have hl:l.length=k:=by rw [List.length_append] at hk;simpa using hk.symm
   by_cases hx:x=0
   ·subst hx
    obtain ⟨n,h1,h2⟩:=ih l (fun y hy=>ho y (List.mem_append_left _ hy)) hl.symm
    refine ⟨n,by rw [List.length_append];omega,?_⟩
    rw [List.take_append_of_le_length h1,h2,valW_append]
    show _=natW b (valW b l + (b:Int) ^ l.length * (0 + b * 0)).toNat
    simp
   ·refine ⟨(l ++ [x]).length,Nat.le_refl _,?_⟩
    rw [List.take_length]
    refine (natW_valW hb ho ?_).symm
    intro e
    rw [List.getLast?_append] at e
    simp at e
    exact hx e

theorem RowV.take {lo:Nat} {w:World} {a:Option Addr} {ds:List Int} (h:RowV lo w a ds) (n:Nat):RowV lo w a (ds.take n):=fun hn=>by
 obtain ⟨g,h1,h2,h3⟩:=h (fun e=>hn (by rw [e,List.take_nil]))
 obtain ⟨cur,c1,c2⟩:=h3
 refine ⟨g,h1,h2,cur,c1,fun i x hx=>?_⟩
 rw [List.getElem?_take] at hx
 split at hx
 ·exact c2 i x hx
 ·cases hx

theorem trim_row {lo v:Nat} (a:Option Addr) (cap n:Nat) (ds:List Int) (w:World) (h:RowV lo w a ds) (hok:WordsOk 10 ds) (hl:ds.length ≤ 100000) (hn:ds.length=n) (hc:n ≤ cap) (hv:valW 10 ds=(v:Int)) :
  Calls Tryz.prog 142 #[.slice a n cap] w fun e w'=>e=.returned (.slice a (natW 10 v).length cap) ∧ RowV lo w a (natW 10 v) ∧ w=w':=by
 subst hn
 have q:=trim_calls a cap ds w h.ints hok hl hc
 rw [hv,Int.toNat_natCast] at q
 refine q.mono ?_
 rintro e w1 ⟨rfl,-,-,rfl⟩
 obtain ⟨m,-,hm⟩:=trim_take (b:=10) (by decide) ds hok
 rw [hv,Int.toNat_natCast] at hm
 exact ⟨rfl,by rw [← hm];exact h.take m,rfl⟩

def SumAt (n:Nat) (xs ys R:List Int) (i:Nat) (c:Int) (os:List Int):Prop:=
 (i ≤ n ∧ 0 ≤ c ∧ c ≤ 1 ∧ os.length=i ∧ os ++ addB 10 (n - i) (xs.drop i) (ys.drop i) c=R) ∨ (i=n + 1 ∧ c=0 ∧ os.length=i ∧ os=R)

theorem SumAt.ok {n:Nat} {xs ys R os:List Int} {i:Nat} {c:Int} (h:SumAt n xs ys R i c os) (hR:WordsOk 10 R):WordsOk 10 os ∧ os.length=i ∧ i ≤ n + 1 ∧ 0 ≤ c ∧ c ≤ 1:=by
 rcases h with ⟨h1,h2,h3,h4,h5⟩ | ⟨h1,h2,h3,h4⟩
 ·exact ⟨fun x hx=>hR x (by rw [← h5];exact List.mem_append_left _ hx),h4,by omega,h2,h3⟩
 ·exact ⟨by rw [h4];exact hR,h3,by omega,by omega,by omega⟩

theorem SumAt.step {n:Nat} {xs ys R os:List Int} {i:Nat} {c:Int} (h:SumAt n xs ys R i c os) (hx:WordsOk 10 xs) (hy:WordsOk 10 ys) (hxl:xs.length ≤ n) (hyl:ys.length ≤ n) (hi:i < n ∨ 0 < c) :
  SumAt n xs ys R (i + 1) (((xs.drop i).headD 0 + (ys.drop i).headD 0 + c) / 10) (os ++ [((xs.drop i).headD 0 + (ys.drop i).headD 0 + c) % 10]):=by
 rcases h with ⟨h1,h2,h3,h4,h5⟩ | ⟨h1,h2,h3,h4⟩
 ·by_cases hlt:i < n
  ·have hc:=add_carry (headD_ok (b:=10) (by decide) (hx.drop i)) (headD_ok (b:=10) (by decide) (hy.drop i)) ⟨h2,h3⟩
   exact .inl ⟨by omega,hc.1,hc.2,by rw [List.length_append,h4];rfl,addB_step hlt h5⟩
  ·have hin:i=n:=by omega
   subst hin
   have hc1:c=1:=by omega
   subst hc1
   rw [drop_headD_none (by omega),drop_headD_none (by omega)]
   refine .inr ⟨rfl,rfl,by rw [List.length_append,h4];rfl,?_⟩
   rw [Nat.sub_self] at h5
   exact h5
 ·omega

theorem SumAt.done {n:Nat} {xs ys R os:List Int} {i:Nat} {c:Int} (h:SumAt n xs ys R i c os) (hi:¬ i < n) (hc:¬ 0 < c):valW 10 os=valW 10 R:=by
 rcases h with ⟨h1,h2,h3,h4,h5⟩ | ⟨h1,h2,h3,h4⟩
 ·have hin:i=n:=by omega
  subst hin
  have hc0:c=0:=by omega
  subst hc0
  rw [Nat.sub_self] at h5
  rw [← h5]
  show valW 10 os=valW 10 (os ++ [0])
  rw [valW_append]
  show _=_ + _ * (0 + (10:Nat) * 0:Int)
  simp
 ·rw [h4]

set_option maxRecDepth 100000 in
set_option maxHeartbeats 800000 in
theorem dadd_calls (a b:Option Addr) (ca cb u v:Nat) (w:World) (ha:IntsAt w a (natW 10 u)) (hb:IntsAt w b (natW 10 v)) (hu:(natW 10 u).length ≤ 10000) (hv:(natW 10 v).length ≤ 10000) :
  Calls Tryz.prog 76 #[.slice a (natW 10 u).length ca,.slice b (natW 10 v).length cb] w fun e w'=>DigOut w e w' (natW 10 (u + v)):=by
 obtain ⟨i0,hi,hz0,hz1,hz2⟩:=info_parts info_int
 obtain ⟨xs,hxs⟩:∃ xs,xs=natW 10 u:=⟨_,rfl⟩
 obtain ⟨ys,hys⟩:∃ ys,ys=natW 10 v:=⟨_,rfl⟩
 have hxo:WordsOk 10 xs:=by rw [hxs];exact natW_ok (by decide) u
 have hyo:WordsOk 10 ys:=by rw [hys];exact natW_ok (by decide) v
 obtain ⟨n,hn⟩:∃ n,n=max xs.length ys.length:=⟨_,rfl⟩
 obtain ⟨R,hR⟩:∃ R,R=addB 10 n xs ys 0:=⟨_,rfl⟩
 have hRo:WordsOk 10 R:=by rw [hR];exact addB_ok (by decide) _ _ _ _ (by omega) hxo hyo
 have hRv:valW 10 R=((u + v:Nat):Int):=by
  rw [hR,addB_val 10 _ _ _ _ (by omega) (by omega),hxs,hys,valW_natW (by decide),valW_natW (by decide)]
  omega
 have h0:SumAt n xs ys R 0 0 []:=.inl ⟨Nat.zero_le _,by omega,by omega,rfl,by rw [hR];rfl⟩
 have hAt1:=fun (i:Nat) (W:World) (hi:i ≤ 100000) (hW:Keeps w W)=>dat_calls a ca xs i W (by rw [hxs];exact ha.keeps hW) (by rw [hxs];omega) hi
 have hAt2:=fun (i:Nat) (W:World) (hi:i ≤ 100000) (hW:Keeps w W)=>dat_calls b cb ys i W (by rw [hys];exact hb.keeps hW) (by rw [hys];omega) hi
 have hT:∀ (W:World) (lo:Nat) (la:Option Addr) (k cap:Nat) (os:List Int),RowV lo W la os → WordsOk 10 os → os.length=k → k ≤ 100000 → k ≤ cap → valW 10 os=valW 10 R → Calls Tryz.prog 142 #[.slice la k cap] W fun e w'=>e=.returned (.slice la (natW 10 (u + v)).length cap) ∧ RowV lo W la (natW 10 (u + v)) ∧ W=w':=fun W lo la k cap os hr ho hk h5 hc hv2=>trim_row la cap k os W hr ho (by omega) hk hc (by rw [hv2,hRv])
 have hst:=fun (i:Nat) (c:Int) (os:List Int) (h:SumAt n xs ys R i c os) (hi:i < n ∨ 0 < c)=>h.step hxo hyo (by omega) (by omega) hi
 have hdg:∀ (l:List Int) (i:Nat),WordsOk 10 l → 0 ≤ (l.drop i).headD 0 ∧ (l.drop i).headD 0 ≤ 9:=fun l i hl=>by
  have:=headD_ok (b:=10) (by decide) (hl.drop i)
  omega
 rw [← hxs] at hu ⊢
 rw [← hys] at hv ⊢
 clear hR hRv hxs hys ha hb
 obtain ⟨n1,hn1⟩:∃ n,n=xs.length:=⟨_,rfl⟩
 obtain ⟨n2,hn2⟩:∃ n,n=ys.length:=⟨_,rfl⟩
 rw [← hn1,← hn2] at hn
 rw [← hn1] at hu hAt1 ⊢
 rw [← hn2] at hv hAt2 ⊢
 have HD1:=Lib.hid (fun i=>hdg xs i hxo)
 have HD2:=Lib.hid (fun i=>hdg ys i hyo)
 have HN:=Lib.hid hn
 have HA1:=Lib.hid hAt1
 have HA2:=Lib.hid hAt2
 have HT:=Lib.hid hT
 have HST:=Lib.hid hst
 have HRO:=Lib.hid hRo
 have H0:=Lib.hid h0
 have hnl:n ≤ 10000:=by omega
 clear hn hAt1 hAt2 hT hst hRo h0 hxo hyo hdg hn1 hn2
 go_enter Tryz.func76,Tryz.ntmps76
 go_wp2_with fail
 go_loopg [5,6,7,8] (n + 1) (fun gk s5 s6 s7 s8 wr=>∃ (i:Nat) (c:Int) (va:Value) (os:List Int),s5=va ∧ s6=.int .i64 c ∧ s7=.int .i64 (i:Int) ∧ i + gk=n + 1 ∧ SumAt n xs ys R i c os ∧ wr.ownsRow w.heap.size 3 1 va i (os.map (Value.int .i64)) ∧ Keeps w wr)
 case atStart=>exact ⟨0,0,_,[],rfl,rfl,rfl,by omega,H0.out,World.ownsRow_nil _ _ _ _,by (exact kp)⟩
 case round=>
  obtain ⟨i,c,va,os,rfl,rfl,rfl,hig,hsum,ho,hk⟩:=hrel
  obtain ⟨hoo,hol,hin1,c0,c1⟩:=hsum.ok HRO.out
  obtain ⟨la,lcap,rfl,-⟩:=owns_slice ho
  have hcap:=owns_cap ho
  have HO:=Lib.hid ho
  have HS:=Lib.hid hsum
  have HOL:=Lib.hid hol
  have HOO:=Lib.hid hoo
  clear ho hsum hol hoo
  have HG:=Lib.hid hig
  by_cases hgo:i < n ∨ 0 < c
  ·have hgk:1 ≤ gk:=by
    rcases hgo with e | e
    ·omega
    ·rcases HS.out with ⟨e1,_⟩ | ⟨_,e2,_⟩ <;> omega
   clear hig
   have hst2:=HST.out i c os HS.out hgo
   obtain ⟨d1,hd1⟩:∃ d,d=(xs.drop i).headD 0:=⟨_,rfl⟩
   obtain ⟨d2,hd2⟩:∃ d,d=(ys.drop i).headD 0:=⟨_,rfl⟩
   have r1:=HD1.out i
   have r2:=HD2.out i
   have HAA:=Lib.hid (HA1.out i wr (by omega) hk)
   have HBB:=Lib.hid (HA2.out i wr (by omega) hk)
   rw [← hd1] at hst2 r1 HAA
   rw [← hd2] at hst2 r2 HBB
   have HST2:=Lib.hid hst2
   clear hst2 hd1 hd2
   obtain ⟨r10,r11⟩:=r1
   obtain ⟨r20,r21⟩:=r2
   have q1:i + 1 ≤ maxLen:=by unfold maxLen;omega
   have q2:(i + 1) * 8 ≤ 140737488355328:=by omega
   have hcase:((i:Int) < (n1:Int)) ∨ (¬ (i:Int) < (n1:Int) ∧ (i:Int) < (n2:Int)) ∨ (¬ (i:Int) < (n1:Int) ∧ ¬ (i:Int) < (n2:Int) ∧ 0 < c):=by have:=HN.out;omega
   rcases hcase with g1 | ⟨g1,g2⟩ | ⟨g1,g2,g3⟩
   all_goals
    go_wp2_with (first
     | (go_at_call 143;have qq:=HAA;clear qq;refine HAA.out.mono ?_;rintro e w2 ⟨rfl,rfl⟩;clear HAA)
     | (go_at_call 143;refine HBB.out.mono ?_;rintro e w3 ⟨rfl,rfl⟩;clear HBB)
     | (at_builtin;refine wpList_append_own _ rfl _ _ 38 rfl w.heap.size 3 i0 (.int .i64 0) 1 8 Tryz.underlying38 hi hz0 hz1 hz2 rfl (by decide) (.slice la i lcap) i (os.map (Value.int .i64)) rfl (HO.out.alloc _) ⟨wr.heap.size,0,none⟩ 1 1 [.int .i64 ((d1 + d2 + c) % 10)] rfl rfl (cell_new _ _ _ _ rfl) (by simp [Value.oneCell']) (by exact q1) (by exact q2) (by have:=hk.size;simp;omega) ?_;intro v3 w3 hown3 hg3 _)
     | fail)
    go_roundg (gk - 1)
    case rel=>
     have hu3:Upd (fun k=>(Value.slice la i lcap).ownBlock=some k) wr w3:=Upd.grown (by repeat (first | exact Upd.refl _ _ | refine Upd.alloc ?_ _ | refine Upd.drew ?_)) hg3 (fun k hk=>.inl hk)
     refine ⟨i + 1,(d1 + d2 + c) / 10,_,os ++ [(d1 + d2 + c) % 10],rfl,rfl,congrArg (Value.int .i64) (by omega),by have:=HG.out;omega,HST2.out,by rw [List.map_append];exact hown3,hk.new hu3 (fun k hk2=>?_)⟩
     rcases HO.out.2 with ⟨e0,_⟩ | ⟨g',cap',cur,e0,hbg,_⟩
     ·rw [e0] at hk2;simp [Value.ownBlock] at hk2
     ·rw [e0] at hk2;simp [Value.ownBlock] at hk2;omega
    case measure=>omega
  ·have hdone:=HS.out.done (by omega) (by omega)
   obtain ⟨a',cap',e1,hrv⟩:=rowV_owns (os:=os) (n:=i) HOL.out.symm HO.out
   cases e1
   have HT2:=Lib.hid (HT.out wr w.heap.size la i lcap os hrv HOO.out HOL.out (by omega) hcap hdone)
   have g1:¬ (i:Int) < (n1:Int):=by have:=HN.out;omega
   have g2:¬ (i:Int) < (n2:Int):=by have:=HN.out;omega
   have g3:¬ 0 < c:=by omega
   clear hdone hrv
   go_wp2_with (first | (go_at_call 142;refine HT2.out.mono ?_;rintro e w4 ⟨rfl,hr4,rfl⟩) | fail)
   go_ret
   exact ⟨la,lcap,rfl,hr4,hk⟩

end Go.Proofs.YtpgcbmbnognieaaGreat
