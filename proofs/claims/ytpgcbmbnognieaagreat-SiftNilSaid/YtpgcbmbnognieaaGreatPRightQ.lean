/-
  The walk of czdd.Right (printed by wip/mk_right.py).
-/
import Derived.Test.YtpgcbmbnognieaaGreatPRightA
import Derived.Test.YtpgcbmbnognieaaGreatPSortS
import Derived.Lib.SlicesDelete
import Derived.Shelf.RegionOpenPlain
import Derived.Sort.EncStr
namespace Go.Proofs.YtpgcbmbnognieaaGreat
set_option maxRecDepth 1000000
set_option maxHeartbeats 8000000
set_option linter.unusedSimpArgs false
set_option linter.unusedVariables false
open Go.RowKit

theorem czdd_right {F:Nat→Prop}{w:World}{sb:Nat}{M:St}(h:StoreRep F w sb M)(v:Edge)(l:Int)(hv:v.ok) :
  Calls Tryz.prog 185 #[.pointer (some ⟨sb,0,none⟩),.agg #[.int .u8 v.tag,.int .u32 v.to],.int .i64 l] w fun r w'=>r=.returned (.bool (rightL M 4 v l))∧Keeps w w':=by
 have hwf:=Lib.hid h.wf
 have HRK:=Lib.hid (fun(id:Int) (r:Rec) (hl:look M.cs id=some r)=>h.fit hl)
 have hn16:=h.wf.n16
 have hfew:=h.few
 have hlenr:=reachL_few h.wf h.few [v.to]
 have HG:=Lib.hid (fun(W:World) (hW:Keeps w W) (id:Int) (hid:id≤4294967295)=>store_get (h.keeps hW) id hid)
 have hleads:=fun(W:World) (hW:Keeps w W)=>store_leads (h.keeps hW) 4 v l hv
 have HRE:=Lib.hid (fun(W:World) (hW:Keeps w W) (b:Nat) (cap:Nat) (hE:IsEdges W (some ⟨b,0,none⟩) 1 [v])=>reach_calls (h.keeps hW) (some ⟨b,0,none⟩) 1 cap [v] hE (by omega))
 clear h
 rcases bool_cases (M.leads 4 v l) with hb|hb
 ·rw [hb] at hleads
  have HL:=Lib.hid hleads
  have HF:=Lib.hid (rightL_no hb)
  clear hleads hb
  go_enter Tryz.func185,Tryz.ntmps185
  go_wp2_with (first|(go_at_call 130;refine(HL.out _ (by(exact kp))).mono ?_;rintro e w1 ⟨rfl,hk⟩)|fail)
  go_ret
  exact⟨by rw [HF.out];rfl,by(exact kp)⟩
 ·rw [hb] at hleads
  have HL:=Lib.hid hleads
  have HB:=Lib.hid hb
  clear hleads hb
  go_enter Tryz.func185,Tryz.ntmps185
  go_wp2_with (first|(go_at_call 130;refine(HL.out _ (by(exact kp))).mono ?_;rintro e w1 ⟨rfl,hk⟩;have z0:w1.cell? ⟨w.heap.size,0,none⟩=some (.int .u8 v.tag):=hk.cell (by simp);have z1:w1.cell? ⟨w.heap.size,1,none⟩=some (.int .u32 v.to):=hk.cell (by simp);have hk1:Keeps w w1:=(by(exact kp)))|fail)
  refine(HRE.out _ (by(exact kp)) _ _ (isEdges_one hv (by simp [go_sem]) (by simp [go_sem]))).mono ?_
  rintro e w2 ⟨vv,rfl,hrow,hk2⟩
  obtain⟨ids,hids⟩:∃ ids,ids=reachL M.cs [v.to]:=⟨_,rfl⟩
  have hrow:IdRow w2 vv ids:=by rw [hids];exact hrow
  rw [← hids] at hlenr
  obtain⟨a,cap,rfl,hc⟩:=hrow
  have HID:=Lib.hid hids
  have HC:=Lib.hid hc
  have HK2:=Lib.hid (show Keeps w w2 by(exact kp))
  clear hids hc hk2 hk hk1 z0 z1 hv
  go_wp2_with fail
  go_loopg [23] ids.length (fun gk s23 wr=>∃ d:Nat,d+gk=ids.length∧s23=.int .i64 (d:Int)∧Keeps w2 wr∧∀ (i:Nat) (id:Int),i<d→ids[i]?=some id→wrongB M 4 (grec (look M.cs id))=false)
  case atStart=>exact⟨0,by omega,rfl,Keeps.refl _,fun i id hi=>absurd hi (by omega)⟩
  case round=>
   obtain⟨d,hd,rfl,hk,hw⟩:=hrel
   have HK:=Lib.hid hk
   have HW:=Lib.hid hw
   clear hk hw
   by_cases hlt:d<ids.length
   ·obtain⟨id,hid⟩:∃ id,ids[d]?=some id:=⟨_,List.getElem?_eq_getElem hlt⟩
    obtain⟨g,rfl,hcell⟩:=HC.out d id hid
    have cd:=HK.out.cell hcell
    have HI:=Lib.hid hid
    obtain⟨x,hx,gx,i2,i3⟩:=reach_rec hwf.out (d:=d) (id:=id) (es:=[v.to]) (by rw [← HID.out];exact hid)
    have t1:=gx.tb
    have t2:=gx.bn
    have hokx:=HRK.out id x hx
    have tok:0≤x.top:=hokx.top.1
    have tok2:0≤x.bot:=hokx.bot.1
    have tlo:=hokx.lo.2.2
    have HX:=Lib.hid hx
    have hkw:Keeps w wr:=HK2.out.trans HK.out
    have hnext:Hid (wrongB M 4 (grec (look M.cs id))=false→∀ (i:Nat) (id':Int),i<d+1→ids[i]?=some id'→wrongB M 4 (grec (look M.cs id'))=false):=Lib.hid (fun hf i id' hi hi'=>by
     by_cases hid:i<d
     ·exact HW.out i id' hid hi'
     ·obtain rfl:i=d:=by omega
      rw [HI.out] at hi'
      cases hi'
      exact hf)
    have hstop:Hid (wrongB M 4 (grec (look M.cs id))=true→rightL M 4 v l=false):=Lib.hid (fun hf=>rightL_bad (d:=d) (id:=id) (by rw [← HID.out];exact HI.out) hf)
    clear hid hcell hokx
    have HGx:Hid (∀ W,Keeps w W→Calls Tryz.prog 80 #[.pointer (some ⟨sb,0,none⟩),.int .u32 id] W fun e w'=>e=.returned (.tuple #[.agg #[.int .u8 x.form,.int .u8 x.top,.int .u8 x.bot,.int .u8 x.lo.tag,.int .u32 x.lo.to,.int .u8 x.hi.tag,.int .u32 x.hi.to],.bool true])∧Keeps W w'):=
     Lib.hid (fun W hW=>by have:=HG.out W hW id (by omega);rw [hx] at this;exact this)
    have hwn:Hid (look M.cs x.lo.to=none→wrongB M 4 (grec (look M.cs id))=false):=Lib.hid (fun hy=>by rw [hx];show(match look M.cs x.lo.to with|none=>false|some z=>_)=false;rw [hy])
    have hwy:Hid (∀ y,look M.cs x.lo.to=some y→wrongB M 4 (grec (look M.cs id))=(decide (y.top=x.bot+1)&&decide (x.lo=x.hi))):=Lib.hid (fun y hy=>by rw [hx];show(match look M.cs x.lo.to with|none=>false|some z=>_)=_;rw [hy];rfl)
    clear gx
    cases hy:look M.cs x.lo.to with
    | none=>
     have HGy:Hid (∀ W,Keeps w W→Calls Tryz.prog 80 #[.pointer (some ⟨sb,0,none⟩),.int .u32 x.lo.to] W fun e w'=>e=.returned (.tuple #[.agg #[.int .u8 Rec.zero.form,.int .u8 Rec.zero.top,.int .u8 Rec.zero.bot,.int .u8 Rec.zero.lo.tag,.int .u32 Rec.zero.lo.to,.int .u8 Rec.zero.hi.tag,.int .u32 Rec.zero.hi.to],.bool false])∧Keeps W w'):=
      Lib.hid (fun W hW=>by have:=HG.out W hW x.lo.to tlo;rw [hy] at this;exact this)
     have hz:=Lib.hid (hwn.out hy)
     clear hx hy
     (go_wp2_with fail
      refine(HGx.out _ hkw).mono ?_
      rintro e w3 ⟨rfl,hb3⟩
      go_wp2_with fail
      refine(HGy.out _ (by(exact kp))).mono ?_
      rintro e w4 ⟨rfl,hb4⟩
      have p0:=hb4.cell (a:=⟨w3.heap.size,2,none⟩) (v:=.int .u8 x.bot) (by simp [go_sem])
      have p1:=hb4.cell (a:=⟨w3.heap.size,3,none⟩) (v:=.int .u8 x.lo.tag) (by simp [go_sem])
      have p2:=hb4.cell (a:=⟨w3.heap.size,4,none⟩) (v:=.int .u32 x.lo.to) (by simp [go_sem])
      have p3:=hb4.cell (a:=⟨w3.heap.size,5,none⟩) (v:=.int .u8 x.hi.tag) (by simp [go_sem])
      have p4:=hb4.cell (a:=⟨w3.heap.size,6,none⟩) (v:=.int .u32 x.hi.to) (by simp [go_sem])
      have hs4:=hb4.size
      simp only [World.size_alloc] at hs4
      have hs5:w3.heap.size<w4.heap.size:=by omega
      go_wp2_with fail)
     go_roundg (gk-1)
     case rel=>exact⟨d+1,by omega,by simp,by have:=HK.out;(exact kp),hnext.out (by exact hz.out)⟩
     case measure=>omega
    | some y=>
     have HGy:Hid (∀ W,Keeps w W→Calls Tryz.prog 80 #[.pointer (some ⟨sb,0,none⟩),.int .u32 x.lo.to] W fun e w'=>e=.returned (.tuple #[.agg #[.int .u8 y.form,.int .u8 y.top,.int .u8 y.bot,.int .u8 y.lo.tag,.int .u32 y.lo.to,.int .u8 y.hi.tag,.int .u32 y.hi.to],.bool true])∧Keeps W w'):=
      Lib.hid (fun W hW=>by have:=HG.out W hW x.lo.to tlo;rw [hy] at this;exact this)
     have hz:=Lib.hid (hwy.out y hy)
     clear hx hy
     by_cases c1:y.top=x.bot+1
     ·by_cases c2:x.lo=x.hi
      ·have hq:=eql_same x.lo x.hi c2
       have hz:Hid (wrongB M 4 (grec (look M.cs id))=true):=Lib.hid (by rw [hz.out];simp [c1,c2])
       have HC2:=Lib.hid c2
       clear c2
       (go_wp2_with fail
        refine(HGx.out _ hkw).mono ?_
        rintro e w3 ⟨rfl,hb3⟩
        go_wp2_with fail
        refine(HGy.out _ (by(exact kp))).mono ?_
        rintro e w4 ⟨rfl,hb4⟩
        have p0:=hb4.cell (a:=⟨w3.heap.size,2,none⟩) (v:=.int .u8 x.bot) (by simp [go_sem])
        have p1:=hb4.cell (a:=⟨w3.heap.size,3,none⟩) (v:=.int .u8 x.lo.tag) (by simp [go_sem])
        have p2:=hb4.cell (a:=⟨w3.heap.size,4,none⟩) (v:=.int .u32 x.lo.to) (by simp [go_sem])
        have p3:=hb4.cell (a:=⟨w3.heap.size,5,none⟩) (v:=.int .u8 x.hi.tag) (by simp [go_sem])
        have p4:=hb4.cell (a:=⟨w3.heap.size,6,none⟩) (v:=.int .u32 x.hi.to) (by simp [go_sem])
        have hs4:=hb4.size
        simp only [World.size_alloc] at hs4
        have hs5:w3.heap.size<w4.heap.size:=by omega
        go_wp2_with fail)
       go_ret
       exact⟨by rw [hstop.out (by exact hz.out)];rfl,by have:=HK2.out;have:=HK.out;(exact kp)⟩
      ·have hq:=eql_other x.lo x.hi c2
       have hz:Hid (wrongB M 4 (grec (look M.cs id))=false):=Lib.hid (by rw [hz.out];simp [c1,c2])
       have HC2:=Lib.hid c2
       clear c2
       (go_wp2_with fail
        refine(HGx.out _ hkw).mono ?_
        rintro e w3 ⟨rfl,hb3⟩
        go_wp2_with fail
        refine(HGy.out _ (by(exact kp))).mono ?_
        rintro e w4 ⟨rfl,hb4⟩
        have p0:=hb4.cell (a:=⟨w3.heap.size,2,none⟩) (v:=.int .u8 x.bot) (by simp [go_sem])
        have p1:=hb4.cell (a:=⟨w3.heap.size,3,none⟩) (v:=.int .u8 x.lo.tag) (by simp [go_sem])
        have p2:=hb4.cell (a:=⟨w3.heap.size,4,none⟩) (v:=.int .u32 x.lo.to) (by simp [go_sem])
        have p3:=hb4.cell (a:=⟨w3.heap.size,5,none⟩) (v:=.int .u8 x.hi.tag) (by simp [go_sem])
        have p4:=hb4.cell (a:=⟨w3.heap.size,6,none⟩) (v:=.int .u32 x.hi.to) (by simp [go_sem])
        have hs4:=hb4.size
        simp only [World.size_alloc] at hs4
        have hs5:w3.heap.size<w4.heap.size:=by omega
        go_wp2_with fail)
       go_roundg (gk-1)
       case rel=>exact⟨d+1,by omega,by simp,by have:=HK.out;(exact kp),hnext.out (by exact hz.out)⟩
       case measure=>omega
     ·have hz:Hid (wrongB M 4 (grec (look M.cs id))=false):=Lib.hid (by rw [hz.out];simp [c1])
      by_cases c2:x.lo=x.hi
      ·have hq:=eql_same x.lo x.hi c2
       have HC2:=Lib.hid c2
       clear c2
       (go_wp2_with fail
        refine(HGx.out _ hkw).mono ?_
        rintro e w3 ⟨rfl,hb3⟩
        go_wp2_with fail
        refine(HGy.out _ (by(exact kp))).mono ?_
        rintro e w4 ⟨rfl,hb4⟩
        have p0:=hb4.cell (a:=⟨w3.heap.size,2,none⟩) (v:=.int .u8 x.bot) (by simp [go_sem])
        have p1:=hb4.cell (a:=⟨w3.heap.size,3,none⟩) (v:=.int .u8 x.lo.tag) (by simp [go_sem])
        have p2:=hb4.cell (a:=⟨w3.heap.size,4,none⟩) (v:=.int .u32 x.lo.to) (by simp [go_sem])
        have p3:=hb4.cell (a:=⟨w3.heap.size,5,none⟩) (v:=.int .u8 x.hi.tag) (by simp [go_sem])
        have p4:=hb4.cell (a:=⟨w3.heap.size,6,none⟩) (v:=.int .u32 x.hi.to) (by simp [go_sem])
        have hs4:=hb4.size
        simp only [World.size_alloc] at hs4
        have hs5:w3.heap.size<w4.heap.size:=by omega
        go_wp2_with fail)
       go_roundg (gk-1)
       case rel=>exact⟨d+1,by omega,by simp,by have:=HK.out;(exact kp),hnext.out (by exact hz.out)⟩
       case measure=>omega
      ·have hq:=eql_other x.lo x.hi c2
       have HC2:=Lib.hid c2
       clear c2
       (go_wp2_with fail
        refine(HGx.out _ hkw).mono ?_
        rintro e w3 ⟨rfl,hb3⟩
        go_wp2_with fail
        refine(HGy.out _ (by(exact kp))).mono ?_
        rintro e w4 ⟨rfl,hb4⟩
        have p0:=hb4.cell (a:=⟨w3.heap.size,2,none⟩) (v:=.int .u8 x.bot) (by simp [go_sem])
        have p1:=hb4.cell (a:=⟨w3.heap.size,3,none⟩) (v:=.int .u8 x.lo.tag) (by simp [go_sem])
        have p2:=hb4.cell (a:=⟨w3.heap.size,4,none⟩) (v:=.int .u32 x.lo.to) (by simp [go_sem])
        have p3:=hb4.cell (a:=⟨w3.heap.size,5,none⟩) (v:=.int .u8 x.hi.tag) (by simp [go_sem])
        have p4:=hb4.cell (a:=⟨w3.heap.size,6,none⟩) (v:=.int .u32 x.hi.to) (by simp [go_sem])
        have hs4:=hb4.size
        simp only [World.size_alloc] at hs4
        have hs5:w3.heap.size<w4.heap.size:=by omega
        go_wp2_with fail)
       go_roundg (gk-1)
       case rel=>exact⟨d+1,by omega,by simp,by have:=HK.out;(exact kp),hnext.out (by exact hz.out)⟩
       case measure=>omega
   ·go_wp2
    go_ret
    have hd':d=ids.length:=by omega
    refine⟨by rw [rightL_good HB.out (fun i id hi hi'=>HW.out i id (by rw [← HID.out] at hi;omega) (by rw [HID.out];exact hi'))];rfl,HK2.out.trans HK.out⟩

open Go.RowKit Go.Sort Go.Lib

abbrev encI:Int→Value:=fun x=>Value.int .i64 x

theorem del_arr (blk off cap i j:Nat)(d:Array Int)(w:World)(hH:Holds encI w blk off d)(hcap:d.size≤cap)(hm:cap≤9223372036854775807)(hlt:i<j)(hj:j≤d.size) :
  Calls Tryz.prog 156 #[.slice (some ⟨blk,off,none⟩) d.size cap,.int .i64 i,.int .i64 j] w fun e w'=>e=.returned (.slice (some ⟨blk,off,none⟩) (d.size-(j-i)) cap)∧∃ q,w'=putRow encI (Sort.ahead w q) blk off (d.toList.take i++d.toList.drop j++List.replicate (j-i) 0).toArray:=by
 obtain⟨i0,hi0,hz0,hz1,hz2⟩:=info_parts info_int
 have hij:i≤j:=by omega
 -- the cells that are moved to the left
 obtain⟨news,hnews⟩:∃ news,news=(d.toList.drop j).map encI:=⟨_,rfl⟩
 have hlen:news.length=d.size-j:=by rw [hnews];simp
 have hget:∀ t,t<d.size-j→news[t]?=some (encI d[j+t]!):=by
  intro t ht
  rw [hnews,List.getElem?_map,List.getElem?_drop,Array.getElem?_toList,getElem!_pos d (j+t) (by omega),Array.getElem?_eq_getElem (by omega)]
  rfl
 obtain⟨A,hA,hsrc⟩:∃ A:Addr,(if cap=j then some (⟨blk,off,none⟩:Addr) else some ⟨blk,off+j,none⟩)=some A∧Hid (∀ t u,news[t]?=some u→w.drew.cell? (A.add t)=some u):=by
  by_cases h:cap=j
  ·refine⟨⟨blk,off,none⟩,by simp [h],fun t u hu=>?_⟩
   have h0:news.length=0:=by rw [hlen];omega
   rw [List.length_eq_zero_iff.1 h0] at hu
   simp at hu
  ·refine⟨⟨blk,off+j,none⟩,by simp [h],fun t u hu=>?_⟩
   have ht:t<d.size-j:=by
    have:=(List.getElem?_eq_some_iff.1 hu).1
    rwa [hlen] at this
   rw [hget t ht] at hu
   rw [Addr.add_lit,show off+j+t=off+(j+t) by omega]
   exact(hH (j+t) (by omega)).1.trans hu
 have s1:Hid (news.length=(d.size-j)*1):=by rw [Nat.mul_one];exact hlen
 have s2:Hid (∀ u∈news,u.oneCell'=true):=by
  intro u hu
  rw [hnews] at hu
  obtain⟨x,_,rfl⟩:=List.mem_map.1 hu
  rfl
 have s3:Hid (∀ t,t<news.length→(w.drew.cell? ⟨blk,off+i*1+t,none⟩).isSome=true∧w.drew.frozen? ⟨blk,off+i*1+t,none⟩=false):=by
  intro t ht
  rw [hlen] at ht
  rw [Nat.mul_one,Nat.add_assoc]
  exact⟨by show(w.cell? _).isSome=true;rw [(hH (i+t) (by omega)).1];rfl,(hH (i+t) (by omega)).2⟩
 -- the world behind the append, behind a name
 obtain⟨W1,hW1⟩:∃ W1,W1=w.drew.setCells blk (off+i*1) news:=⟨_,rfl⟩
 have hW1':W1=putRow encI (Sort.ahead w 1) blk off (lay d i (d.toList.drop j)):=by
  rw [hW1,hnews,Nat.mul_one,← putRow_setCells encI (Sort.ahead w 1) blk off _ d i (by simp;omega),putRow_self encI (Sort.ahead w 1) blk off d (holds_ahead encI w 1 blk off d hH)]
  rfl
 have hH1:Holds encI W1 blk off (lay d i (d.toList.drop j)):=by rw [hW1'];exact holds_putRow encI _ blk off d _ (holds_ahead encI w 1 blk off d hH) (lay_size _ _ _)
 have hcl:∀ ty,(Builtin.clear_ #[38] ty #[.slice (some ⟨blk,off+(i+(d.size-j)),none⟩) (d.size-(i+(d.size-j))) (cap-(i+(d.size-j)))]).run Tryz.prog W1=.ok (.tuple #[]) (W1.setCells blk (off+(i+(d.size-j))) (List.replicate (d.size-(i+(d.size-j))) (encI 0))):=
  fun ty=>Lib.run_clear_slice W1 _ _ ty _ Tryz.underlying38 Tryz.zeroValue3 rfl rfl blk (off+(i+(d.size-j))) _ _ (by omega) (fun t ht=>by rw [show off+(i+(d.size-j))+t=off+(i+(d.size-j)+t) by omega,(hH1 _ (by rw [lay_size];omega)).1];rfl) (fun t ht=>by rw [show off+(i+(d.size-j))+t=off+(i+(d.size-j)+t) by omega];exact(hH1 _ (by rw [lay_size];omega)).2)
 have X:Aside (W1=putRow encI (Sort.ahead w 1) blk off (lay d i (d.toList.drop j))):=hW1'
 have hW:Hid (W1=w.drew.setCells blk (off+i*1) news):=hW1
 have hic:i≤cap:=by omega
 have hjc:j≤cap:=by omega
 clear hW1 hW1' hH1 hH hget hnews hlen
 go_enter Tryz.func156,Tryz.ntmps156
 go_wp2_with fail
 go_region_law (refine step_append_room rfl (.tmp 22) (.tmp 25) 38 rfl 3 i0 1 Tryz.underlying38 hi0 hz1 blk off i cap (by simp [Act.eval,Act.put]) A (d.size-j) (cap-j) news (by simp [Act.eval,Act.put]) s1.out hsrc.out s2.out (by omega) s3.out ?_;rw [← hW.out])
 go_wp2
 go_ret
 refine⟨by rw [show d.size-(j-i)=i+(d.size-j) by omega];rfl,1,?_⟩
 rw [← delete_arr d i j 0 hij hj,← putRow_setCells encI _ blk off _ _ (i+(d.size-j)) (by rw [lay_size];simp;omega),← X.out,List.map_replicate,show d.size-(i+(d.size-j))=j-i by omega]

def OwnI (w:World)(g:Nat)(xs:List Int):Prop:=∀ (i:Nat) (x:Int),xs[i]?=some x→w.cell? ⟨g,i,none⟩=some (.int .i64 x)∧w.frozen? ⟨g,i,none⟩=false

theorem OwnI.keep {G:Nat→Prop}{w w':World}{g:Nat}{xs:List Int}(h:OwnI w g xs)(hu:Upd G w w')(hl:g<w.heap.size)(hg:¬G g):OwnI w' g xs:=fun i x hx=>by
 obtain⟨h1,h2⟩:=h i x hx
 exact⟨hu.cellAt hg h1,hu.frozen hl hg h2⟩

theorem del_calls (g cap i:Nat)(xs:List Int)(w:World)(h:OwnI w g xs)(hg:g<w.heap.size)(hcap:xs.length≤cap)(hm:cap≤1048576)(hi:i<xs.length) :
  Calls Tryz.prog 156 #[.slice (some ⟨g,0,none⟩) xs.length cap,.int .i64 (i:Int),.int .i64 ((i+1:Nat):Int)] w fun e w'=>e=.returned (.slice (some ⟨g,0,none⟩) (xs.length-1) cap)∧OwnI w' g (xs.eraseIdx i)∧Upd (fun j=>j=g) w w':=by
 have hH:Holds encI w g 0 xs.toArray:=fun j hj=>by
  have hj':j<xs.length:=by simpa using hj
  rw [Nat.zero_add,getElem!_pos _ j hj,List.getElem_toArray]
  exact h j _ (List.getElem?_eq_getElem hj')
 have:=del_arr g 0 cap i (i+1) xs.toArray w hH (by simpa using hcap) (by omega) (by omega) (by simp;omega)
 rw [List.size_toArray,show i+1-i=1 by omega] at this
 refine this.mono ?_
 rintro e w' ⟨rfl,q,rfl⟩
 have hH2:=holds_putRow encI (Sort.ahead w q) g 0 xs.toArray (xs.take i++xs.drop (i+1)++List.replicate 1 0).toArray (holds_ahead encI w q g 0 _ hH) (by simp;omega)
 refine⟨rfl,fun j x hx=>?_,?_⟩
 ·have hjl:=(List.getElem?_eq_some_iff.1 hx).1
  rw [List.length_eraseIdx,if_pos hi] at hjl
  have hsz:j<(xs.take i++xs.drop (i+1)++List.replicate 1 0).toArray.size:=by simp;omega
  have:=hH2 j hsz
  rw [Nat.zero_add,getElem!_pos _ j hsz,List.getElem_toArray] at this
  rw [List.eraseIdx_eq_take_drop_succ] at hx
  have hx2:(xs.take i++xs.drop (i+1)++List.replicate 1 (0:Int))[j]?=some x:=by rw [List.getElem?_append_left (by simp;omega)];exact hx
  rw [(List.getElem?_eq_some_iff.1 hx2).2] at this
  exact this
 ·refine⟨rfl,rfl,rfl,by rw [size_putRow];exact Nat.le_refl _,fun k hk hne=>?_⟩
  show(w.heap.modify g _)[k]?=w.heap[k]?
  rw [Array.getElem?_modify,if_neg (fun e=>hne e.symm)]

theorem fac_calls (n:Nat)(hn:n≤5)(w:World) :
  Calls Tryz.prog 155 #[.int .i64 (n:Int)] w fun e w'=>e=.returned (.int .i64 (facN n:Int))∧w=w':=by
 have h5:n=0∨n=1∨n=2∨n=3∨n=4∨n=5:=by omega
 go_enter Tryz.func155,Tryz.ntmps155
 go_wp2_with fail
 go_loopg [3,4] (n-1) (fun gk s3 s4 wr=>∃ i:Nat,s4=.int .i64 ((i+2:Nat):Int)∧s3=.int .i64 (facN (i+1):Int)∧i≤n∧n-1-i=gk∧(i+1≤n∨i=0)∧wr=w)
 case atStart=>exact⟨0,rfl,rfl,by omega,rfl,.inr rfl,rfl⟩
 case round=>
  obtain⟨i,rfl,rfl,hi,hk,hor,rfl⟩:=hrel
  by_cases hlt:i+2≤n
  ·have hi4:i=0∨i=1∨i=2∨i=3:=by omega
   rcases hi4 with rfl|rfl|rfl|rfl
   all_goals
    simp only [facN]
    go_wp2_with fail
    go_roundg (gk-1)
    case rel=>exact⟨_+1,rfl,rfl,by omega,by omega,.inl (by omega),rfl⟩
    case measure=>omega
  ·have he:(facN (i+1):Int)=(facN n:Int):=by
    rcases hor with q|q
    ·rw [show i+1=n by omega]
    ·subst q
     have:n=0∨n=1:=by omega
     rcases this with rfl|rfl<;>rfl
   rw [he]
   clear h5 he
   obtain⟨F,hF⟩:∃ F:Nat,F=facN n:=⟨_,rfl⟩
   have HF:=Lib.hid hF
   rw [← hF]
   clear hF
   go_wp2_with fail
   go_ret
   exact⟨by rw [← HF.out];rfl,rfl⟩

structure OfAt (w0 wr:World)(LB base n c r R:Nat)(left pr:List Int)(v:Value):Prop where
 len:left.length=c
 cn:c≤n
 plen:pr.length=n-c
 lt:r<facN c
 own:OwnI wr LB left
 row:wr.ownsRow base 3 1 v (n-c) (pr.map (Value.int .i64))
 all:pr++ofGo c left r=ofL n R
 keeps:Keeps w0 wr
 lb:LB<base∧base≤wr.heap.size∧w0.heap.size≤LB

theorem OfAt.pos {w0 wr:World}{LB base n c r R:Nat}{left pr:List Int}{v:Value}(h:OfAt w0 wr LB base n (c+1) r R left pr v):r / facN c<left.length:=by
 rw [h.len]
 have:=h.lt
 have e:facN (c+1)=(c+1)*facN c:=rfl
 rw [e] at this
 exact Nat.div_lt_of_lt_mul (by rw [Nat.mul_comm];exact this)

theorem ownsRow_lower {w:World}{lo lo2:Nat}{e:TypeId}{size:Nat}{v:Value}{n:Nat}{xs:List Value}(hl:lo2≤lo)(h:w.ownsRow lo e size v n xs):w.ownsRow lo2 e size v n xs:=by
 refine⟨h.1,?_⟩
 rcases h.2 with hn|⟨g,cap,cur,e0,hb,rest⟩
 ·exact .inl hn
 ·exact .inr ⟨g,cap,cur,e0,Nat.le_trans hl hb,rest⟩

theorem ofGo_step {c r:Nat}{left:List Int}(h:r / facN c<left.length):∃ x,left[r / facN c]?=some x∧ofGo (c+1) left r=x::ofGo c (left.eraseIdx (r / facN c)) (r%facN c):=by
 refine⟨left[r / facN c],List.getElem?_eq_getElem h,?_⟩
 show left.getD (r / facN c) 0::_=_
 rw [List.getD_eq_getElem?_getD,List.getElem?_eq_getElem h]
 rfl

theorem permOf_calls (n R:Nat)(hn:n≤5)(hR:R<facN n)(w:World) :
  Calls Tryz.prog 95 #[.int .i64 (n:Int),.int .i64 (R:Int)] w fun e w'=>∃ a cap,e=.returned (.tuple #[.slice a n cap,.bool true])∧w'.ownsRow w.heap.size 3 1 (.slice a n cap) n ((ofL n R).map (Value.int .i64))∧Keeps w w':=by
 obtain⟨i0,hi,hz0,hz1,hz2⟩:=info_parts info_int
 have HSM:=Lib.hid (fun W:World=>permSame_calls n (by omega) W)
 have HFN:=Lib.hid (fun W:World=>fac_calls n hn W)
 obtain⟨Fn,hFn⟩:∃ F,F=facN n:=⟨_,rfl⟩
 have hRF:¬(Fn:Int)≤(R:Int):=by omega
 have hRl:R<Fn:=by omega
 rw [← hFn] at HFN
 have HFE:=Lib.hid hFn
 clear hFn hR
 go_enter Tryz.func95,Tryz.ntmps95
 go_wp2_with (first
  | (go_at_call 124;refine(HSM.out _).mono ?_;rintro e w1 ⟨rfl,hI1,hk1⟩)
  | (go_at_call 155;refine(HFN.out _).mono ?_;rintro e w2 ⟨rfl,rfl⟩)
  | (at_make;refine wpList_make_own _ rfl _ _ 38 rfl w1.heap.size 3 i0 (.int .i64 0) 1 Tryz.underlying38 hi hz0 hz1 .i64 .i64 (n:Int) n rfl rfl rfl (by rw [hz2];omega) (by unfold maxLen;omega) (Nat.le_refl _) ?_;intro w3 hown3 hg3)
  | fail)
 have k13:Keeps w1 w3:=⟨hg3.os,hg3.tape,hg3.output,hg3.size,fun i hi=>hg3.block i hi (by simp)⟩
 have hlb:=hI1.lt
 have s1:=hk1.size
 have s3:=k13.size
 have hI3:=hI1.keeps k13
 obtain⟨LB,hLB⟩:∃ L,L=w.heap.size:=⟨_,rfl⟩
 obtain⟨base,hbase⟩:∃ L,L=w1.heap.size:=⟨_,rfl⟩
 rw [← hLB] at hI3 hlb s1 ⊢
 rw [← hbase] at hown3 hlb s3 s1 ⊢
 have hst:OfAt w w3 LB base n n R R (numsI n) [] (.slice (some ⟨base,0,none⟩) 0 n):=⟨numsI_len n,Nat.le_refl _,by simp,by rw [← HFE.out];exact hRl,fun i x hx=>⟨hI3.cell hx,hI3.frozen i⟩,by rw [Nat.sub_self];exact hown3,rfl,hk1.trans k13,by omega,by omega,by omega⟩
 have HST:=Lib.hid hst
 clear hst hI3 hI1 hown3 hg3 k13 hk1 hLB hbase
 go_wp2_with fail
 go_loopg [1,6,8,9] n (fun gk s1 s6 s8 s9 wr=>∃ (r:Nat) (left pr:List Int),s9=.int .i64 ((gk:Int)-1)∧s1=.int .i64 (r:Int)∧s6=.slice (some ⟨LB,0,none⟩) gk n∧OfAt w wr LB base n gk r R left pr s8)
 case atStart=>exact⟨R,numsI n,[],rfl,rfl,rfl,HST.out⟩
 case round=>
  clear HST
  obtain⟨r,left,pr,rfl,rfl,rfl,hO⟩:=hrel
  obtain⟨pa,pcap,rfl,hpa⟩:=owns_slice hO.row
  have hcn:=hO.cn
  by_cases hz:gk=0
  ·subst hz
   have hout:wr.ownsRow base 3 1 (.slice pa n pcap) n ((ofL n R).map (Value.int .i64))∧Keeps w wr:=by
    have h1:=hO.row
    have h2:=hO.all
    rw [show ofGo 0 left r=[] from rfl,List.append_nil] at h2
    rw [h2,Nat.sub_zero] at h1
    exact⟨h1,hO.keeps⟩
   have HOUT:=Lib.hid hout
   have hlo:=hO.lb
   clear hO hout
   rw [Nat.sub_zero]
   go_wp2_with fail
   go_ret2
   have hw:=HOUT.out.1
   exact⟨pa,pcap,rfl,ownsRow_lower (by omega) hw,HOUT.out.2⟩
  ·obtain⟨c,rfl⟩:∃ c,gk=c+1:=⟨gk-1,by omega⟩
   have hpos:=hO.pos
   obtain⟨x,hx,hgo⟩:=ofGo_step hpos
   have hFc:=facN_pos c
   have HFC:=Lib.hid (fun W:World=>fac_calls c (by omega) W)
   obtain⟨cx,fx⟩:=hO.own _ _ hx
   have HO:=Lib.hid hO
   have HX:=Lib.hid hx
   have HGO:=Lib.hid hgo
   have hrl:=hO.lt
   have hrb:facN (c+1)≤120:=by
    have:c=0∨c=1∨c=2∨c=3∨c=4:=by omega
    rcases this with rfl|rfl|rfl|rfl|rfl<;>decide
   have hr120:r<120:=by omega
   rw [hO.len] at hpos
   clear hO hx hgo hrl hrb
   obtain⟨F,hF⟩:∃ F,F=facN c:=⟨_,rfl⟩
   have HF:=Lib.hid hF
   rw [← hF] at hpos hFc HFC cx fx
   obtain⟨q,hq⟩:∃ q,q=r / F:=⟨_,rfl⟩
   obtain⟨m,hm⟩:∃ m,m=r%F:=⟨_,rfl⟩
   rw [← hq] at hpos cx fx
   have hdiv:(r:Int) / (F:Int)=(q:Int):=by rw [hq];exact_mod_cast rfl
   have hmod:(r:Int)%(F:Int)=(m:Int):=by rw [hm];exact_mod_cast rfl
   have hm120:m≤120:=by rw [hm];exact Nat.le_trans (Nat.mod_le _ _) (by omega)
   have HQ:=Lib.hid (⟨hq,hm⟩:q=r / F∧m=r%F)
   clear hF hq hm
   rw [show((c+1:Nat):Int)-1=(c:Int) by omega]
   obtain⟨d,hd⟩:∃ d,d=n-(c+1):=⟨_,rfl⟩
   have hrow:=HO.out.row
   rw [← hd] at hrow hpa ⊢
   have hdc:d+(c+1)=n:=by omega
   have HROW:=Lib.hid hrow
   have HD:=Lib.hid hd
   have hown:=HO.out.own
   have HOWN:=Lib.hid hown
   have hLl:=HO.out.len
   have HLL:=Lib.hid hLl
   obtain⟨lb1,lb2,lb3⟩:=HO.out.lb
   have hsz:=HO.out.keeps.size
   have q1:d+1≤maxLen:=by unfold maxLen;omega
   have q2:(d+1)*8≤140737488355328:=by omega
   have hdel:=fun(W:World) (h1:OwnI W LB left) (h2:LB<W.heap.size)=>del_calls LB n q left W h1 h2 (by rw [hLl];exact hcn) (by omega) (by rw [hLl];exact hpos)
   rw [hLl,Nat.add_sub_cancel] at hdel
   have HDEL:=Lib.hid hdel
   clear hrow hd hown hLl hdel
   go_wp2_with (first
    | (go_at_call 155;refine(HFC.out _).mono ?_;rintro e w2 ⟨rfl,rfl⟩)
    | (at_builtin;refine wpList_append_own _ rfl _ _ 38 rfl base 3 i0 (.int .i64 0) 1 8 Tryz.underlying38 hi hz0 hz1 hz2 rfl (by decide) (.slice pa d pcap) d (pr.map (Value.int .i64)) rfl (HROW.out.alloc _) ⟨wr.heap.size,0,none⟩ 1 1 [.int .i64 x] rfl rfl (cell_new _ _ _ _ rfl) (by simp [Value.oneCell']) (by exact q1) (by exact q2) (by simp;omega) ?_;intro v3 w4 hown3 hg3 _)
    | fail)
   have hpb:∀ k,Value.ownBlock (.slice pa d pcap)=some k→base≤k:=fun k hk=>by
    rcases HROW.out.2 with⟨e0,_⟩|⟨g',cap',cur,e0,hbg,_⟩
    ·rw [e0] at hk;simp [Value.ownBlock] at hk
    ·rw [e0] at hk;simp [Value.ownBlock] at hk;omega
   have hu4:Upd (fun k=>Value.ownBlock (.slice pa d pcap)=some k) wr w4:=(((Keeps.refl wr).alloc _).upd _).trans' ⟨hg3.os,hg3.tape,hg3.output,hg3.size,fun k hk hn=>hg3.block k hk (fun e=>hn e.symm)⟩
   have hk4:Keeps w w4:=HO.out.keeps.new hu4 (fun k hk=>by have:=hpb k hk;omega)
   have hs4:=hu4.size
   have how4:=HOWN.out.keep hu4 (by omega) (fun hk=>by have:=hpb _ hk;omega)
   have HH:=Lib.hid (⟨hown3,hk4,how4⟩:_∧_∧_)
   clear hown3 hk4 how4 hu4 hpb hg3
   refine(HDEL.out _ HH.out.2.2 (by omega)).mono ?_
   rintro e w5 ⟨rfl,how5,hu5⟩
   obtain⟨hown3,hk4,-⟩:=HH.out
   have hfin:OfAt w w5 LB base n c m R (left.eraseIdx q) (pr++[x]) v3:=by
    have hqm:=HQ.out
    rw [HF.out] at hqm
    have hall:=HO.out.all
    rw [HGO.out] at hall
    refine⟨?_,by omega,?_,?_,how5,?_,?_,hk4.new hu5 (fun k hk=>by subst hk;exact lb3),⟨lb1,?_,lb3⟩⟩
    ·rw [List.length_eraseIdx,if_pos (by rw [HLL.out];exact hpos),HLL.out,Nat.add_sub_cancel]
    ·rw [List.length_append,HO.out.plen,← HD.out]
     show d+1=n-c
     omega
    ·rw [hqm.2];exact Nat.mod_lt _ (facN_pos c)
    ·rw [show n-c=d+1 by omega,List.map_append]
     exact hu5.owns (fun k hk e=>by
      rcases hown3.2 with⟨e0,_⟩|⟨g',cap',cur,e0,hbg,_⟩
      ·rw [e0] at hk;simp [Value.ownBlock] at hk
      ·rw [e0] at hk;simp [Value.ownBlock] at hk;omega) hown3
    ·rw [List.append_assoc,← hqm.1,← hqm.2] at *
     exact hall
    ·have:=hu5.size;omega
   have HFIN:=Lib.hid hfin
   clear hfin how5 hu5 hown3 hk4 HH
   go_wp2_with fail
   go_roundg c
   case rel=>exact⟨m,left.eraseIdx q,pr++[x],by simp,by simp,rfl,HFIN.out⟩
   case measure=>omega

theorem permOf_none (n:Nat)(hn:n≤5)(w:World) :
  Calls Tryz.prog 95 #[.int .i64 (n:Int),.int .i64 (facN n:Int)] w fun e w'=>e=.returned (.tuple #[.slice none 0 0,.bool false])∧Keeps w w':=by
 have HSM:=Lib.hid (fun W:World=>permSame_calls n (by omega) W)
 have HFN:=Lib.hid (fun W:World=>fac_calls n hn W)
 obtain⟨Fn,hFn⟩:∃ F,F=facN n:=⟨_,rfl⟩
 rw [← hFn] at HFN ⊢
 clear hFn
 go_enter Tryz.func95,Tryz.ntmps95
 go_wp2_with (first
  | (go_at_call 124;refine(HSM.out _).mono ?_;rintro e w1 ⟨rfl,hI1,hk1⟩)
  | (go_at_call 155;refine(HFN.out _).mono ?_;rintro e w2 ⟨rfl,rfl⟩)
  | fail)
 go_ret2
 exact⟨rfl,hk1⟩

open Go.RowKit Go.Sort

theorem reach_small {F:Nat→Prop}{w:World}{sb:Nat}{M:St}(h:StoreRep F w sb M)(a:Option Addr)(len cap:Nat)(es:List Edge)(hes:IsEdges w a len es)(hlen:len≤1048576)(hfew12:(reachL M.cs (es.map Edge.to)).length≤12) :
  Calls Tryz.prog 84 #[.pointer (some ⟨sb,0,none⟩),.slice a len cap] w fun e w'=>
   ∃ v,e=.returned v∧IdRow w' v (reachL M.cs (es.map Edge.to))∧Keeps w w'∧∀ g,v.ownBlock=some g→w.heap.size≤g:=by
 have HC:=Lib.hid (reached_calls h a len cap es hes hlen)
 have HR:=Lib.hid h
 obtain⟨i0,hi,hz0,hz1,hz2⟩:=info_parts info_u32
 clear h hes
 go_enter Tryz.func84,Tryz.ntmps84
 go_wp2_with fail
 refine HC.out.mono ?_
 rintro e w1 ⟨b,S,rfl,hV,hown,hfew,hb,hk1⟩
 have HV:=Lib.hid hV
 have HK1:=Lib.hid hk1
 clear hV hk1
 go_wp2_with (first
  | (at_range;refine wpList_range_own _ rfl _ 220 rfl 23 3 (Maps.int_keyed Tryz.underlying23) Tryz.underlying220 _ b S.length _ rfl hown ?_;intro w0 hrg0 hg0 hs0)
  | fail)
 go_frame
 have hsize:=hown.size_le
 have hrow0:w0.ownsRow w.heap.size 23 1 (.slice none 0 0) 0 []:=World.ownsRow_nil _ _ _ _
 have HK0:=Lib.hid (show Keeps w w0 from HK1.out.trans ⟨hg0.os,hg0.tape,hg0.output,hg0.size,fun i hi=>hg0.block i hi (by simp)⟩)
 go_loopg [5] (Maps.size (marksD S)) (fun gk v wr=>∃ (left:Lit→Bool) (ids:List Int),wr.ranges Tryz.prog 23 (plainElem (H:=Unit) Tryz.prog 3) b w1.heap.size S.length (marksD S) left gk ∧
  wr.ownsRow w.heap.size 23 1 v ids.length (ids.map (Value.int .u32))∧Gathered S left ids∧ids.length+gk≤S.length∧(ids=[]→v=.slice none 0 0)∧Keeps w wr)
 case atStart=>exact⟨_,[],hrg0,hrow0,Gathered.start S,by simpa using hsize,fun _=>rfl,HK0.out⟩
 case round=>
  obtain⟨left,ids,hrg,hrow,hG,hlen2,hnil,hk⟩:=hrel
  have HN:=Lib.hid hnil
  clear hnil
  have HG:=Lib.hid hG
  have HK:=Lib.hid hk
  clear hG hk
  obtain⟨va,vcap,rfl,hva⟩:=owns_slice hrow
  go_wp2_with (first
   | (at_next;refine wpList_next_ranges_ii _ rfl _ rfl 23 3 .u32 .i64 (Maps.int_keyed Tryz.underlying23) Tryz.underlying23 Tryz.underlying3 b w1.heap.size S.length _ _ _ rfl hrg ?_ ?_)
   | fail)
  ·intro hc0 hl0
   have hp:=HG.out.perm HV.out.once hl0
   rcases hrow.2 with⟨h0,hn0⟩|⟨g,cap',cur,h0,hbg,hg,hn,hcm,hcs,htake⟩
   ·have e0:ids=[]:=List.length_eq_zero_iff.1 hn0
    subst e0
    cases h0
    have eS:S=[]:=by have:=hp.length_eq;exact List.length_eq_zero_iff.1 (by simpa using this.symm)
    have eR:reachL M.cs (es.map Edge.to)=[]:=by
     rw [List.eq_nil_iff_forall_not_mem]
     intro y hy
     have:=(HV.out.iff y).2 (mem_reachL.1 hy)
     rw [eS] at this
     simp at this
    go_wp2_with (go_at_call 149;refine(sort_nil _).mono ?_;rintro e w3 ⟨rfl,rfl⟩)
    go_ret
    refine⟨_,rfl,?_,HK.out,fun g hg=>by simp [Value.ownBlock] at hg⟩
    rw [eR]
    exact⟨none,0,rfl,by simp⟩
   ·cases h0
    have hR:RowAt wr g vcap ids.toArray:=by
     refine⟨cur,hg,by omega,by simpa using hn,fun j hj=>?_⟩
     have hj':j<ids.length:=by simpa using hj
     have h1:(cur.toList.take (ids.length*1))[j]?=(ids.map (Value.int .u32))[j]?:=by rw [htake]
     rw [List.getElem?_take_of_lt (by omega),Array.getElem?_toList] at h1
     rw [h1,getElem!_pos ids.toArray j hj]
     simp [hj']
    have hpos:0<ids.length:=by
     rcases Nat.eq_zero_or_pos ids.length with hz|hz
     ·have:=HN.out (List.length_eq_zero_iff.1 hz)
      cases this
     ·exact hz
    have hl12:ids.length≤12:=by
     have h1:ids.length=_:=hp.length_eq
     have h2:=((List.perm_ext_iff_of_nodup HV.out.once (rising_nodup (reachL_rising M.cs (es.map Edge.to)))).2 (fun x=>(HV.out.iff x).trans mem_reachL.symm)).length_eq
     omega
    have HS:=Lib.hid (sort_small g vcap ids.length ids.toArray wr hR (by simp) hpos hl12)
    go_wp2_with fail
    refine HS.out.mono ?_
    rintro e w3 ⟨rfl,d',hpi,hsi,hsr⟩
    have hk3:Keeps w w3:=HK.out.new hsr.upd (fun k hk=>by subst hk;exact hbg)
    have hd:=sorted_reachL (d:=ids.toArray) (d':=d') HV.out (by simpa using hp) (by simpa using hpi) (by simpa using hsi)
    have hlenr:(reachL M.cs (es.map Edge.to)).length=ids.length:=by
     rw [← hd,Array.length_toList,hpi.1]
     simp
    have hrow3:=hsr.row
    clear hsr
    go_wp2
    go_ret
    refine⟨.slice (some ⟨g,0,none⟩) ids.length vcap,rfl,⟨some ⟨g,0,none⟩,vcap,by rw [hlenr],fun j x hx=>⟨g,rfl,?_⟩⟩,hk3,fun g' hg'=>by simp [Value.ownBlock] at hg';omega⟩
    rw [← hd,Array.getElem?_toList] at hx
    have hj:=(Array.getElem?_eq_some_iff.1 hx).1
    rw [hrow3.cell j hj,getElem!_pos d' j hj,(Array.getElem?_eq_some_iff.1 hx).2]
  ·intro x c w2 cnt1 hwx hwc hlx hat hrg1 hlt hg1 hs1 hen
   have hxS:x∈S:=(marksD_has S x).1 (Maps.has_true_of_atKey hat)
   have nr:∀ k,Value.ownBlock (.slice va ids.length vcap)=some k→k≠w1.heap.size∧k≠b:=by
    intro k hk
    obtain⟨cs,hcs⟩:=owns_type hrow hk
    obtain⟨n1,n2⟩:=ranges_iter hrg
    exact⟨fun e=>n1 _ _ _ (by rw [← e];exact hcs),fun e=>n2 _ _ _ (by rw [← e];exact hcs)⟩
   have hk2:Keeps w w2:=HK.out.new (Upd.of_grown hg1) (fun k hk=>by subst hk;exact HK1.out.size)
   have hrow2:w2.ownsRow w.heap.size 23 1 (.slice va ids.length vcap) ids.length (ids.map (Value.int .u32)):=(Upd.of_grown hg1).owns (fun k hk=>(nr k hk).1) hrow
   have HK2:=Lib.hid hk2
   have HR2:=Lib.hid hrow2
   have HG2:=Lib.hid hrg1
   have HXS:=Lib.hid hxS
   have hs2:=hk2.size
   have HG1:=Lib.hid hg1
   clear hk2 hrow2 hrow hrg hrg1 hxS hat hg1
   go_wp2_with (first
    | (at_builtin;refine wpList_append_own _ rfl _ _ 108 rfl w.heap.size 23 i0 (.int .u32 0) 1 4 Tryz.underlying108 hi hz0 hz1 hz2 rfl (by decide) (.slice va ids.length vcap) ids.length (ids.map (Value.int .u32)) rfl (HR2.out.alloc _) ⟨wr.heap.size,0,none⟩ 1 1 [.int .u32 x] rfl rfl (cell_new _ _ _ _ hs1.symm) (by simp [Value.oneCell']) (by unfold maxLen;omega) (by omega) (by simp;omega) ?_;intro v' w3 hown3 hg3 _)
    | fail)
   have HO3:=Lib.hid hown3
   have HU3:=Lib.hid hg3
   clear hown3 hg3
   go_roundg cnt1
   case rel=>
    have hk3:Keeps w w3:=by
     refine Keeps.new (F:=fun k=>Value.ownBlock (.slice va ids.length vcap)=some k) (HK2.out.alloc (.cells #[.int .u32 x] 23)) ⟨HU3.out.os,HU3.out.tape,HU3.out.output,HU3.out.size,fun k hk hn=>HU3.out.block k hk (fun e=>hn e.symm)⟩ (fun k hk=>?_)
     rcases HR2.out.2 with⟨h0,_⟩|⟨g,cap',cur,h0,hbg,_⟩
     ·rw [h0] at hk;simp [Value.ownBlock] at hk
     ·rw [h0] at hk;simp [Value.ownBlock] at hk;omega
    refine⟨_,ids++[x],(HG2.out.alloc _).kept HU3.out (fun e=>(nr b e.symm).2 rfl) (fun e=>(nr _ e.symm).1 rfl),?_,HG.out.step HXS.out hlx,by simp;omega,fun h=>by simp at h,hk3⟩
    simpa using HO3.out
   case measure=>omega

end Go.Proofs.YtpgcbmbnognieaaGreat
