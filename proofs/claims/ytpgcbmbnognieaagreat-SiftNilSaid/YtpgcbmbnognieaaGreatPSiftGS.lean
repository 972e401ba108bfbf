/-
  sift.bed's to, goes.
-/
import Derived.Test.YtpgcbmbnognieaaGreatPSiftH
namespace Go.Proofs.YtpgcbmbnognieaaGreat
set_option maxRecDepth 1000000
set_option maxHeartbeats 8000000
set_option linter.unusedSimpArgs false
set_option linter.unusedVariables false
open Go.RowKit

theorem BedAt.size {F0 Fo X:Nat→Prop}{w0 w:World}{bb lb cap sb ob:Nat}{la:Option Addr}{ps:List Int}{fs:List (Int×List Bool)}(h:BedAt F0 Fo X w0 w bb lb la cap sb ob ps fs):sizeO fs ps≤508:=by
 obtain⟨F,M,rs,h1,-⟩:=h
 have h2:=h1.sit.rep.wf.full
 have h3:=h1.sit.room
 have h4:=h1.few
 have h5:=(h1.stand.size h1.sit.rep h1.perm h1.sit.n h1.n6 (by have:=h1.vast;omega)).2
 omega

theorem bedLen_calls {F0 Fo X:Nat→Prop}{w0 w:World}{bb lb cap sb ob:Nat}{la:Option Addr}{ps:List Int}{fs:List (Int×List Bool)}(h:BedAt F0 Fo X w0 w bb lb la cap sb ob ps fs)(W:World)(hW:Keeps w W) :
  Calls Tryz.prog 44 #[.pointer (some ⟨sb,0,none⟩)] W fun e w'=>e=.returned (.int .i64 (sizeO fs ps:Int))∧W=w':=by
 obtain⟨F,M,rs,h1,-⟩:=h
 have:=store_len (h1.sit.rep.keeps hW)
 rw [h1.len] at this
 exact this

theorem siftSize_small {F:Nat→Prop}{w:World}{sb:Nat}{M:St}(h:StoreRep F w sb M)(a:Option Addr)(cap:Nat)(rs:List (Int×Edge))(hr:IsRoots w a rs)(hl:rs.length≤1048576)(hm:mayR M rs=0)(h12:(reachL M.cs ((rs.map Prod.snd).map Edge.to)).length≤12) :
  Calls Tryz.prog 42 #[.pointer (some ⟨sb,0,none⟩),.slice a rs.length cap] w fun e w'=>e=.returned (.tuple #[.int .i64 ((reachL M.cs ((rs.map Prod.snd).map Edge.to)).length:Int),.int .u8 0])∧Keeps w w':=by
 have hmy:=siftMay_calls h a cap rs hr hl
 rw [hm] at hmy
 have hok:∀ e∈rs.map Prod.snd,e.ok:=fun e he=>by
  obtain⟨r,hr',rfl⟩:=List.mem_map.1 he
  obtain⟨i,hi⟩:=List.mem_iff_getElem?.1 hr'
  exact(hr i r hi).2.1
 have hed:=fun(W:World) (bb:Nat) (hW:Keeps w W) (c2:W.cell? ⟨bb,2,none⟩=some (.slice a rs.length cap))=>bedEdges_calls c2 (hr.keeps hW) rfl hl
 have hrc:=fun(W:World) (g:Nat) (hW:Keeps w W) (hg:RowE W g (rs.map Prod.snd))=>reach_small (h.keeps hW) (some ⟨g,0,none⟩) rs.length rs.length (rs.map Prod.snd) ⟨by rw [List.length_map],fun i e he=>(hg.at hok) i e he⟩ hl h12
 have HM:=Lib.hid hmy
 have HED:=Lib.hid hed
 have HRC:=Lib.hid hrc
 obtain⟨N,hN⟩:∃ N,N=rs.length:=⟨_,rfl⟩
 rw [← hN] at HM HED HRC hl ⊢
 obtain⟨L,hL⟩:∃ L,L=reachL M.cs ((rs.map Prod.snd).map Edge.to):=⟨_,rfl⟩
 rw [← hL] at HRC ⊢
 clear h hr hm hmy hok hed hrc hN hL h12
 go_enter Tryz.func42,Tryz.ntmps42
 go_wp2_with (first|(go_at_call 93;refine HM.out.mono ?_;rintro e w1 ⟨rfl,hk1⟩)|fail)
 refine(HED.out _ _ (by(exact kp)) (by simp [go_sem])).mono ?_
 rintro e w2 ⟨g,rfl,hg,hRE,hk2⟩
 have hk02:Keeps w w2:=(show Keeps w _ from hk1.alloc _).trans hk2
 have HRC2:=Lib.hid (HRC.out w2 g hk02 hRE)
 have HK02:=Lib.hid hk02
 clear hRE hk2 hk02
 go_wp2_with fail
 refine HRC2.out.mono ?_
 rintro e w3 ⟨v,rfl,⟨a',cap',rfl,-⟩,hk3,-⟩
 go_wp2_with fail
 go_ret2
 exact⟨rfl,HK02.out.trans hk3⟩

open Go.ChangeShapes Go.WideShapes Go.ChangeAt Go.RowKit

theorem root27_cells {H:Type}{enc:TypeId×Value→H}{W:World}{base:Nat}{spare:Nat→Bool}{held:Bool}{n:Nat}{cs:List Value}{x:DataW H×List MemPlace}
  (h:DataW.trod enc Tryz.prog W base spare held n 85 cs=some x):∃ r:Int×Edge,((0≤r.1∧r.1≤255)∧r.2.ok)∧cs=[.int .u8 r.1,.int .u8 r.2.tag,.int .u32 r.2.to]:=by
 obtain⟨xs,m,_,_,hlen,hxs,hf⟩:=DataW.trod_struct Tryz.underlying85 h
 have hC:Tryz.prog.cellsOf 85=3:=by kernel_rfl
 have C8:Tryz.prog.cellsOf 5=1:=by kernel_rfl
 have CE:Tryz.prog.cellsOf 25=2:=by kernel_rfl
 rw [hC] at hlen
 have f0:=hf 0 _ rfl
 have f1:=hf 1 _ rfl
 rw [List.getElem?_eq_getElem (by rw [hxs];decide)] at f0 f1
 obtain⟨a,ha,_,wa⟩:=DataW.trod_int Tryz.underlying5 f0
 obtain⟨e,we,he⟩:=edge_cells f1
 match cs,hlen with
 | [c0,c1,c2],_=>
  simp [C8,CE] at ha he
  refine⟨(a,e),⟨wf_u8 wa,we⟩,?_⟩
  rw [ha,he.1,he.2]

theorem open_root27 {H:Type}{enc:TypeId×Value→H}{W:World}{base:Nat}{spare:Nat→Bool}{held:Bool}{a:Option Addr}{len cap:Nat}{d:DataW H}{p:List MemPlace}
  (h:DataW.Trod enc Tryz.prog W base spare held 81 (.slice a len cap) d p):∃ rs:List (Int×Edge),IsRootRow W a len rs:=by
 obtain⟨rs,h1,h2⟩:=open_structs (k:=3) (fun(r:Int×Edge) cs=>((0≤r.1∧r.1≤255)∧r.2.ok)∧cs=[.int .u8 r.1,.int .u8 r.2.tag,.int .u32 r.2.to]) Tryz.underlying81 (by kernel_rfl) (by decide) (fun n cs x hx=>by
  obtain⟨r,h1,h2⟩:=root27_cells hx
  exact⟨by rw [h2];rfl,r,h1,h2⟩) h
 refine⟨rs,h1,fun i r hr=>?_⟩
 obtain⟨b,off,cs,ha,⟨hok,rfl⟩,hc⟩:=h2 i r hr
 have c0:=hc 0 (by decide)
 rw [Nat.add_zero] at c0
 exact⟨hok.1,hok.2,b,off,ha,c0,hc 1 (by decide),hc 2 (by decide)⟩

instance:Inhabited (Int×Int):=⟨(0,0)⟩

theorem siftSize_nil (v:Value)(w:World):Calls Tryz.prog 42 #[.pointer none,v] w fun e w'=>e=.returned (.tuple #[.int .i64 0,.int .u8 2])∧w'=w:=by
 go_enter Tryz.func42,Tryz.ntmps42
 go_wp2_with fail
 go_ret2
 exact⟨rfl,rfl⟩

end Go.Proofs.YtpgcbmbnognieaaGreat
