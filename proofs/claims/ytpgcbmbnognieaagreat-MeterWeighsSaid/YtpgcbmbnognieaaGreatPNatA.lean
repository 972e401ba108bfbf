/-
  Rows of words of one's own; slices.Clone, nat.Norm, fits, told, both, Of.
-/
import Derived.Test.YtpgcbmbnognieaaGreatPNatL
import Derived.Test.YtpgcbmbnognieaaGreatPWordsR
import Derived.Laws.Externs
namespace Go.Proofs.YtpgcbmbnognieaaGreat
set_option linter.unusedSimpArgs false
set_option linter.unusedVariables false
set_option maxHeartbeats 600000
open Go.RowKit

theorem rowU_owns {w:World} {lo:Nat} {g:Nat} {n cap:Nat} {ps:List Int} (hown:w.ownsRow lo 50 1 (.slice (some ⟨g,0,none⟩) n cap) n (ps.map (Value.int .u64))):RowU w g ps ∧ lo ≤ g:=by
 obtain ⟨cur0,hcur0⟩:=owns_type hown (k:=g) rfl
 rcases hown.2 with ⟨h0,_⟩ | ⟨g',cap',cur,hv,hb,hg,_,_,hs,ht⟩
 ·cases h0
 ·cases hv
  refine ⟨⟨cur,hg,fun i x hx=>?_⟩,hb⟩
  have h1:(ps.map (Value.int .u64))[i]?=some (.int .u64 x):=by rw [List.getElem?_map,hx];rfl
  rw [← ht,List.getElem?_take] at h1
  split at h1
  ·rw [Array.getElem?_toList] at h1
   exact h1
  ·cases h1

def RowUV (lo:Nat) (w:World) (a:Option Addr) (ps:List Int):Prop:=ps ≠ [] → ∃ g,a=some ⟨g,0,none⟩ ∧ lo ≤ g ∧ RowU w g ps

theorem RowUV.words {lo:Nat} {w:World} {a:Option Addr} {ps:List Int} (h:RowUV lo w a ps) (hr:∀ x ∈ ps,0 ≤ x ∧ x < 2 ^ 64):WordsAt w a ps:=fun i x hx=>by
 obtain ⟨g,ha,_,hrow⟩:=h (fun e=>by rw [e] at hx;simp at hx)
 rw [ha]
 exact hrow.words hr i x hx

theorem RowUV.keeps {lo:Nat} {w w':World} {a:Option Addr} {ps:List Int} (h:RowUV lo w a ps) (hk:Keeps w w'):RowUV lo w' a ps:=fun hn=>by
 obtain ⟨g,ha,hl,hr⟩:=h hn
 exact ⟨g,ha,hl,hr.keeps hk⟩

def B64:Nat:=2 ^ 64

theorem b64_two:2 ≤ B64:=by decide

theorem words_ok {w:World} {a:Option Addr} {ws:List Int} (h:WordsAt w a ws):WordsOk B64 ws:=fun x hx=>by
 obtain ⟨i,hi⟩:=List.mem_iff_getElem?.1 hx
 exact (h i x hi).1

theorem WordsAt.take {w:World} {a:Option Addr} {ws:List Int} (h:WordsAt w a ws) (n:Nat):WordsAt w a (ws.take n):=fun i x hx=>by
 rw [List.getElem?_take] at hx
 split at hx
 ·exact h i x hx
 ·cases hx

def NatV (lo:Nat) (w:World) (v:Nat) (x:Value):Prop:=∃ a cap,x=.slice a (natW B64 v).length cap ∧ (natW B64 v).length ≤ cap ∧ RowUV lo w a (natW B64 v)

theorem NatV.keeps {lo:Nat} {w w':World} {v:Nat} {x:Value} (h:NatV lo w v x) (hk:Keeps w w'):NatV lo w' v x:=by
 obtain ⟨a,cap,h1,h2,h3⟩:=h
 exact ⟨a,cap,h1,h2,h3.keeps hk⟩

theorem NatV.le {lo lo':Nat} {w:World} {v:Nat} {x:Value} (h:NatV lo w v x) (hl:lo' ≤ lo):NatV lo' w v x:=by
 obtain ⟨a,cap,h1,h2,h3⟩:=h
 refine ⟨a,cap,h1,h2,fun hn=>?_⟩
 obtain ⟨g,q1,q2,q3⟩:=h3 hn
 exact ⟨g,q1,by omega,q3⟩

theorem natV_nil (lo:Nat) (w:World):NatV lo w 0 (.slice none 0 0):=by
 refine ⟨none,0,by rw [natW_zero];rfl,by rw [natW_zero];exact Nat.le_refl _,fun hn=>?_⟩
 rw [natW_zero] at hn
 exact absurd rfl hn

theorem natW_words (v:Nat):∀ x ∈ natW B64 v,0 ≤ x ∧ x < 2 ^ 64:=fun x hx=>natW_ok b64_two v x hx

theorem owns_cap {w:World} {base:Nat} {e:TypeId} {size:Nat} {a:Option Addr} {n cap:Nat} {xs:List Value} (h:w.ownsRow base e size (.slice a n cap) n xs):n ≤ cap:=by
 rcases h.2 with ⟨h0,hn⟩ | ⟨g,cap',cur,hv,hb,hg,hc,_⟩
 ·omega
 ·cases hv
  exact hc

set_option maxRecDepth 100000 in
theorem clone64_calls (a:Option Addr) (cap:Nat) (ps:List Int) (w:World) (h:WordsAt w a ps) (hl:ps.length ≤ 1048576) :
  Calls Tryz.prog 136 #[.slice a ps.length cap] w fun e w'=>∃ a' cap',e=.returned (.slice a' ps.length cap') ∧ ps.length ≤ cap' ∧ RowUV w.heap.size w' a' ps ∧ Keeps w w':=by
 cases a with
 | none=>
  have hp:ps=[]:=by
   cases ps with
   | nil=>rfl
   | cons x l=>obtain ⟨_,b,off,ha,_⟩:=h 0 x rfl;cases ha
  subst hp
  clear h hl
  rw [List.length_nil]
  have hnil:=fun (W:World)=>Lib.run_eql_slice_nil (P:=Tryz.prog) W 26 50 none 0 cap 0 0 Tryz.underlying26
  go_enter Tryz.func136,Tryz.ntmps136
  go_wp2
  go_ret
  exact ⟨none,0,rfl,Nat.le_refl _,fun hn=>absurd rfl hn,Keeps.refl _⟩
 | some ad=>
  obtain ⟨i0,hi,hz0,hz1,hz2⟩:=info_parts info_u64
  have hcells:∀ j u,(ps.map (Value.int .u64))[j]?=some u → w.cell? (ad.add j)=some u:=fun j u hj=>by
   rw [List.getElem?_map,Option.map_eq_some_iff] at hj
   obtain ⟨x,hx,rfl⟩:=hj
   obtain ⟨_,b,off,ha,hc⟩:=h j x hx
   cases ha
   have hadd:(⟨b,off,none⟩:Addr).add j=⟨b,off + j,none⟩:=by
    unfold Addr.add
    split
    ·rename_i h0
     rw [h0]
     rfl
    ·rfl
   rw [hadd]
   exact hc
  obtain ⟨N,hN⟩:∃ N,N=ps.length:=⟨_,rfl⟩
  rw [← hN] at hl ⊢
  have HC:=Lib.hid hcells
  have HN:=Lib.hid hN
  have h63:0 + N ≤ maxLen:=by unfold maxLen;omega
  clear h hcells hN
  have hnil:=fun (W:World)=>Lib.run_eql_slice_nil (P:=Tryz.prog) W 26 50 (some ad) N cap 0 0 Tryz.underlying26
  go_enter Tryz.func136,Tryz.ntmps136
  go_wp2_with (first
   | (at_builtin;refine wpList_append_fresh rfl _ _ 26 rfl w.heap.size 50 i0 (.int .u64 0) 1 8 Tryz.underlying26 hi hz0 hz1 hz2 rfl (by decide) (.slice (some ⟨w.heap.size,0,none⟩) 0 0) 0 [] rfl (owns_none w 50) ad N cap (ps.map (Value.int .u64)) rfl (by rw [List.length_map,← HN.out,Nat.mul_one]) (fun j u hj=>((Keeps.refl w).alloc _).cell (HC.out j u hj)) (fun u hu=>by rw [List.mem_map] at hu;obtain ⟨x,_,rfl⟩:=hu;rfl) h63 (by omega) (by simp) ?_;intro v' w3 hown3 hg3 hnew)
   | fail)
  obtain ⟨a',cap',rfl,ha'⟩:=owns_slice hown3
  have hcap:=owns_cap hown3
  go_wp2_with fail
  go_ret
  refine ⟨a',cap',by simp,by omega,fun hn=>?_,?_⟩
  ·obtain ⟨g,rfl⟩:=ha' (by rw [Nat.zero_add,HN.out];intro e;exact hn (List.length_eq_zero_iff.1 e))
   rw [List.nil_append] at hown3
   obtain ⟨r1,r2⟩:=rowU_owns hown3
   exact ⟨g,rfl,r2,r1⟩
  ·have hu:Upd (fun k=>k=w.heap.size) (w.alloc (.cells #[] 50)) w3:=⟨hg3.os,hg3.tape,hg3.output,hg3.size,fun k hk hn=>hg3.block k hk (fun e=>by simp [Value.ownBlock] at e;exact hn e)⟩
   exact ((((Keeps.refl w).alloc (.cells #[] 50)).upd _).trans' hu).keeps (fun k hk e=>by omega)

set_option maxRecDepth 100000 in
theorem norm_calls (a:Option Addr) (cap:Nat) (ws:List Int) (w:World) (h:WordsAt w a ws) (hl:ws.length ≤ 1048576) (hc:ws.length ≤ cap) :
  Calls Tryz.prog 69 #[.slice a ws.length cap] w fun e w'=>∃ x,e=.returned x ∧ NatV w.heap.size w' (valW B64 ws).toNat x ∧ Keeps w w':=by
 have hok:=words_ok h
 obtain ⟨N,hN⟩:∃ N,N=ws.length:=⟨_,rfl⟩
 obtain ⟨v,hv⟩:∃ v,v=(valW B64 ws).toNat:=⟨_,rfl⟩
 have HN:=Lib.hid hN
 have HW:=Lib.hid h
 have hfin:∀ n,n ≤ N → (∀ i x,n ≤ i → ws[i]?=some x → x=0) → (n=0 ∨ ∃ x,ws[n - 1]?=some x ∧ x ≠ 0) → ws.take n=natW B64 v:=fun n hn h0 h1=>by rw [hv];exact wtake_trim b64_two hok (by omega) h0 h1
 have hC:∀ n,n ≤ N → ∀ cap,ws.take n=natW B64 v → Calls Tryz.prog 136 #[.slice a n cap] w fun e w'=>∃ x,e=.returned x ∧ NatV w.heap.size w' v x ∧ Keeps w w':=fun n hn cap he=>by
  have q:=clone64_calls a cap (ws.take n) w (h.take n) (by rw [List.length_take];omega)
  rw [show (ws.take n).length=n by rw [List.length_take];omega] at q
  refine q.mono ?_
  rintro e w1 ⟨a',cap',rfl,hc',hr,hk⟩
  have hn:n=(natW B64 v).length:=by rw [← he,List.length_take];omega
  rw [he] at hr
  exact ⟨_,rfl,⟨a',cap',by rw [← hn],by omega,hr⟩,hk⟩
 rw [← hN] at hl hc ⊢
 rw [← hv]
 have HC:=Lib.hid hC
 have HF:=Lib.hid hfin
 clear hC hfin h hok hN hv
 go_enter Tryz.func69,Tryz.ntmps69
 go_wp2_with fail
 go_loopg [3] N (fun gk s3 wr=>s3=.int .i64 (gk:Int) ∧ gk ≤ N ∧ (∀ i x,gk ≤ i → ws[i]?=some x → x=0) ∧ w=wr)
 case atStart=>exact ⟨rfl,Nat.le_refl _,fun i x hi hx=>by
  have:=(List.getElem?_eq_some_iff.1 hx).1
  have:=HN.out
  omega,rfl⟩
 case round=>
  obtain ⟨rfl,hg,hz,rfl⟩:=hrel
  have HZ:=Lib.hid hz
  clear hz
  by_cases hg0:gk=0
  ·subst hg0
   have HE:=Lib.hid (HF.out 0 (Nat.zero_le _) HZ.out (.inl rfl))
   have hlt:¬ (0:Int) < ((0:Nat):Int):=by omega
   go_wp2_with (first | (go_at_call 136;refine (HC.out 0 (Nat.zero_le _) _ HE.out).mono ?_;rintro e w1 ⟨x,rfl,hr,hk⟩) | fail)
   go_ret
   exact ⟨x,rfl,hr,hk⟩
  ·obtain ⟨j,rfl⟩:∃ j,gk=j + 1:=⟨gk - 1,by omega⟩
   obtain ⟨x,hx⟩:∃ x,ws[j]?=some x:=⟨_,List.getElem?_eq_getElem (by have:=HN.out;omega)⟩
   obtain ⟨hxr,b,off,rfl,hcell⟩:=HW.out j x hx
   have hbl:=lt_of_cell hcell
   have HX:=Lib.hid hx
   have hp:(0:Int) < ((j + 1:Nat):Int):=by omega
   clear hx hg0
   by_cases hx0:x=0
   ·subst hx0
    go_wp2_with fail
    go_roundg j
    case rel=>exact ⟨rfl,by omega,fun i y hi hy=>by
     by_cases hij:i=j
     ·subst hij;rw [HX.out] at hy;exact (Option.some.inj hy).symm
     ·exact HZ.out i y (by omega) hy,rfl⟩
    case measure=>omega
   ·have hxe:(x == 0)=false:=by simpa using hx0
    have HE:=Lib.hid (HF.out (j + 1) hg HZ.out (.inr ⟨x,HX.out,hx0⟩))
    clear hx0
    go_wp2_with (first | (go_at_call 136;refine (HC.out (j + 1) hg _ HE.out).mono ?_;rintro e w1 ⟨y,rfl,hr,hk⟩) | fail)
    go_ret
    exact ⟨y,rfl,hr,hk⟩

theorem natV_len {lo:Nat} {w:World} {v:Nat} {x:Value} (h:NatV lo w v x):∃ a cap,x=.slice a (natW B64 v).length cap ∧ (natW B64 v).length ≤ cap ∧ WordsAt w a (natW B64 v):=by
 obtain ⟨a,cap,h1,h2,h3⟩:=h
 exact ⟨a,cap,h1,h2,h3.words (natW_words v)⟩

theorem normV_calls {lo v:Nat} {x:Value} {w:World} (h:NatV lo w v x) (hl:(natW B64 v).length ≤ 1048576) :
  Calls Tryz.prog 69 #[x] w fun e w'=>∃ y,e=.returned y ∧ NatV w.heap.size w' v y ∧ Keeps w w':=by
 obtain ⟨a,cap,rfl,hc,hw⟩:=natV_len h
 have q:=norm_calls a cap (natW B64 v) w hw hl hc
 rw [valW_natW b64_two,Int.toNat_natCast] at q
 exact q

theorem fits_calls (a:Option Addr) (n cap:Nat) (w:World) (hn:n ≤ 1048576):Calls Tryz.prog 146 #[.slice a n cap] w fun e w'=>e=.returned (.bool (decide (n ≤ 64))) ∧ w=w':=by
 by_cases h:n ≤ 64
 ·rw [decide_eq_true h]
  have q:(n:Int) ≤ 64:=by omega
  go_enter Tryz.func146,Tryz.ntmps146
  go_wp2_with fail
  go_ret
  exact ⟨rfl,rfl⟩
 ·rw [decide_eq_false h]
  have q:¬ (n:Int) ≤ 64:=by omega
  go_enter Tryz.func146,Tryz.ntmps146
  go_wp2_with fail
  go_ret
  exact ⟨rfl,rfl⟩

theorem natOf_calls (n:Nat) (w:World) (hn:n < 2 ^ 64) :
  Calls Tryz.prog 135 #[.int .u64 (n:Int)] w fun e w'=>∃ x,e=.returned x ∧ NatV w.heap.size w' n x ∧ Keeps w w':=by
 have hw:WordsAt (w.alloc (.cells #[.int .u64 (n:Int)] 50)) (some ⟨w.heap.size,0,none⟩) [(n:Int)]:=fun i x hx=>by
  cases i with
  | zero=>simp at hx;subst hx;exact ⟨by omega,_,0,rfl,by simp [go_sem]⟩
  | succ i=>simp at hx
 have q:=norm_calls (some ⟨w.heap.size,0,none⟩) 1 [(n:Int)] _ hw (by show 1 ≤ 1048576;decide) (Nat.le_refl 1)
 rw [show (valW B64 [(n:Int)]).toNat=n by show ((n:Int) + B64 * 0).toNat=n;omega] at q
 have HQ:=Lib.hid q
 clear q hw
 go_enter Tryz.func135,Tryz.ntmps135
 go_wp2_with (first | (go_at_call 69;refine HQ.out.mono ?_;rintro e w1 ⟨x,rfl,hr,hk⟩) | fail)
 go_ret
 exact ⟨x,rfl,hr.le (by simp),((Keeps.refl w).alloc _).trans hk⟩

set_option maxRecDepth 100000 in
theorem told_any (a:Option Addr) (cap:Nat) (ws:List Int) (w:World) (h:WordsAt w a ws) (hl:ws.length ≤ 1048576) (hc:ws.length ≤ cap) (hv:(natW B64 (valW B64 ws).toNat).length ≤ 64) :
  Calls Tryz.prog 244 #[.slice a ws.length cap] w fun e w'=>∃ x,e=.returned (.tuple #[x,.bool true]) ∧ NatV w.heap.size w' (valW B64 ws).toNat x ∧ Keeps w w':=by
 have HN:=Lib.hid (norm_calls a cap ws w h hl hc)
 obtain ⟨v,hve⟩:∃ v,v=(valW B64 ws).toNat:=⟨_,rfl⟩
 rw [← hve] at hv HN ⊢
 clear hve h
 go_enter Tryz.func244,Tryz.ntmps244
 go_wp2_with (first | (go_at_call 69;refine HN.out.mono ?_;rintro e w1 ⟨x,rfl,hr,hk⟩) | fail)
 have HR:=Lib.hid hr
 obtain ⟨a,cap2,rfl,hc2,-⟩:=natV_len hr
 have q:=fits_calls a _ cap2 w1 (show (natW B64 v).length ≤ 1048576 by omega)
 rw [decide_eq_true hv] at q
 have HF:=Lib.hid q
 clear hr q
 go_wp2_with (first | (go_at_call 146;refine HF.out.mono ?_;rintro e w2 ⟨rfl,rfl⟩) | fail)
 go_ret2
 exact ⟨_,rfl,HR.out,hk⟩

set_option maxRecDepth 100000 in
theorem nboth_two {lo lo' u v:Nat} {x y:Value} {w:World} (hx:NatV lo w u x) (hy:NatV lo' w v y) (hu:(natW B64 u).length ≤ 64) (hv:(natW B64 v).length ≤ 64) :
  Calls Tryz.prog 241 #[x,y] w fun e w'=>∃ x' y' w1,e=.returned (.tuple #[x',y',.bool true]) ∧ NatV w.heap.size w1 u x' ∧ Keeps w w1 ∧ Keeps w1 w' ∧ NatV w1.heap.size w' v y':=by
 have HX:=Lib.hid hx
 have HY:=Lib.hid hy
 clear hx hy
 go_enter Tryz.func241,Tryz.ntmps241
 go_wp2_with (first
  | (go_at_call 69;refine (normV_calls HX.out (by omega)).mono ?_;rintro e w1 ⟨x',rfl,hr1,hk1⟩;have HR1:=Lib.hid hr1;clear hr1 HX)
  | (go_at_call 69;have qq:=HR1;clear qq;refine (normV_calls (HY.out.keeps hk1) (by omega)).mono ?_;rintro e w2 ⟨y',rfl,hr2,hk2⟩;have HR2:=Lib.hid hr2;clear hr2)
  | fail)
 obtain ⟨a1,c1,rfl,-,-⟩:=natV_len HR1.out
 obtain ⟨a2,c2,rfl,-,-⟩:=natV_len HR2.out
 have q1:=fun W=>fits_calls a1 _ c1 W (show (natW B64 u).length ≤ 1048576 by omega)
 have q2:=fun W=>fits_calls a2 _ c2 W (show (natW B64 v).length ≤ 1048576 by omega)
 simp only [decide_eq_true hu] at q1
 simp only [decide_eq_true hv] at q2
 have HF1:=Lib.hid q1
 have HF2:=Lib.hid q2
 clear q1 q2
 go_wp2_with (first
  | (go_at_call 146;refine (HF1.out _).mono ?_;rintro e w3 ⟨rfl,rfl⟩;clear HF1)
  | (go_at_call 146;refine (HF2.out _).mono ?_;rintro e w4 ⟨rfl,rfl⟩;clear HF2)
  | fail)
 go_ret3
 exact ⟨_,_,w1,rfl,HR1.out,hk1,hk2,HR2.out⟩

theorem nboth_calls {lo lo' u v:Nat} {x y:Value} {w:World} (hx:NatV lo w u x) (hy:NatV lo' w v y) (hu:(natW B64 u).length ≤ 64) (hv:(natW B64 v).length ≤ 64) :
  Calls Tryz.prog 241 #[x,y] w fun e w'=>∃ x' y',e=.returned (.tuple #[x',y',.bool true]) ∧ NatV w.heap.size w' u x' ∧ NatV w.heap.size w' v y' ∧ Keeps w w':=by
 refine (nboth_two hx hy hu hv).mono ?_
 rintro e w2 ⟨x',y',w1,rfl,h1,hk1,hk2,h2⟩
 exact ⟨x',y',rfl,h1.keeps hk2,h2.le hk1.size,hk1.trans hk2⟩

theorem told_calls {g:Nat} (cap:Nat) (ws:List Int) (w:World) (h:RowU w g ws) (hok:WordsOk B64 ws) (hl:ws.length ≤ 1048576) (hc:ws.length ≤ cap) (hv:(natW B64 (valW B64 ws).toNat).length ≤ 64) :
  Calls Tryz.prog 244 #[.slice (some ⟨g,0,none⟩) ws.length cap] w fun e w'=>∃ x,e=.returned (.tuple #[x,.bool true]) ∧ NatV w.heap.size w' (valW B64 ws).toNat x ∧ Keeps w w':=told_any _ cap ws w (h.words hok) hl hc hv

end Go.Proofs.YtpgcbmbnognieaaGreat
