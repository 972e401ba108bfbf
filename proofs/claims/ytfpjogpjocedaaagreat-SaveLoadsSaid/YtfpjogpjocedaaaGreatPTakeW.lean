/-
  ramageref04.Take: the number at a place of bytes; ramageref28.take.
-/
import Derived.Test.YtfpjogpjocedaaaGreatPTakeP
import Derived.Test.YtfpjogpjocedaaaGreatPWireD
import Derived.Deep.CutBlock
import Derived.OwnWalk
namespace Go.Proofs.YtfpjogpjocedaaaGreat
set_option linter.unusedSimpArgs false
set_option linter.unusedVariables false
set_option maxHeartbeats 600000
open Go Go.RowKit

def TakeOut (bs:List Int) (o most:Nat) (e:Ending):Prop:=
 (∃ n size:Nat,e=.returned (.tuple #[.int .u64 (n:Int),.int .i64 (size:Int),.int .i64 0]) ∧ getB most (bs.drop o)=some (n,bs.drop (o + size)) ∧ o + size ≤ bs.length ∧ 0 < size) ∨
 (∃ c:Int,c ≠ 0 ∧ e=.returned (.tuple #[.int .u64 0,.int .i64 0,.int .i64 c]) ∧ getB most (bs.drop o)=none)

set_option maxRecDepth 100000 in
set_option maxHeartbeats 2000000 in
theorem take04_calls (a:Option Addr) (cap:Nat) (bs:List Int) (w:World) (h:BsAt w a bs) (hb:IsBs bs) (hl:bs.length ≤ 1073741824) (o:Nat) (ho:o ≤ bs.length) (most:Nat) (hm:most < 2 ^ 64) :
  Calls Tryz.prog 85 #[.slice a bs.length cap,.int .i64 (o:Int),.int .u64 (most:Int)] w fun e w'=>TakeOut bs o most e ∧ w=w':=by
 obtain ⟨L,hL⟩:∃ L,L=bs.length:=⟨_,rfl⟩
 rw [← hL] at hl ho ⊢
 have H:=Lib.hid h
 have HL:=Lib.hid hL
 have HBS:=Lib.hid hb
 have H0:=Lib.hid (TakeAt.start (bs:=bs) (o:=o) (by rw [← hL];exact ho))
 clear h hL hb
 go_enter Tryz.func85,Tryz.ntmps85
 go_upto_block 0 with fail
 go_cut [9] from 16 to 34 (fun s9 wc=>∃ q k:Nat,s9=.int .i64 (q:Int) ∧ q=o + k ∧ k ≤ 10 ∧ TakeAt bs o k ∧ (q=L ∨ k=10 ∨ ∃ x,bs[q]?=some x ∧ 0 ≤ x ∧ x < 128) ∧ w=wc)
 case first=>
  go_wp2_with fail
  go_loopg [9] 10 (fun gk s9 wr=>∃ q k:Nat,s9=.int .i64 (q:Int) ∧ q=o + k ∧ k + gk=10 ∧ TakeAt bs o k ∧ w=wr)
  case atStart=>exact ⟨o,0,rfl,by omega,by omega,H0.out,rfl⟩
  case round=>
   obtain ⟨q,k,rfl,hq,hk,hA,rfl⟩:=hrel
   have HA:=Lib.hid hA
   have HQ:=Lib.hid hq
   clear hA
   by_cases h1:q < L
   ·obtain ⟨x,hx⟩:∃ x,bs[q]?=some x:=⟨_,List.getElem?_eq_getElem (by rw [← HL.out];exact h1)⟩
    have hxr:=HBS.out x (List.mem_of_getElem? hx)
    obtain ⟨b,off,rfl,c0⟩:=H.out q x hx
    have HX:=Lib.hid hx
    have i1:(q:Int) < (L:Int):=by omega
    clear hx
    by_cases h2:128 ≤ x
    ·by_cases h3:k < 10
     ·have i3:(q:Int) - (o:Int) < 10:=by omega
      clear hq
      go_wp2_with fail
      go_roundg (gk - 1)
      case rel=>exact ⟨q + 1,k + 1,by simp,by have:=HQ.out;omega,by omega,HA.out.next h3 (by rw [← HQ.out];exact HX.out) ⟨h2,hxr.2⟩,rfl⟩
      case measure=>omega
     ·have i3:¬ ((q:Int) - (o:Int) < 10):=by omega
      clear hq
      go_wp2_with fail
      go_meet
      exact ⟨q,k,rfl,HQ.out,by omega,HA.out,.inr (.inl (by omega)),rfl⟩
    ·clear hq
     go_wp2_with fail
     go_meet
     exact ⟨q,k,rfl,HQ.out,by omega,HA.out,.inr (.inr ⟨x,HX.out,hxr.1,by omega⟩),rfl⟩
   ·have i1:¬ ((q:Int) < (L:Int)):=by omega
    have hle:=HA.out.le
    clear hq
    go_wp2_with fail
    go_meet
    exact ⟨q,k,rfl,HQ.out,by omega,HA.out,.inl (by have:=HL.out;have:=HQ.out;omega),rfl⟩
 case rest=>
  obtain ⟨q,k,rfl,hq,hk10,hA,hE,rfl⟩:=hcut
  have HA:=Lib.hid hA
  have HE:=Lib.hid hE
  have HQ:=Lib.hid hq
  clear hA hE H0
  have hqo:(q:Int) - (o:Int)=(k:Int):=by omega
  have HQO:=Lib.hid hqo
  have hqk:o ≤ q ∧ q ≤ o + 10:=by omega
  clear hqo hq
  go_upto_block 2 with fail
  go_cut [11,12] from 40 to 74 (fun s11 s12 wc=>∃ (ov:Bool) (i:Nat),s11=.bool ov ∧ i ≤ q + 1 ∧ (L ≤ i ∨ o + 9 < i ∨ q < i) ∧ (ov=true ↔ Over bs o i) ∧ w=wc)
  case first=>
   go_wp2_with fail
   go_loopg [11,12] k (fun gk s11 s12 wr=>∃ (ov:Bool) (i:Nat),s11=.bool ov ∧ s12=.int .i64 (i:Int) ∧ i + gk=q + 1 ∧ o < i ∧ (ov=true ↔ Over bs o i) ∧ w=wr)
   case atStart=>exact ⟨false,o + 1,rfl,by simp,by have:=HQ.out;omega,by omega,by simp [Over.none],rfl⟩
   case round=>
    obtain ⟨ov,i,rfl,rfl,hi,hoi,hov,rfl⟩:=hrel
    have HOV:=Lib.hid hov
    clear hov
    by_cases h1:i < L
    ·have i1:(i:Int) < (L:Int):=by omega
     by_cases h2:i ≤ o + 9
     ·have i2:(i:Int) - (o:Int) ≤ 9:=by omega
      by_cases h3:i ≤ q
      ·have i3:(i:Int) ≤ (q:Int):=by omega
       obtain ⟨x,hx⟩:∃ x,bs[i]?=some x:=⟨_,List.getElem?_eq_getElem (by rw [← HL.out];exact h1)⟩
       have hxr:=HBS.out x (List.mem_of_getElem? hx)
       obtain ⟨b,off,rfl,c0⟩:=H.out i x hx
       have HNX:=Lib.hid (Over.next ⟨hoi,h2⟩ hx)
       clear hx
       by_cases h4:x=0
       ·subst h4
        go_wp2_with fail
        go_roundg (gk - 1)
        case rel=>exact ⟨true,i + 1,rfl,by simp,by omega,by omega,by rw [HNX.out];simp,rfl⟩
        case measure=>omega
       ·have g4:(x == 0)=false:=by simp [h4]
        by_cases h5:i=o + 9
        ·have i5:((i:Int) - (o:Int) == 9)=true:=by simp;omega
         have H5:=Lib.hid h5
         clear h5
         by_cases h6:1 < x
         ·go_wp2_with fail
          go_roundg (gk - 1)
          case rel=>exact ⟨true,i + 1,rfl,by simp,by omega,by omega,by rw [HNX.out];simp [H5.out,h6],rfl⟩
          case measure=>omega
         ·go_wp2_with fail
          go_roundg (gk - 1)
          case rel=>exact ⟨ov,i + 1,rfl,by simp,by omega,by omega,by rw [HNX.out,HOV.out];exact ⟨Or.inl,fun h=>h.elim id (fun h=>h.elim (fun e=>absurd e h4) (fun e=>absurd e.2 (by omega)))⟩,rfl⟩
          case measure=>omega
        ·have i5:((i:Int) - (o:Int) == 9)=false:=by simp;omega
         go_wp2_with fail
         go_roundg (gk - 1)
         case rel=>exact ⟨ov,i + 1,rfl,by simp,by omega,by omega,by rw [HNX.out,HOV.out];simp [h4,h5],rfl⟩
         case measure=>omega
      ·have i3:¬ ((i:Int) ≤ (q:Int)):=by omega
       go_wp2_with fail
       go_meet
       exact ⟨ov,i,rfl,by omega,.inr (.inr (by omega)),HOV.out,rfl⟩
     ·have i2:¬ ((i:Int) - (o:Int) ≤ 9):=by omega
      go_wp2_with fail
      go_meet
      exact ⟨ov,i,rfl,by omega,.inr (.inl (by omega)),HOV.out,rfl⟩
    ·have i1:¬ ((i:Int) < (L:Int)):=by omega
     go_wp2_with fail
     go_meet
     exact ⟨ov,i,rfl,by omega,.inl (by omega),HOV.out,rfl⟩
  case rest=>
   obtain ⟨ov,i,rfl,hi1,hid,hov,rfl⟩:=hcut
   have HOV:=Lib.hid hov
   have HID:=Lib.hid hid
   clear hov hid
   by_cases hk:k=10
   ·have g1:((q:Int) - (o:Int) == 10)=true:=by have:=HQ.out;simp;omega
    have HN:Hid (getB most (bs.drop o)=none):=Lib.hid (by have q9:=HA.out;rw [hk] at q9;exact q9.none10 hm)
    clear hk
    go_wp2_with fail
    go_ret3
    exact ⟨.inr ⟨7,by decide,rfl,HN.out⟩,rfl⟩
   ·have g1:((q:Int) - (o:Int) == 10)=false:=by have:=HQ.out;simp;omega
    have hk9:k ≤ 9:=by omega
    cases ov with
    | true=>
     have HN:Hid (getB most (bs.drop o)=none):=Lib.hid (by
      by_cases he:q=L
      ·exact HA.out.noneEnd hk9 (by rw [← HQ.out,he,HL.out]) most
      ·obtain ⟨x,hx,hx0⟩:∃ x,bs[q]?=some x ∧ 0 ≤ x ∧ x < 128:=by
        rcases HE.out with h | h | h
        ·exact absurd h he
        ·exact absurd h hk
        ·exact h
       rw [HQ.out] at hx
       exact HA.out.noneOver hk9 hx hx0 ((over_last HA.out hk9 hx i (by have:=HQ.out;omega) (by have:=HID.out;have:=HL.out;have:=HQ.out;omega)).1 (HOV.out.1 rfl)) hm)
     go_wp2_with fail
     go_ret3
     exact ⟨.inr ⟨7,by decide,rfl,HN.out⟩,rfl⟩
    | false=>
     by_cases he:q=L
     ·have HN:Hid (getB most (bs.drop o)=none):=Lib.hid (HA.out.noneEnd hk9 (by rw [← HQ.out,he,HL.out]) most)
      have g2:(L:Int) ≤ (q:Int):=by omega
      clear he
      go_wp2_with fail
      go_ret3
      exact ⟨.inr ⟨11,by decide,rfl,HN.out⟩,rfl⟩
     ·obtain ⟨x,hx,hx0⟩:∃ x,bs[q]?=some x ∧ 0 ≤ x ∧ x < 128:=by
       rcases HE.out with h | h | h
       ·exact absurd h he
       ·exact absurd h hk
       ·exact h
      have hqL:q < L:=by rw [HL.out];exact (List.getElem?_eq_some_iff.1 hx).1
      rw [HQ.out] at hx
      have hno:¬ ((k ≠ 0 ∧ x=0) ∨ (k=9 ∧ 1 < x)):=fun hh=>by
       have:=HOV.out.2 ((over_last HA.out hk9 hx i (by have:=HQ.out;omega) (by have:=HID.out;have:=HL.out;have:=HQ.out;omega)).2 hh)
       cases this
      obtain ⟨s1,s2⟩:=HA.out.some' hk9 hx hx0 (fun hh=>hno (.inl hh)) (fun hh=>hno (.inr hh))
      have g2:¬ ((L:Int) ≤ (q:Int)):=by omega
      rw [← sfx_all] at s1 s2
      have HS1:=Lib.hid s1
      have HS2:=Lib.hid s2
      clear hno s1 s2 hx
      go_wp2_with fail
      go_loopg [13,14] (k + 1) (fun gk s13 s14 wr=>∃ j S:Nat,s14=.int .i64 ((q:Int) - (j:Int)) ∧ s13=.int .u64 (S:Int) ∧ j + gk=k + 1 ∧ S=sfx bs o k j ∧ w=wr)
      case atStart=>exact ⟨0,0,by simp,rfl,by omega,(sfx_zero _ _ _).symm,rfl⟩
      case round=>
       obtain ⟨j,S,rfl,rfl,hj,hS,rfl⟩:=hrel
       by_cases hjk:j ≤ k
       ·have hq:=HQ.out
        obtain ⟨p,hp⟩:∃ p,p=o + k - j:=⟨_,rfl⟩
        obtain ⟨y,hy⟩:∃ y,bs[p]?=some y:=⟨_,List.getElem?_eq_getElem (by rw [← HL.out];omega)⟩
        have hyr:=HBS.out y (List.mem_of_getElem? hy)
        obtain ⟨b,off,rfl,c0⟩:=H.out p y hy
        have hnx:=sfx_next hjk (by rw [← hp];exact hy)
        have hle:=sfx_le (bs:=bs) (o:=o) (k:=k) (by rw [← HL.out];omega) (k + 1 - (j + 1)) (j + 1) (by omega)
        have hs2:=HS2.out
        obtain ⟨Y,rfl⟩:∃ Y:Nat,y=(Y:Int):=⟨y.toNat,by omega⟩
        rw [← hS] at hnx
        rw [hnx] at hle
        have e1:(q:Int) - (j:Int)=(p:Int):=by omega
        have E1:=Lib.hid e1
        have b1:(S:Int) * 128 + (Y:Int) % 128 ≤ 18446744073709551615:=by rw [Int.toNat_natCast] at hle;omega
        have b0:(S:Int) * 128 ≤ 18446744073709551615:=by omega
        have HNX:=Lib.hid hnx
        have i1:(p:Int) < (L:Int):=by omega
        have i2:(o:Int) ≤ (p:Int):=by omega
        rw [e1]
        clear hnx hle hs2 hS hy hq hp e1
        go_wp2_with fail
        go_roundg (gk - 1)
        case rel=>exact ⟨j + 1,128 * S + Y % 128,by have:=E1.out;congr 1;omega,by congr 1;omega,by omega,by rw [HNX.out,Int.toNat_natCast];omega,rfl⟩
        case measure=>omega
       ·have hjk2:j=k + 1:=by omega
        subst hjk2
        have i2:¬ ((o:Int) ≤ (q:Int) - ((k + 1:Nat):Int)):=by have:=HQ.out;omega
        have hS2:=HS2.out
        rw [← hS] at hS2
        have HGB:Hid (getG 10 (bs.drop o)=some (S,bs.drop (o + (k + 1)))):=Lib.hid (by rw [hS];exact HS1.out)
        clear hS
        by_cases hmo:S ≤ most
        ·have g3:¬ ((most:Int) < (S:Int)):=by omega
         go_wp2_with fail
         go_ret3
         exact ⟨.inl ⟨S,k + 1,by have:=HQO.out;simp;omega,by unfold getB;rw [HGB.out];simp only [];rw [if_pos hmo],by have:=HL.out;have:=HQ.out;omega,by omega⟩,rfl⟩
        ·have g3:((most:Int) < (S:Int)):=by omega
         go_wp2_with fail
         go_ret3
         exact ⟨.inr ⟨12,by decide,rfl,by unfold getB;rw [HGB.out];simp only [];rw [if_neg hmo]⟩,rfl⟩

def Pos (bs:List Int) (p:Int) (rd:Option (List Int)):Prop:=(rd=none ∧ p=-1) ∨ ∃ o:Nat,p=(o:Int) ∧ o ≤ bs.length ∧ rd=some (bs.drop o)

theorem Pos.start (bs:List Int):Pos bs 0 (some bs):=.inr ⟨0,rfl,Nat.zero_le _,rfl⟩

theorem Pos.end {bs:List Int} {p:Int} {rd:Option (List Int)} (h:Pos bs p rd):p=(bs.length:Int) ↔ rd=some []:=by
 rcases h with ⟨rfl,rfl⟩ | ⟨o,rfl,ho,rfl⟩
 ·constructor
  ·intro h;omega
  ·intro h;cases h
 ·constructor
  ·intro h
   have:o=bs.length:=by omega
   rw [this,List.drop_length]
  ·intro h
   have h2:=congrArg List.length (Option.some.inj h)
   rw [List.length_drop,List.length_nil] at h2
   omega

theorem Pos.neg {bs:List Int} {p:Int} {rd:Option (List Int)} (h:Pos bs p rd):p < 0 ↔ rd=none:=by
 rcases h with ⟨rfl,rfl⟩ | ⟨o,rfl,ho,rfl⟩
 ·simp
 ·simp

set_option maxRecDepth 100000 in
theorem take28_calls (a:Option Addr) (cap:Nat) (bs:List Int) (w:World) (h:BsAt w a bs) (hb:IsBs bs) (hl:bs.length ≤ 1073741824) (p:Int) (rd:Option (List Int)) (hp:Pos bs p rd) (most:Nat) (hm:most ≤ 1073741825) :
  Calls Tryz.prog 42 #[.slice a bs.length cap,.int .i64 p,.int .u64 (most:Int)] w fun e w'=>(∃ p',e=.returned (.tuple #[.int .i64 ((numR most rd).1:Int),.int .i64 p']) ∧ Pos bs p' (numR most rd).2) ∧ w=w':=by
 rcases hp with ⟨rfl,rfl⟩ | ⟨o,rfl,ho,rfl⟩
 ·clear h hb hl
  go_enter Tryz.func42,Tryz.ntmps42
  go_wp2
  go_ret2
  exact ⟨⟨-1,rfl,.inl ⟨rfl,rfl⟩⟩,rfl⟩
 ·have HT:=Lib.hid (take04_calls a cap bs w h hb hl o ho most (by omega))
  obtain ⟨L,hL⟩:∃ L,L=bs.length:=⟨_,rfl⟩
  have HL:=Lib.hid hL
  rw [← hL] at HT ho hl ⊢
  clear h hb hL
  go_enter Tryz.func42,Tryz.ntmps42
  go_wp2_with fail
  refine HT.out.mono ?_
  rintro e w1 ⟨hh,rfl⟩
  rcases hh with ⟨n,size,rfl,hg,hs,hs0⟩ | ⟨c,hc,rfl,hg⟩
  ·have hnm:n ≤ most:=by
    unfold getB at hg
    cases h10:getG 10 (bs.drop o) with
    | none=>rw [h10] at hg;cases hg
    | some q=>
     obtain ⟨n',r⟩:=q
     rw [h10] at hg
     simp only [] at hg
     by_cases h:n' ≤ most
     ·rw [if_pos h] at hg;cases hg;exact h
     ·rw [if_neg h] at hg;cases hg
   have hwn:IntKind.i64.wrap (n:Int)=(n:Int):=wrap_nat64 n (by omega)
   have HG:Hid (numR most (some (bs.drop o))=(n,some (bs.drop (o + size)))):=Lib.hid (by unfold numR;simp only [];rw [hg])
   have HS:=Lib.hid hs
   rw [← HL.out] at hs
   clear hg hnm
   go_wp2_with fail
   go_ret2
   exact ⟨⟨((o + size:Nat):Int),by rw [HG.out];simp,.inr ⟨o + size,rfl,HS.out,by rw [HG.out]⟩⟩,rfl⟩
  ·have HG:Hid (numR most (some (bs.drop o))=(0,none)):=Lib.hid (by unfold numR;simp only [];rw [hg])
   have gne:(c != 0)=true:=by simp [hc]
   clear hg
   go_wp2_with fail
   go_ret2
   exact ⟨⟨-1,by rw [HG.out];rfl,.inl ⟨by rw [HG.out],rfl⟩⟩,rfl⟩

end Go.Proofs.YtfpjogpjocedaaaGreat
