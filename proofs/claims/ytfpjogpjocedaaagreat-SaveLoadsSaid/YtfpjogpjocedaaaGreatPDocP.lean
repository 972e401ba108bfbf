/-
  Plainly: the document's reading of bytes, in a store with room for as many nodes as bytes: just the same bytes are good.
-/
import Derived.Test.YtfpjogpjocedaaaGreatPTakeW
import Derived.Test.YtfpjogpjocedaaaGreatPTextA
import Derived.Test.YtfpjogpjocedaaaGreatPTextB
namespace Go.Proofs.YtfpjogpjocedaaaGreat
set_option linter.unusedSimpArgs false
set_option linter.unusedVariables false
set_option maxHeartbeats 600000

structure GoodD (b:List Int) (T:Txt) (M1:St) (ids:List Int):Prop where
 read:readB b=some T
 perm:permB T.perm=true
 put:putL T.l (St.new (T.vars:Int) (b.length:Int)) []=(0,M1,ids)
 right:kRight M1 (T.form:Int) (atR ids T.e) 0=true
 bytes:saveB M1 T.perm (T.form:Int) (atR ids T.e)=b

theorem putL_len:∀ (l:List Rec) (M:St) (ids:List Int),M.len ≤ (putL l M ids).2.1.len ∧ (putL l M ids).2.1.len ≤ M.len + (l.length:Int):=by
 intro l
 induction l with
 | nil=>intro M ids;exact ⟨Int.le_refl _,by simp [putL]⟩
 | cons x l ih=>
  intro M ids
  unfold putL
  have h1:=findSt_len M (atRec ids x)
  split
  ·have h2:=ih (M.findSt (atRec ids x)) (ids ++ [M.findId (atRec ids x)])
   rw [List.length_cons]
   push_cast
   omega
  ·rw [List.length_cons]
   push_cast
   show M.len ≤ M.len ∧ M.len ≤ _
   omega

theorem putL_at:∀ (l:List Rec) (M:St) (ids:List Int),M.wf → (putL l M ids).1=0 → ∀ r:Int,(putL l M ids).2.1.len ≤ r → putL l (M.at r) ids=(0,(putL l M ids).2.1.at r,(putL l M ids).2.2):=by
 intro l
 induction l with
 | nil=>intro M ids _ _ r _;rfl
 | cons x l ih=>
  intro M ids hM h0 r hr
  unfold putL at h0 hr ⊢
  by_cases he:M.findErr (atRec ids x)=0
  ·rw [if_pos he] at h0 hr ⊢
   have hl:=(putL_len l (M.findSt (atRec ids x)) (ids ++ [M.findId (atRec ids x)])).1
   obtain ⟨a1,a2,a3⟩:=find_at hM he (r:=r) (by omega)
   rw [if_pos a1,a2,a3]
   exact ih _ _ (hM.find _) h0 r hr
  ·rw [if_neg he] at h0
   exact absurd h0 he

theorem putL_solid:∀ (l:List Rec) (M:St) (ids:List Int),M.solid → (putL l M ids).2.1.solid:=by
 intro l
 induction l with
 | nil=>intro M ids h;exact h
 | cons x l ih=>
  intro M ids h
  unfold putL
  split
  ·exact ih _ _ (solid_find h _)
  ·exact h

theorem new_solid (n r:Int):(St.new n r).solid:=⟨rfl,fun o ho=>by cases ho⟩

theorem new_len (n r:Int):(St.new n r).len=0:=rfl

theorem GoodB.doc {b:List Int} {T:Txt} {M1:St} {ids:List Int} (h:GoodB b T M1 ids) (hb:b.length ≤ 1048576):GoodD b T (M1.at (b.length:Int)) ids:=by
 have hk:=readB_ok h.read
 have hv:=hk.vars
 have hf:=h.few
 have hl:=(putL_len T.l (St.new (T.vars:Int) (T.l.length:Int)) []).2
 have hw:(St.new (T.vars:Int) (T.l.length:Int)).wf:=St.new_wf (by omega) (by omega) (by omega) (by omega)
 have hp:=putL_at T.l (St.new (T.vars:Int) (T.l.length:Int)) [] hw (by rw [h.put]) (b.length:Int) (by
  rw [new_len] at hl
  have:=hk.few
  omega)
 rw [h.put] at hp
 exact ⟨h.read,h.perm,hp,h.right,h.bytes⟩

theorem GoodD.text {b:List Int} {T:Txt} {M1:St} {ids:List Int} (h:GoodD b T M1 ids) (hb:b.length ≤ 1048576):GoodB b T (M1.at (T.l.length:Int)) ids:=by
 have hk:=readB_ok h.read
 have hv:=hk.vars
 have hf:=hk.few
 have hl:=(putL_len T.l (St.new (T.vars:Int) (b.length:Int)) []).2
 have hw:(St.new (T.vars:Int) (b.length:Int)).wf:=St.new_wf (by omega) (by omega) (by omega) (by omega)
 have hp:=putL_at T.l (St.new (T.vars:Int) (b.length:Int)) [] hw (by rw [h.put]) (T.l.length:Int) (by
  rw [new_len] at hl
  omega)
 rw [h.put] at hp
 exact ⟨by omega,h.read,h.perm,hp,h.right,h.bytes⟩

theorem GoodB.len {b:List Int} {T:Txt} {M1:St} {ids:List Int} (h:GoodB b T M1 ids) (hfa:FitA M1) (hx:(atR ids T.e).ok) (hfew:(numM M1 (atR ids T.e).to []).length ≤ 1048576):M1.len=(T.l.length:Int):=by
 obtain ⟨r1,r2,r3⟩:=h.raw hfa hx hfew
 have hso:M1.solid:=by
  have:=putL_solid T.l (St.new (T.vars:Int) (T.l.length:Int)) [] (new_solid _ _)
  rw [h.put] at this
  exact this
 have hl:=(putL_len T.l (St.new (T.vars:Int) (T.l.length:Int)) []).2
 rw [h.put,new_len] at hl
 simp only [Int.zero_add] at hl
 have hS:NumOk M1 (numM M1 (atR ids T.e).to []):=(NumOk.nil M1).next r2 hfa _
 have hn:=ids_few M1.cs.length (numM M1 (atR ids T.e).to []) hS.once (fun x hx=>by
  cases hk:look M1.cs x with
  | none=>exact absurd hk (hS.known x hx)
  | some r=>obtain ⟨a,c,_⟩:=look_some hk;exact ⟨a,c⟩)
 have hTl:T.l.length=(numM M1 (atR ids T.e).to []).length:=by
  conv=>lhs;rw [r1]
  exact List.length_map _
 have hm:M1.len=(M1.cs.length:Int):=by unfold St.len;rw [hso.1];simp
 omega

open Go Go.RowKit

def UAt (w:World) (a:Option Addr) (ids:List Int):Prop:=∀ i x,ids[i]?=some x → ∃ b off,a=some ⟨b,off,none⟩ ∧ w.cell? ⟨b,off + i,none⟩=some (.int .u32 x)

theorem UAt.keeps {w w':World} {a:Option Addr} {ids:List Int} (h:UAt w a ids) (hk:Keeps w w'):UAt w' a ids:=fun i x hx=>by
 obtain ⟨b,off,ha,hc⟩:=h i x hx
 exact ⟨b,off,ha,hk.cell hc⟩

theorem numR_bad {most n:Nat} {rd:Option (List Int)} (h:numR most rd=(n,none)):n=0:=by
 unfold numR at h
 cases rd with
 | none=>cases h;rfl
 | some bs=>
  simp only [] at h
  cases hg:getB most bs with
  | none=>rw [hg] at h;cases h;rfl
  | some q=>obtain ⟨m,r⟩:=q;rw [hg] at h;cases h

set_option maxRecDepth 100000 in
set_option maxHeartbeats 1000000 in
theorem takeEdge_calls (a:Option Addr) (cap:Nat) (bs:List Int) (w:World) (h:BsAt w a bs) (hb:IsBs bs) (hl:bs.length ≤ 1048576) (p:Int) (rd:Option (List Int)) (hp:Pos bs p rd) (f:Int) (ia:Option Addr) (icap:Nat) (ids:List Int) (hi:UAt w ia ids) (hil:ids.length ≤ 1048576) :
  Calls Tryz.prog 43 #[.slice a bs.length cap,.int .i64 p,.int .u8 f,.slice ia ids.length icap] w fun e w'=>(∃ p' x,e=.returned (.tuple #[.agg #[.int .u8 x.tag,.int .u32 x.to],.int .i64 p']) ∧ x=atR ids (edgeR f ids.length rd).1 ∧ Pos bs p' (edgeR f ids.length rd).2) ∧ Keeps w w':=by
 have HT:=Lib.hid (fun (W:World) (hW:Keeps w W)=>take28_calls a cap bs W (h.keeps hW) hb (by omega) p rd hp (ids.length + 1) (by omega))
 have HT2:=Lib.hid (fun (W:World) (hW:Keeps w W) (p2:Int) (rd2:Option (List Int)) (hp2:Pos bs p2 rd2)=>take28_calls a cap bs W (h.keeps hW) hb (by omega) p2 rd2 hp2 16 (by omega))
 have hnm:=numR_most (ids.length + 1) rd
 have HED:Hid (edgeR f ids.length rd=if f=5 ∧ (numR (ids.length + 1) rd).1 ≠ 0 then (⟨(numR 16 (numR (ids.length + 1) rd).2).1,(numR (ids.length + 1) rd).1⟩,(numR 16 (numR (ids.length + 1) rd).2).2) else (⟨0,(numR (ids.length + 1) rd).1⟩,(numR (ids.length + 1) rd).2)):=Lib.hid rfl
 have HUI:=Lib.hid hi
 obtain ⟨⟨n,rd1⟩,hn⟩:∃ q,q=numR (ids.length + 1) rd:=⟨_,rfl⟩
 rw [← hn] at HT hnm HED
 simp only [] at hnm HED
 obtain ⟨L,hL⟩:∃ L,L=bs.length:=⟨_,rfl⟩
 obtain ⟨K,hK⟩:∃ K,K=ids.length:=⟨_,rfl⟩
 rw [← hL] at HT HT2 hl ⊢
 rw [← hK] at HT HED hnm hil ⊢
 have HN:=Lib.hid hn
 have HK:=Lib.hid hK
 have ek:((K + 1:Nat):Int)=(K:Int) + 1:=by omega
 rw [ek] at HT
 clear h hb hp hi hn hL hK ek
 go_enter Tryz.func43,Tryz.ntmps43
 go_wp2_with fail
 refine (HT.out _ (by (exact kp))).mono ?_
 rintro e w1 ⟨⟨p1,rfl,hp1⟩,rfl⟩
 by_cases hneg:p1 < 0
 ·have h1:rd1=none:=hp1.neg.1 hneg
  subst h1
  have hn0:n=0:=numR_bad HN.out.symm
  subst hn0
  have HE2:Hid (edgeR f K rd=(⟨0,0⟩,none)):=Lib.hid (by rw [HED.out,if_neg (by simp)];rfl)
  clear hp1
  go_wp2_with fail
  refine bodyPost_ret (v:=.tuple #[.agg #[.int .u8 (⟨0,0⟩:Edge).tag,.int .u32 (⟨0,0⟩:Edge).to],.int .i64 (-1)]) (by simp [results,Tryz.results43,go_sem]) rfl ?_
  exact ⟨⟨-1,⟨0,0⟩,rfl,by rw [HE2.out];rfl,.inl ⟨by rw [HE2.out],rfl⟩⟩,by (exact kp)⟩
 ·have HP1:=Lib.hid hp1
  clear hp1
  have hwn:IntKind.u32.wrap (n:Int)=(n:Int):=by
   have e2:(n:Int) % 4294967296=(n:Int):=by omega
   unfold IntKind.wrap
   simp [IntKind.signed,IntKind.bits,e2]
  by_cases h2:2 ≤ n
  ·obtain ⟨k,hk⟩:∃ k,k=n - 2:=⟨_,rfl⟩
   obtain ⟨y,hy⟩:∃ y,ids[k]?=some y:=⟨_,List.getElem?_eq_getElem (by rw [← HK.out];omega)⟩
   obtain ⟨b,off,rfl,c0⟩:=HUI.out k y hy
   have hlb:b < w.heap.size:=lt_of_cell c0
   have e1:(n:Int) - 2=(k:Int):=by omega
   have i1:(k:Int) < (K:Int):=by omega
   have i2:(2:Int) ≤ (n:Int):=by omega
   have HAT:Hid (∀ t:Int,atR ids ⟨t,(n:Int)⟩=⟨t,y⟩):=Lib.hid (fun t=>by
    unfold atR
    rw [if_pos (by show (2:Int) ≤ (n:Int);omega)]
    have e3:((n:Int) - 2).toNat=k:=by omega
    show (⟨t,(ids[((n:Int) - 2).toNat]?).getD 0⟩:Edge)=_
    rw [e3,hy]
    rfl)
   clear hk hy
   by_cases h5:f=5
   ·subst h5
    have gp:(0:Int) < (n:Int):=by omega
    have HE2:Hid (edgeR 5 K rd=(⟨((numR 16 rd1).1:Int),(n:Int)⟩,(numR 16 rd1).2)):=Lib.hid (by rw [HED.out,if_pos ⟨rfl,by omega⟩])
    have ht16:=numR_most 16 rd1
    have HT3:=Lib.hid (fun (W:World) (hW:Keeps w W)=>HT2.out W hW p1 rd1 HP1.out)
    obtain ⟨⟨t,rd2⟩,ht⟩:∃ q,q=numR 16 rd1:=⟨_,rfl⟩
    rw [← ht] at HT3 HE2 ht16
    simp only [] at ht16 HE2
    have hwt:IntKind.u8.wrap (t:Int)=(t:Int):=by rw [wrap_byte,Nat.mod_eq_of_lt (by omega)]
    clear ht HED HN
    go_wp2_with (first | (go_at_call 42;refine (HT3.out _ (by (exact kp))).mono ?_;rintro e w2 ⟨⟨p2,rfl,hp2⟩,rfl⟩) | fail)
    refine bodyPost_ret (v:=.tuple #[.agg #[.int .u8 (⟨(t:Int),y⟩:Edge).tag,.int .u32 (⟨(t:Int),y⟩:Edge).to],.int .i64 p2]) (by simp [results,Tryz.results43,go_sem]) rfl ?_
    exact ⟨⟨p2,⟨(t:Int),y⟩,rfl,by rw [HE2.out,HAT.out],by rw [HE2.out];exact hp2⟩,by (exact kp)⟩
   ·have g5:(f == 5)=false:=by simp [h5]
    have HE2:Hid (edgeR f K rd=(⟨0,(n:Int)⟩,rd1)):=Lib.hid (by rw [HED.out,if_neg (fun hh=>h5 hh.1)])
    clear HED HN
    go_wp2_with fail
    refine bodyPost_ret (v:=.tuple #[.agg #[.int .u8 (⟨0,y⟩:Edge).tag,.int .u32 (⟨0,y⟩:Edge).to],.int .i64 p1]) (by simp [results,Tryz.results43,go_sem]) rfl ?_
    exact ⟨⟨p1,⟨0,y⟩,rfl,by rw [HE2.out,HAT.out],by rw [HE2.out];exact HP1.out⟩,by (exact kp)⟩
  ·have i2:¬ ((2:Int) ≤ (n:Int)):=by omega
   have HAT:Hid (∀ t:Int,atR ids ⟨t,(n:Int)⟩=⟨t,(n:Int)⟩):=Lib.hid (fun t=>by
    unfold atR
    rw [if_neg (by show ¬ (2:Int) ≤ (n:Int);omega)])
   by_cases h5:f=5 ∧ n ≠ 0
   ·obtain ⟨rfl,hn0⟩:=h5
    have gp:(0:Int) < (n:Int):=by omega
    have HE2:Hid (edgeR 5 K rd=(⟨((numR 16 rd1).1:Int),(n:Int)⟩,(numR 16 rd1).2)):=Lib.hid (by rw [HED.out,if_pos ⟨rfl,by omega⟩])
    have ht16:=numR_most 16 rd1
    have HT3:=Lib.hid (fun (W:World) (hW:Keeps w W)=>HT2.out W hW p1 rd1 HP1.out)
    obtain ⟨⟨t,rd2⟩,ht⟩:∃ q,q=numR 16 rd1:=⟨_,rfl⟩
    rw [← ht] at HT3 HE2 ht16
    simp only [] at ht16 HE2
    have hwt:IntKind.u8.wrap (t:Int)=(t:Int):=by rw [wrap_byte,Nat.mod_eq_of_lt (by omega)]
    clear ht HED HN
    go_wp2_with (first | (go_at_call 42;refine (HT3.out _ (by (exact kp))).mono ?_;rintro e w2 ⟨⟨p2,rfl,hp2⟩,rfl⟩) | fail)
    refine bodyPost_ret (v:=.tuple #[.agg #[.int .u8 (⟨(t:Int),(n:Int)⟩:Edge).tag,.int .u32 (⟨(t:Int),(n:Int)⟩:Edge).to],.int .i64 p2]) (by simp [results,Tryz.results43,go_sem]) rfl ?_
    exact ⟨⟨p2,⟨(t:Int),(n:Int)⟩,rfl,by rw [HE2.out,HAT.out],by rw [HE2.out];exact hp2⟩,by (exact kp)⟩
   ·have HE2:Hid (edgeR f K rd=(⟨0,(n:Int)⟩,rd1)):=Lib.hid (by rw [HED.out,if_neg h5])
    by_cases hf5:f=5
    ·subst hf5
     have gz:¬ ((0:Int) < (n:Int)):=fun hh=>h5 ⟨rfl,by omega⟩
     clear HED HN
     go_wp2_with fail
     refine bodyPost_ret (v:=.tuple #[.agg #[.int .u8 (⟨0,(n:Int)⟩:Edge).tag,.int .u32 (⟨0,(n:Int)⟩:Edge).to],.int .i64 p1]) (by simp [results,Tryz.results43,go_sem]) rfl ?_
     exact ⟨⟨p1,⟨0,(n:Int)⟩,rfl,by rw [HE2.out,HAT.out],by rw [HE2.out];exact HP1.out⟩,by (exact kp)⟩
    ·have g5:(f == 5)=false:=by simp [hf5]
     clear HED HN
     go_wp2_with fail
     refine bodyPost_ret (v:=.tuple #[.agg #[.int .u8 (⟨0,(n:Int)⟩:Edge).tag,.int .u32 (⟨0,(n:Int)⟩:Edge).to],.int .i64 p1]) (by simp [results,Tryz.results43,go_sem]) rfl ?_
     exact ⟨⟨p1,⟨0,(n:Int)⟩,rfl,by rw [HE2.out,HAT.out],by rw [HE2.out];exact HP1.out⟩,by (exact kp)⟩

end Go.Proofs.YtfpjogpjocedaaaGreat
