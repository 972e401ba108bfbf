/-
  law28.alive.
-/
import Derived.Test.YtfpjogpjocedaaaGreatPSaveS
import Derived.Test.YtfpjogpjocedaaaGreatPSaveU
import Derived.Test.YtfpjogpjocedaaaGreatPSwapS
namespace Go.Proofs.YtfpjogpjocedaaaGreat
set_option linter.unusedSimpArgs false
set_option linter.unusedVariables false
set_option maxHeartbeats 600000
open Go Go.RowKit

def ex28:St:=⟨[some ⟨1,0,0,⟨0,0⟩,⟨0,1⟩⟩],[],1,5⟩

theorem ex28_cube:cubeGo 1 0 1 0 1 (St.new 1 5) (oneE 1 1)=(⟨0,2⟩,0,ex28):=by kernel_rfl

theorem ex28_num:numM ex28 2 []=[2]:=by decide +kernel

theorem ex28_bytes:saveB ex28 [0] 1 ⟨0,2⟩=[1,1,0,1,0,0,1,2]:=by
 have hl:look ex28.cs 2=some ⟨1,0,0,⟨0,0⟩,⟨0,1⟩⟩:=rfl
 unfold saveB
 show putB ex28.n.toNat ++ putB (1:Int).toNat ++ List.flatMap (fun x:Int=>putB x.toNat) [0] ++ putB (numM ex28 2 []).length ++ recsB ex28 1 (numM ex28 2 []) ++ edgeB 1 (numM ex28 2 []) ⟨0,2⟩=_
 rw [ex28_num]
 unfold recsB
 rw [List.flatMap_cons,List.flatMap_nil,List.flatMap_cons,List.flatMap_nil,hl]
 unfold recB edgeB
 simp only [grec]
 rw [show (ex28.n).toNat=1 from rfl,show (0:Int).toNat=0 from rfl,show (1:Int).toNat=1 from rfl,show ([2]:List Int).length=1 from rfl]
 simp [putB_low,List.idxOf]

theorem ex28_code:saveCode ex28 1 1 ⟨0,2⟩=0:=by
 unfold saveCode
 have h1:ex28.n=((1:Nat):Int):=rfl
 have h2:isFormB 1=true:=by decide
 have h3:kRight ex28 1 ⟨0,2⟩ 0=true:=by
  unfold kRight
  rw [if_pos rfl]
  decide
 rw [if_pos h1,if_pos h2,if_pos h3]

set_option maxRecDepth 100000 in
set_option maxHeartbeats 1000000 in
theorem l28_alive (w:World):Calls Tryz.prog 7 #[] w fun e w'=>e=.returned (.bool true) ∧ Keeps w w':=by
 have hp:permB [0]=true:=by decide
 have HST:=Lib.hid (fun (W:World) (a:Option Addr) (hI:IntsAt W a [0])=>stage_calls 5 a 1 [0] W hI hp (by decide) (by decide))
 clear hp
 go_enter Tryz.func7,Tryz.ntmps7
 go_wp2_with fail
 have hI:IntsAt (w.alloc (.cells #[.int .i64 0] 3)) (some ⟨w.heap.size,0,none⟩) [0]:=fun i x hx=>by
  rcases i with _ | i
  ·simp at hx;subst hx;exact ⟨_,0,rfl,by simp [go_sem]⟩
  ·simp at hx
 refine (HST.out _ _ hI).mono ?_
 rintro e w1 ⟨sb,ob,F,Fo,rfl,hk1,hS,hO,hd,hF,hFo⟩
 have hkw:Keeps w w1:=((Keeps.refl _).alloc _).trans hk1
 have hn:(St.new (([0]:List Int).length:Int) 5).n=(([0]:List Int).length:Int):=rfl
 have hcube:∀ W,Keeps w1 W → Calls Tryz.prog 69 #[.pointer (some ⟨sb,0,none⟩),.int .u8 1,.int .i64 0,.int .u16 (2 ^ 0),.int .u16 0] W fun r w'=>r=.returned (.tuple #[.agg #[.int .u8 (⟨0,2⟩:Edge).tag,.int .u32 (⟨0,2⟩:Edge).to],.int .u8 0]) ∧ Upd F W w' ∧ StoreRep (Grow F W w') w' sb ex28:=fun W hW=>by
  have:=cube_calls (hS.keeps hW) 1 0 1 0 (by decide) (by decide) (by decide) (by decide) (by decide) (by decide) (by decide) (by decide) (by decide) (by decide)
  change Calls _ _ _ W fun e w'=>e=.returned (.tuple #[.agg #[.int .u8 (cubeGo 1 0 1 0 1 (St.new 1 5) (oneE 1 1)).1.tag,.int .u32 (cubeGo 1 0 1 0 1 (St.new 1 5) (oneE 1 1)).1.to],.int .u8 (cubeGo 1 0 1 0 1 (St.new 1 5) (oneE 1 1)).2.1]) ∧ Upd F W w' ∧ StoreRep (Grow F W w') w' sb (cubeGo 1 0 1 0 1 (St.new 1 5) (oneE 1 1)).2.2 at this
  rw [ex28_cube] at this
  exact this
 have HVAR:=Lib.hid (buildVar_calls hS hO hn 1 (by decide) 0 0 rfl ⟨0,2⟩ 0 ex28 hcube)
 have HO:=Lib.hid hO
 have HD:=Lib.hid hd
 have HF:=Lib.hid hF
 have HFo:=Lib.hid hFo
 have HKW:=Lib.hid hkw
 have HLT:=Lib.hid hS.lt
 clear hcube hn hS hO hd hF hFo hkw hI HST hk1
 go_wp2_with fail
 refine HVAR.out.mono ?_
 rintro r w2 ⟨F2,rfl,hu2,hS2,hsub2⟩
 have hO2:OrdRep Fo w2 ob [0]:=HO.out.keep hu2 (fun k hk hh=>HD.out k hh hk)
 have hkw2:Keeps w w2:=HKW.out.new hu2 (fun j hj=>by have:=HF.out j hj;simp only [World.size_alloc] at this;omega)
 have HSV:=Lib.hid (fun (W:World) (hW:Keeps w2 W)=>show Calls Tryz.prog 25 #[.pointer (some ⟨sb,0,none⟩),.pointer (some ⟨ob,0,none⟩),.int .u8 1,.agg #[.int .u8 (⟨0,2⟩:Edge).tag,.int .u32 (⟨0,2⟩:Edge).to]] W fun r w'=>∃ a cap,r=.returned (.tuple #[.slice a 8 cap,.int .u8 0]) ∧ BsAt w' a [1,1,0,1,0,0,1,2] ∧ Keeps W w' from (save_calls (hS2.keeps hW) (hO2.keeps hW) 1 (by decide) ⟨0,2⟩ ⟨by decide,by decide⟩).mono fun r w' hh=>by
  rcases hh with ⟨_,v,rfl,hb,hk⟩ | ⟨hc,_⟩
  ·rw [ex28_bytes] at hb
   obtain ⟨a,cap,rfl,hat⟩:=hb.slice
   exact ⟨a,cap,rfl,hat,hk⟩
  ·exact absurd ex28_code hc)
 have HKW2:=Lib.hid hkw2
 clear hkw2 hO2 hS2 hsub2 hu2 HVAR
 go_wp2_with (first
  | (go_at_call 25;refine (HSV.out _ (by (exact kp))).mono ?_;rintro e3 w3 ⟨a3,cap3,rfl,hat,hk3⟩;have HAT:=Lib.hid hat;have HK3:=Lib.hid (HKW2.out.trans (show Keeps w2 w3 by (exact kp)));clear hat hk3 HSV)
  | (go_at_call 18;have hbt:BsAt (w3.alloc (.cells #[.int .u8 1,.int .u8 1,.int .u8 0,.int .u8 1,.int .u8 0,.int .u8 0,.int .u8 1,.int .u8 2] 5)) (some ⟨w3.heap.size,0,none⟩) [1,1,0,1,0,0,1,2]:=(fun i x hx=>by rcases i with _ | _ | _ | _ | _ | _ | _ | _ | i <;> simp at hx <;> (subst hx;exact ⟨_,0,rfl,by simp [go_sem]⟩));refine (same04_calls a3 (some ⟨w3.heap.size,0,none⟩) cap3 8 [1,1,0,1,0,0,1,2] [1,1,0,1,0,0,1,2] _ (HAT.out.keeps ((Keeps.refl _).alloc _)) hbt (by decide) (by decide)).mono ?_;rintro e4 w4 ⟨rfl,hk4⟩;clear hbt)
  | fail)
 go_ret
 exact ⟨rfl,(HK3.out.alloc _).trans hk4⟩

structure GoodB (b:List Int) (T:Txt) (M1:St) (ids:List Int):Prop where
 few:T.l.length ≤ 1048576
 read:readB b=some T
 perm:permB T.perm=true
 put:putL T.l (St.new (T.vars:Int) (T.l.length:Int)) []=(0,M1,ids)
 right:kRight M1 (T.form:Int) (atR ids T.e) 0=true
 bytes:saveB M1 T.perm (T.form:Int) (atR ids T.e)=b

theorem putL_wf:∀ (l:List Rec) (M:St) (ids:List Int),M.wf → (putL l M ids).2.1.wf ∧ Ext M (putL l M ids).2.1 ∧ (putL l M ids).2.1.room=M.room:=by
 intro l
 induction l with
 | nil=>intro M ids h;exact ⟨h,Ext.refl M,rfl⟩
 | cons x l ih=>
  intro M ids h
  unfold putL
  split
  ·obtain ⟨a,b,c⟩:=ih (M.findSt (atRec ids x)) (ids ++ [M.findId (atRec ids x)]) (h.find _)
   exact ⟨a,(findSt_ext h _).trans b,c.trans (findSt_room M _)⟩
  ·exact ⟨h,Ext.refl M,rfl⟩

theorem readB_facts {b:List Int} {T:Txt} (h:readB b=some T):T.perm.length=T.vars ∧ 1 ≤ T.form:=by
 unfold readB at h
 simp only [] at h
 split at h
 ·rename_i hc
  cases h
  exact ⟨numsR_len _ _,hc.2⟩
 ·cases h

theorem GoodB.raw {b:List Int} {T:Txt} {M1:St} {ids:List Int} (h:GoodB b T M1 ids) (hfa:FitA M1) (hx:(atR ids T.e).ok) (hfew:(numM M1 (atR ids T.e).to []).length ≤ 1048576) :
  T=rawT M1 T.perm (T.form:Int) (atR ids T.e) ∧ M1.wf ∧ M1.n=(T.vars:Int):=by
 obtain ⟨f1,f2⟩:=readB_facts h.read
 obtain ⟨p1,p2⟩:=perm_range2 h.perm
 have hfw:=h.few
 have hn:M1.wf ∧ M1.n=(T.vars:Int):=by
  have:=putL_wf T.l (St.new (T.vars:Int) (T.l.length:Int)) [] (St.new_wf (by omega) (by omega) (by omega) (by omega))
  rw [h.put] at this
  exact ⟨this.1,this.2.1.n⟩
 refine ⟨?_,hn⟩
 have hr:=read_save hn.1 hfa (ps:=T.perm) (by rw [hn.2,f1]) p2 hx (kRight_lead h.right) hfew
 rw [h.bytes,h.read] at hr
 exact Option.some.inj hr

theorem GoodB.load {b:List Int} {T:Txt} {M1:St} {ids:List Int} (h:GoodB b T M1 ids) (hfa:FitA M1) (hx:(atR ids T.e).ok) (hfew:(numM M1 (atR ids T.e).to []).length ≤ 1048576) {M:St} (hM:M.wf) (hn:M.n=(T.vars:Int)) :
  ((putL T.l M []).1=0 ∧ ∃ D φ,Emb M1 (putL T.l M []).2.1 D φ ∧ InD D (atR ids T.e).to ∧ atR (putL T.l M []).2.2 T.e=mapE φ (atR ids T.e)) ∨ ((putL T.l M []).1=6 ∧ M.room < M.len + T.l.length):=by
 obtain ⟨r1,r2,r3⟩:=h.raw hfa hx hfew
 obtain ⟨x1,hx1⟩:∃ x1,x1=atR ids T.e:=⟨_,rfl⟩
 rw [← hx1] at hx hfew r1 ⊢
 have hl:=kRight_lead h.right
 rw [← hx1] at hl
 have hS:NumOk M1 (numM M1 x1.to []):=(NumOk.nil M1).next r2 hfa x1.to
 have hE0:Emb M1 M (fun z=>z ∈ (numM M1 x1.to []).take 0) (phi (numM M1 x1.to []) []):=
  ⟨hn.trans r3.symm,fun z hz=>phi_low hz,fun x y hx=>by simp at hx,fun x hx=>by simp at hx,fun x r hx=>by simp at hx,fun x r hx=>by simp at hx⟩
 have hTl:T.l=(numM M1 x1.to []).map (fun x=>rawRec (numM M1 x1.to []) (grec (look M1.cs x))):=congrArg Txt.l r1
 have hTe:T.e=rawE (numM M1 x1.to []) x1:=congrArg Txt.e r1
 have hin:InD (fun z=>z ∈ numM M1 x1.to []) x1.to:=by
  rcases (leads_iff.1 hl).2 with h2 | ⟨r,a,_⟩
  ·exact .inl h2
  ·exact .inr (numM_here r2 hfa (NumOk.nil M1) (by rw [a];simp))
 have key:=put_emb r2 hfa hS (numM M1 x1.to []) 0 M [] rfl (Nat.zero_le _) rfl hM hE0
 rw [← hTl] at key
 rcases key with ⟨k1,L2,k2,k3,k4⟩ | ⟨k1,k2⟩
 ·left
  refine ⟨k1,_,_,k4,hin,?_⟩
  rw [k2,hTe]
  exact atR_raw hx.2.1
 ·right
  refine ⟨k1,?_⟩
  rw [hTl,List.length_map]
  exact k2

structure NumE (k:Nat) (e:Edge):Prop where
 tag:0 ≤ e.tag ∧ e.tag ≤ 16
 at':0 ≤ e.to ∧ e.to ≤ (k:Int) + 1

structure NumRec (f:Int) (k:Nat) (r:Rec):Prop where
 form:r.form=f
 top:0 ≤ r.top ∧ r.top ≤ 16
 bot:0 ≤ r.bot ∧ r.bot ≤ 16
 lo:NumE k r.lo
 hi:NumE k r.hi

theorem numR_most (most:Nat) (rd:Option (List Int)):(numR most rd).1 ≤ most:=by
 unfold numR
 cases rd with
 | none=>exact Nat.zero_le _
 | some bs=>
  simp only []
  unfold getB
  cases getG 10 bs with
  | none=>exact Nat.zero_le _
  | some p=>
   obtain ⟨n,r⟩:=p
   simp only []
   by_cases h:n ≤ most
   ·rw [if_pos h];exact h
   ·rw [if_neg h];exact Nat.zero_le _

theorem edgeR_num (f:Int) (k:Nat) (rd:Option (List Int)):NumE k (edgeR f k rd).1:=by
 have h1:=numR_most (k + 1) rd
 have h2:=numR_most 16 (numR (k + 1) rd).2
 unfold edgeR
 split
 ·exact ⟨⟨by show (0:Int) ≤ ((numR 16 (numR (k + 1) rd).2).1:Int);omega,by show ((numR 16 (numR (k + 1) rd).2).1:Int) ≤ 16;omega⟩,⟨by show (0:Int) ≤ ((numR (k + 1) rd).1:Int);omega,by show ((numR (k + 1) rd).1:Int) ≤ _;omega⟩⟩
 ·exact ⟨⟨by show (0:Int) ≤ 0;decide,by show (0:Int) ≤ 16;decide⟩,⟨by show (0:Int) ≤ ((numR (k + 1) rd).1:Int);omega,by show ((numR (k + 1) rd).1:Int) ≤ _;omega⟩⟩

theorem recR_num (f:Int) (k:Nat) (rd:Option (List Int)):NumRec f k (recR f k rd).1:=by
 have h1:=numR_most 16 rd
 have h2:=numR_most 16 (numR 16 rd).2
 have h3:(botR f rd).1 ≤ 16:=by
  unfold botR
  split
  ·exact h2
  ·exact h1
 exact ⟨rfl,⟨by show (0:Int) ≤ ((numR 16 rd).1:Int);omega,by show ((numR 16 rd).1:Int) ≤ 16;omega⟩,⟨by show (0:Int) ≤ ((botR f rd).1:Int);omega,by show ((botR f rd).1:Int) ≤ 16;omega⟩,edgeR_num _ _ _,edgeR_num _ _ _⟩

theorem recsR_num (f:Int):∀ (j k:Nat) (rd:Option (List Int)) (i:Nat) (x:Rec),(recsR f j k rd).1[i]?=some x → NumRec f (k + i) x:=by
 intro j
 induction j with
 | zero=>intro k rd i x h;simp [recsR] at h
 | succ j ih=>
  intro k rd i x h
  cases i with
  | zero=>
   have:(recR f k rd).1=x:=by simpa [recsR] using h
   rw [← this]
   exact recR_num f k rd
  | succ i=>
   have h2:(recsR f j (k + 1) (recR f k rd).2).1[i]?=some x:=by simpa [recsR] using h
   have:=ih (k + 1) _ i x h2
   have e:k + 1 + i=k + (i + 1):=by omega
   rw [e] at this
   exact this

theorem numsR_num:∀ (j:Nat) (rd:Option (List Int)),∀ x ∈ (numsR j rd).1,0 ≤ x ∧ x ≤ 16:=by
 intro j
 induction j with
 | zero=>intro rd x h;simp [numsR] at h
 | succ j ih=>
  intro rd x h
  have h1:=numR_most 16 rd
  have h2:x=((numR 16 rd).1:Int) ∨ x ∈ (numsR j (numR 16 rd).2).1:=by simpa [numsR] using h
  rcases h2 with rfl | h2
  ·omega
  ·exact ih _ x h2

structure TxtOk (len:Nat) (T:Txt):Prop where
 vars:T.vars ≤ 16
 form:1 ≤ T.form ∧ T.form ≤ 5
 perm:T.perm.length=T.vars ∧ ∀ x ∈ T.perm,0 ≤ x ∧ x ≤ 16
 few:T.l.length ≤ len
 l:∀ (i:Nat) (x:Rec),T.l[i]?=some x → NumRec (T.form:Int) i x
 e:NumE T.l.length T.e

theorem readB_ok {b:List Int} {T:Txt} (h:readB b=some T):TxtOk b.length T:=by
 have h1:=numR_most 16 (some b)
 have h2:=numR_most 5 (numR 16 (some b)).2
 have h3:=numR_most b.length (numsR (numR 16 (some b)).1 (numR 5 (numR 16 (some b)).2).2).2
 unfold readB at h
 simp only [] at h
 split at h
 ·rename_i hc
  cases h
  refine ⟨h1,⟨hc.2,h2⟩,⟨numsR_len _ _,numsR_num _ _⟩,by rw [recsR_len];exact h3,fun i x hx=>?_,?_⟩
  ·have:=recsR_num _ _ _ _ i x hx
   rw [Nat.zero_add] at this
   exact this
  ·show NumE (List.length _) _
   rw [recsR_len]
   exact edgeR_num _ _ _
 ·cases h

structure PutAt (l:List Rec) (M0:St) (i:Nat) (M:St) (ids:List Int):Prop where
 len:ids.length=i
 all:putL l M0 []=putL (l.drop i) M ids
 wf:M.wf
 ext:Ext M0 M
 room:M.room=M0.room
 most:M.len ≤ M0.len + (i:Int)
 ids:∀ x ∈ ids,look M.cs x ≠ none

theorem PutAt.start {M0:St} (h:M0.wf) (l:List Rec):PutAt l M0 0 M0 []:=⟨rfl,rfl,h,Ext.refl M0,rfl,by omega,by simp⟩

theorem drop_some {α:Type} {l:List α} {i:Nat} {x:α} (h:l[i]?=some x):l.drop i=x :: l.drop (i + 1):=by
 obtain ⟨hi,he⟩:=List.getElem?_eq_some_iff.1 h
 rw [List.drop_eq_getElem_cons hi,he]

theorem PutAt.next {l:List Rec} {M0:St} {i:Nat} {M:St} {ids:List Int} (h:PutAt l M0 i M ids) {x:Rec} (hx:l[i]?=some x) (he:M.findErr (atRec ids x)=0):PutAt l M0 (i + 1) (M.findSt (atRec ids x)) (ids ++ [M.findId (atRec ids x)]):=by
 refine ⟨by rw [List.length_append,h.len];rfl,?_,h.wf.find _,h.ext.trans (findSt_ext h.wf _),(findSt_room M _).trans h.room,?_,?_⟩
 ·rw [h.all,drop_some hx]
  conv=>lhs;unfold putL
  rw [if_pos he]
 ·have:=(findSt_len M (atRec ids x)).2
  have:=h.most
  push_cast
  omega
 ·intro y hy
  rcases List.mem_append.1 hy with hy | hy
  ·cases hl:look M.cs y with
   | none=>exact absurd hl (h.ids y hy)
   | some r=>rw [(findSt_ext h.wf _).sub y r hl];simp
  ·rw [List.mem_singleton] at hy
   rw [hy,find_zero2 h.wf he]
   simp

theorem PutAt.bad {l:List Rec} {M0:St} {i:Nat} {M:St} {ids:List Int} (h:PutAt l M0 i M ids) {x:Rec} (hx:l[i]?=some x) (he:M.findErr (atRec ids x) ≠ 0):putL l M0 []=(M.findErr (atRec ids x),M,ids):=by
 rw [h.all,drop_some hx]
 conv=>lhs;unfold putL
 rw [if_neg he]

theorem PutAt.end {l:List Rec} {M0:St} {M:St} {ids:List Int} (h:PutAt l M0 l.length M ids):putL l M0 []=(0,M,ids):=by
 rw [h.all,List.drop_length]
 rfl

theorem id_range {M:St} (h:M.wf) (hc:M.cs.length ≤ 4294967293) {x:Int} (hx:look M.cs x ≠ none):2 ≤ x ∧ x ≤ 4294967295:=by
 cases hl:look M.cs x with
 | none=>exact absurd hl hx
 | some r=>
  obtain ⟨a,b,c⟩:=look_some hl
  have:=(List.getElem?_eq_some_iff.1 c).1
  omega

def RowU (w:World) (g n:Nat) (ids:List Int):Prop:=∃ cur:Array Value,w.heap[g]?=some (.cells cur 35 (0,0)) ∧ ∀ j,j < n → cur[j]?=some (Value.int .u32 ((ids[j]?).getD 0))

theorem RowU.cell {w:World} {g n:Nat} {ids:List Int} (h:RowU w g n ids) (j:Nat) (hj:j < n):w.cell? ⟨g,j,none⟩=some (.int .u32 ((ids[j]?).getD 0)):=by
 obtain ⟨cur,h1,h2⟩:=h
 rw [cell_of_row w g j _ _ _ h1]
 simp only [h2 j hj]

theorem RowU.frozen {w:World} {g n:Nat} {ids:List Int} (h:RowU w g n ids) (j:Nat):w.frozen? ⟨g,j,none⟩=false:=by
 obtain ⟨cur,h1,h2⟩:=h
 exact frozen_of_row w g j _ _ h1

theorem RowU.lt {w:World} {g n:Nat} {ids:List Int} (h:RowU w g n ids):g < w.heap.size:=by
 obtain ⟨cur,h1,h2⟩:=h
 exact lt_of_heap h1

theorem RowU.upd {G:Nat → Prop} {w w':World} {g n:Nat} {ids:List Int} (h:RowU w g n ids) (hu:Upd G w w') (hg:¬ G g):RowU w' g n ids:=by
 have hl:=h.lt
 obtain ⟨cur,h1,h2⟩:=h
 exact ⟨cur,(hu.block g hl hg).trans h1,h2⟩

theorem RowU.snoc {w:World} {g n:Nat} {ids:List Int} (h:RowU w g n ids) {i:Nat} (hi:ids.length=i) (hn:i < n) (y:Int):RowU (w.setCell ⟨g,i,none⟩ (.int .u32 y)) g n (ids ++ [y]):=by
 obtain ⟨cur,h1,h2⟩:=h
 refine ⟨_,Go.heap_setCell_same w g i _ _ (.int .u32 y) h1,fun j hj=>?_⟩
 rw [Array.getElem?_setIfInBounds]
 by_cases hij:i=j
 ·subst hij
  have hs:i < cur.size:=(Array.getElem?_eq_some_iff.1 (h2 i hj)).1
  rw [if_pos rfl,if_pos hs,List.getElem?_append_right (by omega),hi]
  simp
 ·rw [if_neg hij,h2 j hj]
  by_cases hlt:j < i
  ·rw [List.getElem?_append_left (by omega)]
  ·rw [List.getElem?_eq_none (by omega),List.getElem?_eq_none (by rw [List.length_append,List.length_singleton];omega)]

theorem rowU_made {w:World} {lo g n cap:Nat} (hown:w.ownsRow lo 35 1 (.slice (some ⟨g,0,none⟩) n cap) n (List.replicate n (.int .u32 0))):RowU w g n []:=by
 obtain ⟨cur0,hcur0⟩:=owns_type hown (k:=g) rfl
 rcases hown.2 with ⟨h0,_⟩ | ⟨g',cap',cur,hv,hb,hg,_,_,hs,ht⟩
 ·cases h0
 ·cases hv
  refine ⟨cur,hg,fun j hj=>?_⟩
  have h1:(List.replicate n (Value.int .u32 0))[j]?=some (.int .u32 0):=by rw [List.getElem?_replicate,if_pos hj]
  rw [← ht,List.getElem?_take] at h1
  split at h1
  ·rw [Array.getElem?_toList] at h1
   exact h1
  ·cases h1

theorem rowU_made2 {w:World} {lo blk n:Nat} (h:w.ownsRow lo 35 1 (.slice (some ⟨blk,0,none⟩) n n) n (madeCells (Value.int .u32 0).cells (n * 1)).toList):RowU w blk n []:=by
 have e:(madeCells (Value.int .u32 0).cells (n * 1)).toList=List.replicate n (.int .u32 0):=by
  rw [Nat.mul_one]
  simp [madeCells,Value.cells,Nat.mod_one]
  rw [List.map_const',List.length_range]
 rw [e] at h
 exact rowU_made h

structure IdsAt (w:World) (ib a n:Nat) (ids:List Int):Prop where
 box:w.cell? ⟨ib,0,none⟩=some (.slice (some ⟨a,0,none⟩) n n)
 row:RowU w a n ids

theorem IdsAt.keeps {w w':World} {ib a n:Nat} {ids:List Int} (h:IdsAt w ib a n ids) (hk:Keeps w w'):IdsAt w' ib a n ids:=
 ⟨hk.cell h.box,h.row.upd (hk.upd (fun _=>False)) (fun h=>h)⟩

theorem IdsAt.upd {w w':World} {ib a n:Nat} {ids:List Int} {G:Nat → Prop} (h:IdsAt w ib a n ids) (hu:Upd G w w') (h1:¬ G ib) (h2:¬ G a):IdsAt w' ib a n ids:=
 ⟨hu.cellAt h1 h.box,h.row.upd hu h2⟩

set_option maxRecDepth 100000 in
theorem at1_calls {w:World} {ib a n:Nat} {ids:List Int} (h:IdsAt w ib a n ids) (e:Edge) (he:e.ok) (hn:2 ≤ e.to → (e.to - 2).toNat < n) (hs:n ≤ 1073741824) :
  Calls Tryz.prog 84 #[.agg #[.int .u8 e.tag,.int .u32 e.to],.pointer (some ⟨ib,0,none⟩)] w fun r w'=>r=.returned (.agg #[.int .u8 (atR ids e).tag,.int .u32 (atR ids e).to]) ∧ Keeps w w':=by
 have hb:=h.box
 have t0:=he.2.1
 have t1:=he.2.2
 have hlb:ib < w.heap.size:=lt_of_cell hb
 have hnb:w.heap.size ≠ ib:=by omega
 unfold atR
 by_cases h2:2 ≤ e.to
 ·rw [if_pos h2]
  obtain ⟨k,hk⟩:∃ k,k=(e.to - 2).toNat:=⟨_,rfl⟩
  have hkn:k < n:=by rw [hk];exact hn h2
  have hr:=h.row.cell k hkn
  have hla:a < w.heap.size:=lt_of_cell hr
  rw [← hk]
  have hto:e.to=(k:Int) + 2:=by omega
  obtain ⟨t,v⟩:=e
  simp only at hto h2 t0 t1 ⊢
  subst hto
  obtain ⟨y,hy⟩:∃ y,y=(ids[k]?).getD 0:=⟨_,rfl⟩
  rw [← hy] at hr ⊢
  have i1:(k:Int) < (n:Int):=by omega
  have hwr:IntKind.u32.wrap ((k:Int) + 2 - 2)=(k:Int):=by
   have e1:(k:Int) + 2 - 2=(k:Int):=by omega
   rw [e1]
   have e2:(k:Int) % 4294967296=(k:Int):=by omega
   unfold IntKind.wrap
   simp [IntKind.signed,IntKind.bits,e2]
  clear h hn hk hy
  go_enter Tryz.func84,Tryz.ntmps84
  go_wp2
  refine bodyPost_ret (v:=.agg #[.int .u8 (⟨t,y⟩:Edge).tag,.int .u32 (⟨t,y⟩:Edge).to]) (by simp [results,Tryz.results84,go_sem]) rfl ⟨rfl,by (exact kp)⟩
 ·rw [if_neg h2]
  obtain ⟨t,v⟩:=e
  simp only at h2 t0 t1 ⊢
  clear h hn
  go_enter Tryz.func84,Tryz.ntmps84
  go_wp2
  refine bodyPost_ret (v:=.agg #[.int .u8 (⟨t,v⟩:Edge).tag,.int .u32 (⟨t,v⟩:Edge).to]) (by simp [results,Tryz.results84,go_sem]) rfl ⟨rfl,by (exact kp)⟩

end Go.Proofs.YtfpjogpjocedaaaGreat
