/-
  ramageref16.free over tables; the levels that play no part, those that are 0.
-/
import Derived.Test.YtfpjogpjocedaaaGreatPWireG
import Derived.Deep.CutBlock
namespace Go.Proofs.YtfpjogpjocedaaaGreat
set_option linter.unusedSimpArgs false
set_option linter.unusedVariables false
set_option maxHeartbeats 600000
open Go.RowKit

def freeB:Nat → List Bool → Bool
 | 0,_=>false
 | k + 1,ts=>sameL (ts.take (2 ^ k)) (ts.drop (2 ^ k))

theorem same_halves {B off:Nat} {ts:List Bool} (p cap:Nat) (w:World) (hp1:1 ≤ p) (hp2:p ≤ 4096) (h:TabAt w B off ts) (hl:ts.length=2 * p) :
  Calls Tryz.prog 142 #[.slice (some ⟨B,off,none⟩) p cap,.slice (some ⟨B,off + p,none⟩) p (cap - p)] w fun e w'=>e=.returned (.bool (sameL (ts.take p) (ts.drop p))) ∧ Keeps w w':=by
 have llo:(ts.take p).length=p:=by rw [List.length_take];omega
 have lhi:(ts.drop p).length=p:=by rw [List.length_drop];omega
 have:=same_calls cap (cap - p) w (h.take p) (h.drop p) (by omega) (by omega)
 rw [llo,lhi] at this
 exact this

theorem free16_calls {B off:Nat} (k:Nat) (ts:List Bool) (cap:Nat) (w:World) (hk:k ≤ 10) (h:TabAt w B off ts) (hl:ts.length=2 ^ k) (hcap:2 ^ k ≤ cap) (hcap2:cap ≤ 4096) :
  Calls Tryz.prog 152 #[.slice (some ⟨B,off,none⟩) (2 ^ k) cap] w fun e w'=>e=.returned (.bool (freeB k ts)) ∧ Keeps w w':=by
 cases k with
 | zero=>
  show Calls _ _ #[.slice (some ⟨B,off,none⟩) 1 cap] w fun e w'=>e=.returned (.bool false) ∧ Keeps w w'
  clear h hl hcap
  go_enter Tryz.func152,Tryz.ntmps152
  go_wp2
  go_ret
  exact ⟨rfl,by (exact kp)⟩
 | succ k=>
  have e2:2 ^ (k + 1)=2 * 2 ^ k:=by rw [Nat.pow_succ];omega
  have hp1:1 ≤ 2 ^ k:=Nat.pow_pos (by decide)
  rw [e2] at hl hcap ⊢
  show Calls _ _ _ w fun e w'=>e=.returned (.bool (sameL (ts.take (2 ^ k)) (ts.drop (2 ^ k)))) ∧ Keeps w w'
  obtain ⟨p,hp⟩:∃ p,p=2 ^ k:=⟨_,rfl⟩
  rw [← hp] at hl hcap hp1 ⊢
  have HS:=Lib.hid (fun (W:World) (hW:Keeps w W)=>same_halves p cap W hp1 (by omega) (h.keeps hW) hl)
  have HH:=Lib.hid (fun (W:World)=>halves16_calls (B:=B) (off:=off) p cap W hp1 hcap (by omega))
  clear h hl hp e2 hcap
  go_enter Tryz.func152,Tryz.ntmps152
  go_wp2_with (first | (go_at_call 151;refine (HH.out _).mono ?_;rintro e1 w2 ⟨rfl,hk2⟩) | (go_at_call 142;refine (HS.out _ (by (exact kp))).mono ?_;rintro e2 w3 ⟨rfl,hk3⟩) | fail)
  go_ret
  exact ⟨rfl,by (exact kp)⟩

def stripS:Nat → List Bool → Nat × List Bool
 | 0,ts=>(0,ts)
 | k + 1,ts=>if sameL (ts.take (2 ^ k)) (ts.drop (2 ^ k)) then stripS k (ts.take (2 ^ k)) else (k + 1,ts)

def stripZ:Nat → List Bool → Nat × List Bool
 | 0,ts=>(0,ts)
 | k + 1,ts=>if noneL (ts.drop (2 ^ k)) && !freeB k (ts.take (2 ^ k)) then stripZ k (ts.take (2 ^ k)) else (k + 1,ts)

theorem stripS_le:∀ (k:Nat) (ts:List Bool),(stripS k ts).1 ≤ k:=by
 intro k
 induction k with
 | zero=>intro ts;exact Nat.le_refl 0
 | succ k ih=>
  intro ts
  unfold stripS
  split
  ·exact Nat.le_succ_of_le (ih _)
  ·exact Nat.le_refl _

theorem stripZ_le:∀ (k:Nat) (ts:List Bool),(stripZ k ts).1 ≤ k:=by
 intro k
 induction k with
 | zero=>intro ts;exact Nat.le_refl 0
 | succ k ih=>
  intro ts
  unfold stripZ
  split
  ·exact Nat.le_succ_of_le (ih _)
  ·exact Nat.le_refl _

theorem stripS_tab {w:World} {B off:Nat}:∀ (k:Nat) (ts:List Bool),TabAt w B off ts → ts.length=2 ^ k → TabAt w B off (stripS k ts).2 ∧ (stripS k ts).2.length=2 ^ (stripS k ts).1:=by
 intro k
 induction k with
 | zero=>intro ts h hl;exact ⟨h,hl⟩
 | succ k ih=>
  intro ts h hl
  unfold stripS
  split
  ·exact ih _ (h.take _) (by rw [List.length_take,hl,Nat.pow_succ];omega)
  ·exact ⟨h,hl⟩

theorem stripZ_tab {w:World} {B off:Nat}:∀ (k:Nat) (ts:List Bool),TabAt w B off ts → ts.length=2 ^ k → TabAt w B off (stripZ k ts).2 ∧ (stripZ k ts).2.length=2 ^ (stripZ k ts).1:=by
 intro k
 induction k with
 | zero=>intro ts h hl;exact ⟨h,hl⟩
 | succ k ih=>
  intro ts h hl
  unfold stripZ
  split
  ·exact ih _ (h.take _) (by rw [List.length_take,hl,Nat.pow_succ];omega)
  ·exact ⟨h,hl⟩

def termT:Nat → Nat → List Bool → Int → ByteArray
 | 0,_,_,_=>⟨#[48]⟩
 | n + 1,k,ts,l=>
  if noneL ts then ⟨#[48]⟩ else
  match stripZ (stripS k ts).1 (stripS k ts).2 with
  | (0,_)=>digS (l + (k - (stripS k ts).1:Nat)) ++ ⟨#[64]⟩ ++ ⟨#[49]⟩
  | (c + 1,t)=>digS (l + (k - (stripS k ts).1:Nat)) ++ ⟨#[64]⟩ ++ ⟨#[40]⟩ ++ digS (l + (k - (c + 1):Nat)) ++ ⟨#[32]⟩ ++ termT n c (t.take (2 ^ c)) (l + (k - c:Nat)) ++ ⟨#[32]⟩ ++ termT n c (t.drop (2 ^ c)) (l + (k - c:Nat)) ++ ⟨#[41]⟩

theorem termT_size:∀ (n k:Nat) (ts:List Bool) (l:Int),(termT n k ts l).size + 7 ≤ 8 * 2 ^ n:=by
 intro n
 induction n with
 | zero=>intro k ts l;exact Nat.le_refl 8
 | succ n ih=>
  intro k ts l
  have hp:0 < 2 ^ n:=Nat.pow_pos (by decide)
  have e2:2 ^ (n + 1)=2 * 2 ^ n:=by rw [Nat.pow_succ];omega
  rw [e2]
  unfold termT
  split
  ·show 1 + 7 ≤ _;omega
  ·split
   ·simp only [ByteArray.size_append,digS_size];show 1 + 1 + 1 + 7 ≤ _;omega
   ·rename_i c t _
    have h1:=ih c (t.take (2 ^ c)) (l + (k - c:Nat))
    have h2:=ih c (t.drop (2 ^ c)) (l + (k - c:Nat))
    simp only [ByteArray.size_append,digS_size]
    show 1 + 1 + 1 + 1 + 1 + _ + 1 + _ + 1 + 7 ≤ _
    omega

theorem termT_eq {n k a c:Nat} {ts t1 t2:List Bool} {l:Int} (hn:noneL ts=false) (ha:a=(stripS k ts).1) (h1:t1=(stripS k ts).2) (h2:stripZ a t1=(c + 1,t2)) :
  termT (n + 1) k ts l=digS (l + (k - a:Nat)) ++ ⟨#[64]⟩ ++ ⟨#[40]⟩ ++ digS (l + (k - (c + 1):Nat)) ++ ⟨#[32]⟩ ++ termT n c (t2.take (2 ^ c)) (l + (k - c:Nat)) ++ ⟨#[32]⟩ ++ termT n c (t2.drop (2 ^ c)) (l + (k - c:Nat)) ++ ⟨#[41]⟩:=by
 show (if noneL ts=true then _ else match stripZ (stripS k ts).1 (stripS k ts).2 with | (0,_)=>_ | (c + 1,t)=>_)=_
 rw [if_neg (by rw [hn];decide),← ha,← h1,h2]

theorem termT_eq0 {n k a:Nat} {ts t1 t2:List Bool} {l:Int} (hn:noneL ts=false) (ha:a=(stripS k ts).1) (h1:t1=(stripS k ts).2) (h2:stripZ a t1=(0,t2)) :
  termT (n + 1) k ts l=digS (l + (k - a:Nat)) ++ ⟨#[64]⟩ ++ ⟨#[49]⟩:=by
 show (if noneL ts=true then _ else match stripZ (stripS k ts).1 (stripS k ts).2 with | (0,_)=>_ | (c + 1,t)=>_)=_
 rw [if_neg (by rw [hn];decide),← ha,← h1,h2]

def chainQ:Nat → List Bool → List Bool → Nat × List Bool × List Bool
 | 0,lo,hi=>(0,lo,hi)
 | k + 1,lo,hi=>if sameL lo hi && !noneL (lo.drop (2 ^ k)) then chainQ k (lo.take (2 ^ k)) (lo.drop (2 ^ k)) else (k + 1,lo,hi)

theorem chainQ_le:∀ (k:Nat) (lo hi:List Bool),(chainQ k lo hi).1 ≤ k:=by
 intro k
 induction k with
 | zero=>intro lo hi;exact Nat.le_refl 0
 | succ k ih=>
  intro lo hi
  unfold chainQ
  split
  ·exact Nat.le_succ_of_le (ih _ _)
  ·exact Nat.le_refl _

theorem chainQ_tab {w:World} {B off:Nat}:∀ (k:Nat) (lo hi:List Bool),TabAt w B off lo → lo.length=2 ^ k → TabAt w B (off + 2 ^ k) hi → hi.length=2 ^ k →
  TabAt w B off (chainQ k lo hi).2.1 ∧ (chainQ k lo hi).2.1.length=2 ^ (chainQ k lo hi).1 ∧ TabAt w B (off + 2 ^ (chainQ k lo hi).1) (chainQ k lo hi).2.2 ∧ (chainQ k lo hi).2.2.length=2 ^ (chainQ k lo hi).1:=by
 intro k
 induction k with
 | zero=>intro lo hi h1 h2 h3 h4;exact ⟨h1,h2,h3,h4⟩
 | succ k ih=>
  intro lo hi h1 h2 h3 h4
  unfold chainQ
  split
  ·exact ih _ _ (h1.take _) (by rw [List.length_take,h2,Nat.pow_succ];omega) (h1.drop _) (by rw [List.length_drop,h2,Nat.pow_succ];omega)
  ·exact ⟨h1,h2,h3,h4⟩

def termQ:Nat → Nat → List Bool → Int → ByteArray
 | 0,_,_,_=>⟨#[48]⟩
 | _ + 1,0,ts,_=>if noneL ts then ⟨#[48]⟩ else ⟨#[49]⟩
 | n + 1,k + 1,ts,l=>
  if noneL ts then ⟨#[48]⟩ else if noneL (ts.drop (2 ^ k)) then termQ n k (ts.take (2 ^ k)) (l + 1)
  else ⟨#[40]⟩ ++ digS l ++ ⟨#[58]⟩ ++ digS (l + (k - (chainQ k (ts.take (2 ^ k)) (ts.drop (2 ^ k))).1:Nat)) ++ ⟨#[32]⟩ ++ termQ n (chainQ k (ts.take (2 ^ k)) (ts.drop (2 ^ k))).1 (chainQ k (ts.take (2 ^ k)) (ts.drop (2 ^ k))).2.1 (l + (k - (chainQ k (ts.take (2 ^ k)) (ts.drop (2 ^ k))).1:Nat) + 1) ++ ⟨#[32]⟩ ++ termQ n (chainQ k (ts.take (2 ^ k)) (ts.drop (2 ^ k))).1 (chainQ k (ts.take (2 ^ k)) (ts.drop (2 ^ k))).2.2 (l + (k - (chainQ k (ts.take (2 ^ k)) (ts.drop (2 ^ k))).1:Nat) + 1) ++ ⟨#[41]⟩

theorem termQ_size:∀ (n k:Nat) (ts:List Bool) (l:Int),(termQ n k ts l).size + 9 ≤ 10 * 2 ^ n:=by
 intro n
 induction n with
 | zero=>intro k ts l;exact Nat.le_refl 10
 | succ n ih=>
  intro k ts l
  have hp:0 < 2 ^ n:=Nat.pow_pos (by decide)
  have e2:2 ^ (n + 1)=2 * 2 ^ n:=by rw [Nat.pow_succ];omega
  rw [e2]
  cases k with
  | zero=>
   unfold termQ
   split
   ·show 1 + 9 ≤ _;omega
   ·show 1 + 9 ≤ _;omega
  | succ k=>
   unfold termQ
   split
   ·show 1 + 9 ≤ _;omega
   split
   ·have:=ih k (ts.take (2 ^ k)) (l + 1);omega
   ·have h1:=ih (chainQ k (ts.take (2 ^ k)) (ts.drop (2 ^ k))).1 (chainQ k (ts.take (2 ^ k)) (ts.drop (2 ^ k))).2.1 (l + (k - (chainQ k (ts.take (2 ^ k)) (ts.drop (2 ^ k))).1:Nat) + 1)
    have h2:=ih (chainQ k (ts.take (2 ^ k)) (ts.drop (2 ^ k))).1 (chainQ k (ts.take (2 ^ k)) (ts.drop (2 ^ k))).2.2 (l + (k - (chainQ k (ts.take (2 ^ k)) (ts.drop (2 ^ k))).1:Nat) + 1)
    simp only [ByteArray.size_append,digS_size]
    show 1 + 1 + 1 + 1 + 1 + _ + 1 + _ + 1 + 9 ≤ _
    omega

set_option maxRecDepth 100000 in
theorem termQ_step {B off:Nat} {ts:List Bool} (k n cap:Nat) (l:Int) (w:World) (hk:k ≤ 8) (h:TabAt w B off ts) (hl:ts.length=2 * 2 ^ k) (hcap:2 * 2 ^ k ≤ cap) (hcap2:cap ≤ 4096) (hl0:0 ≤ l) (hl9:l + (k:Nat) < 10) (hn20:n ≤ 19) (hnn:noneL ts=false) (hsm:noneL (ts.drop (2 ^ k))=false)
  (ih:∀ (c:Nat),c ≤ k → ∀ (off cap:Nat) (ts:List Bool) (l:Int) (W:World),TabAt W B off ts → ts.length=2 ^ c → 2 ^ c ≤ cap → cap ≤ 4096 → 0 ≤ l → l + (c:Nat) < 11 → Calls Tryz.prog 115 #[.slice (some ⟨B,off,none⟩) (2 ^ c) cap,.int .i64 l] W fun e w'=>e=.returned (.string (termQ n c ts l)) ∧ Keeps W w') :
  Calls Tryz.prog 115 #[.slice (some ⟨B,off,none⟩) (2 * 2 ^ k) cap,.int .i64 l] w fun e w'=>e=.returned (.string (termQ (n + 1) (k + 1) ts l)) ∧ Keeps w w':=by
 have he:termQ (n + 1) (k + 1) ts l=if noneL ts then ⟨#[48]⟩ else if noneL (ts.drop (2 ^ k)) then termQ n k (ts.take (2 ^ k)) (l + 1)
  else ⟨#[40]⟩ ++ digS l ++ ⟨#[58]⟩ ++ digS (l + (k - (chainQ k (ts.take (2 ^ k)) (ts.drop (2 ^ k))).1:Nat)) ++ ⟨#[32]⟩ ++ termQ n (chainQ k (ts.take (2 ^ k)) (ts.drop (2 ^ k))).1 (chainQ k (ts.take (2 ^ k)) (ts.drop (2 ^ k))).2.1 (l + (k - (chainQ k (ts.take (2 ^ k)) (ts.drop (2 ^ k))).1:Nat) + 1) ++ ⟨#[32]⟩ ++ termQ n (chainQ k (ts.take (2 ^ k)) (ts.drop (2 ^ k))).1 (chainQ k (ts.take (2 ^ k)) (ts.drop (2 ^ k))).2.2 (l + (k - (chainQ k (ts.take (2 ^ k)) (ts.drop (2 ^ k))).1:Nat) + 1) ++ ⟨#[41]⟩:=rfl
 rw [if_neg (by rw [hnn];decide),if_neg (by rw [hsm];decide)] at he
 have hp1:1 ≤ 2 ^ k:=Nat.pow_pos (by decide)
 have l0:(ts.drop (2 ^ k)).length=2 ^ k:=by rw [List.length_drop];omega
 have hS0:=fun (W:World) (hW:Keeps w W)=>none15_calls (cap - 2 ^ k) W ((h.drop (2 ^ k)).keeps hW) (by omega)
 rw [hsm,l0] at hS0
 have hN0:=fun (W:World) (hW:Keeps w W)=>none15_calls cap W (h.keeps hW) (by omega)
 rw [hnn,hl] at hN0
 obtain ⟨lo,hlo⟩:∃ lo,lo=ts.take (2 ^ k):=⟨_,rfl⟩
 obtain ⟨hi,hhi⟩:∃ hi,hi=ts.drop (2 ^ k):=⟨_,rfl⟩
 have tlo:TabAt w B off lo:=by rw [hlo];exact h.take _
 have thi:TabAt w B (off + 2 ^ k) hi:=by rw [hhi];exact h.drop _
 have llo:lo.length=2 ^ k:=by rw [hlo,List.length_take];omega
 have lhi:hi.length=2 ^ k:=by rw [hhi,List.length_drop];omega
 rw [← hlo,← hhi] at he
 have htab:=chainQ_tab k lo hi tlo llo thi lhi
 obtain ⟨c,hc⟩:∃ c,c=(chainQ k lo hi).1:=⟨_,rfl⟩
 have hck:c ≤ k:=by rw [hc];exact chainQ_le k lo hi
 obtain ⟨z,hz⟩:∃ z,z=l + ((k - c:Nat):Int):=⟨_,rfl⟩
 have z0:0 ≤ z:=by omega
 have z1:z < 10:=by omega
 have hmono:2 ^ c ≤ 2 ^ k:=Nat.pow_le_pow_right (by decide) hck
 rw [← hc] at he htab
 rw [← hz] at he
 have hT1:=fun (W:World) (hW:Keeps w W)=>ih c hck off cap (chainQ k lo hi).2.1 (z + 1) W (htab.1.keeps hW) htab.2.1 (by omega) hcap2 (by omega) (by omega)
 have hT2:=fun (W:World) (hW:Keeps w W)=>ih c hck (off + 2 ^ c) (cap - 2 ^ c) (chainQ k lo hi).2.2 (z + 1) W (htab.2.2.1.keeps hW) htab.2.2.2 (by omega) (by omega) (by omega) (by omega)
 have s1:=termQ_size n c (chainQ k lo hi).2.1 (z + 1)
 have s2:=termQ_size n c (chainQ k lo hi).2.2 (z + 1)
 have hpn:2 ^ n ≤ 2 ^ 19:=Nat.pow_le_pow_right (by decide) hn20
 have e19:(2:Nat) ^ 19=524288:=rfl
 obtain ⟨x,hx⟩:∃ x,x=termQ n c (chainQ k lo hi).2.1 (z + 1):=⟨_,rfl⟩
 obtain ⟨y,hy⟩:∃ y,y=termQ n c (chainQ k lo hi).2.2 (z + 1):=⟨_,rfl⟩
 simp only [← hx,← hy] at s1 s2 hT1 hT2 he
 have g1:=digS_size l
 have g2:=digS_size z
 have g3:x.size ≤ 8388608:=by omega
 have g4:y.size ≤ 8388608:=by omega
 have HNL:=Lib.hid (fun W=>num_calls l W hl0 (by omega))
 have HNZ:=Lib.hid (fun W=>num_calls z W z0 z1)
 have HE:=Lib.hid he
 have HX1:=Lib.hid hT1
 have HX2:=Lib.hid hT2
 have HZ:=Lib.hid hz
 have HC:=Lib.hid hc
 have TLO:=Lib.hid tlo
 have THI:=Lib.hid thi
 have LLO:=Lib.hid llo
 have LHI:=Lib.hid lhi
 have HMONO:=Lib.hid hmono
 obtain ⟨P,hP⟩:∃ P,P=2 ^ k:=⟨_,rfl⟩
 rw [← hP] at hS0 hN0 hp1 hcap ⊢
 have HN0:=Lib.hid hN0
 have HS0:=Lib.hid hS0
 have HH0:=Lib.hid (fun (W:World)=>halves15_calls (B:=B) (off:=off) P cap W hp1 hcap (by omega))
 have HP:=Lib.hid hP
 clear h hl hsm hnn l0 hN0 ih he hS0 hlo hhi tlo thi llo lhi htab hc hz hmono hT1 hT2 s1 s2 hpn e19 hx hy hP
 go_enter Tryz.func115,Tryz.ntmps115
 go_wp2_with fail
 refine (HN0.out _ (by (exact kp))).mono ?_
 rintro e00 w00 ⟨rfl,rfl⟩
 go_wp2_with fail
 refine (HH0.out _).mono ?_
 rintro e1 w2 ⟨rfl,hk2⟩
 go_wp2_with fail
 refine (HS0.out _ (by (exact kp))).mono ?_
 rintro e2 w3 ⟨rfl,rfl⟩
 go_upto_block 0 with fail
 go_cut [5,6,7,8,9] from 27 to 45 (fun s5 s6 s7 s8 s9 wd=>s5=.slice (some ⟨B,off,none⟩) (2 ^ c) cap ∧ s6=.slice (some ⟨B,off + 2 ^ c,none⟩) (2 ^ c) (cap - 2 ^ c) ∧ s7=.int .i64 (l + (k - c:Nat)) ∧ Keeps w wd)
 case first=>
  go_wp2_with fail
  go_loopg [5,6,7,8,9] k (fun gk s5 s6 s7 s8 s9 wr=>∃ (q:Nat) (a b:List Bool),s5=.slice (some ⟨B,off,none⟩) q cap ∧ s6=.slice (some ⟨B,off + q,none⟩) q (cap - q) ∧ q=2 ^ gk ∧ s7=.int .i64 (l + (k - gk:Nat)) ∧ gk ≤ k ∧ a.length=2 ^ gk ∧ b.length=2 ^ gk ∧ TabAt w B off a ∧ TabAt w B (off + q) b ∧ chainQ gk a b=chainQ k lo hi ∧ Keeps w wr)
  case atStart=>exact ⟨P,lo,hi,rfl,rfl,HP.out,by simp,Nat.le_refl _,LLO.out,LHI.out,TLO.out,by rw [HP.out];exact THI.out,rfl,by (exact kp)⟩
  case round=>
   obtain ⟨q,a,b,rfl,rfl,hq,rfl,hgk,hal,hbl,hA,hB,hst,hkr⟩:=hrel
   obtain ⟨m,hm⟩:∃ m,m=l + ((k - gk:Nat):Int):=⟨_,rfl⟩
   have m0:0 ≤ m:=by omega
   have m1:m ≤ 20:=by omega
   rw [← hm]
   have HM:=Lib.hid hm
   have HST:=Lib.hid hst
   have HA:=Lib.hid hA
   have HB:=Lib.hid hB
   clear hm hst hA hB
   have hla:a.length=q:=by rw [hal,hq]
   have hlb:b.length=q:=by rw [hbl,hq]
   have hSM:=fun (W:World) (hW:Keeps w W)=>same_calls cap (cap - q) W (HA.out.keeps hW) (HB.out.keeps hW) (by have:2 ^ gk ≤ 2 ^ k:=Nat.pow_le_pow_right (by decide) hgk;have:=HP.out;omega) (by have:2 ^ gk ≤ 2 ^ k:=Nat.pow_le_pow_right (by decide) hgk;have:=HP.out;omega)
   rw [hla,hlb] at hSM
   obtain ⟨b1,hb1⟩:∃ b1,b1=sameL a b:=⟨_,rfl⟩
   simp only [← hb1] at hSM
   have HSM:=Lib.hid hSM
   have HB1:=Lib.hid hb1
   clear hSM hla hlb hb1
   cases gk with
   | zero=>
    have hq1:q=1:=hq
    subst hq1
    clear hal hbl hq
    have ea:Hid (c=0):=Lib.hid (by rw [HC.out,← HST.out];rfl)
    cases b1
    all_goals
     go_wp2_with fail
     refine (HSM.out _ (by (exact kp))).mono ?_
     rintro e10 w10 ⟨rfl,hk10⟩
     go_wp2_with fail
     go_meet
     exact ⟨by rw [ea.out],by rw [ea.out],by rw [HM.out,ea.out],by (exact kp)⟩
   | succ g=>
    have e2:2 ^ (g + 1)=2 * 2 ^ g:=by rw [Nat.pow_succ];omega
    have hmo:2 ^ (g + 1) ≤ 2 ^ k:=Nat.pow_le_pow_right (by decide) hgk
    obtain ⟨p,hp⟩:∃ p,p=2 ^ g:=⟨_,rfl⟩
    have hp1:1 ≤ p:=by rw [hp];exact Nat.pow_pos (by decide)
    rw [e2,← hp] at hq hal hbl
    subst hq
    have hpc:4 * p ≤ cap:=by have:=HP.out;rw [hp];omega
    have la1:(a.drop p).length=p:=by rw [List.length_drop];omega
    have la0:(a.take p).length=p:=by rw [List.length_take];omega
    have hS2:=fun (W:World) (hW:Keeps w W)=>none15_calls (cap - p) W ((HA.out.drop p).keeps hW) (by omega)
    rw [la1] at hS2
    have HHL:=Lib.hid (fun (W:World)=>halves15_calls (B:=B) (off:=off) p cap W hp1 (by omega) (by omega))
    have hss:chainQ (g + 1) a b=if b1 && !noneL (a.drop p) then chainQ g (a.take p) (a.drop p) else (g + 1,a,b):=by rw [hp,HB1.out];rfl
    obtain ⟨b2,hb2⟩:∃ b2,b2=noneL (a.drop p):=⟨_,rfl⟩
    rw [← hb2] at hS2 hss
    have HS2:=Lib.hid hS2
    have HSS:=Lib.hid hss
    have HPP:=Lib.hid hp
    have LA1:=Lib.hid la1
    have LA0:=Lib.hid la0
    clear hS2 hss hb2 hal hbl e2 hmo hp la1 la0
    cases b1
    ·go_wp2_with fail
     refine (HSM.out _ (by (exact kp))).mono ?_
     rintro e10 w10 ⟨rfl,hk10⟩
     go_wp2_with fail
     go_meet
     have ea:c=g + 1:=by rw [HC.out,← HST.out,HSS.out];rfl
     exact ⟨by rw [ea,HPP.out,Nat.pow_succ,Nat.mul_comm],by rw [ea,HPP.out,Nat.pow_succ,Nat.mul_comm],by rw [HM.out,ea],by (exact kp)⟩
    ·cases b2
     ·go_wp2_with fail
      refine (HSM.out _ (by (exact kp))).mono ?_
      rintro e10 w10 ⟨rfl,hk10⟩
      go_wp2_with fail
      refine (HHL.out _).mono ?_
      rintro e01 w01 ⟨rfl,hk01⟩
      go_wp2_with fail
      refine (HS2.out _ (by (exact kp))).mono ?_
      rintro e20 w20 ⟨rfl,rfl⟩
      go_wp2_with fail
      go_roundg g
      case rel=>exact ⟨p,a.take p,a.drop p,rfl,rfl,HPP.out,by rw [HM.out];congr 1;omega,by omega,by rw [LA0.out,HPP.out],by rw [LA1.out,HPP.out],HA.out.take p,HA.out.drop p,by rw [← HST.out,HSS.out];rfl,by (exact kp)⟩
      case measure=>omega
     ·go_wp2_with fail
      refine (HSM.out _ (by (exact kp))).mono ?_
      rintro e10 w10 ⟨rfl,hk10⟩
      go_wp2_with fail
      refine (HHL.out _).mono ?_
      rintro e01 w01 ⟨rfl,hk01⟩
      go_wp2_with fail
      refine (HS2.out _ (by (exact kp))).mono ?_
      rintro e20 w20 ⟨rfl,rfl⟩
      go_wp2_with fail
      go_meet
      have ea:c=g + 1:=by rw [HC.out,← HST.out,HSS.out];rfl
      exact ⟨by rw [ea,HPP.out,Nat.pow_succ,Nat.mul_comm],by rw [ea,HPP.out,Nat.pow_succ,Nat.mul_comm],by rw [HM.out,ea],by (exact kp)⟩
 case rest=>
  obtain ⟨rfl,rfl,rfl,hkd⟩:=hcut
  have HKD:=Lib.hid hkd
  rw [← HZ.out]
  clear hkd
  go_wp2_with fail
  refine (HNL.out _).mono ?_
  rintro e3 w3 ⟨rfl,hk3⟩
  go_wp2_with fail
  refine (HNZ.out _).mono ?_
  rintro e4 w4 ⟨rfl,hk4⟩
  go_wp2_with fail
  refine (HX1.out _ (by have:=HKD.out;(exact kp))).mono ?_
  rintro e5 w5 ⟨rfl,hk5⟩
  go_wp2_with fail
  refine (HX2.out _ (by have:=HKD.out;(exact kp))).mono ?_
  rintro e6 w6 ⟨rfl,hk6⟩
  go_wp2_with fail
  go_ret
  exact ⟨by rw [HE.out];rfl,by have:=HKD.out;(exact kp)⟩

theorem termQ_none {B off:Nat} {ts:List Bool} (q cap:Nat) (l:Int) (w:World) (h:TabAt w B off ts) (hl:ts.length=q) (hq:q ≤ 4096) (hnn:noneL ts=true) :
  Calls Tryz.prog 115 #[.slice (some ⟨B,off,none⟩) q cap,.int .i64 l] w fun e w'=>e=.returned (.string ⟨#[48]⟩) ∧ Keeps w w':=by
 have HNONE:=Lib.hid (fun (W:World) (hW:Keeps w W)=>by have:=none15_calls cap W (h.keeps hW) (by omega);rw [hl,hnn] at this;exact this)
 clear h hl hnn
 go_enter Tryz.func115,Tryz.ntmps115
 go_wp2_with (first | (go_at_call 148;refine (HNONE.out _ (by (exact kp))).mono ?_;rintro e w2 ⟨rfl,rfl⟩) | fail)
 go_ret
 exact ⟨rfl,by (exact kp)⟩

theorem termQ_zero {B off:Nat} {ts:List Bool} (cap:Nat) (l:Int) (w:World) (h:TabAt w B off ts) (hl:ts.length=1) (hnn:noneL ts=false) :
  Calls Tryz.prog 115 #[.slice (some ⟨B,off,none⟩) 1 cap,.int .i64 l] w fun e w'=>e=.returned (.string ⟨#[49]⟩) ∧ Keeps w w':=by
 have HNONE:=Lib.hid (fun (W:World) (hW:Keeps w W)=>by have:=none15_calls cap W (h.keeps hW) (by omega);rw [hl,hnn] at this;exact this)
 clear h hl hnn
 go_enter Tryz.func115,Tryz.ntmps115
 go_wp2_with (first | (go_at_call 148;refine (HNONE.out _ (by (exact kp))).mono ?_;rintro e w2 ⟨rfl,rfl⟩) | fail)
 go_ret
 exact ⟨rfl,by (exact kp)⟩

theorem termQ_left {B off:Nat} {ts:List Bool} (p cap:Nat) (l:Int) (x:ByteArray) (w:World) (hp1:1 ≤ p) (h:TabAt w B off ts) (hl:ts.length=2 * p) (hcap:2 * p ≤ cap) (hcap2:cap ≤ 4096) (hl0:0 ≤ l) (hl9:l < 20) (hnn:noneL ts=false) (hsm:noneL (ts.drop p)=true)
  (hT:∀ W,Keeps w W → Calls Tryz.prog 115 #[.slice (some ⟨B,off,none⟩) p cap,.int .i64 (l + 1)] W fun e w'=>e=.returned (.string x) ∧ Keeps W w') :
  Calls Tryz.prog 115 #[.slice (some ⟨B,off,none⟩) (2 * p) cap,.int .i64 l] w fun e w'=>e=.returned (.string x) ∧ Keeps w w':=by
 have l0:(ts.drop p).length=p:=by rw [List.length_drop];omega
 have hS0:=fun (W:World) (hW:Keeps w W)=>none15_calls (cap - p) W ((h.drop p).keeps hW) (by omega)
 rw [hsm,l0] at hS0
 have hN0:=fun (W:World) (hW:Keeps w W)=>none15_calls cap W (h.keeps hW) (by omega)
 rw [hnn,hl] at hN0
 have HS0:=Lib.hid hS0
 have HN0:=Lib.hid hN0
 have HH0:=Lib.hid (fun (W:World)=>halves15_calls (B:=B) (off:=off) p cap W hp1 hcap (by omega))
 have HT:=Lib.hid hT
 clear h hl hsm hnn hS0 hN0 hT hcap l0
 go_enter Tryz.func115,Tryz.ntmps115
 go_wp2_with fail
 refine (HN0.out _ (by (exact kp))).mono ?_
 rintro e00 w00 ⟨rfl,rfl⟩
 go_wp2_with fail
 refine (HH0.out _).mono ?_
 rintro e1 w2 ⟨rfl,hk2⟩
 go_wp2_with fail
 refine (HS0.out _ (by (exact kp))).mono ?_
 rintro e2 w3 ⟨rfl,rfl⟩
 go_wp2_with fail
 refine (HT.out _ (by (exact kp))).mono ?_
 rintro e3 w4 ⟨rfl,hk4⟩
 go_wp2_with fail
 go_ret
 exact ⟨rfl,by (exact kp)⟩

theorem termQ_calls {B:Nat}:∀ (n:Nat),n ≤ 20 → ∀ (k:Nat),k < n → k ≤ 9 → ∀ (off cap:Nat) (ts:List Bool) (l:Int) (W:World),TabAt W B off ts → ts.length=2 ^ k → 2 ^ k ≤ cap → cap ≤ 4096 → 0 ≤ l → l + (k:Nat) < 11 →
  Calls Tryz.prog 115 #[.slice (some ⟨B,off,none⟩) (2 ^ k) cap,.int .i64 l] W fun e w'=>e=.returned (.string (termQ n k ts l)) ∧ Keeps W w':=by
 intro n
 induction n with
 | zero=>intro _ k hk;omega
 | succ n ih=>
  intro hn k hk hk9 off cap ts l W h hl hc hc2 hl0 hl9
  cases hnn:noneL ts with
  | true=>
   have he:termQ (n + 1) k ts l=⟨#[48]⟩:=by
    cases k with
    | zero=>show (if noneL ts=true then _ else _)=_;rw [if_pos hnn]
    | succ k=>show (if noneL ts=true then _ else _)=_;rw [if_pos hnn]
   rw [he]
   exact termQ_none _ cap l W h hl (by omega) hnn
  | false=>
   cases k with
   | zero=>
    have he:termQ (n + 1) 0 ts l=⟨#[49]⟩:=by show (if noneL ts=true then _ else _)=_;rw [if_neg (by rw [hnn];decide)]
    rw [he]
    exact termQ_zero cap l W h hl hnn
   | succ k=>
    have e2:2 ^ (k + 1)=2 * 2 ^ k:=by rw [Nat.pow_succ];omega
    rw [e2] at hl hc ⊢
    cases hb:noneL (ts.drop (2 ^ k)) with
    | true=>
     have he:termQ (n + 1) (k + 1) ts l=termQ n k (ts.take (2 ^ k)) (l + 1):=by
      show (if noneL ts=true then _ else if noneL (ts.drop (2 ^ k))=true then _ else _)=_
      rw [if_neg (by rw [hnn];decide),if_pos hb]
     rw [he]
     exact termQ_left (2 ^ k) cap l _ W (Nat.pow_pos (by decide)) h hl hc hc2 hl0 (by omega) hnn hb (fun W2 h2=>ih (by omega) k (by omega) (by omega) off cap _ (l + 1) W2 ((h.take _).keeps h2) (by rw [List.length_take];omega) (by omega) hc2 (by omega) (by omega))
    | false=>exact termQ_step k n cap l W (by omega) h hl hc hc2 hl0 (by omega) (by omega) hnn hb (fun c hck off cap ts l W h hl q1 q2 q3 q4=>ih (by omega) c (by omega) (by omega) off cap ts l W h hl q1 q2 q3 q4)

def endB (b:Bool):ByteArray:=if b then ⟨#[49]⟩ else ⟨#[48]⟩

theorem endB_calls (b:Bool) (w:World):Calls Tryz.prog 140 #[.bool b] w fun e w'=>e=.returned (.string (endB b)) ∧ w=w':=by
 cases b
 all_goals go_enter Tryz.func140,Tryz.ntmps140
 all_goals go_wp2
 all_goals go_ret
 all_goals exact ⟨rfl,rfl⟩

def termB:Nat → List Bool → Int → ByteArray
 | 0,ts,_=>endB (ts.getD 0 false)
 | k + 1,ts,l=>if sameL (ts.take (2 ^ k)) (ts.drop (2 ^ k)) then termB k (ts.take (2 ^ k)) (l + 1) else ⟨#[40]⟩ ++ digS l ++ ⟨#[32]⟩ ++ termB k (ts.take (2 ^ k)) (l + 1) ++ ⟨#[32]⟩ ++ termB k (ts.drop (2 ^ k)) (l + 1) ++ ⟨#[41]⟩

theorem termB_size:∀ (k:Nat) (ts:List Bool) (l:Int),(termB k ts l).size + 7 ≤ 8 * 2 ^ k:=by
 intro k
 induction k with
 | zero=>intro ts l;unfold termB endB;split <;> exact Nat.le_refl 8
 | succ k ih=>
  intro ts l
  have h1:=ih (ts.take (2 ^ k)) (l + 1)
  have h2:=ih (ts.drop (2 ^ k)) (l + 1)
  have hp:0 < 2 ^ k:=Nat.pow_pos (by decide)
  have e2:2 ^ (k + 1)=2 * 2 ^ k:=by rw [Nat.pow_succ];omega
  rw [e2]
  unfold termB
  split
  ·omega
  ·simp only [ByteArray.size_append,digS_size]
   show 1 + 1 + 1 + _ + 1 + _ + 1 + 7 ≤ _
   omega

theorem termB_zero {B off:Nat} {ts:List Bool} (cap:Nat) (l:Int) (w:World) (h:TabAt w B off ts) (hl:ts.length=1) :
  Calls Tryz.prog 112 #[.slice (some ⟨B,off,none⟩) 1 cap,.int .i64 l] w fun e w'=>e=.returned (.string (termB 0 ts l)) ∧ Keeps w w':=by
 obtain ⟨b,rfl⟩:∃ b,ts=[b]:=by
  match ts,hl with
  | [b],_=>exact ⟨b,rfl⟩
 have c0:w.cell? ⟨B,off,none⟩=some (.bool b):=h 0 b rfl
 rw [show termB 0 [b] l=endB b from rfl]
 have HE:=Lib.hid (fun W=>endB_calls b W)
 clear h
 go_enter Tryz.func112,Tryz.ntmps112
 go_wp2_with (first | (go_at_call 140;refine (HE.out _).mono ?_;rintro e w1 ⟨rfl,rfl⟩) | fail)
 go_ret
 exact ⟨rfl,by (exact kp)⟩

set_option maxRecDepth 100000 in
theorem termB_step {B off:Nat} {ts:List Bool} (k p cap:Nat) (l:Int) (w:World) (hp:2 ^ k=p) (hk:k ≤ 9) (h:TabAt w B off ts) (hl:ts.length=2 * p) (hcap:2 * p ≤ cap) (hcap2:cap ≤ 4096) (hl0:0 ≤ l) (hl9:l < 10)
  (ih:∀ (off cap:Nat) (ts:List Bool) (W:World),TabAt W B off ts → ts.length=p → p ≤ cap → cap ≤ 4096 → Calls Tryz.prog 112 #[.slice (some ⟨B,off,none⟩) p cap,.int .i64 (l + 1)] W fun e w'=>e=.returned (.string (termB k ts (l + 1))) ∧ Keeps W w') :
  Calls Tryz.prog 112 #[.slice (some ⟨B,off,none⟩) (2 * p) cap,.int .i64 l] w fun e w'=>e=.returned (.string (termB (k + 1) ts l)) ∧ Keeps w w':=by
 have hp1:1 ≤ p:=by rw [← hp];exact Nat.pow_pos (by decide)
 have z1:=digS_size l
 have s1:=termB_size k (ts.take (2 ^ k)) (l + 1)
 have s2:=termB_size k (ts.drop (2 ^ k)) (l + 1)
 have hlo:=h.take p
 have hhi:=h.drop p
 have e1:termB (k + 1) ts l=if sameL (ts.take (2 ^ k)) (ts.drop (2 ^ k)) then termB k (ts.take (2 ^ k)) (l + 1) else ⟨#[40]⟩ ++ digS l ++ ⟨#[32]⟩ ++ termB k (ts.take (2 ^ k)) (l + 1) ++ ⟨#[32]⟩ ++ termB k (ts.drop (2 ^ k)) (l + 1) ++ ⟨#[41]⟩:=rfl
 rw [e1]
 rw [hp] at s1 s2 ⊢
 have llo:(ts.take p).length=p:=by rw [List.length_take];omega
 have lhi:(ts.drop p).length=p:=by rw [List.length_drop];omega
 obtain ⟨lo,hlo'⟩:∃ lo,lo=ts.take p:=⟨_,rfl⟩
 obtain ⟨hi,hhi'⟩:∃ hi,hi=ts.drop p:=⟨_,rfl⟩
 rw [← hlo'] at hlo llo s1
 rw [← hhi'] at hhi lhi s2
 rw [← hlo',← hhi']
 have z3:(termB k lo (l + 1)).size ≤ 8388608:=by omega
 have z4:(termB k hi (l + 1)).size ≤ 8388608:=by omega
 have ht:∀ W,Keeps w W → Calls Tryz.prog 142 #[.slice (some ⟨B,off,none⟩) p cap,.slice (some ⟨B,off + p,none⟩) p (cap - p)] W fun e w'=>e=.returned (.bool (sameL lo hi)) ∧ Keeps W w':=fun W hW=>by
  have:=same_calls cap (cap - p) W (hlo.keeps hW) (hhi.keeps hW) (by omega) (by omega)
  rw [llo,lhi] at this
  exact this
 have hT1:=fun (W:World) (hW:Keeps w W)=>ih off cap lo W (hlo.keeps hW) llo (by omega) hcap2
 have hT2:=fun (W:World) (hW:Keeps w W)=>ih (off + p) (cap - p) hi W (hhi.keeps hW) lhi (by omega) (by omega)
 obtain ⟨x,hx⟩:∃ x,x=termB k lo (l + 1):=⟨_,rfl⟩
 obtain ⟨y,hy⟩:∃ y,y=termB k hi (l + 1):=⟨_,rfl⟩
 obtain ⟨b,hb⟩:∃ b,b=sameL lo hi:=⟨_,rfl⟩
 simp only [← hx,← hy,← hb] at z3 z4 ht hT1 hT2 ⊢
 have HH:=Lib.hid (fun (W:World)=>halves12_calls (B:=B) (off:=off) p cap W hp1 hcap (by omega))
 have HN:=Lib.hid (fun W=>num_calls l W hl0 hl9)
 have HT:=Lib.hid ht
 have HT1:=Lib.hid hT1
 have HT2:=Lib.hid hT2
 clear h hlo hhi ht hT1 hT2 hx hy hb e1 ih hp hl llo lhi hlo' hhi' s1 s2 hcap hk
 cases b
 ·show Calls _ _ _ _ fun e w'=>e=.returned (.string (⟨#[40]⟩ ++ digS l ++ ⟨#[32]⟩ ++ x ++ ⟨#[32]⟩ ++ y ++ ⟨#[41]⟩)) ∧ Keeps w w'
  go_enter Tryz.func112,Tryz.ntmps112
  go_wp2_with (first | (go_at_call 141;refine (HH.out _).mono ?_;rintro e1 w2 ⟨rfl,hk2⟩) | (go_at_call 142;refine (HT.out _ (by (exact kp))).mono ?_;rintro e2 w3 ⟨rfl,hk3⟩) | (go_at_call 138;refine (HN.out _).mono ?_;rintro e4 w5 ⟨rfl,hk5⟩) | fail)
  refine (HT1.out _ (by (exact kp))).mono ?_
  rintro e3 w4 ⟨rfl,hk4⟩
  go_wp2_with fail
  refine (HT2.out _ (by (exact kp))).mono ?_
  rintro e6 w6 ⟨rfl,hk6⟩
  go_wp2_with fail
  go_ret
  exact ⟨rfl,by (exact kp)⟩
 ·show Calls _ _ _ _ fun e w'=>e=.returned (.string x) ∧ Keeps w w'
  go_enter Tryz.func112,Tryz.ntmps112
  go_wp2_with (first | (go_at_call 141;refine (HH.out _).mono ?_;rintro e1 w2 ⟨rfl,hk2⟩) | (go_at_call 142;refine (HT.out _ (by (exact kp))).mono ?_;rintro e2 w3 ⟨rfl,hk3⟩) | (go_at_call 112;refine (HT1.out _ (by (exact kp))).mono ?_;rintro e3 w4 ⟨rfl,hk4⟩) | fail)
  go_ret
  exact ⟨rfl,by (exact kp)⟩

theorem termB_calls {B:Nat}:∀ (k:Nat),k ≤ 9 → ∀ (off cap:Nat) (ts:List Bool) (l:Int) (W:World),TabAt W B off ts → ts.length=2 ^ k → 2 ^ k ≤ cap → cap ≤ 4096 → 0 ≤ l → l + (k:Nat) < 11 →
  Calls Tryz.prog 112 #[.slice (some ⟨B,off,none⟩) (2 ^ k) cap,.int .i64 l] W fun e w'=>e=.returned (.string (termB k ts l)) ∧ Keeps W w':=by
 intro k
 induction k with
 | zero=>intro _ off cap ts l W h hl _ _ _ _;exact termB_zero cap l W h hl
 | succ k ih=>
  intro hk off cap ts l W h hl hc hc2 hl0 hl9
  have e2:2 ^ (k + 1)=2 * 2 ^ k:=by rw [Nat.pow_succ];omega
  rw [e2] at hl hc ⊢
  exact termB_step k (2 ^ k) cap l W rfl (by omega) h hl hc hc2 hl0 (by omega) (fun off cap ts W2 h2 hl2 c1 c2=>ih (by omega) off cap ts (l + 1) W2 h2 hl2 c1 c2 (by omega) (by omega))

def endZ (b:Bool):ByteArray:=if b then ⟨#[49]⟩ else ⟨#[48]⟩

theorem endZ_calls (b:Bool) (w:World):Calls Tryz.prog 143 #[.bool b] w fun e w'=>e=.returned (.string (endZ b)) ∧ w=w':=by
 cases b
 all_goals go_enter Tryz.func143,Tryz.ntmps143
 all_goals go_wp2
 all_goals go_ret
 all_goals exact ⟨rfl,rfl⟩

def termZ:Nat → List Bool → Int → ByteArray
 | 0,ts,_=>endZ (ts.getD 0 false)
 | k + 1,ts,l=>if noneL (ts.drop (2 ^ k)) then termZ k (ts.take (2 ^ k)) (l + 1) else ⟨#[40]⟩ ++ digS l ++ ⟨#[32]⟩ ++ termZ k (ts.take (2 ^ k)) (l + 1) ++ ⟨#[32]⟩ ++ termZ k (ts.drop (2 ^ k)) (l + 1) ++ ⟨#[41]⟩

theorem termZ_size:∀ (k:Nat) (ts:List Bool) (l:Int),(termZ k ts l).size + 7 ≤ 8 * 2 ^ k:=by
 intro k
 induction k with
 | zero=>intro ts l;unfold termZ endZ;split <;> exact Nat.le_refl 8
 | succ k ih=>
  intro ts l
  have h1:=ih (ts.take (2 ^ k)) (l + 1)
  have h2:=ih (ts.drop (2 ^ k)) (l + 1)
  have hp:0 < 2 ^ k:=Nat.pow_pos (by decide)
  have e2:2 ^ (k + 1)=2 * 2 ^ k:=by rw [Nat.pow_succ];omega
  rw [e2]
  unfold termZ
  split
  ·omega
  ·simp only [ByteArray.size_append,digS_size]
   show 1 + 1 + 1 + _ + 1 + _ + 1 + 7 ≤ _
   omega

theorem termZ_zero {B off:Nat} {ts:List Bool} (cap:Nat) (l:Int) (w:World) (h:TabAt w B off ts) (hl:ts.length=1) :
  Calls Tryz.prog 113 #[.slice (some ⟨B,off,none⟩) 1 cap,.int .i64 l] w fun e w'=>e=.returned (.string (termZ 0 ts l)) ∧ Keeps w w':=by
 obtain ⟨b,rfl⟩:∃ b,ts=[b]:=by
  match ts,hl with
  | [b],_=>exact ⟨b,rfl⟩
 have c0:w.cell? ⟨B,off,none⟩=some (.bool b):=h 0 b rfl
 rw [show termZ 0 [b] l=endZ b from rfl]
 have HE:=Lib.hid (fun W=>endZ_calls b W)
 clear h
 go_enter Tryz.func113,Tryz.ntmps113
 go_wp2_with (first | (go_at_call 143;refine (HE.out _).mono ?_;rintro e w1 ⟨rfl,rfl⟩) | fail)
 go_ret
 exact ⟨rfl,by (exact kp)⟩

set_option maxRecDepth 100000 in
theorem termZ_step {B off:Nat} {ts:List Bool} (k p cap:Nat) (l:Int) (w:World) (hp:2 ^ k=p) (hk:k ≤ 9) (h:TabAt w B off ts) (hl:ts.length=2 * p) (hcap:2 * p ≤ cap) (hcap2:cap ≤ 4096) (hl0:0 ≤ l) (hl9:l < 10)
  (ih:∀ (off cap:Nat) (ts:List Bool) (W:World),TabAt W B off ts → ts.length=p → p ≤ cap → cap ≤ 4096 → Calls Tryz.prog 113 #[.slice (some ⟨B,off,none⟩) p cap,.int .i64 (l + 1)] W fun e w'=>e=.returned (.string (termZ k ts (l + 1))) ∧ Keeps W w') :
  Calls Tryz.prog 113 #[.slice (some ⟨B,off,none⟩) (2 * p) cap,.int .i64 l] w fun e w'=>e=.returned (.string (termZ (k + 1) ts l)) ∧ Keeps w w':=by
 have hp1:1 ≤ p:=by rw [← hp];exact Nat.pow_pos (by decide)
 have z1:=digS_size l
 have s1:=termZ_size k (ts.take (2 ^ k)) (l + 1)
 have s2:=termZ_size k (ts.drop (2 ^ k)) (l + 1)
 have hlo:=h.take p
 have hhi:=h.drop p
 have e1:termZ (k + 1) ts l=if noneL (ts.drop (2 ^ k)) then termZ k (ts.take (2 ^ k)) (l + 1) else ⟨#[40]⟩ ++ digS l ++ ⟨#[32]⟩ ++ termZ k (ts.take (2 ^ k)) (l + 1) ++ ⟨#[32]⟩ ++ termZ k (ts.drop (2 ^ k)) (l + 1) ++ ⟨#[41]⟩:=rfl
 rw [e1]
 rw [hp] at s1 s2 ⊢
 have llo:(ts.take p).length=p:=by rw [List.length_take];omega
 have lhi:(ts.drop p).length=p:=by rw [List.length_drop];omega
 obtain ⟨lo,hlo'⟩:∃ lo,lo=ts.take p:=⟨_,rfl⟩
 obtain ⟨hi,hhi'⟩:∃ hi,hi=ts.drop p:=⟨_,rfl⟩
 rw [← hlo'] at hlo llo s1
 rw [← hhi'] at hhi lhi s2
 rw [← hlo',← hhi']
 have z3:(termZ k lo (l + 1)).size ≤ 8388608:=by omega
 have z4:(termZ k hi (l + 1)).size ≤ 8388608:=by omega
 have ht:∀ W,Keeps w W → Calls Tryz.prog 145 #[.slice (some ⟨B,off + p,none⟩) p (cap - p)] W fun e w'=>e=.returned (.bool (noneL hi)) ∧ W=w':=fun W hW=>by
  have:=none13_calls (cap - p) W (hhi.keeps hW) (by omega)
  rw [lhi] at this
  exact this
 have hT1:=fun (W:World) (hW:Keeps w W)=>ih off cap lo W (hlo.keeps hW) llo (by omega) hcap2
 have hT2:=fun (W:World) (hW:Keeps w W)=>ih (off + p) (cap - p) hi W (hhi.keeps hW) lhi (by omega) (by omega)
 obtain ⟨x,hx⟩:∃ x,x=termZ k lo (l + 1):=⟨_,rfl⟩
 obtain ⟨y,hy⟩:∃ y,y=termZ k hi (l + 1):=⟨_,rfl⟩
 obtain ⟨b,hb⟩:∃ b,b=noneL hi:=⟨_,rfl⟩
 simp only [← hx,← hy,← hb] at z3 z4 ht hT1 hT2 ⊢
 have HH:=Lib.hid (fun (W:World)=>halves13_calls (B:=B) (off:=off) p cap W hp1 hcap (by omega))
 have HN:=Lib.hid (fun W=>num_calls l W hl0 hl9)
 have HT:=Lib.hid ht
 have HT1:=Lib.hid hT1
 have HT2:=Lib.hid hT2
 clear h hlo hhi ht hT1 hT2 hx hy hb e1 ih hp hl llo lhi hlo' hhi' s1 s2 hcap hk
 cases b
 ·show Calls _ _ _ _ fun e w'=>e=.returned (.string (⟨#[40]⟩ ++ digS l ++ ⟨#[32]⟩ ++ x ++ ⟨#[32]⟩ ++ y ++ ⟨#[41]⟩)) ∧ Keeps w w'
  go_enter Tryz.func113,Tryz.ntmps113
  go_wp2_with (first | (go_at_call 144;refine (HH.out _).mono ?_;rintro e1 w2 ⟨rfl,hk2⟩) | (go_at_call 145;refine (HT.out _ (by (exact kp))).mono ?_;rintro e2 w3 ⟨rfl,rfl⟩) | (go_at_call 138;refine (HN.out _).mono ?_;rintro e4 w5 ⟨rfl,hk5⟩) | fail)
  refine (HT1.out _ (by (exact kp))).mono ?_
  rintro e3 w4 ⟨rfl,hk4⟩
  go_wp2_with fail
  refine (HT2.out _ (by (exact kp))).mono ?_
  rintro e6 w6 ⟨rfl,hk6⟩
  go_wp2_with fail
  go_ret
  exact ⟨rfl,by (exact kp)⟩
 ·show Calls _ _ _ _ fun e w'=>e=.returned (.string x) ∧ Keeps w w'
  go_enter Tryz.func113,Tryz.ntmps113
  go_wp2_with (first | (go_at_call 144;refine (HH.out _).mono ?_;rintro e1 w2 ⟨rfl,hk2⟩) | (go_at_call 145;refine (HT.out _ (by (exact kp))).mono ?_;rintro e2 w3 ⟨rfl,rfl⟩) | (go_at_call 113;refine (HT1.out _ (by (exact kp))).mono ?_;rintro e3 w4 ⟨rfl,hk4⟩) | fail)
  go_ret
  exact ⟨rfl,by (exact kp)⟩

theorem termZ_calls {B:Nat}:∀ (k:Nat),k ≤ 9 → ∀ (off cap:Nat) (ts:List Bool) (l:Int) (W:World),TabAt W B off ts → ts.length=2 ^ k → 2 ^ k ≤ cap → cap ≤ 4096 → 0 ≤ l → l + (k:Nat) < 11 →
  Calls Tryz.prog 113 #[.slice (some ⟨B,off,none⟩) (2 ^ k) cap,.int .i64 l] W fun e w'=>e=.returned (.string (termZ k ts l)) ∧ Keeps W w':=by
 intro k
 induction k with
 | zero=>intro _ off cap ts l W h hl _ _ _ _;exact termZ_zero cap l W h hl
 | succ k ih=>
  intro hk off cap ts l W h hl hc hc2 hl0 hl9
  have e2:2 ^ (k + 1)=2 * 2 ^ k:=by rw [Nat.pow_succ];omega
  rw [e2] at hl hc ⊢
  exact termZ_step k (2 ^ k) cap l W rfl (by omega) h hl hc hc2 hl0 (by omega) (fun off cap ts W2 h2 hl2 c1 c2=>ih (by omega) off cap ts (l + 1) W2 h2 hl2 c1 c2 (by omega) (by omega))

def endC (b:Bool):ByteArray:=if b then ⟨#[49]⟩ else ⟨#[48]⟩

theorem endC_calls (b:Bool) (w:World):Calls Tryz.prog 146 #[.bool b] w fun e w'=>e=.returned (.string (endC b)) ∧ w=w':=by
 cases b
 all_goals go_enter Tryz.func146,Tryz.ntmps146
 all_goals go_wp2
 all_goals go_ret
 all_goals exact ⟨rfl,rfl⟩

def chainC:Nat → List Bool → List Bool → Nat × List Bool × List Bool
 | 0,lo,hi=>(0,lo,hi)
 | k + 1,lo,hi=>if !sameL (lo.take (2 ^ k)) (lo.drop (2 ^ k)) && sameL (hi.take (2 ^ k)) (hi.drop (2 ^ k)) && sameL (hi.take (2 ^ k)) (lo.drop (2 ^ k)) then chainC k (lo.take (2 ^ k)) (lo.drop (2 ^ k)) else (k + 1,lo,hi)

theorem chainC_le:∀ (k:Nat) (lo hi:List Bool),(chainC k lo hi).1 ≤ k:=by
 intro k
 induction k with
 | zero=>intro lo hi;exact Nat.le_refl 0
 | succ k ih=>
  intro lo hi
  unfold chainC
  split
  ·exact Nat.le_succ_of_le (ih _ _)
  ·exact Nat.le_refl _

theorem chainC_tab {w:World} {B off:Nat}:∀ (k:Nat) (lo hi:List Bool),TabAt w B off lo → lo.length=2 ^ k → TabAt w B (off + 2 ^ k) hi → hi.length=2 ^ k →
  TabAt w B off (chainC k lo hi).2.1 ∧ (chainC k lo hi).2.1.length=2 ^ (chainC k lo hi).1 ∧ TabAt w B (off + 2 ^ (chainC k lo hi).1) (chainC k lo hi).2.2 ∧ (chainC k lo hi).2.2.length=2 ^ (chainC k lo hi).1:=by
 intro k
 induction k with
 | zero=>intro lo hi h1 h2 h3 h4;exact ⟨h1,h2,h3,h4⟩
 | succ k ih=>
  intro lo hi h1 h2 h3 h4
  unfold chainC
  split
  ·exact ih _ _ (h1.take _) (by rw [List.length_take,h2,Nat.pow_succ];omega) (h1.drop _) (by rw [List.length_drop,h2,Nat.pow_succ];omega)
  ·exact ⟨h1,h2,h3,h4⟩

def termC:Nat → Nat → List Bool → Int → ByteArray
 | 0,_,_,_=>⟨#[48]⟩
 | _ + 1,0,ts,_=>endC (ts.getD 0 false)
 | n + 1,k + 1,ts,l=>
  if sameL (ts.take (2 ^ k)) (ts.drop (2 ^ k)) then termC n k (ts.take (2 ^ k)) (l + 1)
  else ⟨#[40]⟩ ++ digS l ++ ⟨#[58]⟩ ++ digS (l + (k - (chainC k (ts.take (2 ^ k)) (ts.drop (2 ^ k))).1:Nat)) ++ ⟨#[32]⟩ ++ termC n (chainC k (ts.take (2 ^ k)) (ts.drop (2 ^ k))).1 (chainC k (ts.take (2 ^ k)) (ts.drop (2 ^ k))).2.1 (l + (k - (chainC k (ts.take (2 ^ k)) (ts.drop (2 ^ k))).1:Nat) + 1) ++ ⟨#[32]⟩ ++ termC n (chainC k (ts.take (2 ^ k)) (ts.drop (2 ^ k))).1 (chainC k (ts.take (2 ^ k)) (ts.drop (2 ^ k))).2.2 (l + (k - (chainC k (ts.take (2 ^ k)) (ts.drop (2 ^ k))).1:Nat) + 1) ++ ⟨#[41]⟩

theorem termC_size:∀ (n k:Nat) (ts:List Bool) (l:Int),(termC n k ts l).size + 9 ≤ 10 * 2 ^ n:=by
 intro n
 induction n with
 | zero=>intro k ts l;exact Nat.le_refl 10
 | succ n ih=>
  intro k ts l
  have hp:0 < 2 ^ n:=Nat.pow_pos (by decide)
  have e2:2 ^ (n + 1)=2 * 2 ^ n:=by rw [Nat.pow_succ];omega
  rw [e2]
  cases k with
  | zero=>
   unfold termC endC
   split
   ·show 1 + 9 ≤ _;omega
   ·show 1 + 9 ≤ _;omega
  | succ k=>
   unfold termC
   split
   ·have:=ih k (ts.take (2 ^ k)) (l + 1);omega
   ·have h1:=ih (chainC k (ts.take (2 ^ k)) (ts.drop (2 ^ k))).1 (chainC k (ts.take (2 ^ k)) (ts.drop (2 ^ k))).2.1 (l + (k - (chainC k (ts.take (2 ^ k)) (ts.drop (2 ^ k))).1:Nat) + 1)
    have h2:=ih (chainC k (ts.take (2 ^ k)) (ts.drop (2 ^ k))).1 (chainC k (ts.take (2 ^ k)) (ts.drop (2 ^ k))).2.2 (l + (k - (chainC k (ts.take (2 ^ k)) (ts.drop (2 ^ k))).1:Nat) + 1)
    simp only [ByteArray.size_append,digS_size]
    show 1 + 1 + 1 + 1 + 1 + _ + 1 + _ + 1 + 9 ≤ _
    omega

set_option maxRecDepth 100000 in
theorem termC_step {B off:Nat} {ts:List Bool} (k n cap:Nat) (l:Int) (w:World) (hk:k ≤ 8) (h:TabAt w B off ts) (hl:ts.length=2 * 2 ^ k) (hcap:2 * 2 ^ k ≤ cap) (hcap2:cap ≤ 4096) (hl0:0 ≤ l) (hl9:l + (k:Nat) < 10) (hn20:n ≤ 19) (hsm:sameL (ts.take (2 ^ k)) (ts.drop (2 ^ k))=false)
  (ih:∀ (c:Nat),c ≤ k → ∀ (off cap:Nat) (ts:List Bool) (l:Int) (W:World),TabAt W B off ts → ts.length=2 ^ c → 2 ^ c ≤ cap → cap ≤ 4096 → 0 ≤ l → l + (c:Nat) < 11 → Calls Tryz.prog 114 #[.slice (some ⟨B,off,none⟩) (2 ^ c) cap,.int .i64 l] W fun e w'=>e=.returned (.string (termC n c ts l)) ∧ Keeps W w') :
  Calls Tryz.prog 114 #[.slice (some ⟨B,off,none⟩) (2 * 2 ^ k) cap,.int .i64 l] w fun e w'=>e=.returned (.string (termC (n + 1) (k + 1) ts l)) ∧ Keeps w w':=by
 have he:termC (n + 1) (k + 1) ts l=if sameL (ts.take (2 ^ k)) (ts.drop (2 ^ k)) then termC n k (ts.take (2 ^ k)) (l + 1)
  else ⟨#[40]⟩ ++ digS l ++ ⟨#[58]⟩ ++ digS (l + (k - (chainC k (ts.take (2 ^ k)) (ts.drop (2 ^ k))).1:Nat)) ++ ⟨#[32]⟩ ++ termC n (chainC k (ts.take (2 ^ k)) (ts.drop (2 ^ k))).1 (chainC k (ts.take (2 ^ k)) (ts.drop (2 ^ k))).2.1 (l + (k - (chainC k (ts.take (2 ^ k)) (ts.drop (2 ^ k))).1:Nat) + 1) ++ ⟨#[32]⟩ ++ termC n (chainC k (ts.take (2 ^ k)) (ts.drop (2 ^ k))).1 (chainC k (ts.take (2 ^ k)) (ts.drop (2 ^ k))).2.2 (l + (k - (chainC k (ts.take (2 ^ k)) (ts.drop (2 ^ k))).1:Nat) + 1) ++ ⟨#[41]⟩:=rfl
 rw [if_neg (by rw [hsm];decide)] at he
 have hp1:1 ≤ 2 ^ k:=Nat.pow_pos (by decide)
 have hS0:=fun (W:World) (hW:Keeps w W)=>same_halves (2 ^ k) cap W hp1 (by omega) (h.keeps hW) hl
 rw [hsm] at hS0
 obtain ⟨lo,hlo⟩:∃ lo,lo=ts.take (2 ^ k):=⟨_,rfl⟩
 obtain ⟨hi,hhi⟩:∃ hi,hi=ts.drop (2 ^ k):=⟨_,rfl⟩
 have tlo:TabAt w B off lo:=by rw [hlo];exact h.take _
 have thi:TabAt w B (off + 2 ^ k) hi:=by rw [hhi];exact h.drop _
 have llo:lo.length=2 ^ k:=by rw [hlo,List.length_take];omega
 have lhi:hi.length=2 ^ k:=by rw [hhi,List.length_drop];omega
 rw [← hlo,← hhi] at he
 have htab:=chainC_tab k lo hi tlo llo thi lhi
 obtain ⟨c,hc⟩:∃ c,c=(chainC k lo hi).1:=⟨_,rfl⟩
 have hck:c ≤ k:=by rw [hc];exact chainC_le k lo hi
 obtain ⟨z,hz⟩:∃ z,z=l + ((k - c:Nat):Int):=⟨_,rfl⟩
 have z0:0 ≤ z:=by omega
 have z1:z < 10:=by omega
 have hmono:2 ^ c ≤ 2 ^ k:=Nat.pow_le_pow_right (by decide) hck
 rw [← hc] at he htab
 rw [← hz] at he
 have hT1:=fun (W:World) (hW:Keeps w W)=>ih c hck off cap (chainC k lo hi).2.1 (z + 1) W (htab.1.keeps hW) htab.2.1 (by omega) hcap2 (by omega) (by omega)
 have hT2:=fun (W:World) (hW:Keeps w W)=>ih c hck (off + 2 ^ c) (cap - 2 ^ c) (chainC k lo hi).2.2 (z + 1) W (htab.2.2.1.keeps hW) htab.2.2.2 (by omega) (by omega) (by omega) (by omega)
 have s1:=termC_size n c (chainC k lo hi).2.1 (z + 1)
 have s2:=termC_size n c (chainC k lo hi).2.2 (z + 1)
 have hpn:2 ^ n ≤ 2 ^ 19:=Nat.pow_le_pow_right (by decide) hn20
 have e19:(2:Nat) ^ 19=524288:=rfl
 obtain ⟨x,hx⟩:∃ x,x=termC n c (chainC k lo hi).2.1 (z + 1):=⟨_,rfl⟩
 obtain ⟨y,hy⟩:∃ y,y=termC n c (chainC k lo hi).2.2 (z + 1):=⟨_,rfl⟩
 simp only [← hx,← hy] at s1 s2 hT1 hT2 he
 have g1:=digS_size l
 have g2:=digS_size z
 have g3:x.size ≤ 8388608:=by omega
 have g4:y.size ≤ 8388608:=by omega
 have HNL:=Lib.hid (fun W=>num_calls l W hl0 (by omega))
 have HNZ:=Lib.hid (fun W=>num_calls z W z0 z1)
 have HE:=Lib.hid he
 have HX1:=Lib.hid hT1
 have HX2:=Lib.hid hT2
 have HZ:=Lib.hid hz
 have HC:=Lib.hid hc
 have TLO:=Lib.hid tlo
 have THI:=Lib.hid thi
 have LLO:=Lib.hid llo
 have LHI:=Lib.hid lhi
 have HMONO:=Lib.hid hmono
 obtain ⟨P,hP⟩:∃ P,P=2 ^ k:=⟨_,rfl⟩
 rw [← hP] at hS0 hp1 hcap ⊢
 have HS0:=Lib.hid hS0
 have HH0:=Lib.hid (fun (W:World)=>halves14_calls (B:=B) (off:=off) P cap W hp1 hcap (by omega))
 have HP:=Lib.hid hP
 clear h hl hsm ih he hS0 hlo hhi tlo thi llo lhi htab hc hz hmono hT1 hT2 s1 s2 hpn e19 hx hy hP
 go_enter Tryz.func114,Tryz.ntmps114
 go_upto_block 0 with (first | (go_at_call 147;refine (HH0.out _).mono ?_;rintro e1 w2 ⟨rfl,hk2⟩) | (go_at_call 142;refine (HS0.out _ (by (exact kp))).mono ?_;rintro e2 w3 ⟨rfl,hk3⟩) | fail)
 go_cut [5,6,7,8,9,10,11] from 32 to 63 (fun s5 s6 s7 s8 s9 s10 s11 wd=>s5=.slice (some ⟨B,off,none⟩) (2 ^ c) cap ∧ s6=.slice (some ⟨B,off + 2 ^ c,none⟩) (2 ^ c) (cap - 2 ^ c) ∧ s7=.int .i64 (l + (k - c:Nat)) ∧ Keeps w wd)
 case first=>
  go_wp2_with fail
  go_loopg [5,6,7,8,9,10,11] k (fun gk s5 s6 s7 s8 s9 s10 s11 wr=>∃ (q:Nat) (a b:List Bool),s5=.slice (some ⟨B,off,none⟩) q cap ∧ s6=.slice (some ⟨B,off + q,none⟩) q (cap - q) ∧ q=2 ^ gk ∧ s7=.int .i64 (l + (k - gk:Nat)) ∧ gk ≤ k ∧ a.length=2 ^ gk ∧ b.length=2 ^ gk ∧ TabAt w B off a ∧ TabAt w B (off + q) b ∧ chainC gk a b=chainC k lo hi ∧ Keeps w wr)
  case atStart=>exact ⟨P,lo,hi,rfl,rfl,HP.out,by simp,Nat.le_refl _,LLO.out,LHI.out,TLO.out,by rw [HP.out];exact THI.out,rfl,by (exact kp)⟩
  case round=>
   obtain ⟨q,a,b,rfl,rfl,hq,rfl,hgk,hal,hbl,hA,hB,hst,hkr⟩:=hrel
   obtain ⟨m,hm⟩:∃ m,m=l + ((k - gk:Nat):Int):=⟨_,rfl⟩
   have m0:0 ≤ m:=by omega
   have m1:m ≤ 20:=by omega
   rw [← hm]
   have HM:=Lib.hid hm
   have HST:=Lib.hid hst
   have HA:=Lib.hid hA
   have HB:=Lib.hid hB
   clear hm hst hA hB
   cases gk with
   | zero=>
    have hq1:q=1:=hq
    subst hq1
    clear hal hbl hq
    go_wp2_with fail
    go_meet
    have ea:c=0:=by rw [HC.out,← HST.out];rfl
    exact ⟨by rw [ea],by rw [ea],by rw [HM.out,ea],hkr⟩
   | succ g=>
    have e2:2 ^ (g + 1)=2 * 2 ^ g:=by rw [Nat.pow_succ];omega
    have hmo:2 ^ (g + 1) ≤ 2 ^ k:=Nat.pow_le_pow_right (by decide) hgk
    obtain ⟨p,hp⟩:∃ p,p=2 ^ g:=⟨_,rfl⟩
    have hp1:1 ≤ p:=by rw [hp];exact Nat.pow_pos (by decide)
    rw [e2,← hp] at hq hal hbl
    subst hq
    have hpc:4 * p ≤ cap:=by have:=HP.out;rw [hp];omega
    have hS1:=fun (W:World) (hW:Keeps w W)=>same_halves p cap W hp1 (by omega) (HA.out.keeps hW) hal
    have hS2:=fun (W:World) (hW:Keeps w W)=>same_halves p (cap - 2 * p) W hp1 (by omega) (HB.out.keeps hW) hbl
    have la1:(a.drop p).length=p:=by rw [List.length_drop];omega
    have la0:(a.take p).length=p:=by rw [List.length_take];omega
    have lb0:(b.take p).length=p:=by rw [List.length_take];omega
    have hS3:=fun (W:World) (hW:Keeps w W)=>same_calls (cap - 2 * p) (cap - p) W ((HB.out.take p).keeps hW) ((HA.out.drop p).keeps hW) (by omega) (by omega)
    rw [la1,lb0] at hS3
    have HHL:=Lib.hid (fun (W:World)=>halves14_calls (B:=B) (off:=off) p cap W hp1 (by omega) (by omega))
    have HHH:=Lib.hid (fun (W:World)=>halves14_calls (B:=B) (off:=off + 2 * p) p (cap - 2 * p) W hp1 (by omega) (by omega))
    have hss:chainC (g + 1) a b=if !sameL (a.take p) (a.drop p) && sameL (b.take p) (b.drop p) && sameL (b.take p) (a.drop p) then chainC g (a.take p) (a.drop p) else (g + 1,a,b):=by rw [hp];rfl
    obtain ⟨b1,hb1⟩:∃ b1,b1=sameL (a.take p) (a.drop p):=⟨_,rfl⟩
    obtain ⟨b2,hb2⟩:∃ b2,b2=sameL (b.take p) (b.drop p):=⟨_,rfl⟩
    obtain ⟨b3,hb3⟩:∃ b3,b3=sameL (b.take p) (a.drop p):=⟨_,rfl⟩
    rw [← hb1] at hS1 hss
    rw [← hb2] at hS2 hss
    rw [← hb3] at hS3 hss
    have HS1:=Lib.hid hS1
    have HS2:=Lib.hid hS2
    have HS3:=Lib.hid hS3
    have HSS:=Lib.hid hss
    have HPP:=Lib.hid hp
    have LA1:=Lib.hid la1
    have LA0:=Lib.hid la0
    clear hS1 hS2 hS3 hss hb1 hb2 hb3 hal hbl e2 hmo hp la1 la0 lb0
    cases b1
    ·cases b2
     ·go_wp2_with fail
      refine (HHL.out _).mono ?_
      rintro e01 w01 ⟨rfl,hk01⟩
      go_wp2_with fail
      refine (HHH.out _).mono ?_
      rintro e02 w02 ⟨rfl,hk02⟩
      go_wp2_with fail
      refine (HS1.out _ (by (exact kp))).mono ?_
      rintro e10 w10 ⟨rfl,hk10⟩
      go_wp2_with fail
      refine (HS2.out _ (by (exact kp))).mono ?_
      rintro e20 w20 ⟨rfl,hk20⟩
      go_wp2_with fail
      go_meet
      have ea:c=g + 1:=by rw [HC.out,← HST.out,HSS.out];rfl
      exact ⟨by rw [ea,HPP.out,Nat.pow_succ,Nat.mul_comm],by rw [ea,HPP.out,Nat.pow_succ,Nat.mul_comm],by rw [HM.out,ea],by (exact kp)⟩
     ·cases b3
      ·go_wp2_with fail
       refine (HHL.out _).mono ?_
       rintro e01 w01 ⟨rfl,hk01⟩
       go_wp2_with fail
       refine (HHH.out _).mono ?_
       rintro e02 w02 ⟨rfl,hk02⟩
       go_wp2_with fail
       refine (HS1.out _ (by (exact kp))).mono ?_
       rintro e10 w10 ⟨rfl,hk10⟩
       go_wp2_with fail
       refine (HS2.out _ (by (exact kp))).mono ?_
       rintro e20 w20 ⟨rfl,hk20⟩
       go_wp2_with fail
       refine (HS3.out _ (by (exact kp))).mono ?_
       rintro e30 w30 ⟨rfl,hk30⟩
       go_wp2_with fail
       go_meet
       have ea:c=g + 1:=by rw [HC.out,← HST.out,HSS.out];rfl
       exact ⟨by rw [ea,HPP.out,Nat.pow_succ,Nat.mul_comm],by rw [ea,HPP.out,Nat.pow_succ,Nat.mul_comm],by rw [HM.out,ea],by (exact kp)⟩
      ·go_wp2_with fail
       refine (HHL.out _).mono ?_
       rintro e01 w01 ⟨rfl,hk01⟩
       go_wp2_with fail
       refine (HHH.out _).mono ?_
       rintro e02 w02 ⟨rfl,hk02⟩
       go_wp2_with fail
       refine (HS1.out _ (by (exact kp))).mono ?_
       rintro e10 w10 ⟨rfl,hk10⟩
       go_wp2_with fail
       refine (HS2.out _ (by (exact kp))).mono ?_
       rintro e20 w20 ⟨rfl,hk20⟩
       go_wp2_with fail
       refine (HS3.out _ (by (exact kp))).mono ?_
       rintro e30 w30 ⟨rfl,hk30⟩
       go_wp2_with fail
       go_roundg g
       case rel=>exact ⟨p,a.take p,a.drop p,rfl,rfl,HPP.out,by rw [HM.out];congr 1;omega,by omega,by rw [LA0.out,HPP.out],by rw [LA1.out,HPP.out],HA.out.take p,HA.out.drop p,by rw [← HST.out,HSS.out];rfl,by (exact kp)⟩
       case measure=>omega
    ·go_wp2_with fail
     refine (HHL.out _).mono ?_
     rintro e01 w01 ⟨rfl,hk01⟩
     go_wp2_with fail
     refine (HHH.out _).mono ?_
     rintro e02 w02 ⟨rfl,hk02⟩
     go_wp2_with fail
     refine (HS1.out _ (by (exact kp))).mono ?_
     rintro e10 w10 ⟨rfl,hk10⟩
     go_wp2_with fail
     go_meet
     have ea:c=g + 1:=by rw [HC.out,← HST.out,HSS.out];rfl
     exact ⟨by rw [ea,HPP.out,Nat.pow_succ,Nat.mul_comm],by rw [ea,HPP.out,Nat.pow_succ,Nat.mul_comm],by rw [HM.out,ea],by (exact kp)⟩
 case rest=>
  obtain ⟨rfl,rfl,rfl,hkd⟩:=hcut
  have HKD:=Lib.hid hkd
  rw [← HZ.out]
  clear hkd
  go_wp2_with fail
  refine (HNL.out _).mono ?_
  rintro e3 w3 ⟨rfl,hk3⟩
  go_wp2_with fail
  refine (HNZ.out _).mono ?_
  rintro e4 w4 ⟨rfl,hk4⟩
  go_wp2_with fail
  refine (HX1.out _ (by have:=HKD.out;(exact kp))).mono ?_
  rintro e5 w5 ⟨rfl,hk5⟩
  go_wp2_with fail
  refine (HX2.out _ (by have:=HKD.out;(exact kp))).mono ?_
  rintro e6 w6 ⟨rfl,hk6⟩
  go_wp2_with fail
  go_ret
  exact ⟨by rw [HE.out];rfl,by have:=HKD.out;(exact kp)⟩

theorem termC_zero {B off:Nat} {ts:List Bool} (n cap:Nat) (l:Int) (w:World) (h:TabAt w B off ts) (hl:ts.length=1) :
  Calls Tryz.prog 114 #[.slice (some ⟨B,off,none⟩) 1 cap,.int .i64 l] w fun e w'=>e=.returned (.string (termC (n + 1) 0 ts l)) ∧ Keeps w w':=by
 obtain ⟨b,rfl⟩:∃ b,ts=[b]:=by
  match ts,hl with
  | [b],_=>exact ⟨b,rfl⟩
 have c0:w.cell? ⟨B,off,none⟩=some (.bool b):=h 0 b rfl
 rw [show termC (n + 1) 0 [b] l=endC b from rfl]
 have HE:=Lib.hid (fun W=>endC_calls b W)
 clear h
 go_enter Tryz.func114,Tryz.ntmps114
 go_wp2_with (first | (go_at_call 146;refine (HE.out _).mono ?_;rintro e w1 ⟨rfl,rfl⟩) | fail)
 go_ret
 exact ⟨rfl,by (exact kp)⟩

theorem termC_same {B off:Nat} {ts:List Bool} (p cap:Nat) (l:Int) (x:ByteArray) (w:World) (hp1:1 ≤ p) (h:TabAt w B off ts) (hl:ts.length=2 * p) (hcap:2 * p ≤ cap) (hcap2:cap ≤ 4096) (hl0:0 ≤ l) (hl9:l < 20) (hsm:sameL (ts.take p) (ts.drop p)=true)
  (hT:∀ W,Keeps w W → Calls Tryz.prog 114 #[.slice (some ⟨B,off,none⟩) p cap,.int .i64 (l + 1)] W fun e w'=>e=.returned (.string x) ∧ Keeps W w') :
  Calls Tryz.prog 114 #[.slice (some ⟨B,off,none⟩) (2 * p) cap,.int .i64 l] w fun e w'=>e=.returned (.string x) ∧ Keeps w w':=by
 have hS0:=fun (W:World) (hW:Keeps w W)=>same_halves p cap W hp1 (by omega) (h.keeps hW) hl
 rw [hsm] at hS0
 have HS0:=Lib.hid hS0
 have HH0:=Lib.hid (fun (W:World)=>halves14_calls (B:=B) (off:=off) p cap W hp1 hcap (by omega))
 have HT:=Lib.hid hT
 clear h hl hsm hS0 hT hcap
 go_enter Tryz.func114,Tryz.ntmps114
 go_wp2_with (first | (go_at_call 147;refine (HH0.out _).mono ?_;rintro e1 w2 ⟨rfl,hk2⟩) | (go_at_call 142;refine (HS0.out _ (by (exact kp))).mono ?_;rintro e2 w3 ⟨rfl,hk3⟩) | (go_at_call 114;refine (HT.out _ (by (exact kp))).mono ?_;rintro e3 w4 ⟨rfl,hk4⟩) | fail)
 go_ret
 exact ⟨rfl,by (exact kp)⟩

theorem termC_calls {B:Nat}:∀ (n:Nat),n ≤ 20 → ∀ (k:Nat),k < n → k ≤ 9 → ∀ (off cap:Nat) (ts:List Bool) (l:Int) (W:World),TabAt W B off ts → ts.length=2 ^ k → 2 ^ k ≤ cap → cap ≤ 4096 → 0 ≤ l → l + (k:Nat) < 11 →
  Calls Tryz.prog 114 #[.slice (some ⟨B,off,none⟩) (2 ^ k) cap,.int .i64 l] W fun e w'=>e=.returned (.string (termC n k ts l)) ∧ Keeps W w':=by
 intro n
 induction n with
 | zero=>intro _ k hk;omega
 | succ n ih=>
  intro hn k hk hk9 off cap ts l W h hl hc hc2 hl0 hl9
  cases k with
  | zero=>exact termC_zero n cap l W h hl
  | succ k=>
   have e2:2 ^ (k + 1)=2 * 2 ^ k:=by rw [Nat.pow_succ];omega
   rw [e2] at hl hc ⊢
   cases hb:sameL (ts.take (2 ^ k)) (ts.drop (2 ^ k)) with
   | true=>
    have he:termC (n + 1) (k + 1) ts l=termC n k (ts.take (2 ^ k)) (l + 1):=by
     show (if sameL (ts.take (2 ^ k)) (ts.drop (2 ^ k))=true then _ else _)=_
     rw [if_pos hb]
    rw [he]
    exact termC_same (2 ^ k) cap l _ W (Nat.pow_pos (by decide)) h hl hc hc2 hl0 (by omega) hb (fun W2 h2=>ih (by omega) k (by omega) (by omega) off cap _ (l + 1) W2 ((h.take _).keeps h2) (by rw [List.length_take];omega) (by omega) hc2 (by omega) (by omega))
   | false=>exact termC_step k n cap l W (by omega) h hl hc hc2 hl0 (by omega) (by omega) hb (fun c hck off cap ts l W h hl q1 q2 q3 q4=>ih (by omega) c (by omega) (by omega) off cap ts l W h hl q1 q2 q3 q4)

set_option maxRecDepth 100000 in
theorem termT_step {B off:Nat} {ts:List Bool} (k n cap:Nat) (l:Int) (w:World) (hk:k ≤ 9) (h:TabAt w B off ts) (hl:ts.length=2 ^ k) (hcap:2 ^ k ≤ cap) (hcap2:cap ≤ 4096) (hl0:0 ≤ l) (hl9:l + (k:Nat) < 10) (hn20:n ≤ 20) (hnn:noneL ts=false)
  (ih:∀ (c:Nat),c < k → ∀ (off cap:Nat) (ts:List Bool) (l:Int) (W:World),TabAt W B off ts → ts.length=2 ^ c → 2 ^ c ≤ cap → cap ≤ 4096 → 0 ≤ l → l + (c:Nat) < 10 → Calls Tryz.prog 116 #[.slice (some ⟨B,off,none⟩) (2 ^ c) cap,.int .i64 l] W fun e w'=>e=.returned (.string (termT n c ts l)) ∧ Keeps W w') :
  Calls Tryz.prog 116 #[.slice (some ⟨B,off,none⟩) (2 ^ k) cap,.int .i64 l] w fun e w'=>e=.returned (.string (termT (n + 1) k ts l)) ∧ Keeps w w':=by
 have HNONE:=Lib.hid (fun (W:World) (hW:Keeps w W)=>by have:=none16_calls cap W (h.keeps hW) (by rw [hl];omega);rw [hl,hnn] at this;exact this)
 obtain ⟨a,ha⟩:∃ a,a=(stripS k ts).1:=⟨_,rfl⟩
 have hak:a ≤ k:=by rw [ha];exact stripS_le k ts
 obtain ⟨P,hP⟩:∃ P,P=2 ^ k:=⟨_,rfl⟩
 have H:=Lib.hid h
 have HL:=Lib.hid hl
 have HA:=Lib.hid ha
 have HCAP:=Lib.hid hcap
 have hP4:P ≤ 4096:=by omega
 rw [← hP] at HNONE ⊢
 have HP:=Lib.hid hP
 have HNN:=Lib.hid hnn
 have HIH:=Lib.hid ih
 clear h hl ha hcap hP hnn ih
 go_enter Tryz.func116,Tryz.ntmps116
 go_upto_block 0 with (first | (go_at_call 150;refine (HNONE.out _ (by (exact kp))).mono ?_;rintro e w2 ⟨rfl,rfl⟩) | fail)
 go_cut [0,5,6,7] from 16 to 30 (fun s0 s5 s6 s7 wc=>s0=.slice (some ⟨B,off,none⟩) (2 ^ a) cap ∧ s5=.int .i64 (l + (k - a:Nat)) ∧ Keeps w wc)
 case first=>
  go_wp2_with fail
  go_loopg [0,5,6,7] k (fun gk s0 s5 s6 s7 wr=>∃ (q:Nat) (t:List Bool),s0=.slice (some ⟨B,off,none⟩) q cap ∧ q=2 ^ gk ∧ s5=.int .i64 (l + (k - gk:Nat)) ∧ gk ≤ k ∧ t.length=2 ^ gk ∧ TabAt w B off t ∧ stripS gk t=stripS k ts ∧ Keeps w wr)
  case atStart=>exact ⟨P,ts,rfl,HP.out,by simp,Nat.le_refl _,HL.out,H.out,rfl,by (exact kp)⟩
  case round=>
   obtain ⟨q,t,rfl,hq,rfl,hgk,htl,hT,hst,hkr⟩:=hrel
   obtain ⟨m,hm⟩:∃ m,m=l + ((k - gk:Nat):Int):=⟨_,rfl⟩
   have m0:0 ≤ m:=by omega
   have m1:m ≤ 20:=by omega
   rw [← hm]
   have HM:=Lib.hid hm
   have HST:=Lib.hid hst
   have HT:=Lib.hid hT
   have HTL:=Lib.hid htl
   clear hm hst hT
   cases gk with
   | zero=>
    have hq1:q=1:=hq
    subst hq1
    clear htl hq
    go_wp2_with fail
    go_meet
    have ea:a=0:=by rw [HA.out,← HST.out];rfl
    exact ⟨by rw [ea],by rw [HM.out,ea],hkr⟩
   | succ g=>
    have e2:2 ^ (g + 1)=2 * 2 ^ g:=by rw [Nat.pow_succ];omega
    obtain ⟨p,hp⟩:∃ p,p=2 ^ g:=⟨_,rfl⟩
    have hp1:1 ≤ p:=by rw [hp];exact Nat.pow_pos (by decide)
    rw [e2,← hp] at hq htl
    subst hq
    have hmono:2 ^ (g + 1) ≤ 2 ^ k:=Nat.pow_le_pow_right (by decide) hgk
    have hpc:2 * p ≤ cap:=by have:=HCAP.out;rw [hp,← e2];omega
    have hS:=fun (W:World) (hW:Keeps w W)=>same_halves p cap W hp1 (by omega) (HT.out.keeps hW) htl
    have HH:=Lib.hid (fun (W:World)=>halves16_calls (B:=B) (off:=off) p cap W hp1 hpc (by omega))
    have hss:stripS (g + 1) t=if sameL (t.take p) (t.drop p) then stripS g (t.take p) else (g + 1,t):=by rw [hp];rfl
    obtain ⟨b,hb⟩:∃ b,b=sameL (t.take p) (t.drop p):=⟨_,rfl⟩
    rw [← hb] at hS hss
    have HS:=Lib.hid hS
    have HSS:=Lib.hid hss
    have HPP:=Lib.hid hp
    have HMO:=Lib.hid hmono
    have hl2:(t.take p).length=p:=by rw [List.length_take];omega
    have HL2:=Lib.hid hl2
    clear hS hss hb htl e2 hmono hp hl2
    cases b
    ·go_wp2_with (first | (go_at_call 151;refine (HH.out _).mono ?_;rintro e1 w2 ⟨rfl,hk2⟩) | (go_at_call 142;refine (HS.out _ (by (exact kp))).mono ?_;rintro e2 w3 ⟨rfl,hk3⟩) | fail)
     go_meet
     have ea:a=g + 1:=by rw [HA.out,← HST.out,HSS.out];rfl
     exact ⟨by rw [ea,HPP.out,Nat.pow_succ,Nat.mul_comm],by rw [HM.out,ea],by (exact kp)⟩
    ·go_wp2_with (first | (go_at_call 151;refine (HH.out _).mono ?_;rintro e1 w2 ⟨rfl,hk2⟩) | (go_at_call 142;refine (HS.out _ (by (exact kp))).mono ?_;rintro e2 w3 ⟨rfl,hk3⟩) | fail)
     go_roundg g
     case rel=>exact ⟨p,t.take p,rfl,HPP.out,by rw [HM.out];congr 1;omega,by omega,by rw [HL2.out,HPP.out],HT.out.take p,by rw [← HST.out,HSS.out];rfl,by (exact kp)⟩
     case measure=>omega
 case rest=>
  obtain ⟨rfl,rfl,hkc⟩:=hcut
  obtain ⟨t1,ht1⟩:∃ t1,t1=(stripS k ts).2:=⟨_,rfl⟩
  have ht:=stripS_tab k ts H.out HL.out
  rw [← ht1,← HA.out] at ht
  obtain ⟨c,hc⟩:∃ c,c=(stripZ a t1).1:=⟨_,rfl⟩
  have hca:c ≤ a:=by rw [hc];exact stripZ_le a t1
  have hpa:2 ^ a ≤ 2 ^ k:=Nat.pow_le_pow_right (by decide) hak
  obtain ⟨m,hm⟩:∃ m,m=l + ((k - a:Nat):Int):=⟨_,rfl⟩
  have m0:0 ≤ m:=by omega
  have m1:m < 10:=by omega
  have ma:m + (a:Int) < 10:=by omega
  obtain ⟨Q,hQ⟩:∃ Q,Q=2 ^ a:=⟨_,rfl⟩
  have hQc:Q ≤ cap:=by have:=HCAP.out;omega
  rw [← hm,← hQ]
  have H1:=Lib.hid ht.1
  have HL1:=Lib.hid ht.2
  have HC:=Lib.hid hc
  have HM:=Lib.hid hm
  have HQ:=Lib.hid hQ
  have HT1:=Lib.hid ht1
  have HKC:=Lib.hid hkc
  clear ht hc hpa hm hQ ht1 hkc
  go_upto_block 2 with fail
  go_cut [0,8,9,10] from 32 to 49 (fun s0 s8 s9 s10 wd=>s0=.slice (some ⟨B,off,none⟩) (2 ^ c) cap ∧ s8=.int .i64 (m + (a - c:Nat)) ∧ Keeps w wd)
  case first=>
   go_wp2_with fail
   go_loopg [0,8,9,10] a (fun gk s0 s8 s9 s10 wr=>∃ (q:Nat) (t:List Bool),s0=.slice (some ⟨B,off,none⟩) q cap ∧ q=2 ^ gk ∧ s8=.int .i64 (m + (a - gk:Nat)) ∧ gk ≤ a ∧ t.length=2 ^ gk ∧ TabAt w B off t ∧ stripZ gk t=stripZ a t1 ∧ Keeps w wr)
   case atStart=>exact ⟨Q,t1,rfl,HQ.out,by simp,Nat.le_refl _,HL1.out,H1.out,rfl,by have:=HKC.out;(exact kp)⟩
   case round=>
    obtain ⟨q,t,rfl,hq,rfl,hgk,htl,hT,hst,hkr⟩:=hrel
    obtain ⟨z,hz⟩:∃ z,z=m + ((a - gk:Nat):Int):=⟨_,rfl⟩
    have q0:0 ≤ z:=by omega
    have q1:z ≤ 20:=by omega
    rw [← hz]
    have HZ:=Lib.hid hz
    have HST:=Lib.hid hst
    have HT:=Lib.hid hT
    clear hz hst hT
    cases gk with
    | zero=>
     have hq1:q=1:=hq
     subst hq1
     clear htl hq
     go_wp2_with fail
     go_meet
     have ea:c=0:=by rw [HC.out,← HST.out];rfl
     exact ⟨by rw [ea],by rw [HZ.out,ea],hkr⟩
    | succ g=>
     have e2:2 ^ (g + 1)=2 * 2 ^ g:=by rw [Nat.pow_succ];omega
     obtain ⟨p,hp⟩:∃ p,p=2 ^ g:=⟨_,rfl⟩
     have hp1:1 ≤ p:=by rw [hp];exact Nat.pow_pos (by decide)
     have hmono:2 ^ (g + 1) ≤ 2 ^ a:=Nat.pow_le_pow_right (by decide) hgk
     have hpc:2 * p ≤ cap:=by have:=HQ.out;rw [hp,← e2];omega
     rw [e2,← hp] at hq htl
     subst hq
     have hl2:(t.take p).length=p:=by rw [List.length_take];omega
     have hl3:(t.drop p).length=p:=by rw [List.length_drop];omega
     have hN:=fun (W:World) (hW:Keeps w W)=>none16_calls (cap - p) W ((HT.out.drop p).keeps hW) (by omega)
     rw [hl3] at hN
     have hF:=fun (W:World) (hW:Keeps w W)=>free16_calls g (t.take p) cap W (by omega) ((HT.out.take p).keeps hW) (by rw [hl2,hp]) (by rw [← hp];omega) hcap2
     rw [← hp] at hF
     have HH:=Lib.hid (fun (W:World)=>halves16_calls (B:=B) (off:=off) p cap W hp1 hpc (by omega))
     have hss:stripZ (g + 1) t=if noneL (t.drop p) && !freeB g (t.take p) then stripZ g (t.take p) else (g + 1,t):=by rw [hp];rfl
     obtain ⟨b,hb⟩:∃ b,b=noneL (t.drop p):=⟨_,rfl⟩
     obtain ⟨b2,hb2⟩:∃ b2,b2=freeB g (t.take p):=⟨_,rfl⟩
     rw [← hb] at hN hss
     rw [← hb2] at hF hss
     have HN:=Lib.hid hN
     have HF:=Lib.hid hF
     have HSS:=Lib.hid hss
     have HPP:=Lib.hid hp
     have HL2:=Lib.hid hl2
     clear hN hF hss hb hb2 htl e2 hmono hp hl2 hl3
     cases b
     ·go_wp2_with (first | (go_at_call 151;refine (HH.out _).mono ?_;rintro e1 w2 ⟨rfl,hk2⟩) | (go_at_call 150;refine (HN.out _ (by (exact kp))).mono ?_;rintro e2 w3 ⟨rfl,rfl⟩) | fail)
      go_meet
      have ea:c=g + 1:=by rw [HC.out,← HST.out,HSS.out];rfl
      exact ⟨by rw [ea,HPP.out,Nat.pow_succ,Nat.mul_comm],by rw [HZ.out,ea],by (exact kp)⟩
     ·cases b2
      ·go_wp2_with (first | (go_at_call 151;refine (HH.out _).mono ?_;rintro e1 w2 ⟨rfl,hk2⟩) | (go_at_call 150;refine (HN.out _ (by (exact kp))).mono ?_;rintro e2 w3 ⟨rfl,rfl⟩) | (go_at_call 152;refine (HF.out _ (by (exact kp))).mono ?_;rintro e4 w4 ⟨rfl,hk4⟩) | fail)
       go_roundg g
       case rel=>exact ⟨p,t.take p,rfl,HPP.out,by rw [HZ.out];congr 1;omega,by omega,by rw [HL2.out,HPP.out],HT.out.take p,by rw [← HST.out,HSS.out];rfl,by (exact kp)⟩
       case measure=>omega
      ·go_wp2_with (first | (go_at_call 151;refine (HH.out _).mono ?_;rintro e1 w2 ⟨rfl,hk2⟩) | (go_at_call 150;refine (HN.out _ (by (exact kp))).mono ?_;rintro e2 w3 ⟨rfl,rfl⟩) | (go_at_call 152;refine (HF.out _ (by (exact kp))).mono ?_;rintro e4 w4 ⟨rfl,hk4⟩) | fail)
       go_meet
       have ea:c=g + 1:=by rw [HC.out,← HST.out,HSS.out];rfl
       exact ⟨by rw [ea,HPP.out,Nat.pow_succ,Nat.mul_comm],by rw [HZ.out,ea],by (exact kp)⟩
  case rest=>
   obtain ⟨rfl,rfl,hkd⟩:=hcut
   obtain ⟨t2,ht2⟩:∃ t2,t2=(stripZ a t1).2:=⟨_,rfl⟩
   have htb:=stripZ_tab a t1 H1.out HL1.out
   rw [← ht2,← HC.out] at htb
   have hZ:stripZ a t1=(c,t2):=by rw [HC.out,ht2]
   obtain ⟨z,hz⟩:∃ z,z=m + ((a - c:Nat):Int):=⟨_,rfl⟩
   have z0:0 ≤ z:=by omega
   have z1:z < 10:=by omega
   have hzc:z + (c:Int) < 10:=by omega
   rw [← hz]
   have HTG:=Lib.hid (fun W=>tag_calls m W m0 m1)
   have HNM:=Lib.hid (fun W=>num_calls z W z0 z1)
   have g1:=digS_size m
   have g2:=digS_size z
   have hmono:2 ^ c ≤ 2 ^ a:=Nat.pow_le_pow_right (by decide) hca
   have hqc:2 ^ c ≤ cap:=by have:=HQ.out;omega
   have HKD:=Lib.hid hkd
   cases c with
   | zero=>
    have he:=termT_eq0 (n:=n) (l:=l) HNN.out HA.out HT1.out hZ
    rw [← HM.out] at he
    have HE:=Lib.hid he
    clear he htb hZ ht2 hz hzc hmono hqc hkd
    go_wp2_with (first | (go_at_call 139;refine (HTG.out _).mono ?_;rintro e1 w2 ⟨rfl,hk2⟩) | fail)
    go_ret
    exact ⟨by rw [HE.out];rfl,by have:=HKD.out;(exact kp)⟩
   | succ c=>
    have he:=termT_eq (n:=n) (l:=l) HNN.out HA.out HT1.out hZ
    rw [← HM.out,show l + ((k - (c + 1):Nat):Int)=z by have:=HM.out;omega,show l + ((k - c:Nat):Int)=z + 1 by have:=HM.out;omega] at he
    have e2:2 ^ (c + 1)=2 * 2 ^ c:=by rw [Nat.pow_succ];omega
    have hp1:1 ≤ 2 ^ c:=Nat.pow_pos (by decide)
    rw [e2] at hqc htb ⊢
    have hT1:=fun (W:World) (hW:Keeps w W)=>HIH.out c (by omega) off cap (t2.take (2 ^ c)) (z + 1) W ((htb.1.take _).keeps hW) (by rw [List.length_take];omega) (by omega) hcap2 (by omega) (by omega)
    have hT2:=fun (W:World) (hW:Keeps w W)=>HIH.out c (by omega) (off + 2 ^ c) (cap - 2 ^ c) (t2.drop (2 ^ c)) (z + 1) W ((htb.1.drop _).keeps hW) (by rw [List.length_drop];omega) (by omega) (by omega) (by omega) (by omega)
    have s1:=termT_size n c (t2.take (2 ^ c)) (z + 1)
    have s2:=termT_size n c (t2.drop (2 ^ c)) (z + 1)
    have hpn:2 ^ n ≤ 2 ^ 20:=Nat.pow_le_pow_right (by decide) hn20
    have e20:(2:Nat) ^ 20=1048576:=rfl
    obtain ⟨x,hx⟩:∃ x,x=termT n c (t2.take (2 ^ c)) (z + 1):=⟨_,rfl⟩
    obtain ⟨y,hy⟩:∃ y,y=termT n c (t2.drop (2 ^ c)) (z + 1):=⟨_,rfl⟩
    simp only [← hx,← hy] at s1 s2 hT1 hT2 he
    have g3:x.size ≤ 8388608:=by omega
    have g4:y.size ≤ 8388608:=by omega
    obtain ⟨p,hp⟩:∃ p,p=2 ^ c:=⟨_,rfl⟩
    rw [← hp] at hqc hp1 hT1 hT2 ⊢
    have HH:=Lib.hid (fun (W:World)=>halves16_calls (B:=B) (off:=off) p cap W hp1 hqc (by omega))
    have HE:=Lib.hid he
    have HX1:=Lib.hid hT1
    have HX2:=Lib.hid hT2
    clear he htb hZ ht2 hz hzc hmono hqc hkd hx hy s1 s2 hpn e20 e2 hp hT1 hT2
    go_wp2_with (first | (go_at_call 151;have hkd:=HKD.out;refine (HH.out _).mono ?_;rintro e1 w2 ⟨rfl,hk2⟩) | (go_at_call 139;refine (HTG.out _).mono ?_;rintro e3 w3 ⟨rfl,hk3⟩) | (go_at_call 138;refine (HNM.out _).mono ?_;rintro e4 w4 ⟨rfl,hk4⟩) | fail)
    refine (HX1.out _ (by have:=HKD.out;(exact kp))).mono ?_
    rintro e5 w5 ⟨rfl,hk5⟩
    go_wp2_with fail
    refine (HX2.out _ (by have:=HKD.out;(exact kp))).mono ?_
    rintro e6 w6 ⟨rfl,hk6⟩
    go_wp2_with fail
    go_ret
    exact ⟨by rw [HE.out];rfl,by have:=HKD.out;(exact kp)⟩

theorem termT_none {B off:Nat} {ts:List Bool} (k cap:Nat) (l:Int) (w:World) (hk:k ≤ 9) (h:TabAt w B off ts) (hl:ts.length=2 ^ k) (hcap:2 ^ k ≤ cap) (hcap2:cap ≤ 4096) (hnn:noneL ts=true) :
  Calls Tryz.prog 116 #[.slice (some ⟨B,off,none⟩) (2 ^ k) cap,.int .i64 l] w fun e w'=>e=.returned (.string ⟨#[48]⟩) ∧ Keeps w w':=by
 have HNONE:=Lib.hid (fun (W:World) (hW:Keeps w W)=>by have:=none16_calls cap W (h.keeps hW) (by rw [hl];omega);rw [hl,hnn] at this;exact this)
 obtain ⟨P,hP⟩:∃ P,P=2 ^ k:=⟨_,rfl⟩
 rw [← hP] at HNONE ⊢
 clear h hl hcap hP hnn
 go_enter Tryz.func116,Tryz.ntmps116
 go_wp2_with (first | (go_at_call 150;refine (HNONE.out _ (by (exact kp))).mono ?_;rintro e w2 ⟨rfl,rfl⟩) | fail)
 go_ret
 exact ⟨rfl,by (exact kp)⟩

theorem termT_calls {B:Nat}:∀ (n:Nat),n ≤ 20 → ∀ (k:Nat),k < n → k ≤ 9 → ∀ (off cap:Nat) (ts:List Bool) (l:Int) (W:World),TabAt W B off ts → ts.length=2 ^ k → 2 ^ k ≤ cap → cap ≤ 4096 → 0 ≤ l → l + (k:Nat) < 10 →
  Calls Tryz.prog 116 #[.slice (some ⟨B,off,none⟩) (2 ^ k) cap,.int .i64 l] W fun e w'=>e=.returned (.string (termT n k ts l)) ∧ Keeps W w':=by
 intro n
 induction n with
 | zero=>intro _ k hk;omega
 | succ n ih=>
  intro hn k hk hk9 off cap ts l W h hl hc hc2 hl0 hl9
  cases hb:noneL ts with
  | true=>
   have he:termT (n + 1) k ts l=⟨#[48]⟩:=by
    show (if noneL ts=true then _ else _)=_
    rw [if_pos hb]
   rw [he]
   exact termT_none k cap l W hk9 h hl hc hc2 hb
  | false=>exact termT_step k n cap l W hk9 h hl hc hc2 hl0 hl9 (by omega) hb (fun c hc3 off cap ts l W h hl q1 q2 q3 q4=>ih (by omega) c (by omega) (by omega) off cap ts l W h hl q1 q2 q3 q4)

end Go.Proofs.YtfpjogpjocedaaaGreat
