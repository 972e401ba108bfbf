/-
  Texts: the digits, the tags; the same tables; no 1 in a table.
-/
import Derived.Test.YtpgcbmbnognieaaGreatPReachB
import Derived.Laws.BytesArg
import Derived.Deep.CutBlock
namespace Go.Proofs.YtpgcbmbnognieaaGreat
set_option linter.unusedSimpArgs false
set_option linter.unusedVariables false
set_option maxHeartbeats 600000
open Go.RowKit

def digS (k:Int):ByteArray:=strOfNums [48 + k]

def noneL:List Bool → Bool
 | []=>true
 | b :: t=>!b && noneL t

def sameL:List Bool → List Bool → Bool
 | [],[]=>true
 | a :: s,b :: t=>decide (a=b) && sameL s t
 | _,_=>false

theorem sameL_iff:∀ {s t:List Bool},sameL s t=true ↔ s=t
 | [],[]=>by simp [sameL]
 | a :: s,b :: t=>by simp [sameL,sameL_iff]
 | [],b :: t=>by simp [sameL]
 | a :: s,[]=>by simp [sameL]

def unfS (f:Int) (M:St):Nat → Edge → ByteArray
 | 0,_=>⟨#[63]⟩
 | n + 1,e=>
  if f=5 then
   if e.to=0 then ⟨#[48]⟩ else if e.to=1 then digS e.tag ++ ⟨#[64]⟩ ++ ⟨#[49]⟩
   else digS e.tag ++ ⟨#[64]⟩ ++ ⟨#[40]⟩ ++ digS (grec (look M.cs e.to)).top ++ ⟨#[32]⟩ ++ unfS f M n (grec (look M.cs e.to)).lo ++ ⟨#[32]⟩ ++ unfS f M n (grec (look M.cs e.to)).hi ++ ⟨#[41]⟩
  else if e.to < 2 then digS e.to
  else if f=3 ∨ f=4 then ⟨#[40]⟩ ++ digS (grec (look M.cs e.to)).top ++ ⟨#[58]⟩ ++ digS (grec (look M.cs e.to)).bot ++ ⟨#[32]⟩ ++ unfS f M n (grec (look M.cs e.to)).lo ++ ⟨#[32]⟩ ++ unfS f M n (grec (look M.cs e.to)).hi ++ ⟨#[41]⟩
  else ⟨#[40]⟩ ++ digS (grec (look M.cs e.to)).top ++ ⟨#[32]⟩ ++ unfS f M n (grec (look M.cs e.to)).lo ++ ⟨#[32]⟩ ++ unfS f M n (grec (look M.cs e.to)).hi ++ ⟨#[41]⟩

def freeB:Nat → List Bool → Bool
 | 0,_=>false
 | k + 1,ts=>sameL (ts.take (2 ^ k)) (ts.drop (2 ^ k))

def stripS:Nat → List Bool → Nat × List Bool
 | 0,ts=>(0,ts)
 | k + 1,ts=>if sameL (ts.take (2 ^ k)) (ts.drop (2 ^ k)) then stripS k (ts.take (2 ^ k)) else (k + 1,ts)

def stripZ:Nat → List Bool → Nat × List Bool
 | 0,ts=>(0,ts)
 | k + 1,ts=>if noneL (ts.drop (2 ^ k)) && !freeB k (ts.take (2 ^ k)) then stripZ k (ts.take (2 ^ k)) else (k + 1,ts)

theorem stripS_le:∀ (k:Nat) (ts:List Bool),(stripS k ts).1 ≤ k:=by
 intro k
 induction k with
 | zero=>intro ts;exact Nat.le_refl 0
 | succ k ih=>
  intro ts
  unfold stripS
  split
  ·exact Nat.le_succ_of_le (ih _)
  ·exact Nat.le_refl _

theorem stripZ_le:∀ (k:Nat) (ts:List Bool),(stripZ k ts).1 ≤ k:=by
 intro k
 induction k with
 | zero=>intro ts;exact Nat.le_refl 0
 | succ k ih=>
  intro ts
  unfold stripZ
  split
  ·exact Nat.le_succ_of_le (ih _)
  ·exact Nat.le_refl _

def termT:Nat → Nat → List Bool → Int → ByteArray
 | 0,_,_,_=>⟨#[48]⟩
 | n + 1,k,ts,l=>
  if noneL ts then ⟨#[48]⟩ else
  match stripZ (stripS k ts).1 (stripS k ts).2 with
  | (0,_)=>digS (l + (k - (stripS k ts).1:Nat)) ++ ⟨#[64]⟩ ++ ⟨#[49]⟩
  | (c + 1,t)=>digS (l + (k - (stripS k ts).1:Nat)) ++ ⟨#[64]⟩ ++ ⟨#[40]⟩ ++ digS (l + (k - (c + 1):Nat)) ++ ⟨#[32]⟩ ++ termT n c (t.take (2 ^ c)) (l + (k - c:Nat)) ++ ⟨#[32]⟩ ++ termT n c (t.drop (2 ^ c)) (l + (k - c:Nat)) ++ ⟨#[41]⟩

def chainQ:Nat → List Bool → List Bool → Nat × List Bool × List Bool
 | 0,lo,hi=>(0,lo,hi)
 | k + 1,lo,hi=>if sameL lo hi && !noneL (lo.drop (2 ^ k)) then chainQ k (lo.take (2 ^ k)) (lo.drop (2 ^ k)) else (k + 1,lo,hi)

theorem chainQ_le:∀ (k:Nat) (lo hi:List Bool),(chainQ k lo hi).1 ≤ k:=by
 intro k
 induction k with
 | zero=>intro lo hi;exact Nat.le_refl 0
 | succ k ih=>
  intro lo hi
  unfold chainQ
  split
  ·exact Nat.le_succ_of_le (ih _ _)
  ·exact Nat.le_refl _

def termQ:Nat → Nat → List Bool → Int → ByteArray
 | 0,_,_,_=>⟨#[48]⟩
 | _ + 1,0,ts,_=>if noneL ts then ⟨#[48]⟩ else ⟨#[49]⟩
 | n + 1,k + 1,ts,l=>
  if noneL ts then ⟨#[48]⟩ else if noneL (ts.drop (2 ^ k)) then termQ n k (ts.take (2 ^ k)) (l + 1)
  else ⟨#[40]⟩ ++ digS l ++ ⟨#[58]⟩ ++ digS (l + (k - (chainQ k (ts.take (2 ^ k)) (ts.drop (2 ^ k))).1:Nat)) ++ ⟨#[32]⟩ ++ termQ n (chainQ k (ts.take (2 ^ k)) (ts.drop (2 ^ k))).1 (chainQ k (ts.take (2 ^ k)) (ts.drop (2 ^ k))).2.1 (l + (k - (chainQ k (ts.take (2 ^ k)) (ts.drop (2 ^ k))).1:Nat) + 1) ++ ⟨#[32]⟩ ++ termQ n (chainQ k (ts.take (2 ^ k)) (ts.drop (2 ^ k))).1 (chainQ k (ts.take (2 ^ k)) (ts.drop (2 ^ k))).2.2 (l + (k - (chainQ k (ts.take (2 ^ k)) (ts.drop (2 ^ k))).1:Nat) + 1) ++ ⟨#[41]⟩

def endB (b:Bool):ByteArray:=if b then ⟨#[49]⟩ else ⟨#[48]⟩

def termB:Nat → List Bool → Int → ByteArray
 | 0,ts,_=>endB (ts.getD 0 false)
 | k + 1,ts,l=>if sameL (ts.take (2 ^ k)) (ts.drop (2 ^ k)) then termB k (ts.take (2 ^ k)) (l + 1) else ⟨#[40]⟩ ++ digS l ++ ⟨#[32]⟩ ++ termB k (ts.take (2 ^ k)) (l + 1) ++ ⟨#[32]⟩ ++ termB k (ts.drop (2 ^ k)) (l + 1) ++ ⟨#[41]⟩

def endZ (b:Bool):ByteArray:=if b then ⟨#[49]⟩ else ⟨#[48]⟩

def termZ:Nat → List Bool → Int → ByteArray
 | 0,ts,_=>endZ (ts.getD 0 false)
 | k + 1,ts,l=>if noneL (ts.drop (2 ^ k)) then termZ k (ts.take (2 ^ k)) (l + 1) else ⟨#[40]⟩ ++ digS l ++ ⟨#[32]⟩ ++ termZ k (ts.take (2 ^ k)) (l + 1) ++ ⟨#[32]⟩ ++ termZ k (ts.drop (2 ^ k)) (l + 1) ++ ⟨#[41]⟩

def endC (b:Bool):ByteArray:=if b then ⟨#[49]⟩ else ⟨#[48]⟩

def chainC:Nat → List Bool → List Bool → Nat × List Bool × List Bool
 | 0,lo,hi=>(0,lo,hi)
 | k + 1,lo,hi=>if !sameL (lo.take (2 ^ k)) (lo.drop (2 ^ k)) && sameL (hi.take (2 ^ k)) (hi.drop (2 ^ k)) && sameL (hi.take (2 ^ k)) (lo.drop (2 ^ k)) then chainC k (lo.take (2 ^ k)) (lo.drop (2 ^ k)) else (k + 1,lo,hi)

theorem chainC_le:∀ (k:Nat) (lo hi:List Bool),(chainC k lo hi).1 ≤ k:=by
 intro k
 induction k with
 | zero=>intro lo hi;exact Nat.le_refl 0
 | succ k ih=>
  intro lo hi
  unfold chainC
  split
  ·exact Nat.le_succ_of_le (ih _ _)
  ·exact Nat.le_refl _

def termC:Nat → Nat → List Bool → Int → ByteArray
 | 0,_,_,_=>⟨#[48]⟩
 | _ + 1,0,ts,_=>endC (ts.getD 0 false)
 | n + 1,k + 1,ts,l=>
  if sameL (ts.take (2 ^ k)) (ts.drop (2 ^ k)) then termC n k (ts.take (2 ^ k)) (l + 1)
  else ⟨#[40]⟩ ++ digS l ++ ⟨#[58]⟩ ++ digS (l + (k - (chainC k (ts.take (2 ^ k)) (ts.drop (2 ^ k))).1:Nat)) ++ ⟨#[32]⟩ ++ termC n (chainC k (ts.take (2 ^ k)) (ts.drop (2 ^ k))).1 (chainC k (ts.take (2 ^ k)) (ts.drop (2 ^ k))).2.1 (l + (k - (chainC k (ts.take (2 ^ k)) (ts.drop (2 ^ k))).1:Nat) + 1) ++ ⟨#[32]⟩ ++ termC n (chainC k (ts.take (2 ^ k)) (ts.drop (2 ^ k))).1 (chainC k (ts.take (2 ^ k)) (ts.drop (2 ^ k))).2.2 (l + (k - (chainC k (ts.take (2 ^ k)) (ts.drop (2 ^ k))).1:Nat) + 1) ++ ⟨#[41]⟩

end Go.Proofs.YtpgcbmbnognieaaGreat
