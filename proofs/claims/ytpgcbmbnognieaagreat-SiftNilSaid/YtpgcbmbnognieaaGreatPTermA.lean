/-
  ramageref16.free over tables; the levels that play no part, those that are 0.
-/
import Derived.Test.YtpgcbmbnognieaaGreatPHPlainA
import Derived.Test.YtpgcbmbnognieaaGreatPUnfBase
import Derived.Test.YtpgcbmbnognieaaGreatPWordsR
import Derived.Deep.CutBlock
namespace Go.Proofs.YtpgcbmbnognieaaGreat
set_option maxRecDepth 1000000
set_option maxHeartbeats 8000000
set_option linter.unusedSimpArgs false
set_option linter.unusedVariables false
open Go.RowKit

def freeB:Nat→List Bool→Bool
 | 0,_=>false
 | k+1,ts=>sameL (ts.take (2 ^ k)) (ts.drop (2 ^ k))

def stripS:Nat→List Bool→Nat×List Bool
 | 0,ts=>(0,ts)
 | k+1,ts=>if sameL (ts.take (2 ^ k)) (ts.drop (2 ^ k)) then stripS k (ts.take (2 ^ k)) else(k+1,ts)

def stripZ:Nat→List Bool→Nat×List Bool
 | 0,ts=>(0,ts)
 | k+1,ts=>if noneL (ts.drop (2 ^ k))&&!freeB k (ts.take (2 ^ k)) then stripZ k (ts.take (2 ^ k)) else(k+1,ts)

theorem stripS_le:∀ (k:Nat) (ts:List Bool),(stripS k ts).1≤k:=by
 intro k
 induction k with
 | zero=>intro ts;exact Nat.le_refl 0
 | succ k ih=>
  intro ts
  unfold stripS
  split
  ·exact Nat.le_succ_of_le (ih _)
  ·exact Nat.le_refl _

theorem stripZ_le:∀ (k:Nat) (ts:List Bool),(stripZ k ts).1≤k:=by
 intro k
 induction k with
 | zero=>intro ts;exact Nat.le_refl 0
 | succ k ih=>
  intro ts
  unfold stripZ
  split
  ·exact Nat.le_succ_of_le (ih _)
  ·exact Nat.le_refl _

def termT:Nat→Nat→List Bool→Int→ByteArray
 | 0,_,_,_=>⟨#[48]⟩
 | n+1,k,ts,l=>
  if noneL ts then⟨#[48]⟩ else
  match stripZ (stripS k ts).1 (stripS k ts).2 with
  | (0,_)=>digS (l+(k-(stripS k ts).1:Nat))++⟨#[64]⟩++⟨#[49]⟩
  | (c+1,t)=>digS (l+(k-(stripS k ts).1:Nat))++⟨#[64]⟩++⟨#[40]⟩++digS (l+(k-(c+1):Nat))++⟨#[32]⟩++termT n c (t.take (2 ^ c)) (l+(k-c:Nat))++⟨#[32]⟩++termT n c (t.drop (2 ^ c)) (l+(k-c:Nat))++⟨#[41]⟩

def chainQ:Nat→List Bool→List Bool→Nat×List Bool×List Bool
 | 0,lo,hi=>(0,lo,hi)
 | k+1,lo,hi=>if sameL lo hi&&!noneL (lo.drop (2 ^ k)) then chainQ k (lo.take (2 ^ k)) (lo.drop (2 ^ k)) else(k+1,lo,hi)

theorem chainQ_le:∀ (k:Nat) (lo hi:List Bool),(chainQ k lo hi).1≤k:=by
 intro k
 induction k with
 | zero=>intro lo hi;exact Nat.le_refl 0
 | succ k ih=>
  intro lo hi
  unfold chainQ
  split
  ·exact Nat.le_succ_of_le (ih _ _)
  ·exact Nat.le_refl _

def termQ:Nat→Nat→List Bool→Int→ByteArray
 | 0,_,_,_=>⟨#[48]⟩
 | _+1,0,ts,_=>if noneL ts then⟨#[48]⟩ else⟨#[49]⟩
 | n+1,k+1,ts,l=>
  if noneL ts then⟨#[48]⟩ else if noneL (ts.drop (2 ^ k)) then termQ n k (ts.take (2 ^ k)) (l+1)
  else⟨#[40]⟩++digS l++⟨#[58]⟩++digS (l+(k-(chainQ k (ts.take (2 ^ k)) (ts.drop (2 ^ k))).1:Nat))++⟨#[32]⟩++termQ n (chainQ k (ts.take (2 ^ k)) (ts.drop (2 ^ k))).1 (chainQ k (ts.take (2 ^ k)) (ts.drop (2 ^ k))).2.1 (l+(k-(chainQ k (ts.take (2 ^ k)) (ts.drop (2 ^ k))).1:Nat)+1)++⟨#[32]⟩++termQ n (chainQ k (ts.take (2 ^ k)) (ts.drop (2 ^ k))).1 (chainQ k (ts.take (2 ^ k)) (ts.drop (2 ^ k))).2.2 (l+(k-(chainQ k (ts.take (2 ^ k)) (ts.drop (2 ^ k))).1:Nat)+1)++⟨#[41]⟩

def endB (b:Bool):ByteArray:=if b then⟨#[49]⟩ else⟨#[48]⟩

def termB:Nat→List Bool→Int→ByteArray
 | 0,ts,_=>endB (ts.getD 0 false)
 | k+1,ts,l=>if sameL (ts.take (2 ^ k)) (ts.drop (2 ^ k)) then termB k (ts.take (2 ^ k)) (l+1) else⟨#[40]⟩++digS l++⟨#[32]⟩++termB k (ts.take (2 ^ k)) (l+1)++⟨#[32]⟩++termB k (ts.drop (2 ^ k)) (l+1)++⟨#[41]⟩

def endZ (b:Bool):ByteArray:=if b then⟨#[49]⟩ else⟨#[48]⟩

def termZ:Nat→List Bool→Int→ByteArray
 | 0,ts,_=>endZ (ts.getD 0 false)
 | k+1,ts,l=>if noneL (ts.drop (2 ^ k)) then termZ k (ts.take (2 ^ k)) (l+1) else⟨#[40]⟩++digS l++⟨#[32]⟩++termZ k (ts.take (2 ^ k)) (l+1)++⟨#[32]⟩++termZ k (ts.drop (2 ^ k)) (l+1)++⟨#[41]⟩

def endC (b:Bool):ByteArray:=if b then⟨#[49]⟩ else⟨#[48]⟩

def chainC:Nat→List Bool→List Bool→Nat×List Bool×List Bool
 | 0,lo,hi=>(0,lo,hi)
 | k+1,lo,hi=>if !sameL (lo.take (2 ^ k)) (lo.drop (2 ^ k))&&sameL (hi.take (2 ^ k)) (hi.drop (2 ^ k))&&sameL (hi.take (2 ^ k)) (lo.drop (2 ^ k)) then chainC k (lo.take (2 ^ k)) (lo.drop (2 ^ k)) else(k+1,lo,hi)

theorem chainC_le:∀ (k:Nat) (lo hi:List Bool),(chainC k lo hi).1≤k:=by
 intro k
 induction k with
 | zero=>intro lo hi;exact Nat.le_refl 0
 | succ k ih=>
  intro lo hi
  unfold chainC
  split
  ·exact Nat.le_succ_of_le (ih _ _)
  ·exact Nat.le_refl _

def termC:Nat→Nat→List Bool→Int→ByteArray
 | 0,_,_,_=>⟨#[48]⟩
 | _+1,0,ts,_=>endC (ts.getD 0 false)
 | n+1,k+1,ts,l=>
  if sameL (ts.take (2 ^ k)) (ts.drop (2 ^ k)) then termC n k (ts.take (2 ^ k)) (l+1)
  else⟨#[40]⟩++digS l++⟨#[58]⟩++digS (l+(k-(chainC k (ts.take (2 ^ k)) (ts.drop (2 ^ k))).1:Nat))++⟨#[32]⟩++termC n (chainC k (ts.take (2 ^ k)) (ts.drop (2 ^ k))).1 (chainC k (ts.take (2 ^ k)) (ts.drop (2 ^ k))).2.1 (l+(k-(chainC k (ts.take (2 ^ k)) (ts.drop (2 ^ k))).1:Nat)+1)++⟨#[32]⟩++termC n (chainC k (ts.take (2 ^ k)) (ts.drop (2 ^ k))).1 (chainC k (ts.take (2 ^ k)) (ts.drop (2 ^ k))).2.2 (l+(k-(chainC k (ts.take (2 ^ k)) (ts.drop (2 ^ k))).1:Nat)+1)++⟨#[41]⟩

def bitB (x k:Int):Bool:=decide (x / 2 ^ k.toNat%2=1)

def clearN (x a:Int):Nat→Bool
 | 0=>true
 | n+1=>!bitB x a&&clearN x (a+1) n

def someB (x:Int)(r:Rec):Bool:=if r.form=3 then !clearN x r.top (r.bot+1-r.top).toNat else bitB x r.bot

def sideE (x:Int)(r:Rec):Edge:=if someB x r then r.hi else r.lo

def zeroAt (f:Int)(e:Edge)(l:Int):Bool:=decide (f=2)||decide (f=4)||(decide (f=5)&&decide (e.tag≤l))

def hS (M:St)(f x:Int):Nat→Int→Edge→Bool
 | 0,_,e=>decide (e.to≠0)
 | k+1,l,e=>if e.to=0 then false else if M.n≤l then true else match look M.cs e.to with
  | none=>if zeroAt f e l&&bitB x l then false else hS M f x k (l+1) e
  | some r=>if l<r.top then(if zeroAt f e l&&bitB x l then false else hS M f x k (l+1) e) else hS M f x k (r.bot+1) (sideE x r)

def mayC (M:St)(f:Int)(e:Edge)(l:Int):Int:=if isFormB f=false then 4 else if l<0∨M.n<l then 3 else if M.leads f e l=false then 1 else 0

theorem mayC_range (M:St)(f:Int)(e:Edge)(l:Int):0≤mayC M f e l∧mayC M f e l≤4:=by
 unfold mayC
 split
 ·decide
 ·split
  ·decide
  ·split<;>decide

theorem side_leads {M:St}(h:M.wf){id x:Int}{r:Rec}(hl:look M.cs id=some r):M.leads r.form (sideE x r) (r.bot+1)=true:=by
 have g:=h.goodRec hl
 unfold sideE
 split
 ·exact g.hi
 ·exact g.lo

end Go.Proofs.YtpgcbmbnognieaaGreat
