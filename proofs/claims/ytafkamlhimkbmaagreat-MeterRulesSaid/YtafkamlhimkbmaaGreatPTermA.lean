/-
  Texts: the digits, the tags; the same tables; no 1 in a table.
-/
import Derived.Test.YtafkamlhimkbmaaGreatPRightA
import Derived.Laws.BytesArg
import Derived.Deep.CutBlock
namespace Go.Proofs.YtafkamlhimkbmaaGreat
set_option maxRecDepth 1000000
set_option maxHeartbeats 8000000
set_option linter.unusedSimpArgs false
set_option linter.unusedVariables false
open Go.RowKit
def bH (k:Int):ByteArray:=strOfNums [48+k]
def bm:List Bool→Bool
 |[]=>true
 |b::s=>!b&&bm s
def bD:List Bool→List Bool→Bool
 |[],[]=>true
 |a::s,b::t=>decide (a=b)&&bD s t
 |_,_=>false
theorem eX:∀{s t:List Bool},bD s t=true↔s=t
 |[],[]=>by simp[bD]
 |a::s,b::t=>by simp[bD,eX]
 |[],b::t=>by simp[bD]
 |a::s,[]=>by simp[bD]
def bW (f:Int)(M:St):Nat→Edge→ByteArray
 |0,_=>⟨#[63]⟩
 |n+1,e=>
  if f=5 then
   if e.to=0 then⟨#[48]⟩else if e.to=1 then bH e.tag++⟨#[64]⟩++⟨#[49]⟩
   else bH e.tag++⟨#[64]⟩++⟨#[40]⟩++bH (aS (look M.cs e.to)).top++⟨#[32]⟩++bW f M n (aS (look M.cs e.to)).lo++⟨#[32]⟩++bW f M n (aS (look M.cs e.to)).hi++⟨#[41]⟩
  else if e.to<2 then bH e.to
  else if f=3∨f=4 then⟨#[40]⟩++bH (aS (look M.cs e.to)).top++⟨#[58]⟩++bH (aS (look M.cs e.to)).J++⟨#[32]⟩++bW f M n (aS (look M.cs e.to)).lo++⟨#[32]⟩++bW f M n (aS (look M.cs e.to)).hi++⟨#[41]⟩
  else⟨#[40]⟩++bH (aS (look M.cs e.to)).top++⟨#[32]⟩++bW f M n (aS (look M.cs e.to)).lo++⟨#[32]⟩++bW f M n (aS (look M.cs e.to)).hi++⟨#[41]⟩
def ij:Nat→List Bool→Bool
 |0,_=>false
 |k+1,ts=>bD (ts.take (2 ^ k)) (ts.drop (2 ^ k))
def cr:Nat→List Bool→Nat×List Bool
 |0,ts=>(0,ts)
 |k+1,ts=>if bD (ts.take (2 ^ k)) (ts.drop (2 ^ k))then cr k (ts.take (2 ^ k))else(k+1,ts)
def fx:Nat→List Bool→Nat×List Bool
 |0,ts=>(0,ts)
 |k+1,ts=>if bm (ts.drop (2 ^ k))&&!ij k (ts.take (2 ^ k))then fx k (ts.take (2 ^ k))else(k+1,ts)
theorem mL:∀(k:Nat) (ts:List Bool),(cr k ts).1≤k:=by
 intro k;induction k with
 |zero=>intro ts;exact aI 0
 |succ k s=>
  intro ts;unfold cr;split;·exact Nat.le_succ_of_le (s _)
  ·exact aI _
theorem mM:∀(k:Nat) (ts:List Bool),(fx k ts).1≤k:=by
 intro k;induction k with
 |zero=>intro ts;exact aI 0
 |succ k s=>
  intro ts;unfold fx;split;·exact Nat.le_succ_of_le (s _)
  ·exact aI _
def iS:Nat→Nat→List Bool→Int→ByteArray
 |0,_,_,_=>⟨#[48]⟩
 |n+1,k,ts,l=>
  if bm ts then⟨#[48]⟩else
  match fx (cr k ts).1 (cr k ts).2 with
  |(0,_)=>bH (l+(k-(cr k ts).1:Nat))++⟨#[64]⟩++⟨#[49]⟩
  |(c+1,s)=>bH (l+(k-(cr k ts).1:Nat))++⟨#[64]⟩++⟨#[40]⟩++bH (l+(k-(c+1):Nat))++⟨#[32]⟩++iS n c (s.take (2 ^ c)) (l+(k-c:Nat))++⟨#[32]⟩++iS n c (s.drop (2 ^ c)) (l+(k-c:Nat))++⟨#[41]⟩
def cT:Nat→List Bool→List Bool→Nat×List Bool×List Bool
 |0,lo,hi=>(0,lo,hi)
 |k+1,lo,hi=>if bD lo hi&&!bm (lo.drop (2 ^ k))then cT k (lo.take (2 ^ k)) (lo.drop (2 ^ k))else(k+1,lo,hi)
theorem ns:∀(k:Nat) (lo hi:List Bool),(cT k lo hi).1≤k:=by
 intro k;induction k with
 |zero=>intro lo hi;exact aI 0
 |succ k s=>
  intro lo hi;unfold cT;split;·exact Nat.le_succ_of_le (s _ _)
  ·exact aI _
def gU:Nat→Nat→List Bool→Int→ByteArray
 |0,_,_,_=>⟨#[48]⟩
 |_+1,0,ts,_=>if bm ts then⟨#[48]⟩else⟨#[49]⟩
 |n+1,k+1,ts,l=>
  if bm ts then⟨#[48]⟩else if bm (ts.drop (2 ^ k))then gU n k (ts.take (2 ^ k)) (l+1)
  else⟨#[40]⟩++bH l++⟨#[58]⟩++bH (l+(k-(cT k (ts.take (2 ^ k)) (ts.drop (2 ^ k))).1:Nat))++⟨#[32]⟩++gU n (cT k (ts.take (2 ^ k)) (ts.drop (2 ^ k))).1 (cT k (ts.take (2 ^ k)) (ts.drop (2 ^ k))).2.1 (l+(k-(cT k (ts.take (2 ^ k)) (ts.drop (2 ^ k))).1:Nat)+1)++⟨#[32]⟩++gU n (cT k (ts.take (2 ^ k)) (ts.drop (2 ^ k))).1 (cT k (ts.take (2 ^ k)) (ts.drop (2 ^ k))).2.2 (l+(k-(cT k (ts.take (2 ^ k)) (ts.drop (2 ^ k))).1:Nat)+1)++⟨#[41]⟩
def tp (b:Bool):ByteArray:=if b then⟨#[49]⟩else⟨#[48]⟩
def gS:Nat→List Bool→Int→ByteArray
 |0,ts,_=>tp (ts.getD 0 false)
 |k+1,ts,l=>if bD (ts.take (2 ^ k)) (ts.drop (2 ^ k))then gS k (ts.take (2 ^ k)) (l+1)else⟨#[40]⟩++bH l++⟨#[32]⟩++gS k (ts.take (2 ^ k)) (l+1)++⟨#[32]⟩++gS k (ts.drop (2 ^ k)) (l+1)++⟨#[41]⟩
def tw (b:Bool):ByteArray:=if b then⟨#[49]⟩else⟨#[48]⟩
def gV:Nat→List Bool→Int→ByteArray
 |0,ts,_=>tw (ts.getD 0 false)
 |k+1,ts,l=>if bm (ts.drop (2 ^ k))then gV k (ts.take (2 ^ k)) (l+1)else⟨#[40]⟩++bH l++⟨#[32]⟩++gV k (ts.take (2 ^ k)) (l+1)++⟨#[32]⟩++gV k (ts.drop (2 ^ k)) (l+1)++⟨#[41]⟩
def tq (b:Bool):ByteArray:=if b then⟨#[49]⟩else⟨#[48]⟩
def cL:Nat→List Bool→List Bool→Nat×List Bool×List Bool
 |0,lo,hi=>(0,lo,hi)
 |k+1,lo,hi=>if !bD (lo.take (2 ^ k)) (lo.drop (2 ^ k))&&bD (hi.take (2 ^ k)) (hi.drop (2 ^ k))&&bD (hi.take (2 ^ k)) (lo.drop (2 ^ k))then cL k (lo.take (2 ^ k)) (lo.drop (2 ^ k))else(k+1,lo,hi)
theorem ke:∀(k:Nat) (lo hi:List Bool),(cL k lo hi).1≤k:=by
 intro k;induction k with
 |zero=>intro lo hi;exact aI 0
 |succ k s=>
  intro lo hi;unfold cL;split;·exact Nat.le_succ_of_le (s _ _)
  ·exact aI _
def gT:Nat→Nat→List Bool→Int→ByteArray
 |0,_,_,_=>⟨#[48]⟩
 |_+1,0,ts,_=>tq (ts.getD 0 false)
 |n+1,k+1,ts,l=>
  if bD (ts.take (2 ^ k)) (ts.drop (2 ^ k))then gT n k (ts.take (2 ^ k)) (l+1)
  else⟨#[40]⟩++bH l++⟨#[58]⟩++bH (l+(k-(cL k (ts.take (2 ^ k)) (ts.drop (2 ^ k))).1:Nat))++⟨#[32]⟩++gT n (cL k (ts.take (2 ^ k)) (ts.drop (2 ^ k))).1 (cL k (ts.take (2 ^ k)) (ts.drop (2 ^ k))).2.1 (l+(k-(cL k (ts.take (2 ^ k)) (ts.drop (2 ^ k))).1:Nat)+1)++⟨#[32]⟩++gT n (cL k (ts.take (2 ^ k)) (ts.drop (2 ^ k))).1 (cL k (ts.take (2 ^ k)) (ts.drop (2 ^ k))).2.2 (l+(k-(cL k (ts.take (2 ^ k)) (ts.drop (2 ^ k))).1:Nat)+1)++⟨#[41]⟩
end Go.Proofs.YtafkamlhimkbmaaGreat
