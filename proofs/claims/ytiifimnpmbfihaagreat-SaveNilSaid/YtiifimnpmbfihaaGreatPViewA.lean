/-
  Built: a store and the document's, behind records that are found.
-/
import Derived.Test.YtiifimnpmbfihaaGreatPHeadRule
import Derived.Test.YtiifimnpmbfihaaGreatPSFindA
namespace Go.Proofs.YtiifimnpmbfihaaGreat
set_option linter.unusedSimpArgs false
set_option linter.unusedVariables false
set_option maxHeartbeats 600000
open Go.RowKit

theorem Keeps.new {F:Nat → Prop} {w W W1:World} (h:Keeps w W) (hu:Upd F W W1) (hf:∀ k,F k → w.heap.size ≤ k):Keeps w W1:=by
 have hs:=h.size
 refine ⟨hu.os.trans h.os,hu.tape.trans h.tape,hu.output.trans h.output,Nat.le_trans hs hu.size,fun k hk=>?_⟩
 rw [hu.block k (by omega) (fun hh=>by have:=hf k hh;omega),h.block k hk]

theorem Keeps.frz {w w':World} (h:Keeps w w') {a:Addr} (hl:a.block < w.heap.size) (hc:w.frozen? a=false):w'.frozen? a=false:=(Below.frozen h hl).trans hc

theorem eql_same (x y:Edge) (h:x=y) (W:World):(binOp .eql 26 (.agg #[.int .u8 x.tag,.int .u32 x.to]) (.agg #[.int .u8 y.tag,.int .u32 y.to])).run Tryz.prog W=.ok (.bool true) W:=by rw [run_eql_edge];simp [h]

theorem eql_other (x y:Edge) (h:x ≠ y) (W:World):(binOp .eql 26 (.agg #[.int .u8 x.tag,.int .u32 x.to]) (.agg #[.int .u8 y.tag,.int .u32 y.to])).run Tryz.prog W=.ok (.bool false) W:=by rw [run_eql_edge];simp [h]

end Go.Proofs.YtiifimnpmbfihaaGreat
