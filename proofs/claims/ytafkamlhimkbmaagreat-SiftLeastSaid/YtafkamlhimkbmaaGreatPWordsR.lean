/-
  Rows of words, where they lie.
-/
import Derived.Test.YtafkamlhimkbmaaGreatPOrderB
import Derived.Test.YtafkamlhimkbmaaGreatPSortC
namespace Go.Proofs.YtafkamlhimkbmaaGreat
set_option maxRecDepth 1000000
set_option maxHeartbeats 8000000
set_option linter.unusedSimpArgs false
set_option linter.unusedVariables false
open Go.RowKit

def gE (w:World)(a:Option Addr)(ws:List Int):Prop:=∀i x,ws[i]?=some x→(0≤x∧x<2 ^ 64)∧∃b off,a=some ⟨b,off,none⟩∧w.cell? ⟨b,off+i,none⟩=some (.int .u64 x)

theorem gE.U {w j:World}{a:Option Addr}{ws:List Int}(h:gE w a ws)(t:aa w j):gE j a ws:=fun i x z=>by
 obtain⟨j,b,off,q,s⟩:=h i x z;exact⟨j,b,off,q,t.cell s⟩

def cH (w:World)(g:Nat)(ps:List Int):Prop:=∃j:Array Value,w.heap[g]?=some (.cells j 56 (0,0))∧∀(i:Nat) (x:Int),ps[i]?=some x→j[i]?=some (Value.int .u64 x)

theorem cH.cell {w:World}{g:Nat}{ps:List Int}(h:cH w g ps){i:Nat}{x:Int}(s:ps[i]?=some x):w.cell? ⟨g,i,none⟩=some (.int .u64 x):=by
 obtain⟨t,j,q⟩:=h;rw[cell_of_row w g i _ _ _ j];simp only[q i x s]

theorem cH.frozen {w:World}{g:Nat}{ps:List Int}(h:cH w g ps)(i:Nat):w.frozen? ⟨g,i,none⟩=false:=by
 obtain⟨q,j,s⟩:=h;exact frozen_of_row w g i _ _ j

theorem cH.lt {w:World}{g:Nat}{ps:List Int}(h:cH w g ps):g<w.heap.size:=by
 obtain⟨q,j,s⟩:=h;exact aK j

theorem cH.a4 {G:Nat→Prop}{w j:World}{g:Nat}{ps:List Int}(h:cH w g ps)(A:ae G w j)(t:¬G g):cH j g ps:=by
 have z:=h.lt;obtain⟨j,q,s⟩:=h;exact⟨j,(A.block g z t).trans q,s⟩

theorem cH.U {w j:World}{g:Nat}{ps:List Int}(h:cH w g ps)(q:aa w j):cH j g ps:=h.a4 (q.av (fun _=>False)) (fun h=>h)

theorem cH.fi {w:World}{g:Nat}{ps:List Int}(h:cH w g ps)(q:∀x∈ps,0≤x∧x<2 ^ 64):gE w (some ⟨g,0,none⟩) ps:=fun i x j=>⟨q x (List.mem_of_getElem? j),g,0,rfl,by rw[Nat.zero_add];exact h.cell j⟩

theorem cH.set {w:World}{g:Nat}{ps:List Int}(h:cH w g ps)(i:Nat)(y:Int)(hi:i<ps.length):cH (w.setCell ⟨g,i,none⟩ (.int .u64 y)) g (ps.set i y):=by
 obtain⟨z,A,s⟩:=h;refine⟨_,Go.heap_setCell_same w g i _ _ (.int .u64 y) A,fun t x j=>?_⟩;rw[Array.getElem?_setIfInBounds];by_cases q:i=t
 ·subst q;have E:=s i ps[i] (by simp[hi]);have I:i<z.size:=(Array.getElem?_eq_some_iff.1 E).1;rw[if_pos rfl,if_pos I];simp[hi]at j;rw[j]
 ·rw[if_neg q];rw[List.getElem?_set_ne q]at j;exact s t x j

theorem zl {w:World}{q n:Nat}(h:w.ownsRow q 56 1 (.slice (some ⟨q,0,none⟩) n n) n (madeCells (Value.int .u64 0).cells (n*1)).toList):cH w q (List.replicate n 0):=by
 have e:(madeCells (Value.int .u64 0).cells (n*1)).toList=(List.replicate n (0:Int)).map (Value.int .u64):=by
  rw[List.map_replicate,Nat.mul_one];simp[madeCells,Value.cells,Nat.mod_one];rw[List.map_const',List.length_range]
 rw[e]at h;rcases h.2 with⟨t,_⟩|⟨J,I,s,E,K,z,_,_,L,A⟩
 ·cases t
 ·cases E;obtain⟨t,E⟩:=bJ h (k:=q) rfl;refine⟨s,z,fun i x q=>?_⟩;have j:((List.replicate n (0:Int)).map (Value.int .u64))[i]?=some (.int .u64 x):=by rw[List.getElem?_map,q];rfl
  rw[←A,List.getElem?_take]at j;split at j
  ·rw[Array.getElem?_toList]at j;exact j
  ·cases j

theorem vO:(Tryz.prog.info? 56).map (fun i=>(i.zero,i.size,i.bytes))=some (some (.int .u64 0),1,8):=by kernel_rfl

open Go.RowKit Go.Sort

theorem yk (j cap len:Nat)(I:Int)(d:Array Int)(w:World)(t:bc w j cap d)(s:d.size=len)(J:len≤12) :
  Calls Tryz.prog 178 #[.slice (some ⟨j,0,none⟩) len cap,.int .i64 0,.int .i64 (len:Int),.int .i64 I] w fun e z=>e=.returned (.tuple #[])∧∃d',PermIn 0 len d d'∧SortedIn ltInt 0 len d'∧ax w z j cap d':=by
 have A:=Lib.hid (pf j cap len 0 len d w t s (Nat.zero_le _) (Nat.le_refl _) (by omega))
 have q:=Lib.hid (insertionSort_holds swo_ltInt d 0 len (Nat.zero_le _) (by omega))
 clear t s
 go_enter Tryz.func178,Tryz.ntmps178
 go_wp2
 refine wp_loop_rounds 1 ?_
 rw[rounds_succ]
 go_wp2_with (go_at_call 216;refine A.out.mono ?_;rintro e z ⟨rfl,E⟩)
 first|go_end0|refine bodyPost_ret (results_none rfl _ _ _) rfl ?_
 exact⟨rfl,_,q.out.1,q.out.2,E⟩

theorem Ai (j cap len:Nat)(d:Array Int)(w:World)(q:bc w j cap d)(J:d.size=len)(L:0<len)(A:len≤12) :
  Calls Tryz.prog 112 #[.slice (some ⟨j,0,none⟩) len cap] w fun e K=>
   e=.returned (.tuple #[])∧∃d',PermIn 0 len d d'∧SortedIn ltInt 0 len d'∧ax w K j cap d':=by
 have s:=Lib.hid (mm (len:Int) w (by omega) (by omega))
 have t:=Lib.hid (fun K:Int=>yk j cap len K d w q J A)
 clear q
 go_enter Tryz.func112,Tryz.ntmps112
 go_wp2_with fail
 refine s.out.mono ?_
 rintro e w1 ⟨rfl,rfl⟩
 go_wp2_with fail
 refine(t.out _).mono ?_
 rintro e j ⟨rfl,d',z,E,I⟩
 go_wp2
 first|go_end0|refine bodyPost_ret (results_none rfl _ _ _) rfl ?_
 exact⟨rfl,d',z,E,I⟩

end Go.Proofs.YtafkamlhimkbmaaGreat
