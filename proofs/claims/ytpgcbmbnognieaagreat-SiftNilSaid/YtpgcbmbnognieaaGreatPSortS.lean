/-
  slices.Sort at uint32 of few: insertion alone.
-/
import Derived.Test.YtpgcbmbnognieaaGreatPSortC
namespace Go.Proofs.YtpgcbmbnognieaaGreat
set_option maxRecDepth 1000000
set_option maxHeartbeats 8000000
set_option linter.unusedSimpArgs false
set_option linter.unusedVariables false
open Go.RowKit Go.Sort

theorem pdq_small (blk cap len:Nat)(lim:Int)(d:Array Int)(w:World)(hr:RowAt w blk cap d)(hl:d.size=len)(h12:len≤12) :
  Calls Tryz.prog 201 #[.slice (some ⟨blk,0,none⟩) len cap,.int .i64 0,.int .i64 (len:Int),.int .i64 lim] w fun e w'=>e=.returned (.tuple #[])∧∃ d',PermIn 0 len d d'∧SortedIn ltInt 0 len d'∧SRow w w' blk cap d':=by
 have HC:=Lib.hid (insertion_calls blk cap len 0 len d w hr hl (Nat.zero_le _) (Nat.le_refl _) (by omega))
 have HX:=Lib.hid (insertionSort_holds swo_ltInt d 0 len (Nat.zero_le _) (by omega))
 clear hr hl
 go_enter Tryz.func201,Tryz.ntmps201
 go_wp2
 refine wp_loop_rounds 1 ?_
 rw [rounds_succ]
 go_wp2_with (go_at_call 246;refine HC.out.mono ?_;rintro e w' ⟨rfl,hs⟩)
 first|go_end0|refine bodyPost_ret (results_none rfl _ _ _) rfl ?_
 exact⟨rfl,_,HX.out.1,HX.out.2,hs⟩

theorem sort_small (blk cap len:Nat)(d:Array Int)(w:World)(hr:RowAt w blk cap d)(hl:d.size=len)(h0:0<len)(h12:len≤12) :
  Calls Tryz.prog 149 #[.slice (some ⟨blk,0,none⟩) len cap] w fun e w'=>
   e=.returned (.tuple #[])∧∃ d',PermIn 0 len d d'∧SortedIn ltInt 0 len d'∧SRow w w' blk cap d':=by
 have HC:=Lib.hid (len_calls (len:Int) w (by omega) (by omega))
 have HP:=Lib.hid (fun lim:Int=>pdq_small blk cap len lim d w hr hl h12)
 clear hr
 go_enter Tryz.func149,Tryz.ntmps149
 go_wp2_with fail
 refine HC.out.mono ?_
 rintro e w1 ⟨rfl,rfl⟩
 go_wp2_with fail
 refine(HP.out _).mono ?_
 rintro e w2 ⟨rfl,d',h1,h2,h3⟩
 go_wp2
 first|go_end0|refine bodyPost_ret (results_none rfl _ _ _) rfl ?_
 exact⟨rfl,d',h1,h2,h3⟩

end Go.Proofs.YtpgcbmbnognieaaGreat
