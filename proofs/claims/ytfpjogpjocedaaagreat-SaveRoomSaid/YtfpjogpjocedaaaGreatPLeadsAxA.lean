/-
  Walks of package arena.
-/
import Derived.Test.YtfpjogpjocedaaaGreatPLeadsA
namespace Go.Proofs.YtfpjogpjocedaaaGreat
set_option linter.unusedSimpArgs false
set_option linter.unusedVariables false
set_option maxHeartbeats 600000
open Go.RowKit

theorem arena_len {F:Nat → Prop} {w:World} {ab:Nat} {cs:List (Option Rec)} {gone:List Int} {cnt room:Int} (h:ArenaRep F w ab cs gone cnt room) :
  Calls Tryz.prog 68 #[.pointer (some ⟨ab,0,none⟩)] w fun e w'=>e=.returned (.int .i64 cnt) ∧ w=w':=by
 obtain ⟨⟨cv,fv,h1,_⟩,_⟩:=h
 have hc:=cell_of_row w ab 2 _ _ _ h1
 simp at hc
 clear h1
 go_enter Tryz.func68,Tryz.ntmps68
 go_wp2
 go_ret
 exact ⟨rfl,rfl⟩

theorem store_len {F:Nat → Prop} {w:World} {sb:Nat} {M:St} (h:StoreRep F w sb M) :
  Calls Tryz.prog 29 #[.pointer (some ⟨sb,0,none⟩)] w fun e w'=>e=.returned (.int .i64 M.len) ∧ w=w':=by
 obtain ⟨⟨ab,ib,ts,Fa,Fi,h1,h2,-⟩,-⟩:=h
 have c1:w.cell? ⟨sb,1,none⟩=some (.pointer (some ⟨ab,0,none⟩)):=by rw [cell_of_row w sb 1 _ _ _ h1];rfl
 have H:=Lib.hid (arena_len h2)
 clear h1 h2
 go_enter Tryz.func29,Tryz.ntmps29
 go_wp2_with (go_at_call 68;refine H.out.mono ?_;rintro e w' ⟨rfl,rfl⟩)
 go_ret
 exact ⟨rfl,rfl⟩

end Go.Proofs.YtfpjogpjocedaaaGreat
