/-
  The walk of convert.from: an edge to nothing, at the end, or kept.
-/
import Derived.Test.YtfpjogpjocedaaaGreatPSaveI
import Derived.Test.YtfpjogpjocedaaaGreatPSaveX
import Derived.Maps.Views
import Derived.Maps.OwnSet
import Derived.Maps.Keyed
import Derived.DeepKeys4
namespace Go.Proofs.YtfpjogpjocedaaaGreat
set_option linter.unusedSimpArgs false
set_option linter.unusedVariables false
set_option maxHeartbeats 600000
open Go.RowKit

theorem Upd.later {F G:Nat → Prop} {a b c:World} (h:Upd F a b) (k:Upd G b c) (hG:∀ i,i < a.heap.size → G i → F i):Upd F a c:=
 ⟨k.os.trans h.os,k.tape.trans h.tape,k.output.trans h.output,Nat.le_trans h.size k.size,fun i hi hf=>(k.block i (Nat.lt_of_lt_of_le hi h.size) (fun hg=>hf (hG i hi hg))).trans (h.block i hi hf)⟩

section
variable {F:Nat → Prop} {w:World} {sb wb b:Nat} {f g:Int} {M:St} {V:List (Edge × Int)} {D:DataW Unit}

theorem updR {R:Nat} {x y:World} (h:Upd (fun j=>j=R) x y) (o:Nat) (v:Value):Upd (fun j=>j=R) x (y.setCell ⟨R,o,none⟩ v):=h.setCell (Or.inl rfl) v

theorem findSt_ext {M:St} (h:M.wf) (r:Rec):Ext M (M.findSt r):=by
 cases hi:M.idOf r with
 | some id=>
  rw [(find_old h (idOf_look hi)).2.2]
  exact Ext.refl M
 | none=>
  cases hb:M.bad r with
  | true=>
   have:M.findSt r=M:=by unfold St.findSt;rw [hi];simp [hb]
   rw [this]
   exact Ext.refl M
  | false=>
   by_cases he:M.findErr r=0
   ·exact (find_zero h hb he).2.1
   ·rw [(find_full hb he).2.1]
    exact Ext.refl M

end

theorem saveB_len {M:St} (hw:M.wf) (hfa:FitA M) (hfew:M.cs.length ≤ 1048576) {ps:List Int} (hps:∀ x ∈ ps,0 ≤ x ∧ x ≤ 16) (hpl:ps.length ≤ 16) {f:Int} (hf:0 ≤ f ∧ f ≤ 255) {e:Edge} (he:e.ok):(saveB M ps f e).length ≤ 100000000:=by
 have hS:=(NumOk.nil M).next hw hfa e.to
 have h1:=ids_few M.cs.length (numM M e.to []) hS.once (fun x hx=>by
  cases hl:look M.cs x with
  | none=>exact absurd hl (hS.known x hx)
  | some r=>have:=look_some hl;exact ⟨this.1,this.2.1⟩)
 have n0:=hw.n0
 have n16:=hw.n16
 have a1:=putB_len10 (n:=M.n.toNat) (by omega)
 have a2:=putB_len10 (n:=f.toNat) (by omega)
 have a3:=flat_len (fun x:Int=>putB x.toNat) 10 ps (fun x hx=>putB_len10 (by have:=hps x hx;omega))
 have a4:=putB_len10 (n:=(numM M e.to []).length) (by omega)
 have a5:=recsB_len (f:=f) hfa (S:=numM M e.to []) (by omega)
 have a6:=edgeB_len (f:=f) (S:=numM M e.to []) he (by omega)
 unfold saveB
 simp only [List.length_append]
 omega

def St.solid (M:St):Prop:=M.gone=[] ∧ ∀ o ∈ M.cs,o ≠ none

theorem solid_find {M:St} (h:M.solid) (r:Rec):(M.findSt r).solid:=by
 unfold St.findSt
 cases M.idOf r with
 | some id=>exact h
 | none=>
  simp only []
  split
  ·exact h
  ·split
   ·exact h
   ·refine ⟨by show M.gone.dropLast=[];rw [h.1];rfl,fun o ho=>?_⟩
    change o ∈ putCs M.cs M.gone r at ho
    unfold putCs at ho
    rw [h.1] at ho
    simp only [List.getLast?_nil] at ho
    rcases List.mem_append.1 ho with ho | ho
    ·exact h.2 o ho
    ·rw [List.mem_singleton] at ho
     subst ho
     simp

open Go.ChangeShapes Go.WideShapes Go.ChangeAt Go.RowKit Go.Joins Go.Deep

def IsBytes (w:World) (a:Option Addr) (len cap:Nat) (bs:List Int):Prop:=IsU8s w a len bs ∧ len ≤ cap

theorem open_bytes {H:Type} {enc:TypeId × Value → H} {W:World} {base:Nat} {spare:Nat → Bool} {held:Bool} {a:Option Addr} {len cap:Nat} {d:DataW H} {p:List MemPlace}
  (h:DataW.Trod enc Tryz.prog W base spare held 24 (.slice a len cap) d p):∃ bs:List Int,IsBytes W a len cap bs:=by
 obtain ⟨bs,hb⟩:=open_u8s h
 refine ⟨bs,hb,?_⟩
 obtain ⟨fuel,hf⟩:=h
 rcases open_slice Tryz.underlying24 hf with ⟨hcs,_⟩ | ⟨x,l,c,m,n,D,Pl,hcs,_,hl,_,hm,_,hi⟩
 ·simp [Value.cells] at hcs
  obtain ⟨rfl,rfl,rfl⟩:=hcs
  exact Nat.le_refl _
 ·simp [Value.cells] at hcs
  obtain ⟨rfl,rfl,rfl⟩:=hcs
  exact hl

theorem IsBytes.at' {w:World} {a:Option Addr} {len cap:Nat} {bs:List Int} (h:IsBytes w a len cap bs):bs.length=len ∧ BsAt w a bs ∧ IsBs bs ∧ len ≤ cap:=by
 refine ⟨h.1.1,fun i x hx=>(h.1.2 i x hx).2.2,fun x hx=>?_,h.2⟩
 obtain ⟨i,hi⟩:=List.getElem?_of_mem hx
 have:=h.1.2 i x hi
 exact ⟨this.1,this.2.1⟩

end Go.Proofs.YtfpjogpjocedaaaGreat
