/-
  How many ids; a store alone; plainly.
-/
import Derived.Test.YtpgcbmbnognieaaGreatPHPlainA
import Derived.Test.YtpgcbmbnognieaaGreatPSweepA
import Derived.Test.YtpgcbmbnognieaaGreatPUnfBase
namespace Go.Proofs.YtpgcbmbnognieaaGreat
set_option maxRecDepth 1000000
set_option maxHeartbeats 8000000
set_option linter.unusedSimpArgs false
set_option linter.unusedVariables false
open Go.RowKit

theorem ids_len {F:Nat→Prop}{w:World}{sb:Nat}{M:St}(h:StoreRep F w sb M):((idsL M.cs).length:Int)=M.len:=by
 have honce:=h.once
 obtain⟨⟨ab,ib,ts,Fa,Fi,h1,h2,h3,h4,h5,_⟩,_⟩:=h
 have huq:=h3.ok.uniq
 have hl:(ts.filterMap (fun o=>o.map Prod.snd)).length=occ ts:=by
  rw [List.length_filterMap_eq_countP]
  unfold occ
  refine List.countP_congr (fun o _=>?_)
  cases o<;>simp
 have hm:∀ x,x∈ts.filterMap (fun o=>o.map Prod.snd)↔x∈idsL M.cs:=by
  intro x
  rw [idsL_mem,List.mem_filterMap]
  constructor
  ·rintro⟨o,ho,hx⟩
   cases o with
   | none=>simp at hx
   | some p=>
    obtain⟨r,id⟩:=p
    simp at hx
    subst hx
    obtain⟨i,hi⟩:=List.getElem?_of_mem ho
    rw [(h5 r id).1 ⟨i,hi⟩]
    simp
  ·intro hx
   cases hl:look M.cs x with
   | none=>exact absurd hl hx
   | some r=>
    obtain⟨i,hi⟩:=(h5 r x).2 hl
    exact⟨_,List.mem_of_getElem? hi,rfl⟩
 have hn:(ts.filterMap (fun o=>o.map Prod.snd)).Nodup:=by
  unfold List.Nodup
  rw [List.pairwise_filterMap,List.pairwise_iff_getElem]
  intro i j hi hj hij x hx y hy e
  subst e
  cases hti:ts[i] with
  | none=>rw [hti] at hx;simp at hx
  | some p=>
   cases htj:ts[j] with
   | none=>rw [htj] at hy;simp at hy
   | some q=>
    rw [hti] at hx
    rw [htj] at hy
    obtain⟨r,id⟩:=p
    obtain⟨r',id'⟩:=q
    simp at hx hy
    subst hx
    subst hy
    have a1:Tab.at ts i r id':=by unfold Tab.at;rw [List.getElem?_eq_getElem hi,hti]
    have a2:Tab.at ts j r' id':=by unfold Tab.at;rw [List.getElem?_eq_getElem hj,htj]
    have e1:=(h5 r id').1 ⟨i,a1⟩
    have e2:=(h5 r' id').1 ⟨j,a2⟩
    rw [e1] at e2
    cases e2
    have:=huq i j r id' id' a1 a2
    omega
 have e1:=nodup_len hn (fun x hx=>(hm x).1 hx)
 have e2:=nodup_len (rising_nodup (idsFrom_rising M.cs 2)) (fun x hx=>(hm x).2 hx)
 have e2':(idsL M.cs).length≤(ts.filterMap (fun o=>o.map Prod.snd)).length:=e2
 omega

theorem part_len (M:St)(roots:List Int):(reachL M.cs roots).length+(goneL M roots).length=(idsL M.cs).length:=by
 have h1:reachL M.cs roots=(idsL M.cs).filter (fun x=>decide (x∈reachL M.cs roots)):=by
  refine rising_eq (reachL_rising _ _) (List.Pairwise.filter _ (idsFrom_rising M.cs 2)) (fun x=>?_)
  rw [List.mem_filter,idsL_mem]
  simp only [decide_eq_true_eq]
  exact⟨fun hx=>⟨(mem_reachL.1 hx).some,hx⟩,fun hx=>hx.2⟩
 have h2:(reachL M.cs roots).length=(idsL M.cs).countP (fun x=>decide (x∈reachL M.cs roots)):=by
  rw [List.countP_eq_length_filter,← h1]
 have h3:(goneL M roots).length=(idsL M.cs).countP (fun x=>!decide (x∈reachL M.cs roots)):=by
  rw [List.countP_eq_length_filter]
  rfl
 rw [h2,h3,List.length_eq_countP_add_countP (p:=fun x=>decide (x∈reachL M.cs roots))]
 congr 1
 refine List.countP_congr (fun x _=>?_)
 simp

theorem reaches_ext {M N:St}(hE:Ext M N){roots:List Int}{id:Int}(h:Reaches M.cs roots id):Reaches N.cs roots id:=by
 intro S hS hC
 refine h S (fun x hx hl=>?_) (fun x r hx hl=>?_)
 ·cases hk:look M.cs x with
  | none=>exact absurd hk hl
  | some r=>exact hS x hx (by rw [hE.sub _ _ hk];simp)
 ·have hc:=hC x r hx (hE.sub _ _ hl)
  refine⟨fun hh=>hc.1 ?_,fun hh=>hc.2 ?_⟩
  ·cases hk:look M.cs r.lo.to with
   | none=>exact absurd hk hh
   | some q=>rw [hE.sub _ _ hk];simp
  ·cases hk:look M.cs r.hi.to with
   | none=>exact absurd hk hh
   | some q=>rw [hE.sub _ _ hk];simp

theorem arena_ids (ab:Nat)(w:World):Calls Tryz.prog 209 #[.pointer (some ⟨ab,0,none⟩)] w fun e w'=>
  e=.returned (.func (.func 257) #[] #[.pointer (some ⟨w.heap.size,0,none⟩)])∧w'.cell? ⟨w.heap.size,0,none⟩=some (.pointer (some ⟨ab,0,none⟩))∧Keeps w w':=by
 go_enter Tryz.func209,Tryz.ntmps209
 go_wp2
 go_ret
 exact⟨rfl,by simp [go_sem],by(exact kp)⟩

theorem ids_enter (args:Array Value)(w:World):(callFunc 257 args).run Tryz.prog w=.ok (.enter 257 args) w:=enters_of Tryz.func257 (by kernel_rfl) rfl args w

end Go.Proofs.YtpgcbmbnognieaaGreat
