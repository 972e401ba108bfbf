/-
  A number's bytes: seven bits a byte, the low ones first. No program in sight.
-/
import Derived.Test.YtiifimnpmbfihaaGreatPViewA
import Derived.IntWalk
namespace Go.Proofs.YtiifimnpmbfihaaGreat
set_option linter.unusedSimpArgs false
set_option linter.unusedVariables false
set_option maxHeartbeats 600000

def putB (n:Nat):List Int:=if n < 128 then [(n:Int)] else ((n % 128 + 128:Nat):Int) :: putB (n / 128)
termination_by n
decreasing_by omega

theorem putB_low {n:Nat} (h:n < 128):putB n=[(n:Int)]:=by rw [putB,if_pos h]

theorem putB_more {n:Nat} (h:¬ n < 128):putB n=((n % 128 + 128:Nat):Int) :: putB (n / 128):=by rw [putB,if_neg h]

theorem putB_len:∀ (k n:Nat),n < 128 ^ (k + 1) → (putB n).length ≤ k + 1:=by
 intro k
 induction k with
 | zero=>intro n h;rw [putB_low (by omega)];exact Nat.le_refl _
 | succ k ih=>
  intro n h
  by_cases hn:n < 128
  ·rw [putB_low hn];show 1 ≤ _;omega
  ·rw [putB_more hn,List.length_cons]
   have:=ih (n / 128) (by rw [Nat.pow_succ] at h;exact Nat.div_lt_of_lt_mul (by rw [Nat.mul_comm];exact h))
   omega

theorem putB_len10 {n:Nat} (h:n < 2 ^ 64):(putB n).length ≤ 10:=putB_len 9 n (Nat.lt_of_lt_of_le h (by decide))

theorem putB_pos (n:Nat):1 ≤ (putB n).length:=by
 by_cases hn:n < 128
 ·rw [putB_low hn];exact Nat.le_refl _
 ·rw [putB_more hn,List.length_cons];omega

def byteVs (bs:List Int):List Value:=bs.map (Value.int .u8)

theorem byteVs_append (a b:List Int):byteVs (a ++ b)=byteVs a ++ byteVs b:=List.map_append

theorem byteVs_len (a:List Int):(byteVs a).length=a.length:=List.length_map _

theorem byteVs_one (a:List Int):∀ u ∈ byteVs a,u.oneCell'=true:=fun u hu=>by
 obtain ⟨x,_,rfl⟩:=List.mem_map.1 hu
 rfl

theorem wrap_byte (m:Nat):IntKind.u8.wrap (m:Int)=((m % 256:Nat):Int):=by
 have h:((m % 256:Nat):Int)=(m:Int) % 256:=by omega
 rw [h]
 unfold IntKind.wrap
 simp [IntKind.signed,IntKind.bits]

theorem or_byte (m:Nat):bits BinOp.or IntKind.u8 ((m % 256:Nat):Int) 128=((m % 128 + 128:Nat):Int):=by
 have key:∀ k:Fin 256,bits BinOp.or IntKind.u8 ((k.val:Nat):Int) 128=((k.val % 128 + 128:Nat):Int):=by decide +kernel
 have:=key ⟨m % 256,Nat.mod_lt _ (by decide)⟩
 rw [this]
 simp only
 have:m % 256 % 128=m % 128:=Nat.mod_mod_of_dvd _ (by decide)
 rw [this]

open Go.RowKit

def bRest (_:St) (l:Int) (lo hi:Edge):(Edge × Int) ⊕ Rec:=if lo=hi then .inl (lo,0) else .inr ⟨1,l,l,lo,hi⟩

def zRest (_:St) (l:Int) (lo hi:Edge):(Edge × Int) ⊕ Rec:=if hi.to=0 then .inl (lo,0) else .inr ⟨2,l,l,lo,hi⟩

def cRest (M:St) (l:Int) (lo hi:Edge):(Edge × Int) ⊕ Rec:=
 if lo=hi then .inl (lo,0) else match look M.cs lo.to with
  | none=>.inr ⟨3,l,l,lo,hi⟩
  | some r=>if r.top=l + 1 then (if r.hi=hi then .inr ⟨3,l,r.bot,r.lo,hi⟩ else .inr ⟨3,l,l,lo,hi⟩) else .inr ⟨3,l,l,lo,hi⟩

def qRest (M:St) (l:Int) (lo hi:Edge):(Edge × Int) ⊕ Rec:=
 if hi.to=0 then .inl (lo,0) else match look M.cs lo.to with
  | none=>.inr ⟨4,l,l,lo,hi⟩
  | some r=>if lo=hi then (if r.top=l + 1 then .inr ⟨4,l,r.bot,r.lo,r.hi⟩ else .inr ⟨4,l,l,lo,hi⟩) else .inr ⟨4,l,l,lo,hi⟩

def makeAct (M:St) (f l:Int) (lo hi:Edge) (rest:(Edge × Int) ⊕ Rec):(Edge × Int) ⊕ Rec:=
 if l < 0 ∨ M.n ≤ l then .inl (⟨0,0⟩,3)
 else if M.leads f lo (l + 1)=false ∨ M.leads f hi (l + 1)=false then .inl (⟨0,0⟩,1) else rest

def actE0 (M:St):(Edge × Int) ⊕ Rec → Edge | .inl x=>x.1 | .inr r=>foundE M 0 r

theorem rec_ok {f l b:Int} {lo hi:Edge} (hf:0 ≤ f ∧ f ≤ 255) (h0:0 ≤ l) (h1:l ≤ 16) (hb:0 ≤ b ∧ b ≤ 255) (hlo:lo.ok) (hhi:hi.ok):(⟨f,l,b,lo,hi⟩:Rec).ok:=
 ⟨hf,⟨h0,by show l ≤ 255;omega⟩,hb,hlo,hhi⟩

theorem bdd_found0 {F:Nat → Prop} {w:World} {sb:Nat} {M:St} (h:StoreRep F w sb M) (r:Rec) (hr:r.ok) :
  Calls Tryz.prog 277 #[.pointer (some ⟨sb,0,none⟩),.agg #[.int .u8 r.form,.int .u8 r.top,.int .u8 r.bot,.int .u8 r.lo.tag,.int .u32 r.lo.to,.int .u8 r.hi.tag,.int .u32 r.hi.to]] w fun e w'=>e=.returned (.tuple #[.agg #[.int .u8 (foundE M 0 r).tag,.int .u32 (foundE M 0 r).to],.int .u8 (M.findErr r)]) ∧ Upd F w w' ∧ StoreRep (Grow F w w') w' sb (M.findSt r):=by
 have hf:=fun (W:World) (hW:Keeps w W)=>store_find (h.keeps hW) r hr
 by_cases he:M.findErr r=0
 ·have e1:foundE M 0 r=⟨0,M.findId r⟩:=if_pos he
  rw [e1,he]
  rw [he] at hf
  refine (bfound_ok sb r (M.findId r) w h.pos h.lt (fun W W1=>StoreRep (Grow F W W1) W1 sb (M.findSt r)) hf).mono ?_
  rintro e w' ⟨rfl,W,W1,h1,h2,h3,h4⟩
  exact ⟨rfl,h3.after h.lt h1 h2 h4⟩
 ·have e1:foundE M 0 r=⟨0,0⟩:=if_neg he
  rw [e1]
  refine (bfound_bad sb r (M.findId r) (M.findErr r) he w h.pos h.lt (fun W W1=>StoreRep (Grow F W W1) W1 sb (M.findSt r)) hf).mono ?_
  rintro e w' ⟨rfl,W,W1,h1,h2,h3,h4⟩
  exact ⟨rfl,h3.after h.lt h1 h2 h4⟩

theorem zdd_found0 {F:Nat → Prop} {w:World} {sb:Nat} {M:St} (h:StoreRep F w sb M) (r:Rec) (hr:r.ok) :
  Calls Tryz.prog 278 #[.pointer (some ⟨sb,0,none⟩),.agg #[.int .u8 r.form,.int .u8 r.top,.int .u8 r.bot,.int .u8 r.lo.tag,.int .u32 r.lo.to,.int .u8 r.hi.tag,.int .u32 r.hi.to]] w fun e w'=>e=.returned (.tuple #[.agg #[.int .u8 (foundE M 0 r).tag,.int .u32 (foundE M 0 r).to],.int .u8 (M.findErr r)]) ∧ Upd F w w' ∧ StoreRep (Grow F w w') w' sb (M.findSt r):=by
 have hf:=fun (W:World) (hW:Keeps w W)=>store_find (h.keeps hW) r hr
 by_cases he:M.findErr r=0
 ·have e1:foundE M 0 r=⟨0,M.findId r⟩:=if_pos he
  rw [e1,he]
  rw [he] at hf
  refine (yfound_ok sb r (M.findId r) w h.pos h.lt (fun W W1=>StoreRep (Grow F W W1) W1 sb (M.findSt r)) hf).mono ?_
  rintro e w' ⟨rfl,W,W1,h1,h2,h3,h4⟩
  exact ⟨rfl,h3.after h.lt h1 h2 h4⟩
 ·have e1:foundE M 0 r=⟨0,0⟩:=if_neg he
  rw [e1]
  refine (yfound_bad sb r (M.findId r) (M.findErr r) he w h.pos h.lt (fun W W1=>StoreRep (Grow F W W1) W1 sb (M.findSt r)) hf).mono ?_
  rintro e w' ⟨rfl,W,W1,h1,h2,h3,h4⟩
  exact ⟨rfl,h3.after h.lt h1 h2 h4⟩

theorem csame_calls (x y:Edge) (w:World) :
  Calls Tryz.prog 177 #[.agg #[.int .u8 x.tag,.int .u32 x.to],.agg #[.int .u8 y.tag,.int .u32 y.to]] w fun e w'=>e=.returned (.bool (decide (x=y))) ∧ Keeps w w':=by
 obtain ⟨a,b⟩:=x
 obtain ⟨c,d⟩:=y
 go_enter Tryz.func177,Tryz.ntmps177
 go_wp2
 all_goals (go_ret;refine ⟨?_,by (exact kp)⟩)
 all_goals simp_all
 all_goals rfl

theorem csame_true (x y:Edge) (h:x=y) (w:World):Calls Tryz.prog 177 #[.agg #[.int .u8 x.tag,.int .u32 x.to],.agg #[.int .u8 y.tag,.int .u32 y.to]] w fun e w'=>e=.returned (.bool true) ∧ Keeps w w':=by
 have:=csame_calls x y w
 rwa [decide_eq_true h] at this

theorem csame_false (x y:Edge) (h:¬ x=y) (w:World):Calls Tryz.prog 177 #[.agg #[.int .u8 x.tag,.int .u32 x.to],.agg #[.int .u8 y.tag,.int .u32 y.to]] w fun e w'=>e=.returned (.bool false) ∧ Keeps w w':=by
 have:=csame_calls x y w
 rwa [decide_eq_false h] at this

theorem qsame_calls (x y:Edge) (w:World) :
  Calls Tryz.prog 178 #[.agg #[.int .u8 x.tag,.int .u32 x.to],.agg #[.int .u8 y.tag,.int .u32 y.to]] w fun e w'=>e=.returned (.bool (decide (x=y))) ∧ Keeps w w':=by
 obtain ⟨a,b⟩:=x
 obtain ⟨c,d⟩:=y
 go_enter Tryz.func178,Tryz.ntmps178
 go_wp2
 all_goals (go_ret;refine ⟨?_,by (exact kp)⟩)
 all_goals simp_all
 all_goals rfl

theorem qsame_true (x y:Edge) (h:x=y) (w:World):Calls Tryz.prog 178 #[.agg #[.int .u8 x.tag,.int .u32 x.to],.agg #[.int .u8 y.tag,.int .u32 y.to]] w fun e w'=>e=.returned (.bool true) ∧ Keeps w w':=by
 have:=qsame_calls x y w
 rwa [decide_eq_true h] at this

theorem qsame_false (x y:Edge) (h:¬ x=y) (w:World):Calls Tryz.prog 178 #[.agg #[.int .u8 x.tag,.int .u32 x.to],.agg #[.int .u8 y.tag,.int .u32 y.to]] w fun e w'=>e=.returned (.bool false) ∧ Keeps w w':=by
 have:=qsame_calls x y w
 rwa [decide_eq_false h] at this

end Go.Proofs.YtiifimnpmbfihaaGreat
