/-
  The walk of convert.from: an edge to nothing, at the end, or kept.
-/
import Derived.Test.YtfpjogpjocedaaaGreatPMeansA
import Derived.Test.YtfpjogpjocedaaaGreatPPartsA
import Derived.Test.YtfpjogpjocedaaaGreatPTextE
import Derived.Maps.OwnSet
import Derived.Maps.Keyed
import Derived.DeepKeys4
namespace Go.Proofs.YtfpjogpjocedaaaGreat
set_option linter.unusedSimpArgs false
set_option linter.unusedVariables false
set_option maxHeartbeats 600000
open Go.RowKit

theorem Upd.later {F G:Nat → Prop} {a b c:World} (h:Upd F a b) (k:Upd G b c) (hG:∀ i,i < a.heap.size → G i → F i):Upd F a c:=
 ⟨k.os.trans h.os,k.tape.trans h.tape,k.output.trans h.output,Nat.le_trans h.size k.size,fun i hi hf=>(k.block i (Nat.lt_of_lt_of_le hi h.size) (fun hg=>hf (hG i hi hg))).trans (h.block i hi hf)⟩

section
variable {F:Nat → Prop} {w:World} {sb wb b:Nat} {f g:Int} {M:St} {V:List (Edge × Int)} {D:DataW Unit}

theorem updR {R:Nat} {x y:World} (h:Upd (fun j=>j=R) x y) (o:Nat) (v:Value):Upd (fun j=>j=R) x (y.setCell ⟨R,o,none⟩ v):=h.setCell (Or.inl rfl) v

theorem findSt_ext {M:St} (h:M.wf) (r:Rec):Ext M (M.findSt r):=by
 cases hi:M.idOf r with
 | some id=>
  rw [(find_old h (idOf_look hi)).2.2]
  exact Ext.refl M
 | none=>
  cases hb:M.bad r with
  | true=>
   have:M.findSt r=M:=by unfold St.findSt;rw [hi];simp [hb]
   rw [this]
   exact Ext.refl M
  | false=>
   by_cases he:M.findErr r=0
   ·exact (find_zero h hb he).2.1
   ·rw [(find_full hb he).2.1]
    exact Ext.refl M

end

def St.solid (M:St):Prop:=M.gone=[] ∧ ∀ o ∈ M.cs,o ≠ none

theorem solid_find {M:St} (h:M.solid) (r:Rec):(M.findSt r).solid:=by
 unfold St.findSt
 cases M.idOf r with
 | some id=>exact h
 | none=>
  simp only []
  split
  ·exact h
  ·split
   ·exact h
   ·refine ⟨by show M.gone.dropLast=[];rw [h.1];rfl,fun o ho=>?_⟩
    change o ∈ putCs M.cs M.gone r at ho
    unfold putCs at ho
    rw [h.1] at ho
    simp only [List.getLast?_nil] at ho
    rcases List.mem_append.1 ho with ho | ho
    ·exact h.2 o ho
    ·rw [List.mem_singleton] at ho
     subst ho
     simp

theorem solid_act {M:St} (h:M.solid) (a:(Edge × Int) ⊕ Rec):(actSt M a).solid:=by
 cases a with
 | inl x=>exact h
 | inr r=>exact solid_find h r

def bitI (b:Bool):Int:=if b then 1 else 0

theorem value_calls (x k:Int) (w:World) (hx0:0 ≤ x) (hx1:x ≤ 65535) (hk0:0 ≤ k) (hk1:k ≤ 16) :
  Calls Tryz.prog 153 #[.int .i64 x,.int .i64 k] w fun e w'=>e=.returned (.int .i64 (bitI (bitB x k))) ∧ w=w':=by
 obtain ⟨n,rfl⟩:∃ n:Nat,k=(n:Int):=⟨k.toNat,by omega⟩
 have HS:=Lib.hid (size_calls n (by omega) w)
 have hp1:2 ^ n ≤ 2 ^ 16:=Nat.pow_le_pow_right (by decide) (by omega)
 have hp0:0 < 2 ^ n:=Nat.pow_pos (by decide)
 have e16:(2:Nat) ^ 16=65536:=rfl
 have hv:bitI (bitB x n)=x / ((2 ^ n:Nat):Int) % 2:=by
  unfold bitI bitB
  have e1:((2 ^ n:Nat):Int)=2 ^ (n:Int).toNat:=by push_cast;rfl
  rw [e1]
  by_cases h:x / 2 ^ (n:Int).toNat % 2=1
  ·rw [decide_eq_true h,h];rfl
  ·rw [decide_eq_false h];show (0:Int)=_;omega
 rw [hv]
 obtain ⟨p,hp⟩:∃ p,p=2 ^ n:=⟨_,rfl⟩
 rw [← hp] at HS hp1 hp0 ⊢
 rw [e16] at hp1
 clear hp hv
 have pp:(p:Int) ≠ 0:=by omega
 have g0:((p:Int) == 0)=false:=by simp;omega
 have e1:x.tdiv (p:Int)=x / (p:Int):=Int.tdiv_eq_ediv_of_nonneg hx0
 have hq0:0 ≤ x / (p:Int):=Int.ediv_nonneg hx0 (by omega)
 have hq1:x / (p:Int) ≤ x:=Int.ediv_le_self _ hx0
 have e2:(x / (p:Int)).tmod 2=x / (p:Int) % 2:=Int.tmod_eq_emod_of_nonneg hq0
 go_enter Tryz.func153,Tryz.ntmps153
 go_wp2_with (first | (go_at_call 57;refine HS.out.mono ?_;rintro e w' ⟨rfl,rfl⟩) | fail)
 go_ret
 exact ⟨by rfl,rfl⟩

def rv:Nat → Nat → Nat → Int
 | _,0,_=>0
 | y,k + 1,m=>(if y / 2 ^ k % 2=1 then 2 ^ m else 0) + rv (y % 2 ^ k) k (m + 1)

theorem tabX_at {g:Int → Bool}:∀ (k m:Nat) (x:Int) (y:Nat),y < 2 ^ k → (tabX g k m x)[y]?=some (g (x + rv y k m)):=by
 intro k
 induction k with
 | zero=>
  intro m x y hy
  have:y=0:=by simpa using hy
  subst this
  show some (g x)=some (g (x + 0))
  rw [Int.add_zero]
 | succ k ih=>
  intro m x y hy
  have hp:0 < 2 ^ k:=Nat.pow_pos (by decide)
  have e2:2 ^ (k + 1)=2 ^ k + 2 ^ k:=by rw [Nat.pow_succ];omega
  show (tabX g k (m + 1) x ++ tabX g k (m + 1) (x + 2 ^ m))[y]?=some (g (x + ((if y / 2 ^ k % 2=1 then 2 ^ m else 0) + rv (y % 2 ^ k) k (m + 1))))
  have hl:=tabX_len g k (m + 1) x
  by_cases h:y < 2 ^ k
  ·rw [List.getElem?_append_left (by rw [hl];exact h),ih _ _ _ h,Nat.div_eq_of_lt h,Nat.mod_eq_of_lt h,if_neg (by decide),Int.zero_add]
  ·have h1:y / 2 ^ k=1:=by
    rw [Nat.div_eq_iff hp]
    omega
   have h2:y % 2 ^ k=y - 2 ^ k:=by
    have:=Nat.div_add_mod y (2 ^ k)
    rw [h1] at this
    omega
   rw [List.getElem?_append_right (by rw [hl];omega),hl,ih _ _ _ (by omega),h1,h2,if_pos (by decide),Int.add_assoc]

theorem bitB_nat (y k:Nat):bitB (y:Int) (k:Int)=decide (y / 2 ^ k % 2=1):=by
 unfold bitB
 rw [Int.toNat_natCast]
 congr 1
 have:(y:Int) / 2 ^ k % 2=((y / 2 ^ k % 2:Nat):Int):=by push_cast;rfl
 rw [this]
 exact propext ⟨fun h=>by exact_mod_cast h,fun h=>by exact_mod_cast h⟩

def vb (X:Nat) (v:Int):Nat:=if bitB (X:Int) v=true then 1 else 0

theorem vb_le (X:Nat) (v:Int):vb X v ≤ 1:=by unfold vb;split <;> decide

def upN (X:Nat):List Int → Nat
 | []=>0
 | v :: ps=>vb X v + 2 * upN X ps

def dnN (X:Nat):List Int → Nat
 | []=>0
 | v :: ps=>vb X v * 2 ^ ps.length + dnN X ps

theorem dnN_lt (X:Nat):∀ ps:List Int,dnN X ps < 2 ^ ps.length:=by
 intro ps
 induction ps with
 | nil=>exact Nat.one_pos
 | cons v ps ih=>
  have:=vb_le X v
  have e2:2 ^ (v :: ps).length=2 ^ ps.length * 2:=by rw [List.length_cons,Nat.pow_succ]
  show vb X v * 2 ^ ps.length + dnN X ps < _
  rw [e2]
  rcases Nat.le_one_iff_eq_zero_or_eq_one.1 this with h | h
  ·rw [h];omega
  ·rw [h];omega

theorem dnN_snoc (X:Nat):∀ (ps:List Int) (v:Int),dnN X (ps ++ [v])=2 * dnN X ps + vb X v:=by
 intro ps
 induction ps with
 | nil=>intro v;show vb X v * 2 ^ 0 + 0=2 * 0 + vb X v;omega
 | cons a ps ih=>
  intro v
  show vb X a * 2 ^ (ps ++ [v]).length + dnN X (ps ++ [v])=2 * (vb X a * 2 ^ ps.length + dnN X ps) + vb X v
  rw [ih,List.length_append]
  show vb X a * 2 ^ (ps.length + 1) + _=_
  rw [Nat.pow_succ,← Nat.mul_assoc]
  omega

theorem rv_dnN (X:Nat):∀ (ps:List Int) (m:Nat),rv (dnN X ps) ps.length m=2 ^ m * (upN X ps:Int):=by
 intro ps
 induction ps with
 | nil=>intro m;show (0:Int)=2 ^ m * ((0:Nat):Int);simp
 | cons v ps ih=>
  intro m
  have hl:=dnN_lt X ps
  have hp:0 < 2 ^ ps.length:=Nat.pow_pos (by decide)
  show (if (vb X v * 2 ^ ps.length + dnN X ps) / 2 ^ ps.length % 2=1 then (2:Int) ^ m else 0) + rv ((vb X v * 2 ^ ps.length + dnN X ps) % 2 ^ ps.length) ps.length (m + 1)=2 ^ m * ((vb X v + 2 * upN X ps:Nat):Int)
  have e1:(vb X v * 2 ^ ps.length + dnN X ps) / 2 ^ ps.length=vb X v:=by
   rw [Nat.mul_comm,Nat.mul_add_div hp,Nat.div_eq_of_lt hl,Nat.add_zero]
  have e2:(vb X v * 2 ^ ps.length + dnN X ps) % 2 ^ ps.length=dnN X ps:=by
   rw [Nat.mul_comm,Nat.mul_add_mod,Nat.mod_eq_of_lt hl]
  rw [e1,e2,ih]
  have h1:=vb_le X v
  rw [Int.pow_succ]
  rcases Nat.le_one_iff_eq_zero_or_eq_one.1 h1 with h | h
  ·rw [h,if_neg (by decide)]
   push_cast
   rw [Int.mul_assoc,Int.zero_add,Int.zero_add]
  ·rw [h,if_pos (by decide)]
   push_cast
   rw [Int.mul_assoc,Int.mul_add]
   omega

theorem bitB_testBit (y j:Nat):bitB (y:Int) (j:Int)=y.testBit j:=by
 rw [bitB_nat,Nat.testBit_eq_decide_div_mod_eq]

def tabP (M:St) (ps:List Int) (f:Int) (e:Edge):List Bool:=(List.range (2 ^ ps.length)).map (fun X=>tv M f (upN X ps:Int) 0 e)

theorem tabP_len (M:St) (ps:List Int) (f:Int) (e:Edge):(tabP M ps f e).length=2 ^ ps.length:=by unfold tabP;simp

theorem tabP_get {M:St} {ps:List Int} {f:Int} {e:Edge} {X:Nat} (h:X < 2 ^ ps.length):(tabP M ps f e)[X]?=some (tv M f (upN X ps:Int) 0 e):=by
 unfold tabP
 simp [h]

theorem tabE_dnN {M:St} {ps:List Int} {f:Int} {e:Edge} (hn:M.n=(ps.length:Int)) (X:Nat):(tabE M f e 0)[dnN X ps]?=some (tv M f (upN X ps:Int) 0 e):=by
 unfold tabE
 rw [show (M.n - 0).toNat=ps.length by omega]
 show (tabX _ ps.length 0 0)[dnN X ps]?=_
 rw [tabX_at _ _ _ _ (dnN_lt X ps),rv_dnN]
 simp

theorem unf_agree {f:Int} {M M':St} (hM:Fine f M) {roots:List Int} (hR:∀ id,Reaches M.cs roots id → look M'.cs id=look M.cs id) :
  ∀ (n:Nat) (e:Edge) (l:Int),At f M e l n → (look M.cs e.to ≠ none → Reaches M.cs roots e.to) → unfL f M' n e=unfL f M n e:=by
 intro n
 induction n with
 | zero=>intro e l h;obtain ⟨m,hm⟩:=h.pos hM;omega
 | succ n ih=>
  intro e l h hr
  rcases h.cases hM with ⟨h0,h2⟩ | ⟨r,hl,_,_,_,_,_,_,_,_,hlo,hhi⟩
  ·rw [unfL_leaf h0 h2,unfL_leaf h0 h2]
  ·have hre:=hr (by rw [hl];simp)
   have hl':look M'.cs e.to=some r:=by rw [hR _ hre,hl]
   have hc:=Reaches.closed M.cs roots e.to r hre hl
   rw [unfL_node hl,unfL_node hl']
   unfold nodeL
   rw [ih _ _ hlo hc.1,ih _ _ hhi hc.2]

theorem unfS_of {f:Int} {M M':St} {n:Nat} {e:Edge} (h:unfL f M' n e=unfL f M n e):unfS f M' n e=unfS f M n e:=by
 apply ByteArray.ext
 exact Array.toList_inj.1 h

theorem StoreRep.fine {F:Nat → Prop} {w:World} {sb:Nat} {M:St} (h:StoreRep F w sb M) (f:Int) (h9:M.n ≤ 9):Fine f M:=⟨h.wf,fun _ _ hl=>⟨(h.fit hl).lo.2.1,(h.fit hl).hi.2.1⟩,h9⟩

theorem ktabS {w:World} {B:Nat} {bs:List Bool} (h:BoolsAt w B bs):TabAt w B 0 bs:=fun i b hb=>by
 rw [Nat.zero_add]
 exact h.cell hb

theorem termK_size {f:Int} (hf:1 ≤ f ∧ f ≤ 5) {k:Nat} (hk:k ≤ 6) (bs:List Bool) (l:Int):(termK f k bs l).size ≤ 1048576:=by
 have q2:2 ^ (k + 1) ≤ 2 ^ 7:=Nat.pow_le_pow_right (by decide) (by omega)
 have q3:2 ^ k ≤ 2 ^ 6:=Nat.pow_le_pow_right (by decide) (by omega)
 have q4:(2:Nat) ^ 7=128:=rfl
 have q5:(2:Nat) ^ 6=64:=rfl
 have h1:=termB_size k bs l
 have h2:=termZ_size k bs l
 have h3:=termC_size (k + 1) k bs l
 have h4:=termQ_size (k + 1) k bs l
 have h5:=termT_size (k + 1) k bs l
 rcases form_cases hf with rfl | rfl | rfl | rfl | rfl
 ·show (termB k bs l).size ≤ _;omega
 ·show (termZ k bs l).size ≤ _;omega
 ·show (termC (k + 1) k bs l).size ≤ _;omega
 ·show (termQ (k + 1) k bs l).size ≤ _;omega
 ·show (termT (k + 1) k bs l).size ≤ _;omega

end Go.Proofs.YtfpjogpjocedaaaGreat
