/-
  The six 'found' (printed by wip/mk_found.py).
-/
import Derived.Test.YtpgcbmbnognieaaGreatPSFindA
namespace Go.Proofs.YtpgcbmbnognieaaGreat
set_option maxRecDepth 1000000
set_option maxHeartbeats 8000000
set_option linter.unusedSimpArgs false
set_option linter.unusedVariables false
open Go.RowKit

theorem StoreRep.mono {F G:Nat→Prop}{w:World}{sb:Nat}{M:St}(h:StoreRep F w sb M)(hg:∀ k,F k→G k)(hl:∀ k,G k→k<w.heap.size):StoreRep G w sb M:=by
 obtain⟨⟨ab,ib,ts,Fa,Fi,h1,h2,h3,h4,h5,h6,h7,h8⟩,a1,a2,a3⟩:=h
 exact⟨⟨ab,ib,ts,Fa,Fi,h1,h2,h3,h4,h5,fun k hk=>hg k (h6 k hk),fun k hk=>hg k (h7 k hk),h8⟩,hg _ a1,hl,a3⟩

theorem after_upd {F:Nat→Prop}{w W W1 w':World}(hlt:∀ k,F k→k<w.heap.size)(h1:Keeps w W)(h2:Upd F W W1)(h4:Upd (fun k=>w.heap.size≤k∧k<W.heap.size) W1 w') :
  Upd F w w'∧(∀ k,Grow F W W1 k→Grow F w w' k)∧(∀ k,Grow F w w' k→k<w'.heap.size)∧∀ k,Grow F W W1 k→¬(w.heap.size≤k∧k<W.heap.size):=by
 have s1:=h1.size
 have s2:=h2.size
 have s4:=h4.size
 refine⟨⟨h4.os.trans (h2.os.trans h1.os),h4.tape.trans (h2.tape.trans h1.tape),h4.output.trans (h2.output.trans h1.output),by omega,fun k hk hf=>?_⟩,?_,?_,?_⟩
 ·rw [h4.block k (by omega) (by omega),h2.block k (by omega) hf,h1.block k hk]
 ·intro k hk
  rcases hk with hk|hk
  ·exact .inl hk
  ·exact .inr ⟨by omega,by omega⟩
 ·intro k hk
  rcases hk with hk|hk
  ·have:=hlt k hk;omega
  ·exact hk.2
 ·intro k hk hk'
  rcases hk with hk|hk
  ·have:=hlt k hk;omega
  ·omega

theorem StoreRep.after {F:Nat→Prop}{w W W1 w':World}{sb:Nat}{M:St}(hlt:∀ k,F k→k<w.heap.size)(h1:Keeps w W)(h2:Upd F W W1)(h3:StoreRep (Grow F W W1) W1 sb M)(h4:Upd (fun k=>w.heap.size≤k∧k<W.heap.size) W1 w') :
  Upd F w w'∧StoreRep (Grow F w w') w' sb M:=by
 obtain⟨a,b,c,d⟩:=after_upd hlt h1 h2 h4
 exact⟨a,(h3.keep h4 d).mono b c⟩

theorem tfound_ok {F:Nat→Prop}(sb:Nat)(r:Rec)(id:Int)(w:World)(hsb:sb<w.heap.size)(hlt:∀ k,F k→k<w.heap.size)(R:World→World→Prop)
  (hf:∀ W,Keeps w W→Calls Tryz.prog 64 #[.pointer (some ⟨sb,0,none⟩),.agg #[.int .u8 r.form,.int .u8 r.top,.int .u8 r.bot,.int .u8 r.lo.tag,.int .u32 r.lo.to,.int .u8 r.hi.tag,.int .u32 r.hi.to]] W fun e w'=>e=.returned (.tuple #[.int .u32 id,.int .u8 0])∧Upd F W w'∧R W w') :
  Calls Tryz.prog 231 #[.pointer (some ⟨sb,0,none⟩),.agg #[.int .u8 r.form,.int .u8 r.top,.int .u8 r.bot,.int .u8 r.lo.tag,.int .u32 r.lo.to,.int .u8 r.hi.tag,.int .u32 r.hi.to]] w fun e w'=>e=.returned (.tuple #[.agg #[.int .u8 r.top,.int .u32 id],.int .u8 0]) ∧
   ∃ W W1,Keeps w W∧Upd F W W1∧R W W1∧Upd (fun k=>w.heap.size≤k∧k<W.heap.size) W1 w':=by
 have HF:=Lib.hid hf
 have HL:=Lib.hid hlt
 clear hf hlt
 have n0:¬F w.heap.size:=fun h=>by have:=HL.out _ h;omega
 have n1:¬F (w.heap.size+1):=fun h=>by have:=HL.out _ h;omega
 go_enter Tryz.func231,Tryz.ntmps231
 go_wp2_with (go_at_call 64;refine(HF.out _ (by(exact kp))).mono ?_;rintro e w1 ⟨rfl,hu,hR⟩;have hsz:=hu.size;simp only [World.size_alloc] at hsz;have y1:=hu.cell (a:=⟨w.heap.size,1,none⟩) n0 (v:=.int .u8 r.top) (by simp);have z0:=hu.cell (a:=⟨w.heap.size+1,0,none⟩) n1 (v:=.int .u8 0) (by simp);have z1:=hu.cell (a:=⟨w.heap.size+1,1,none⟩) n1 (v:=.int .u32 0) (by simp);have zf:=fun o:Nat=>hu.frozen (a:=⟨w.heap.size+1,o,none⟩) (by simp) n1 (by simp);have hz1:w.heap.size+1<w1.heap.size:=(by omega);have hz0:w.heap.size<w1.heap.size:=(by omega))
 refine bodyPost_ret (v:=.tuple #[.agg #[.int .u8 r.top,.int .u32 id],.int .u8 0]) (by simp [results,Tryz.results231,go_sem,hz1,z0,z1]) rfl ⟨rfl,_,w1,?_,hu,hR,?_⟩
 ·(exact kp)
 ·(have hz2:(w.alloc (.cells #[.int .u8 r.form,.int .u8 r.top,.int .u8 r.bot,.int .u8 r.lo.tag,.int .u32 r.lo.to,.int .u8 r.hi.tag,.int .u32 r.hi.to] 125)).heap.size=w.heap.size+1:=by simp);(try simp only [World.size_alloc]);(repeat (first|with_reducible exact Upd.refl _ _|refine Upd.setCell ?_ (Or.inl (by dsimp only;omega)) _|with_reducible refine Upd.drewN ?_ _|with_reducible refine Upd.drew ?_|with_reducible refine Upd.alloc ?_ _))

theorem tfound_bad {F:Nat→Prop}(sb:Nat)(r:Rec)(id er:Int)(her:er≠0)(w:World)(hsb:sb<w.heap.size)(hlt:∀ k,F k→k<w.heap.size)(R:World→World→Prop)
  (hf:∀ W,Keeps w W→Calls Tryz.prog 64 #[.pointer (some ⟨sb,0,none⟩),.agg #[.int .u8 r.form,.int .u8 r.top,.int .u8 r.bot,.int .u8 r.lo.tag,.int .u32 r.lo.to,.int .u8 r.hi.tag,.int .u32 r.hi.to]] W fun e w'=>e=.returned (.tuple #[.int .u32 id,.int .u8 er])∧Upd F W w'∧R W w') :
  Calls Tryz.prog 231 #[.pointer (some ⟨sb,0,none⟩),.agg #[.int .u8 r.form,.int .u8 r.top,.int .u8 r.bot,.int .u8 r.lo.tag,.int .u32 r.lo.to,.int .u8 r.hi.tag,.int .u32 r.hi.to]] w fun e w'=>e=.returned (.tuple #[.agg #[.int .u8 0,.int .u32 0],.int .u8 er]) ∧
   ∃ W W1,Keeps w W∧Upd F W W1∧R W W1∧Upd (fun k=>w.heap.size≤k∧k<W.heap.size) W1 w':=by
 have HF:=Lib.hid hf
 have HL:=Lib.hid hlt
 clear hf hlt
 have n0:¬F w.heap.size:=fun h=>by have:=HL.out _ h;omega
 have n1:¬F (w.heap.size+1):=fun h=>by have:=HL.out _ h;omega
 go_enter Tryz.func231,Tryz.ntmps231
 go_wp2_with (go_at_call 64;refine(HF.out _ (by(exact kp))).mono ?_;rintro e w1 ⟨rfl,hu,hR⟩;have hsz:=hu.size;simp only [World.size_alloc] at hsz;have y1:=hu.cell (a:=⟨w.heap.size,1,none⟩) n0 (v:=.int .u8 r.top) (by simp);have z0:=hu.cell (a:=⟨w.heap.size+1,0,none⟩) n1 (v:=.int .u8 0) (by simp);have z1:=hu.cell (a:=⟨w.heap.size+1,1,none⟩) n1 (v:=.int .u32 0) (by simp);have zf:=fun o:Nat=>hu.frozen (a:=⟨w.heap.size+1,o,none⟩) (by simp) n1 (by simp);have hz1:w.heap.size+1<w1.heap.size:=(by omega);have hz0:w.heap.size<w1.heap.size:=(by omega))
 refine bodyPost_ret (v:=.tuple #[.agg #[.int .u8 0,.int .u32 0],.int .u8 er]) (by simp [results,Tryz.results231,go_sem,hz1,z0,z1]) rfl ⟨rfl,_,w1,?_,hu,hR,?_⟩
 ·(exact kp)
 ·(have hz2:(w.alloc (.cells #[.int .u8 r.form,.int .u8 r.top,.int .u8 r.bot,.int .u8 r.lo.tag,.int .u32 r.lo.to,.int .u8 r.hi.tag,.int .u32 r.hi.to] 125)).heap.size=w.heap.size+1:=by simp);(try simp only [World.size_alloc]);(repeat (first|with_reducible exact Upd.refl _ _|refine Upd.setCell ?_ (Or.inl (by dsimp only;omega)) _|with_reducible refine Upd.drewN ?_ _|with_reducible refine Upd.drew ?_|with_reducible refine Upd.alloc ?_ _))

theorem cfound_ok {F:Nat→Prop}(sb:Nat)(r:Rec)(id:Int)(w:World)(hsb:sb<w.heap.size)(hlt:∀ k,F k→k<w.heap.size)(R:World→World→Prop)
  (hf:∀ W,Keeps w W→Calls Tryz.prog 64 #[.pointer (some ⟨sb,0,none⟩),.agg #[.int .u8 r.form,.int .u8 r.top,.int .u8 r.bot,.int .u8 r.lo.tag,.int .u32 r.lo.to,.int .u8 r.hi.tag,.int .u32 r.hi.to]] W fun e w'=>e=.returned (.tuple #[.int .u32 id,.int .u8 0])∧Upd F W w'∧R W w') :
  Calls Tryz.prog 229 #[.pointer (some ⟨sb,0,none⟩),.agg #[.int .u8 r.form,.int .u8 r.top,.int .u8 r.bot,.int .u8 r.lo.tag,.int .u32 r.lo.to,.int .u8 r.hi.tag,.int .u32 r.hi.to]] w fun e w'=>e=.returned (.tuple #[.agg #[.int .u8 0,.int .u32 id],.int .u8 0]) ∧
   ∃ W W1,Keeps w W∧Upd F W W1∧R W W1∧Upd (fun k=>w.heap.size≤k∧k<W.heap.size) W1 w':=by
 have HF:=Lib.hid hf
 have HL:=Lib.hid hlt
 clear hf hlt
 have n0:¬F w.heap.size:=fun h=>by have:=HL.out _ h;omega
 have n1:¬F (w.heap.size+1):=fun h=>by have:=HL.out _ h;omega
 go_enter Tryz.func229,Tryz.ntmps229
 go_wp2_with (go_at_call 64;refine(HF.out _ (by(exact kp))).mono ?_;rintro e w1 ⟨rfl,hu,hR⟩;have hsz:=hu.size;simp only [World.size_alloc] at hsz;have y1:=hu.cell (a:=⟨w.heap.size,1,none⟩) n0 (v:=.int .u8 r.top) (by simp);have z0:=hu.cell (a:=⟨w.heap.size+1,0,none⟩) n1 (v:=.int .u8 0) (by simp);have z1:=hu.cell (a:=⟨w.heap.size+1,1,none⟩) n1 (v:=.int .u32 0) (by simp);have zf:=fun o:Nat=>hu.frozen (a:=⟨w.heap.size+1,o,none⟩) (by simp) n1 (by simp);have hz1:w.heap.size+1<w1.heap.size:=(by omega);have hz0:w.heap.size<w1.heap.size:=(by omega))
 refine bodyPost_ret (v:=.tuple #[.agg #[.int .u8 0,.int .u32 id],.int .u8 0]) (by simp [results,Tryz.results229,go_sem,hz1,z0,z1]) rfl ⟨rfl,_,w1,?_,hu,hR,?_⟩
 ·(exact kp)
 ·(have hz2:(w.alloc (.cells #[.int .u8 r.form,.int .u8 r.top,.int .u8 r.bot,.int .u8 r.lo.tag,.int .u32 r.lo.to,.int .u8 r.hi.tag,.int .u32 r.hi.to] 125)).heap.size=w.heap.size+1:=by simp);(try simp only [World.size_alloc]);(repeat (first|with_reducible exact Upd.refl _ _|refine Upd.setCell ?_ (Or.inl (by dsimp only;omega)) _|with_reducible refine Upd.drewN ?_ _|with_reducible refine Upd.drew ?_|with_reducible refine Upd.alloc ?_ _))

theorem cfound_bad {F:Nat→Prop}(sb:Nat)(r:Rec)(id er:Int)(her:er≠0)(w:World)(hsb:sb<w.heap.size)(hlt:∀ k,F k→k<w.heap.size)(R:World→World→Prop)
  (hf:∀ W,Keeps w W→Calls Tryz.prog 64 #[.pointer (some ⟨sb,0,none⟩),.agg #[.int .u8 r.form,.int .u8 r.top,.int .u8 r.bot,.int .u8 r.lo.tag,.int .u32 r.lo.to,.int .u8 r.hi.tag,.int .u32 r.hi.to]] W fun e w'=>e=.returned (.tuple #[.int .u32 id,.int .u8 er])∧Upd F W w'∧R W w') :
  Calls Tryz.prog 229 #[.pointer (some ⟨sb,0,none⟩),.agg #[.int .u8 r.form,.int .u8 r.top,.int .u8 r.bot,.int .u8 r.lo.tag,.int .u32 r.lo.to,.int .u8 r.hi.tag,.int .u32 r.hi.to]] w fun e w'=>e=.returned (.tuple #[.agg #[.int .u8 0,.int .u32 0],.int .u8 er]) ∧
   ∃ W W1,Keeps w W∧Upd F W W1∧R W W1∧Upd (fun k=>w.heap.size≤k∧k<W.heap.size) W1 w':=by
 have HF:=Lib.hid hf
 have HL:=Lib.hid hlt
 clear hf hlt
 have n0:¬F w.heap.size:=fun h=>by have:=HL.out _ h;omega
 have n1:¬F (w.heap.size+1):=fun h=>by have:=HL.out _ h;omega
 go_enter Tryz.func229,Tryz.ntmps229
 go_wp2_with (go_at_call 64;refine(HF.out _ (by(exact kp))).mono ?_;rintro e w1 ⟨rfl,hu,hR⟩;have hsz:=hu.size;simp only [World.size_alloc] at hsz;have y1:=hu.cell (a:=⟨w.heap.size,1,none⟩) n0 (v:=.int .u8 r.top) (by simp);have z0:=hu.cell (a:=⟨w.heap.size+1,0,none⟩) n1 (v:=.int .u8 0) (by simp);have z1:=hu.cell (a:=⟨w.heap.size+1,1,none⟩) n1 (v:=.int .u32 0) (by simp);have zf:=fun o:Nat=>hu.frozen (a:=⟨w.heap.size+1,o,none⟩) (by simp) n1 (by simp);have hz1:w.heap.size+1<w1.heap.size:=(by omega);have hz0:w.heap.size<w1.heap.size:=(by omega))
 refine bodyPost_ret (v:=.tuple #[.agg #[.int .u8 0,.int .u32 0],.int .u8 er]) (by simp [results,Tryz.results229,go_sem,hz1,z0,z1]) rfl ⟨rfl,_,w1,?_,hu,hR,?_⟩
 ·(exact kp)
 ·(have hz2:(w.alloc (.cells #[.int .u8 r.form,.int .u8 r.top,.int .u8 r.bot,.int .u8 r.lo.tag,.int .u32 r.lo.to,.int .u8 r.hi.tag,.int .u32 r.hi.to] 125)).heap.size=w.heap.size+1:=by simp);(try simp only [World.size_alloc]);(repeat (first|with_reducible exact Upd.refl _ _|refine Upd.setCell ?_ (Or.inl (by dsimp only;omega)) _|with_reducible refine Upd.drewN ?_ _|with_reducible refine Upd.drew ?_|with_reducible refine Upd.alloc ?_ _))

theorem zfound_ok {F:Nat→Prop}(sb:Nat)(r:Rec)(id:Int)(w:World)(hsb:sb<w.heap.size)(hlt:∀ k,F k→k<w.heap.size)(R:World→World→Prop)
  (hf:∀ W,Keeps w W→Calls Tryz.prog 64 #[.pointer (some ⟨sb,0,none⟩),.agg #[.int .u8 r.form,.int .u8 r.top,.int .u8 r.bot,.int .u8 r.lo.tag,.int .u32 r.lo.to,.int .u8 r.hi.tag,.int .u32 r.hi.to]] W fun e w'=>e=.returned (.tuple #[.int .u32 id,.int .u8 0])∧Upd F W w'∧R W w') :
  Calls Tryz.prog 230 #[.pointer (some ⟨sb,0,none⟩),.agg #[.int .u8 r.form,.int .u8 r.top,.int .u8 r.bot,.int .u8 r.lo.tag,.int .u32 r.lo.to,.int .u8 r.hi.tag,.int .u32 r.hi.to]] w fun e w'=>e=.returned (.tuple #[.agg #[.int .u8 0,.int .u32 id],.int .u8 0]) ∧
   ∃ W W1,Keeps w W∧Upd F W W1∧R W W1∧Upd (fun k=>w.heap.size≤k∧k<W.heap.size) W1 w':=by
 have HF:=Lib.hid hf
 have HL:=Lib.hid hlt
 clear hf hlt
 have n0:¬F w.heap.size:=fun h=>by have:=HL.out _ h;omega
 have n1:¬F (w.heap.size+1):=fun h=>by have:=HL.out _ h;omega
 go_enter Tryz.func230,Tryz.ntmps230
 go_wp2_with (go_at_call 64;refine(HF.out _ (by(exact kp))).mono ?_;rintro e w1 ⟨rfl,hu,hR⟩;have hsz:=hu.size;simp only [World.size_alloc] at hsz;have y1:=hu.cell (a:=⟨w.heap.size,1,none⟩) n0 (v:=.int .u8 r.top) (by simp);have z0:=hu.cell (a:=⟨w.heap.size+1,0,none⟩) n1 (v:=.int .u8 0) (by simp);have z1:=hu.cell (a:=⟨w.heap.size+1,1,none⟩) n1 (v:=.int .u32 0) (by simp);have zf:=fun o:Nat=>hu.frozen (a:=⟨w.heap.size+1,o,none⟩) (by simp) n1 (by simp);have hz1:w.heap.size+1<w1.heap.size:=(by omega);have hz0:w.heap.size<w1.heap.size:=(by omega))
 refine bodyPost_ret (v:=.tuple #[.agg #[.int .u8 0,.int .u32 id],.int .u8 0]) (by simp [results,Tryz.results230,go_sem,hz1,z0,z1]) rfl ⟨rfl,_,w1,?_,hu,hR,?_⟩
 ·(exact kp)
 ·(have hz2:(w.alloc (.cells #[.int .u8 r.form,.int .u8 r.top,.int .u8 r.bot,.int .u8 r.lo.tag,.int .u32 r.lo.to,.int .u8 r.hi.tag,.int .u32 r.hi.to] 125)).heap.size=w.heap.size+1:=by simp);(try simp only [World.size_alloc]);(repeat (first|with_reducible exact Upd.refl _ _|refine Upd.setCell ?_ (Or.inl (by dsimp only;omega)) _|with_reducible refine Upd.drewN ?_ _|with_reducible refine Upd.drew ?_|with_reducible refine Upd.alloc ?_ _))

theorem zfound_bad {F:Nat→Prop}(sb:Nat)(r:Rec)(id er:Int)(her:er≠0)(w:World)(hsb:sb<w.heap.size)(hlt:∀ k,F k→k<w.heap.size)(R:World→World→Prop)
  (hf:∀ W,Keeps w W→Calls Tryz.prog 64 #[.pointer (some ⟨sb,0,none⟩),.agg #[.int .u8 r.form,.int .u8 r.top,.int .u8 r.bot,.int .u8 r.lo.tag,.int .u32 r.lo.to,.int .u8 r.hi.tag,.int .u32 r.hi.to]] W fun e w'=>e=.returned (.tuple #[.int .u32 id,.int .u8 er])∧Upd F W w'∧R W w') :
  Calls Tryz.prog 230 #[.pointer (some ⟨sb,0,none⟩),.agg #[.int .u8 r.form,.int .u8 r.top,.int .u8 r.bot,.int .u8 r.lo.tag,.int .u32 r.lo.to,.int .u8 r.hi.tag,.int .u32 r.hi.to]] w fun e w'=>e=.returned (.tuple #[.agg #[.int .u8 0,.int .u32 0],.int .u8 er]) ∧
   ∃ W W1,Keeps w W∧Upd F W W1∧R W W1∧Upd (fun k=>w.heap.size≤k∧k<W.heap.size) W1 w':=by
 have HF:=Lib.hid hf
 have HL:=Lib.hid hlt
 clear hf hlt
 have n0:¬F w.heap.size:=fun h=>by have:=HL.out _ h;omega
 have n1:¬F (w.heap.size+1):=fun h=>by have:=HL.out _ h;omega
 go_enter Tryz.func230,Tryz.ntmps230
 go_wp2_with (go_at_call 64;refine(HF.out _ (by(exact kp))).mono ?_;rintro e w1 ⟨rfl,hu,hR⟩;have hsz:=hu.size;simp only [World.size_alloc] at hsz;have y1:=hu.cell (a:=⟨w.heap.size,1,none⟩) n0 (v:=.int .u8 r.top) (by simp);have z0:=hu.cell (a:=⟨w.heap.size+1,0,none⟩) n1 (v:=.int .u8 0) (by simp);have z1:=hu.cell (a:=⟨w.heap.size+1,1,none⟩) n1 (v:=.int .u32 0) (by simp);have zf:=fun o:Nat=>hu.frozen (a:=⟨w.heap.size+1,o,none⟩) (by simp) n1 (by simp);have hz1:w.heap.size+1<w1.heap.size:=(by omega);have hz0:w.heap.size<w1.heap.size:=(by omega))
 refine bodyPost_ret (v:=.tuple #[.agg #[.int .u8 0,.int .u32 0],.int .u8 er]) (by simp [results,Tryz.results230,go_sem,hz1,z0,z1]) rfl ⟨rfl,_,w1,?_,hu,hR,?_⟩
 ·(exact kp)
 ·(have hz2:(w.alloc (.cells #[.int .u8 r.form,.int .u8 r.top,.int .u8 r.bot,.int .u8 r.lo.tag,.int .u32 r.lo.to,.int .u8 r.hi.tag,.int .u32 r.hi.to] 125)).heap.size=w.heap.size+1:=by simp);(try simp only [World.size_alloc]);(repeat (first|with_reducible exact Upd.refl _ _|refine Upd.setCell ?_ (Or.inl (by dsimp only;omega)) _|with_reducible refine Upd.drewN ?_ _|with_reducible refine Upd.drew ?_|with_reducible refine Upd.alloc ?_ _))

theorem bfound_ok {F:Nat→Prop}(sb:Nat)(r:Rec)(id:Int)(w:World)(hsb:sb<w.heap.size)(hlt:∀ k,F k→k<w.heap.size)(R:World→World→Prop)
  (hf:∀ W,Keeps w W→Calls Tryz.prog 64 #[.pointer (some ⟨sb,0,none⟩),.agg #[.int .u8 r.form,.int .u8 r.top,.int .u8 r.bot,.int .u8 r.lo.tag,.int .u32 r.lo.to,.int .u8 r.hi.tag,.int .u32 r.hi.to]] W fun e w'=>e=.returned (.tuple #[.int .u32 id,.int .u8 0])∧Upd F W w'∧R W w') :
  Calls Tryz.prog 227 #[.pointer (some ⟨sb,0,none⟩),.agg #[.int .u8 r.form,.int .u8 r.top,.int .u8 r.bot,.int .u8 r.lo.tag,.int .u32 r.lo.to,.int .u8 r.hi.tag,.int .u32 r.hi.to]] w fun e w'=>e=.returned (.tuple #[.agg #[.int .u8 0,.int .u32 id],.int .u8 0]) ∧
   ∃ W W1,Keeps w W∧Upd F W W1∧R W W1∧Upd (fun k=>w.heap.size≤k∧k<W.heap.size) W1 w':=by
 have HF:=Lib.hid hf
 have HL:=Lib.hid hlt
 clear hf hlt
 have n0:¬F w.heap.size:=fun h=>by have:=HL.out _ h;omega
 have n1:¬F (w.heap.size+1):=fun h=>by have:=HL.out _ h;omega
 go_enter Tryz.func227,Tryz.ntmps227
 go_wp2_with (go_at_call 64;refine(HF.out _ (by(exact kp))).mono ?_;rintro e w1 ⟨rfl,hu,hR⟩;have hsz:=hu.size;simp only [World.size_alloc] at hsz;have y1:=hu.cell (a:=⟨w.heap.size,1,none⟩) n0 (v:=.int .u8 r.top) (by simp);have z0:=hu.cell (a:=⟨w.heap.size+1,0,none⟩) n1 (v:=.int .u8 0) (by simp);have z1:=hu.cell (a:=⟨w.heap.size+1,1,none⟩) n1 (v:=.int .u32 0) (by simp);have zf:=fun o:Nat=>hu.frozen (a:=⟨w.heap.size+1,o,none⟩) (by simp) n1 (by simp);have hz1:w.heap.size+1<w1.heap.size:=(by omega);have hz0:w.heap.size<w1.heap.size:=(by omega))
 refine bodyPost_ret (v:=.tuple #[.agg #[.int .u8 0,.int .u32 id],.int .u8 0]) (by simp [results,Tryz.results227,go_sem,hz1,z0,z1]) rfl ⟨rfl,_,w1,?_,hu,hR,?_⟩
 ·(exact kp)
 ·(have hz2:(w.alloc (.cells #[.int .u8 r.form,.int .u8 r.top,.int .u8 r.bot,.int .u8 r.lo.tag,.int .u32 r.lo.to,.int .u8 r.hi.tag,.int .u32 r.hi.to] 125)).heap.size=w.heap.size+1:=by simp);(try simp only [World.size_alloc]);(repeat (first|with_reducible exact Upd.refl _ _|refine Upd.setCell ?_ (Or.inl (by dsimp only;omega)) _|with_reducible refine Upd.drewN ?_ _|with_reducible refine Upd.drew ?_|with_reducible refine Upd.alloc ?_ _))

theorem bfound_bad {F:Nat→Prop}(sb:Nat)(r:Rec)(id er:Int)(her:er≠0)(w:World)(hsb:sb<w.heap.size)(hlt:∀ k,F k→k<w.heap.size)(R:World→World→Prop)
  (hf:∀ W,Keeps w W→Calls Tryz.prog 64 #[.pointer (some ⟨sb,0,none⟩),.agg #[.int .u8 r.form,.int .u8 r.top,.int .u8 r.bot,.int .u8 r.lo.tag,.int .u32 r.lo.to,.int .u8 r.hi.tag,.int .u32 r.hi.to]] W fun e w'=>e=.returned (.tuple #[.int .u32 id,.int .u8 er])∧Upd F W w'∧R W w') :
  Calls Tryz.prog 227 #[.pointer (some ⟨sb,0,none⟩),.agg #[.int .u8 r.form,.int .u8 r.top,.int .u8 r.bot,.int .u8 r.lo.tag,.int .u32 r.lo.to,.int .u8 r.hi.tag,.int .u32 r.hi.to]] w fun e w'=>e=.returned (.tuple #[.agg #[.int .u8 0,.int .u32 0],.int .u8 er]) ∧
   ∃ W W1,Keeps w W∧Upd F W W1∧R W W1∧Upd (fun k=>w.heap.size≤k∧k<W.heap.size) W1 w':=by
 have HF:=Lib.hid hf
 have HL:=Lib.hid hlt
 clear hf hlt
 have n0:¬F w.heap.size:=fun h=>by have:=HL.out _ h;omega
 have n1:¬F (w.heap.size+1):=fun h=>by have:=HL.out _ h;omega
 go_enter Tryz.func227,Tryz.ntmps227
 go_wp2_with (go_at_call 64;refine(HF.out _ (by(exact kp))).mono ?_;rintro e w1 ⟨rfl,hu,hR⟩;have hsz:=hu.size;simp only [World.size_alloc] at hsz;have y1:=hu.cell (a:=⟨w.heap.size,1,none⟩) n0 (v:=.int .u8 r.top) (by simp);have z0:=hu.cell (a:=⟨w.heap.size+1,0,none⟩) n1 (v:=.int .u8 0) (by simp);have z1:=hu.cell (a:=⟨w.heap.size+1,1,none⟩) n1 (v:=.int .u32 0) (by simp);have zf:=fun o:Nat=>hu.frozen (a:=⟨w.heap.size+1,o,none⟩) (by simp) n1 (by simp);have hz1:w.heap.size+1<w1.heap.size:=(by omega);have hz0:w.heap.size<w1.heap.size:=(by omega))
 refine bodyPost_ret (v:=.tuple #[.agg #[.int .u8 0,.int .u32 0],.int .u8 er]) (by simp [results,Tryz.results227,go_sem,hz1,z0,z1]) rfl ⟨rfl,_,w1,?_,hu,hR,?_⟩
 ·(exact kp)
 ·(have hz2:(w.alloc (.cells #[.int .u8 r.form,.int .u8 r.top,.int .u8 r.bot,.int .u8 r.lo.tag,.int .u32 r.lo.to,.int .u8 r.hi.tag,.int .u32 r.hi.to] 125)).heap.size=w.heap.size+1:=by simp);(try simp only [World.size_alloc]);(repeat (first|with_reducible exact Upd.refl _ _|refine Upd.setCell ?_ (Or.inl (by dsimp only;omega)) _|with_reducible refine Upd.drewN ?_ _|with_reducible refine Upd.drew ?_|with_reducible refine Upd.alloc ?_ _))

theorem yfound_ok {F:Nat→Prop}(sb:Nat)(r:Rec)(id:Int)(w:World)(hsb:sb<w.heap.size)(hlt:∀ k,F k→k<w.heap.size)(R:World→World→Prop)
  (hf:∀ W,Keeps w W→Calls Tryz.prog 64 #[.pointer (some ⟨sb,0,none⟩),.agg #[.int .u8 r.form,.int .u8 r.top,.int .u8 r.bot,.int .u8 r.lo.tag,.int .u32 r.lo.to,.int .u8 r.hi.tag,.int .u32 r.hi.to]] W fun e w'=>e=.returned (.tuple #[.int .u32 id,.int .u8 0])∧Upd F W w'∧R W w') :
  Calls Tryz.prog 228 #[.pointer (some ⟨sb,0,none⟩),.agg #[.int .u8 r.form,.int .u8 r.top,.int .u8 r.bot,.int .u8 r.lo.tag,.int .u32 r.lo.to,.int .u8 r.hi.tag,.int .u32 r.hi.to]] w fun e w'=>e=.returned (.tuple #[.agg #[.int .u8 0,.int .u32 id],.int .u8 0]) ∧
   ∃ W W1,Keeps w W∧Upd F W W1∧R W W1∧Upd (fun k=>w.heap.size≤k∧k<W.heap.size) W1 w':=by
 have HF:=Lib.hid hf
 have HL:=Lib.hid hlt
 clear hf hlt
 have n0:¬F w.heap.size:=fun h=>by have:=HL.out _ h;omega
 have n1:¬F (w.heap.size+1):=fun h=>by have:=HL.out _ h;omega
 go_enter Tryz.func228,Tryz.ntmps228
 go_wp2_with (go_at_call 64;refine(HF.out _ (by(exact kp))).mono ?_;rintro e w1 ⟨rfl,hu,hR⟩;have hsz:=hu.size;simp only [World.size_alloc] at hsz;have y1:=hu.cell (a:=⟨w.heap.size,1,none⟩) n0 (v:=.int .u8 r.top) (by simp);have z0:=hu.cell (a:=⟨w.heap.size+1,0,none⟩) n1 (v:=.int .u8 0) (by simp);have z1:=hu.cell (a:=⟨w.heap.size+1,1,none⟩) n1 (v:=.int .u32 0) (by simp);have zf:=fun o:Nat=>hu.frozen (a:=⟨w.heap.size+1,o,none⟩) (by simp) n1 (by simp);have hz1:w.heap.size+1<w1.heap.size:=(by omega);have hz0:w.heap.size<w1.heap.size:=(by omega))
 refine bodyPost_ret (v:=.tuple #[.agg #[.int .u8 0,.int .u32 id],.int .u8 0]) (by simp [results,Tryz.results228,go_sem,hz1,z0,z1]) rfl ⟨rfl,_,w1,?_,hu,hR,?_⟩
 ·(exact kp)
 ·(have hz2:(w.alloc (.cells #[.int .u8 r.form,.int .u8 r.top,.int .u8 r.bot,.int .u8 r.lo.tag,.int .u32 r.lo.to,.int .u8 r.hi.tag,.int .u32 r.hi.to] 125)).heap.size=w.heap.size+1:=by simp);(try simp only [World.size_alloc]);(repeat (first|with_reducible exact Upd.refl _ _|refine Upd.setCell ?_ (Or.inl (by dsimp only;omega)) _|with_reducible refine Upd.drewN ?_ _|with_reducible refine Upd.drew ?_|with_reducible refine Upd.alloc ?_ _))

theorem yfound_bad {F:Nat→Prop}(sb:Nat)(r:Rec)(id er:Int)(her:er≠0)(w:World)(hsb:sb<w.heap.size)(hlt:∀ k,F k→k<w.heap.size)(R:World→World→Prop)
  (hf:∀ W,Keeps w W→Calls Tryz.prog 64 #[.pointer (some ⟨sb,0,none⟩),.agg #[.int .u8 r.form,.int .u8 r.top,.int .u8 r.bot,.int .u8 r.lo.tag,.int .u32 r.lo.to,.int .u8 r.hi.tag,.int .u32 r.hi.to]] W fun e w'=>e=.returned (.tuple #[.int .u32 id,.int .u8 er])∧Upd F W w'∧R W w') :
  Calls Tryz.prog 228 #[.pointer (some ⟨sb,0,none⟩),.agg #[.int .u8 r.form,.int .u8 r.top,.int .u8 r.bot,.int .u8 r.lo.tag,.int .u32 r.lo.to,.int .u8 r.hi.tag,.int .u32 r.hi.to]] w fun e w'=>e=.returned (.tuple #[.agg #[.int .u8 0,.int .u32 0],.int .u8 er]) ∧
   ∃ W W1,Keeps w W∧Upd F W W1∧R W W1∧Upd (fun k=>w.heap.size≤k∧k<W.heap.size) W1 w':=by
 have HF:=Lib.hid hf
 have HL:=Lib.hid hlt
 clear hf hlt
 have n0:¬F w.heap.size:=fun h=>by have:=HL.out _ h;omega
 have n1:¬F (w.heap.size+1):=fun h=>by have:=HL.out _ h;omega
 go_enter Tryz.func228,Tryz.ntmps228
 go_wp2_with (go_at_call 64;refine(HF.out _ (by(exact kp))).mono ?_;rintro e w1 ⟨rfl,hu,hR⟩;have hsz:=hu.size;simp only [World.size_alloc] at hsz;have y1:=hu.cell (a:=⟨w.heap.size,1,none⟩) n0 (v:=.int .u8 r.top) (by simp);have z0:=hu.cell (a:=⟨w.heap.size+1,0,none⟩) n1 (v:=.int .u8 0) (by simp);have z1:=hu.cell (a:=⟨w.heap.size+1,1,none⟩) n1 (v:=.int .u32 0) (by simp);have zf:=fun o:Nat=>hu.frozen (a:=⟨w.heap.size+1,o,none⟩) (by simp) n1 (by simp);have hz1:w.heap.size+1<w1.heap.size:=(by omega);have hz0:w.heap.size<w1.heap.size:=(by omega))
 refine bodyPost_ret (v:=.tuple #[.agg #[.int .u8 0,.int .u32 0],.int .u8 er]) (by simp [results,Tryz.results228,go_sem,hz1,z0,z1]) rfl ⟨rfl,_,w1,?_,hu,hR,?_⟩
 ·(exact kp)
 ·(have hz2:(w.alloc (.cells #[.int .u8 r.form,.int .u8 r.top,.int .u8 r.bot,.int .u8 r.lo.tag,.int .u32 r.lo.to,.int .u8 r.hi.tag,.int .u32 r.hi.to] 125)).heap.size=w.heap.size+1:=by simp);(try simp only [World.size_alloc]);(repeat (first|with_reducible exact Upd.refl _ _|refine Upd.setCell ?_ (Or.inl (by dsimp only;omega)) _|with_reducible refine Upd.drewN ?_ _|with_reducible refine Upd.drew ?_|with_reducible refine Upd.alloc ?_ _))

end Go.Proofs.YtpgcbmbnognieaaGreat
