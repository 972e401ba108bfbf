/-
  The walk of ramageref12.Parts.
-/
import Derived.Test.YtafkamlhimkbmaaGreatPSoundP
namespace Go.Proofs.YtafkamlhimkbmaaGreat
set_option maxRecDepth 1000000
set_option maxHeartbeats 8000000
set_option linter.unusedSimpArgs false
set_option linter.unusedVariables false
open Go.RowKit

def cE:List UInt8→Nat→Nat
 |[],_=>0
 |_::_,0=>0
 |b::u,d+1=>1+cE u (if b=40 then d+2 else if b=41 then d else d+1)

theorem zO:∀(u:List UInt8) (d:Nat),cE u d≤u.length:=by
 intro u;induction u with
 |nil=>intro d;exact Nat.le_refl _
 |cons b u j=>
  intro d;cases d with
  |zero=>exact Nat.zero_le _
  |succ d=>have:=j (if b=40 then d+2 else if b=41 then d else d+1);simp only[cE,List.length_cons];omega

theorem qU (u:List UInt8):cE u 0=0:=by cases u<;>rfl

def fy (l:List UInt8)(i:Nat):Nat:=i+1+cE (l.drop (i+1)) 1

def bd (j:ByteArray):Nat→List ByteArray
 |0=>[]
 |i+1=>if j.data.toList[i]?=some 40 then(if(bd j i).any (fun q=>q.toList==(j.extract i (fy j.data.toList i)).toList)then bd j i else bd j i++[j.extract i (fy j.data.toList i)])else bd j i

theorem m7 (j:ByteArray)(i:Nat):(bd j i).length≤i:=by
 induction i with
 |zero=>exact Nat.le_refl _
 |succ i j=>
  unfold bd;split
  ·split;·omega
   ·rw[List.length_append];simp;omega
  ·omega

theorem uc (j:ByteArray){k:Nat}(h:k<j.size):j.data.toList.drop k=j[k]::j.data.toList.drop (k+1):=by
 have q:k<j.data.toList.length:=by simpa using h
 rw[List.drop_eq_getElem_cons q];rfl

theorem oT (j:ByteArray){k:Nat}(h:k<j.size):j.data.toList[k]?=some j[k]:=by
 have q:k<j.data.toList.length:=by simpa using h
 rw[List.getElem?_eq_getElem q];rfl

theorem oU (b:UInt8)(n:Nat)(j:n<256):((b.toNat:Int)=(n:Int))↔b=UInt8.ofNat n:=by
 constructor
 ·intro h;have:b.toNat=n:=by omega
  rw[←this,UInt8.ofNat_toNat]
 ·intro h;rw[h,UInt8.toNat_ofNat'];omega

theorem uY (j:ByteArray){i:Nat}(h:i<j.size):i+1≤fy j.data.toList i∧fy j.data.toList i≤j.size:=by
 have:=zO (j.data.toList.drop (i+1)) 1;rw[List.length_drop]at this;have q:j.data.toList.length=j.size:=by simp
 unfold fy;omega

theorem pJ:(Tryz.prog.info? 9).map (fun i=>(i.zero,i.size,i.bytes))=some (some (.string ByteArray.empty),1,16):=by kernel_rfl

theorem yA (j:ByteArray)(w:World)(b3:j.size≤1048576) :
  Calls Tryz.prog 113 #[.string j] w fun e w'=>∃a cap,e=.returned (.slice a (bd j j.size).length cap)∧w'.ownsRow w.heap.size 9 1 (.slice a (bd j j.size).length cap) (bd j j.size).length ((bd j j.size).map Value.string)∧aa w w':=by
 obtain⟨b8,hi,b5,b6,b7⟩:=info_parts pJ
 go_enter Tryz.func113,Tryz.ntmps113
 go_wp2_with fail
 go_loopg [3,4] j.size (fun gk b3 cn wr=>∃i:Nat,i+gk=j.size∧cn=.int .i64 (i:Int)∧wr.ownsRow w.heap.size 9 1 b3 (bd j i).length ((bd j i).map Value.string)∧aa w wr)
 case atStart=>exact⟨0,by omega,rfl,World.ownsRow_nil _ _ _ _,aa.refl _⟩
 case round=>
  obtain⟨i,cv,rfl,ad,A⟩:=hrel;obtain⟨X,a',rfl,b3⟩:=eO ad;have av:=Lib.hid ad;have bb:=Lib.hid A;have ci:=m7 j i;clear ad A b3;by_cases bq:i<j.size
  ·obtain⟨K,E⟩:∃K,K=j[i]:=⟨_,rfl⟩;by_cases t:K=40
   ·have ce:((j[i].toNat:Int) != 40)=false:=by rw[←E,t];rfl
    have am:bd j (i+1)=if(bd j i).any (fun s=>s.toList==(j.extract i (fy j.data.toList i)).toList)then bd j i else bd j i++[j.extract i (fy j.data.toList i)]:=by
     show(if j.data.toList[i]?=some 40 then _ else _)=_;rw[oT j bq,←E,t,if_pos rfl]
    obtain⟨cb,cd⟩:=uY j bq;obtain⟨ps,bs⟩:∃ps,ps=bd j i:=⟨_,rfl⟩;obtain⟨Y,be⟩:∃Y,Y=fy j.data.toList i:=⟨_,rfl⟩;have b3:i+1+cE (j.data.toList.drop (i+1)) 1=Y:=be.symm;rw[←bs,←be]at am;rw[←be]at cb cd;rw[←bs]at av ci ⊢;have O:=Lib.hid am;have b9:=Lib.hid b3;clear am b3 E t bs be;go_wp2_with fail
    obtain⟨bg,rfl⟩:∃bg,bg=wr:=⟨wr,rfl⟩;obtain⟨Z,be⟩:∃Z,Z=gk:=⟨gk,rfl⟩;go_loopg [5,6] (j.size-(i+1)) (fun a3 be bs ws=>∃d k:Nat,be=.int .i64 (d:Int)∧bs=.int .i64 (k:Int)∧k+a3=j.size∧k+cE (j.data.toList.drop k) d=Y∧d≤k∧ws=bg)
    case atStart=>exact⟨1,i+1,rfl,by go_num,by omega,b9.out,by omega,rfl⟩
    case round=>
     obtain⟨d,k,rfl,rfl,cx,z,cq,rfl⟩:=hrel;have be:j.data.toList.length=j.size:=(by simp);rcases Nat.lt_or_ge k j.size with b1|b1
     ·rcases Nat.eq_zero_or_pos d with b2|b2
      ·subst b2;rw[qU]at z;obtain rfl:k=Y:=(by omega);clear z;go_wp2_with fail
       obtain⟨U,rfl⟩:∃U,U=wr:=⟨wr,rfl⟩;obtain⟨a1,cf⟩:∃a1,a1=gk:=⟨gk,rfl⟩;go_loopg [7,8] ps.length (fun a3 bw bx ws=>∃q:Nat,q+a3=ps.length∧bw=.bool ((ps.take q).any (fun s=>s.toList==(j.extract i k).toList))∧bx=.int .i64 (q:Int)∧aa U ws)
       case atStart=>exact⟨0,by omega,rfl,rfl,aa.refl _⟩
       case round=>
        obtain⟨q,ch,rfl,rfl,a6⟩:=hrel;have J:=Lib.hid (a6.br av.out);have S:=Lib.hid (bb.out.trans a6);by_cases bp:q<ps.length
        ·obtain⟨x,W⟩:∃x,ps[q]?=some x:=⟨_,List.getElem?_eq_getElem bp⟩
         obtain⟨g,rfl,cg⟩:∃g,X=some ⟨g,0,none⟩∧wr.cell? ⟨g,q,none⟩=some (.string x):=by
          rcases J.out.2 with⟨I,cl⟩|⟨a2,cap2,bi,I,bn,_⟩
          ·omega
          ·cases I;refine⟨a2,rfl,?_⟩;rw[J.out.cellAt q (by omega)];simp[W]
         have a8:(ps.take (q+1)).any (fun s=>s.toList==(j.extract i k).toList)=((ps.take q).any (fun s=>s.toList==(j.extract i k).toList)||(x.toList==(j.extract i k).toList)):=by
          rw[List.take_add_one,W,List.any_append];simp
         have T:=Lib.hid a8;clear a8 W;obtain⟨b,t⟩:∃b,b=(ps.take q).any (fun s=>s.toList==(j.extract i k).toList):=⟨_,rfl⟩;rw[←t]at T ⊢;clear t;cases b
         ·go_wp2_with fail
          go_quiet (fail)
          go_wp2
          go_roundg (gk-1)
          case rel=>exact⟨q+1,by omega,by rw[T.out];rfl,by go_num,by(exact kp)⟩
          case measure=>omega
         ·go_wp2_with fail
          go_quiet (fail)
          go_wp2
          go_roundg (gk-1)
          case rel=>exact⟨q+1,by omega,by rw[T.out];rfl,by go_num,by(exact kp)⟩
          case measure=>omega
        ·have a4:ps.take q=ps:=List.take_of_length_le (by omega);rw[a4];obtain⟨b,t⟩:∃b,b=ps.any (fun s=>s.toList==(j.extract i k).toList):=⟨_,rfl⟩;rw[←t]at O ⊢;clear t a4;have bt:ps.length+1≤maxLen:=(by unfold maxLen;omega);have bv:(ps.length+1)*16≤140737488355328:=(by omega);have cj:=S.out.size;cases b
         ·go_wp2_with (first
           |(at_builtin;refine wpList_append_own _ rfl _ _ 126 rfl w.heap.size 9 b8 (.string ByteArray.empty) 1 16 Tryz.underlying126 hi b5 b6 b7 rfl (by decide) (.slice X ps.length a') ps.length (ps.map Value.string) rfl (J.out.alloc _) ⟨wr.heap.size,0,none⟩ 1 1 [.string (j.extract i k)] rfl rfl (ez _ _ _ _ rfl) (by simp[Value.oneCell']) (by exact bt) (by exact bv) (by simp;omega) ?_;intro co cp br L _)
           |fail)
          go_roundg (Z-1)
          case rel=>
           refine⟨i+1,by omega,by go_num,?_,?_⟩
           ·rw[O.out,if_neg (by decide),List.length_append,List.map_append];exact br
           ·refine aa.new (F:=fun k=>Value.ownBlock (.slice X ps.length a')=some k) (S.out.alloc _) ⟨L.os,L.tape,L.output,L.size,fun k A a7=>L.block k A (fun e=>a7 e.symm)⟩ (fun k A=>?_);rcases J.out.2 with⟨I,_⟩|⟨a2,cap2,bi,I,bn,_⟩
            ·rw[I]at A;simp[Value.ownBlock]at A
            ·rw[I]at A;simp[Value.ownBlock]at A;omega
          case measure=>omega
         ·go_wp2_with fail
          go_roundg (Z-1)
          case rel=>exact⟨i+1,by omega,by go_num,by rw[O.out,if_pos (by simp)];exact J.out,S.out⟩
          case measure=>omega
      ·obtain⟨d',rfl⟩:∃d',d=d'+1:=⟨d-1,by omega⟩;rw[uc j b1]at z;simp only[cE]at z;obtain⟨K,E⟩:∃K,K=j[k]:=⟨_,rfl⟩;rw[←E]at z
       have a5:∀n:Nat,n<256→K≠UInt8.ofNat n→((j[k].toNat:Int)==(n:Int))=false:=fun n a7 be=>by
        rw[←E];have:=mt (oU K n a7).1 be;simp;omega
       by_cases N:K=40
       ·have ca:((j[k].toNat:Int)==40)=true:=(by rw[←E,N];rfl);have b0:((j[k].toNat:Int)==41)=false:=(by rw[←E,N];rfl);rw[if_pos N]at z;have aw:=Lib.hid z;clear z E N a5;go_wp2
        go_roundg (gk-1)
        case rel=>exact⟨d'+2,k+1,by go_num,by go_num,by omega,by have:=aw.out;omega,by omega,rfl⟩
        case measure=>omega
       ·have ca:((j[k].toNat:Int)==40)=false:=a5 40 (by omega) N;by_cases ab:K=41
        ·have b0:((j[k].toNat:Int)==41)=true:=(by rw[←E,ab];rfl);rw[if_neg N,if_pos ab]at z;have aw:=Lib.hid z;clear z E N ab a5;go_wp2
         go_roundg (gk-1)
         case rel=>exact⟨d',k+1,by go_num,by go_num,by omega,by have:=aw.out;omega,by omega,rfl⟩
         case measure=>omega
        ·have b0:((j[k].toNat:Int)==41)=false:=a5 41 (by omega) ab;rw[if_neg N,if_neg ab]at z;have aw:=Lib.hid z;clear z E N ab a5;go_wp2
         go_roundg (gk-1)
         case rel=>exact⟨d'+1,k+1,by go_num,by go_num,by omega,by have:=aw.out;omega,by omega,rfl⟩
         case measure=>omega
     ·have b4:j.data.toList.drop k=[]:=List.drop_eq_nil_of_le (by omega);rw[b4]at z;obtain rfl:k=Y:=(by simp only[cE]at z;omega);clear z b4;go_wp2_with fail
      obtain⟨U,rfl⟩:∃U,U=wr:=⟨wr,rfl⟩;obtain⟨a1,cf⟩:∃a1,a1=gk:=⟨gk,rfl⟩;go_loopg [7,8] ps.length (fun a3 bw bx ws=>∃q:Nat,q+a3=ps.length∧bw=.bool ((ps.take q).any (fun s=>s.toList==(j.extract i k).toList))∧bx=.int .i64 (q:Int)∧aa U ws)
      case atStart=>exact⟨0,by omega,rfl,rfl,aa.refl _⟩
      case round=>
       obtain⟨q,ch,rfl,rfl,a6⟩:=hrel;have J:=Lib.hid (a6.br av.out);have S:=Lib.hid (bb.out.trans a6);by_cases bp:q<ps.length
       ·obtain⟨x,W⟩:∃x,ps[q]?=some x:=⟨_,List.getElem?_eq_getElem bp⟩
        obtain⟨g,rfl,cg⟩:∃g,X=some ⟨g,0,none⟩∧wr.cell? ⟨g,q,none⟩=some (.string x):=by
         rcases J.out.2 with⟨I,cl⟩|⟨a2,cap2,bi,I,bn,_⟩
         ·omega
         ·cases I;refine⟨a2,rfl,?_⟩;rw[J.out.cellAt q (by omega)];simp[W]
        have a8:(ps.take (q+1)).any (fun s=>s.toList==(j.extract i k).toList)=((ps.take q).any (fun s=>s.toList==(j.extract i k).toList)||(x.toList==(j.extract i k).toList)):=by
         rw[List.take_add_one,W,List.any_append];simp
        have T:=Lib.hid a8;clear a8 W;obtain⟨b,t⟩:∃b,b=(ps.take q).any (fun s=>s.toList==(j.extract i k).toList):=⟨_,rfl⟩;rw[←t]at T ⊢;clear t;cases b
        ·go_wp2_with fail
         go_quiet (fail)
         go_wp2
         go_roundg (gk-1)
         case rel=>exact⟨q+1,by omega,by rw[T.out];rfl,by go_num,by(exact kp)⟩
         case measure=>omega
        ·go_wp2_with fail
         go_quiet (fail)
         go_wp2
         go_roundg (gk-1)
         case rel=>exact⟨q+1,by omega,by rw[T.out];rfl,by go_num,by(exact kp)⟩
         case measure=>omega
       ·have a4:ps.take q=ps:=List.take_of_length_le (by omega);rw[a4];obtain⟨b,t⟩:∃b,b=ps.any (fun s=>s.toList==(j.extract i k).toList):=⟨_,rfl⟩;rw[←t]at O ⊢;clear t a4;have bt:ps.length+1≤maxLen:=(by unfold maxLen;omega);have bv:(ps.length+1)*16≤140737488355328:=(by omega);have cj:=S.out.size;cases b
        ·go_wp2_with (first
          |(at_builtin;refine wpList_append_own _ rfl _ _ 126 rfl w.heap.size 9 b8 (.string ByteArray.empty) 1 16 Tryz.underlying126 hi b5 b6 b7 rfl (by decide) (.slice X ps.length a') ps.length (ps.map Value.string) rfl (J.out.alloc _) ⟨wr.heap.size,0,none⟩ 1 1 [.string (j.extract i k)] rfl rfl (ez _ _ _ _ rfl) (by simp[Value.oneCell']) (by exact bt) (by exact bv) (by simp;omega) ?_;intro co cp br L _)
          |fail)
         go_roundg (Z-1)
         case rel=>
          refine⟨i+1,by omega,by go_num,?_,?_⟩
          ·rw[O.out,if_neg (by decide),List.length_append,List.map_append];exact br
          ·refine aa.new (F:=fun k=>Value.ownBlock (.slice X ps.length a')=some k) (S.out.alloc _) ⟨L.os,L.tape,L.output,L.size,fun k A a7=>L.block k A (fun e=>a7 e.symm)⟩ (fun k A=>?_);rcases J.out.2 with⟨I,_⟩|⟨a2,cap2,bi,I,bn,_⟩
           ·rw[I]at A;simp[Value.ownBlock]at A
           ·rw[I]at A;simp[Value.ownBlock]at A;omega
         case measure=>omega
        ·go_wp2_with fail
         go_roundg (Z-1)
         case rel=>exact⟨i+1,by omega,by go_num,by rw[O.out,if_pos (by simp)];exact J.out,S.out⟩
         case measure=>omega
   ·have ce:((j[i].toNat:Int) != 40)=true:=by
     rw[←E];have:=mt (oU K 40 (by omega)).1 t;simp;omega
    have am:bd j (i+1)=bd j i:=by
     show(if j.data.toList[i]?=some 40 then _ else _)=_;rw[oT j bq,←E,if_neg (fun e=>t (by cases e;rfl))]
    have O:=Lib.hid am;clear am E t;go_wp2_with fail
    go_roundg (gk-1)
    case rel=>exact⟨i+1,by omega,by go_num,by rw[O.out];exact av.out,bb.out⟩
    case measure=>omega
  ·go_wp2
   go_ret
   have q:i=j.size:=(by omega);have ad:=av.out;rw[q]at ad ⊢;exact⟨X,a',rfl,ad,bb.out⟩

def gi (out:List (List UInt8))(x:List UInt8):List (List UInt8):=if x∈out then out else out++[x]

def ps:List UInt8→List (List UInt8)→List (List UInt8)
 |[],out=>out
 |b::u,out=>ps u (if b=40 then gi out ((b::u).take (1+cE u 1))else out)

theorem vm (q:ByteArray)(i j:Nat):(q.extract i j).data.toList=(q.data.toList.drop i).take (j-i):=by
 rw[ByteArray.data_extract,Array.toList_extract]

theorem yz (j:ByteArray):∀(u:List UInt8) (i:Nat),j.data.toList.drop i=u→i+u.length=j.size→ps u ((bd j i).map (fun q=>q.data.toList))=(bd j j.size).map (fun q=>q.data.toList):=by
 intro u;induction u with
 |nil=>
  intro i _ t;simp at t;rw[t];rfl
 |cons b u N=>
  intro i E t
  have J:j.data.toList.drop (i+1)=u:=by
   have:=congrArg List.tail E;rw[List.tail_drop]at this;exact this
  have L:j.data.toList[i]?=some b:=by
   have:=congrArg (fun l=>l[0]?) E;simp only[List.getElem?_drop,Nat.add_zero,List.getElem?_cons_zero]at this;exact this
  rw[←N (i+1) J (by simp at t;omega)];show ps u _=ps u _;congr 1
  show _=(if j.data.toList[i]?=some 40 then _ else _:List ByteArray).map _;rw[L];by_cases A:b=40
  ·subst A;rw[if_pos rfl,if_pos rfl]
   have hcut:(j.extract i (fy j.data.toList i)).data.toList=(40::u).take (1+cE u 1):=by
    rw[vm,E];congr 1
    unfold fy;rw[J];omega
   have K:(bd j i).any (fun q=>q.toList==(j.extract i (fy j.data.toList i)).toList)=decide ((40::u).take (1+cE u 1)∈(bd j i).map (fun q=>q.data.toList)):=by
    rw[Bool.eq_iff_iff];simp only[List.any_eq_true,decide_eq_true_eq,List.mem_map,beq_iff_eq];constructor
    ·rintro⟨q,I,s⟩;rw[ByteArray.toList_eq,ByteArray.toList_eq,hcut]at s;exact⟨q,I,s⟩
    ·rintro⟨q,I,s⟩;exact⟨q,I,by rw[ByteArray.toList_eq,ByteArray.toList_eq,hcut,s]⟩
   unfold gi;rw[K];by_cases z:(40::u).take (1+cE u 1)∈(bd j i).map (fun q=>q.data.toList);·rw[if_pos z,decide_eq_true z,if_pos rfl]
   ·rw[if_neg z,decide_eq_false z,if_neg (by decide),List.map_append,List.map_cons,hcut];rfl
  ·rw[if_neg A,if_neg (fun e=>A (by cases e;rfl))]

def Flat (u:List UInt8):Prop:=∀b∈u,b≠40∧b≠41

theorem lp {u:List UInt8}(h:Flat u)(v:List UInt8)(d:Nat):cE (u++v) (d+1)=u.length+cE v (d+1):=by
 induction u with
 |nil=>simp
 |cons b u q=>
  have j:=h b List.mem_cons_self;show 1+cE (u++v) _=_;rw[if_neg j.1,if_neg j.2,q (fun x j=>h x (List.mem_cons_of_mem _ j)),List.length_cons];omega

theorem na {u:List UInt8}(h:Flat u)(v:List UInt8)(out:List (List UInt8)):ps (u++v) out=ps v out:=by
 induction u generalizing out with
 |nil=>rfl
 |cons b u q=>
  have j:=h b List.mem_cons_self;show ps (u++v) _=_;rw[if_neg j.1,q (fun x j=>h x (List.mem_cons_of_mem _ j))]

def dB (k:Int):UInt8:=UInt8.ofNat (48+k).toNat

theorem gm {k:Int}(j:0≤k)(q:k<10):dB k≠40∧dB k≠41∧dB k≠64:=by
 have:k=0∨k=1∨k=2∨k=3∨k=4∨k=5∨k=6∨k=7∨k=8∨k=9:=by omega
 rcases this with rfl|rfl|rfl|rfl|rfl|rfl|rfl|rfl|rfl|rfl<;>decide

theorem gJ {k j:Int}(q:0≤k)(s:k<10)(t:0≤j)(z:j<10)(h:dB k=dB j):k=j:=by
 have:=congrArg UInt8.toNat h;unfold dB at this;rw[UInt8.toNat_ofNat',UInt8.toNat_ofNat']at this;omega

def bc (f:Int)(M:St)(n:Nat)(e:Edge):List UInt8:=(ay f M n e).data.toList

def iu (f:Int)(e:Edge):List UInt8:=if f=5 then [dB e.tag,64]else []
def fc (f:Int)(r:Rec):List UInt8:=if f=3∨f=4 then [dB r.I,58,dB r.J,32]else [dB r.I,32]
def il (f:Int)(e:Edge):List UInt8:=if f=5 then(if e.to=0 then [48]else [dB e.tag,64,49])else [dB e.to]

def dt (f:Int)(M:St)(n:Nat)(r:Rec):List UInt8:=40::(fc f r++(bc f M n r.lo++32::(bc f M n r.hi++[41])))

theorem kl (k:Int):(aB k).data.toList=[dB k]:=rfl

theorem gA {f:Int}{M:St}{n:Nat}{e:Edge}(q:0≤e.to)(h:e.to<2):bc f M (n+1) e=il f e:=by
 unfold bc ay il;by_cases j:f=5
 ·rw[if_pos j,if_pos j];by_cases q:e.to=0;·rw[if_pos q,if_pos q]
  ·rw[if_neg q,if_neg q,if_pos (by omega)];simp[ByteArray.data_append,kl]
 ·rw[if_neg j,if_neg j,if_pos h];rfl

theorem gD {f:Int}{M:St}{n:Nat}{e:Edge}{r:Rec}(h:look M.cs e.to=some r):bc f M (n+1) e=iu f e++dt f M n r:=by
 have t:=(bL h).1;have s:an (look M.cs e.to)=r:=by rw[h];rfl
 unfold bc ay iu dt fc;rw[s];by_cases q:f=5
 ·rw[if_pos q,if_pos q,if_neg (by omega),if_neg (by omega),if_neg (by omega)];simp[ByteArray.data_append,kl,bc]
 ·rw[if_neg q,if_neg q,if_neg (by omega)];by_cases j:f=3∨f=4
  ·rw[if_pos j,if_pos j];simp[ByteArray.data_append,kl,bc]
  ·rw[if_neg j,if_neg j];simp[ByteArray.data_append,kl,bc]

structure cP (f:Int)(M:St):Prop where
 wf:M.wf
 b1:∀id r,look M.cs id=some r→0≤r.lo.to∧0≤r.hi.to
 n9:M.n≤9

structure At (f:Int)(M:St)(e:Edge)(l:Int)(n:Nat):Prop where
 lead:M.leads f e l=true
 ok:0≤e.to
 hk:M.n<l+n

theorem At.tag {f:Int}{M:St}{e:Edge}{l:Int}{n:Nat}(t:cP f M)(h:At f M e l n):0≤e.tag∧e.tag<10∧(f≠5∨e.to=0→e.tag=0)∧0≤l:=by
 obtain⟨j,_⟩:=gQ h.lead;have A:=t.n9;unfold dY at j;split at j;·cases j
 ·rename_i z;simp only[Bool.or_eq_true,decide_eq_true_eq,not_or]at z;split at j
  ·rename_i s;have t:e.tag=0:=(by simpa using j);exact⟨by omega,by omega,fun _=>t,by omega⟩
  ·rename_i s;simp only[Bool.or_eq_true,bne_iff_ne,ne_eq,beq_iff_eq,not_or,Decidable.not_not]at s;simp only[Bool.and_eq_true,decide_eq_true_eq]at j;exact⟨by omega,by omega,fun q=>by rcases q with q|q;exact absurd s.1 q;exact absurd q s.2,by omega⟩

theorem At.cases {f:Int}{M:St}{e:Edge}{l:Int}{n:Nat}(q:cP f M)(h:At f M e l (n+1)) :
  (0≤e.to∧e.to<2)∨(∃r,look M.cs e.to=some r∧r.ad=f∧l≤r.I∧r.I≤r.J∧r.J<M.n∧0≤r.I∧r.I<10∧r.J<10∧(r.I=r.J∨f=3∨f=4)∧At f M r.lo (r.J+1) n∧At f M r.hi (r.J+1) n):=by
 obtain⟨J,s⟩:=gQ h.lead
 have J:=q.n9
 rcases s with s|⟨r,t,E,I,_⟩
 ·exact .inl ⟨h.ok,s⟩
 ·right;have g:=q.wf.b8 t;have A:=q.b1 _ _ t;have:=g.tb;have:=g.bn;have z:=h.hk;have s:=(h.tag q).2.2.2;subst E;refine⟨r,t,rfl,I,g.tb,g.bn,by omega,by omega,by omega,?_,⟨g.lo,A.1,by push_cast at z;omega⟩,⟨g.hi,A.2,by push_cast at z;omega⟩⟩;rcases g.chain with j|j;·exact .inl j
  ·unfold eY at j;simp only[Bool.or_eq_true,beq_iff_eq]at j;exact .inr j

theorem At.pos {f:Int}{M:St}{e:Edge}{l:Int}{n:Nat}(s:cP f M)(h:At f M e l n):∃m,n=m+1:=by
 have j:=(gQ h.lead).1;have s:=h.hk;unfold dY at j;split at j;·cases j
 ·rename_i q;simp only[Bool.or_eq_true,decide_eq_true_eq,not_or]at q;exact⟨n-1,by omega⟩

theorem qG {f:Int}{M:St}{e:Edge}{l:Int}{n:Nat}(q:cP f M)(h:At f M e l n):Flat (iu f e):=by
 obtain⟨s,t,_⟩:=h.tag q;obtain⟨a,b,_⟩:=gm s t;unfold iu Flat;split
 ·intro x j;simp at j;rcases j with rfl|rfl;·exact⟨a,b⟩
  ·decide
 ·intro x j;simp at j

theorem pR {f:Int}{M:St}{e:Edge}{l:Int}{n:Nat}(s:cP f M)(h:At f M e l n)(q:0≤e.to)(A:e.to<2):Flat (il f e):=by
 obtain⟨t,z,_⟩:=h.tag s;obtain⟨a,b,_⟩:=gm t z;obtain⟨c,d,_⟩:=gm (k:=e.to) q (by omega);unfold il Flat;split
 ·split;·intro x j;simp at j;subst j;decide
  ·intro x j;simp at j;rcases j with rfl|rfl|rfl;·exact⟨a,b⟩
   ·decide
   ·decide
 ·intro x j;simp at j;subst j;exact⟨c,d⟩

theorem mP (f:Int){r:Rec}(q:0≤r.I)(t:r.I≤r.J)(s:r.J<10):Flat (fc f r):=by
 obtain⟨a,b,_⟩:=gm (k:=r.I) q (by omega);obtain⟨c,d,_⟩:=gm (k:=r.J) (by omega) s;unfold fc Flat;split
 ·intro x j;simp at j;rcases j with rfl|rfl|rfl|rfl;·exact⟨a,b⟩
  ·decide
  ·exact⟨c,d⟩
  ·decide
 ·intro x j;simp at j;rcases j with rfl|rfl;·exact⟨a,b⟩
  ·decide

theorem qV {f:Int}{M:St}(j:cP f M):∀(n:Nat) (e:Edge) (l:Int) (v:List UInt8) (d:Nat),At f M e l n→cE (bc f M n e++v) (d+1)=(bc f M n e).length+cE v (d+1):=by
 intro n;induction n with
 |zero=>intro e l v d h;obtain⟨m,q⟩:=h.pos j;omega
 |succ n t=>
  intro e l v d h;rcases h.cases j with⟨q,s⟩|⟨r,E,_,_,K,_,J,L,z,_,I,A⟩
  ·rw[gA q s,lp (pR j h q s)]
  ·rw[gD E,List.append_assoc,lp (qG j h)];unfold dt
   rw[List.cons_append,cE,if_pos rfl,List.append_assoc,lp (mP f J K z),List.append_assoc,t _ _ _ _ I,List.cons_append,cE,if_neg (by decide),if_neg (by decide),List.append_assoc,t _ _ _ _ A,
    List.cons_append,cE,if_neg (by decide),if_pos rfl]
   simp only[List.nil_append,List.length_append,List.length_cons,List.length_nil];omega

theorem zP {f:Int}{M:St}(j:cP f M){n:Nat}{r:Rec}(E:0≤r.I)(I:r.I≤r.J)(q:r.J<10)(t:At f M r.lo (r.J+1) n)(s:At f M r.hi (r.J+1) n)(v:List UInt8) :
  ∃u,dt f M n r++v=40::u∧(40::u).take (1+cE u 1)=dt f M n r:=by
 refine⟨fc f r++(bc f M n r.lo++32::(bc f M n r.hi++[41]))++v,rfl,?_⟩
 have A:cE (fc f r++(bc f M n r.lo++32::(bc f M n r.hi++[41]))++v) 1=(fc f r++(bc f M n r.lo++32::(bc f M n r.hi++[41]))).length:=by
  rw[List.append_assoc,lp (mP f E I q),List.append_assoc,qV j _ _ _ _ _ t,List.cons_append,cE,if_neg (by decide),if_neg (by decide),List.append_assoc,qV j _ _ _ _ _ s,
    List.cons_append,cE,if_neg (by decide),if_pos rfl,qU]
  simp only[List.length_append,List.length_cons,List.length_nil];omega
 have z:1+(fc f r++(bc f M n r.lo++32::(bc f M n r.hi++[41]))).length=(dt f M n r).length:=by unfold dt;rw[List.length_cons];omega
 rw[A,z]
 show(dt f M n r++v).take _=_
 rw[List.take_left]

def dc (M:St):Nat→Edge→List Int
 |0,_=>[]
 |n+1,e=>if e.to<2 then []else e.to::(dc M n (an (look M.cs e.to)).lo++dc M n (an (look M.cs e.to)).hi)

theorem rT {f:Int}{M:St}(j:cP f M):∀(n m:Nat) (e:Edge) (l l':Int),At f M e l n→At f M e l' m→bc f M n e=bc f M m e:=by
 intro n;induction n with
 |zero=>intro m e l l' h _;obtain⟨O,N⟩:=h.pos j;omega
 |succ n E=>
  intro m e l l' h z;obtain⟨m,rfl⟩:=z.pos j;rcases h.cases j with⟨s,t⟩|⟨r,q,_,_,_,_,_,_,_,_,K,I⟩
  ·rw[gA s t,gA s t]
  ·rcases z.cases j with⟨s,t⟩|⟨j,A,_,_,_,_,_,_,_,_,L,J⟩
   ·have:=(bL q).1;omega
   ·rw[q]at A;cases A;rw[gD q,gD q];unfold dt;rw[E m _ _ _ K L,E m _ _ _ I J]

def fK (f:Int)(M:St)(id:Int):List UInt8:=match look M.cs id with|some r=>dt f M 11 r|none=>[]

theorem xY {f:Int}{M:St}(j:cP f M){n:Nat}{id:Int}{r:Rec}(t:look M.cs id=some r)(s:At f M r.lo (r.J+1) n)(q:At f M r.hi (r.J+1) n)(z:0≤r.J):dt f M n r=fK f M id:=by
 have z:=j.n9;unfold fK;rw[t];unfold dt;dsimp only;rw[rT j n 11 _ _ _ s ⟨s.lead,s.ok,by omega⟩,rT j n 11 _ _ _ q ⟨q.lead,q.ok,by omega⟩]

theorem yS {f:Int}{M:St}(j:cP f M):∀(n:Nat) (e:Edge) (l:Int) (v:List UInt8) (out:List (List UInt8)),At f M e l n→ps (bc f M n e++v) out=ps v (((dc M n e).map (fK f M)).foldl gi out):=by
 intro n;induction n with
 |zero=>intro e l v out h;obtain⟨m,I⟩:=h.pos j;omega
 |succ n J=>
  intro e l v out h;rcases h.cases j with⟨I,s⟩|⟨r,q,_,_,L,_,K,T,E,_,z,t⟩
  ·rw[gA I s,na (pR j h I s)];unfold dc;rw[if_pos s];rfl
  ·have N:an (look M.cs e.to)=r:=(by rw[q];rfl);rw[gD q,List.append_assoc,na (qG j h)];obtain⟨u,A,O⟩:=zP j K L E z t v
   have S:u=fc f r++(bc f M n r.lo++32::(bc f M n r.hi++[41]))++v:=by
    have:dt f M n r++v=40::(fc f r++(bc f M n r.lo++32::(bc f M n r.hi++[41]))++v):=rfl;rw[this]at A;exact(List.cons.inj A).2.symm
   rw[A];show ps u _=_;rw[if_pos rfl,O,S,List.append_assoc,na (mP f K L E),List.append_assoc,J _ _ _ _ z];show ps (bc f M n r.hi++[41]++v) _=_;rw[List.append_assoc,J _ _ _ _ t];show ps v _=ps v _;rw[xY j q z t (by omega)];rw[show dc M (n+1) e=if e.to<2 then []else e.to::(dc M n (an (look M.cs e.to)).lo++dc M n (an (look M.cs e.to)).hi)from rfl,if_neg (show¬e.to<2 by have:=(bL q).1;omega),N];simp only[List.map_cons,List.map_append,List.foldl_cons,List.foldl_append];rfl

theorem bl {a b:UInt8}{u v:List UInt8}(h:a::u=b::v):a=b∧u=v:=List.cons.inj h

theorem kn {f:Int}{M:St}{e j:Edge}{l l':Int}{n z:Nat}(q:cP f M)(h:At f M e l n)(J:At f M j l' z)(s:e.to=j.to)(K:f=5→e.to≠0→dB e.tag=dB j.tag):e=j:=by
 obtain⟨a0,t,A,_⟩:=h.tag q;obtain⟨z,E,I,_⟩:=J.tag q
 have:e.tag=j.tag:=by
  by_cases q:f=5∧e.to≠0;·exact gJ a0 t z E (K q.1 q.2)
  ·have t:f≠5∨e.to=0:=by
    by_cases z:f=5;·right;exact Classical.byContradiction fun E=>q ⟨z,E⟩
    ·exact .inl z
   rw[A t,I (by rw[←s];exact t)]
 cases e;cases j;simp only at s this;rw[s,this]

theorem qK {f:Int}{r j:Rec}(q:r.ad=f)(s:j.ad=f)(t:r.I=j.I)(z:r.J=j.J)(A:r.lo=j.lo)(E:r.hi=j.hi):r=j:=by
 cases r;cases j;simp only at q s t z A E;rw[q,s,t,z,A,E]

theorem rO {f:Int}{M:St}(z:cP f M):∀(n A:Nat) (e K:Edge) (l l':Int) (x I:List UInt8),At f M e l n→At f M K l' A→x.head?≠some 64→I.head?≠some 64→bc f M n e++x=bc f M A K++I→e=K∧x=I:=by
 intro n;induction n with
 |zero=>intro A e K l l' x I h;obtain⟨m,a5⟩:=h.pos z;omega
 |succ n av=>
  intro A e K l l' x I h L ad am j;obtain⟨A,rfl⟩:=L.pos z;obtain⟨a0,a4,a5,_⟩:=h.tag z;obtain⟨a5,a6,b5,_⟩:=L.tag z;have b5:=gm a0 a4;have a4:=gm a5 a6;have ab:∀{k:Nat} {r:Rec} {y:List UInt8},∃u,dt f M k r++y=40::u:=fun {k r y}=>⟨_,rfl⟩;rcases h.cases z with⟨W,a4⟩|⟨r,Y,bn,_,a5,_,aw,a2,a7,bg,bs,bq⟩
  ·rw[gA W a4]at j;rcases L.cases z with⟨O,X⟩|⟨E,T,_⟩
   ·rw[gA O X]at j;unfold il at j;by_cases s:f=5
    ·rw[if_pos s,if_pos s]at j;by_cases J:e.to=0
     ·by_cases U:K.to=0
      ·rw[if_pos J,if_pos U]at j;obtain⟨_,q⟩:=bl j;exact⟨kn z h L (by omega) (fun _ a4=>absurd J a4),q⟩
      ·rw[if_pos J,if_neg U]at j;obtain⟨_,q⟩:=bl j;exact absurd (by rw[show x=64::(49::I)from q];rfl) ad
     ·by_cases U:K.to=0
      ·rw[if_neg J,if_pos U]at j;obtain⟨_,q⟩:=bl j;exact absurd (by rw[show I=64::(49::x)from q.symm];rfl) am
      ·rw[if_neg J,if_neg U]at j;obtain⟨t,q⟩:=bl j;obtain⟨_,q⟩:=bl q;obtain⟨_,q⟩:=bl q;exact⟨kn z h L (by omega) (fun _ _=>t),q⟩
    ·rw[if_neg s,if_neg s]at j;obtain⟨t,q⟩:=bl j;exact⟨kn z h L (gJ W (by omega) O (by omega) t) (fun S=>absurd S s),q⟩
   ·rw[gD T,List.append_assoc]at j;obtain⟨u,Z⟩:=ab (k:=A) (r:=E) (y:=I);rw[Z]at j;unfold il iu at j;by_cases s:f=5
    ·rw[if_pos s,if_pos s]at j;by_cases J:e.to=0
     ·rw[if_pos J]at j;obtain⟨_,q⟩:=bl j;exact absurd (by rw[show x=64::(40::u)from q];rfl) ad
     ·rw[if_neg J]at j;obtain⟨_,q⟩:=bl j;obtain⟨_,q⟩:=bl q;obtain⟨q,_⟩:=bl q;exact absurd q (by decide)
    ·rw[if_neg s,if_neg s]at j;obtain⟨t,_⟩:=bl j;exact absurd t (gm W (by omega)).1
  ·have U:=(bL Y).1;rw[gD Y,List.append_assoc]at j;rcases L.cases z with⟨O,X⟩|⟨E,T,bp,_,U,_,a1,a3,a8,bi,bt,br⟩
   ·rw[gA O X]at j;obtain⟨u,Z⟩:=ab (k:=n) (r:=r) (y:=x);rw[Z]at j;unfold il iu at j;by_cases s:f=5
    ·rw[if_pos s,if_pos s]at j;by_cases J:K.to=0
     ·rw[if_pos J]at j;obtain⟨_,q⟩:=bl j;exact absurd (by rw[show I=64::(40::u)from q.symm];rfl) am
     ·rw[if_neg J]at j;obtain⟨_,q⟩:=bl j;obtain⟨_,q⟩:=bl q;obtain⟨q,_⟩:=bl q;exact absurd q (by decide)
    ·rw[if_neg s,if_neg s]at j;obtain⟨t,_⟩:=bl j;exact absurd t.symm (gm O (by omega)).1
   ·have J:=(bL T).1;rw[gD T,List.append_assoc]at j
    have bw:(f=5→dB e.tag=dB K.tag)∧dt f M n r++x=dt f M A E++I:=by
     unfold iu at j;by_cases s:f=5
     ·rw[if_pos s,if_pos s]at j;obtain⟨t,q⟩:=bl j;obtain⟨_,q⟩:=bl q;exact⟨fun _=>t,q⟩
     ·rw[if_neg s,if_neg s]at j;exact⟨fun S=>absurd S s,j⟩
    obtain⟨b0,j⟩:=bw;unfold dt at j;simp only[List.cons_append,List.append_assoc,List.nil_append]at j;obtain⟨_,j⟩:=bl j
    have bv:r.I=E.I∧r.J=E.J∧bc f M n r.lo++32::(bc f M n r.hi++41::x)=bc f M A E.lo++32::(bc f M A E.hi++41::I):=by
     unfold fc at j;by_cases N:f=3∨f=4
     ·rw[if_pos N,if_pos N]at j;obtain⟨t,q⟩:=bl j;obtain⟨_,q⟩:=bl q;obtain⟨b4,q⟩:=bl q;obtain⟨_,q⟩:=bl q;exact⟨gJ aw a2 a1 a3 t,gJ (by omega) a7 (by omega) a8 b4,q⟩
     ·rw[if_neg N,if_neg N]at j;obtain⟨t,q⟩:=bl j;obtain⟨_,q⟩:=bl q;have bx:=gJ aw a2 a1 a3 t;have s:r.I=r.J:=(by rcases bg with c|c;exact c;exact absurd c N);have s:E.I=E.J:=(by rcases bi with c|c;exact c;exact absurd c N);exact⟨bx,by omega,q⟩
    obtain⟨b2,b3,j⟩:=bv;obtain⟨a',j⟩:=av A r.lo E.lo _ _ _ _ bs bt (by simp) (by simp) j;obtain⟨_,j⟩:=bl j;obtain⟨bb,j⟩:=av A r.hi E.hi _ _ _ _ bq br (by simp) (by simp) j;obtain⟨_,b1⟩:=bl j;have be:=qK bn bp b2 b3 a' bb;subst be;exact⟨kn z h L (z.wf.b2 _ _ _ Y T) (fun S _=>b0 S),b1⟩

theorem By {f:Int}{M:St}(z:cP f M){i I:Int}{r s:Rec}(hi:look M.cs i=some r)(E:look M.cs I=some s)(K:r.ad=f)(L:s.ad=f)(a':0≤r.I)(bb:0≤s.I)(h:fK f M i=fK f M I):i=I:=by
 have I:=z.n9
 have mk:∀{id:Int} {j:Rec},look M.cs id=some j→j.ad=f→0≤j.I→0≤j.I∧j.I<10∧j.I≤j.J∧j.J<10∧(j.I=j.J∨f=3∨f=4)∧At f M j.lo (j.J+1) 11∧At f M j.hi (j.J+1) 11:=fun {id j} I a5 ab=>by
  have g:=z.wf.b8 I;have N:=z.b1 _ _ I;have ad:=g.tb;have I:=g.bn;subst a5;refine⟨ab,by omega,ad,by omega,?_,⟨g.lo,N.1,by omega⟩,⟨g.hi,N.2,by omega⟩⟩;rcases g.chain with A|A;·exact .inl A
  ·unfold eY at A;simp only[Bool.or_eq_true,beq_iff_eq]at A;exact .inr A
 obtain⟨O,T,A,W,am,a2,aw⟩:=mk hi K a';obtain⟨S,U,A,X,av,a3,a1⟩:=mk E L bb;unfold fK at h;rw[hi,E]at h;dsimp only at h;unfold dt at h;obtain⟨_,q⟩:=bl h
 have a4:r.I=s.I∧r.J=s.J∧bc f M 11 r.lo++32::(bc f M 11 r.hi++[41])=bc f M 11 s.lo++32::(bc f M 11 s.hi++[41]):=by
  unfold fc at q;by_cases t:f=3∨f=4
  ·rw[if_pos t,if_pos t]at q;obtain⟨J,j⟩:=bl q;obtain⟨_,j⟩:=bl j;obtain⟨be,j⟩:=bl j;obtain⟨_,j⟩:=bl j;exact⟨gJ O T S U J,gJ (by omega) W (by omega) X be,j⟩
  ·rw[if_neg t,if_neg t]at q;obtain⟨J,j⟩:=bl q;obtain⟨_,j⟩:=bl j;have a6:=gJ O T S U J;have A:r.I=r.J:=(by rcases am with c|c;exact c;exact absurd c t);have A:s.I=s.J:=(by rcases av with c|c;exact c;exact absurd c t);exact⟨a6,by omega,j⟩
 obtain⟨a7,a8,q⟩:=a4;obtain⟨Y,q⟩:=rO z 11 11 r.lo s.lo _ _ _ _ a2 a3 (by simp) (by simp) q;obtain⟨_,q⟩:=bl q;obtain⟨j,_⟩:=rO z 11 11 r.hi s.hi _ _ _ _ aw a1 (by decide) (by decide) q;have Z:=qK K L a7 a8 Y j;subst Z;exact z.wf.b2 _ _ _ hi E

theorem mz {f:Int}{M:St}(L:cP f M):∀(n:Nat) (e:Edge) (l:Int),At f M e l n→(∀x,x∈dc M n e↔Reaches M.cs [e.to] x)∧∀x∈dc M n e,∃r,look M.cs x=some r∧r.ad=f∧0≤r.I:=by
 intro n;induction n with
 |zero=>intro e l h;obtain⟨m,ad⟩:=h.pos L;omega
 |succ n S=>
  intro e l h;rcases h.cases L with⟨ad,L⟩|⟨r,t,T,_,_,_,ab,_,_,_,X,W⟩
  ·have J:dc M (n+1) e=[]:=by
    show(if e.to<2 then []else _)=_;rw[if_pos L]
   rw[J];refine⟨fun x=>⟨fun j=>by simp at j,fun j=>?_⟩,fun x j=>by simp at j⟩
   exact(j (fun _=>False) (fun y s z=>by
    rw[List.mem_singleton]at s;subst s;cases L:look M.cs e.to with
    |none=>exact z L
    |some K=>have:=(bL L).1;omega) (fun _ _ q _=>q.elim)).elim
  ·have U:an (look M.cs e.to)=r:=by rw[t];rfl
   have J:dc M (n+1) e=e.to::(dc M n r.lo++dc M n r.hi):=by
    show(if e.to<2 then []else _)=_;rw[if_neg (show¬e.to<2 by have:=(bL t).1;omega),U]
   obtain⟨A,Y⟩:=S _ _ X;obtain⟨E,Z⟩:=S _ _ W;have O:Reaches M.cs [e.to] e.to:=Reaches.root (by simp) (by rw[t];simp);have N:=Reaches.closed M.cs [e.to] e.to r O t;rw[J];refine⟨fun x=>⟨fun j=>?_,fun j=>?_⟩,fun x j=>?_⟩
   ·rcases List.mem_cons.1 j with rfl|j;·exact O
    ·rcases List.mem_append.1 j with j|j;·exact((A x).1 j).below (fun y s z=>by rw[List.mem_singleton]at s;subst s;exact N.1 z)
     ·exact((E x).1 j).below (fun y s z=>by rw[List.mem_singleton]at s;subst s;exact N.2 z)
   ·refine j (fun y=>y∈e.to::(dc M n r.lo++dc M n r.hi)) (fun y s _=>by rw[List.mem_singleton]at s;subst s;exact List.mem_cons_self) ?_;intro id K hid I;rcases List.mem_cons.1 hid with rfl|hid
    ·rw[t]at I;cases I;exact⟨fun q=>List.mem_cons_of_mem _ (List.mem_append_left _ ((A _).2 (Reaches.root (by simp) q))),fun q=>List.mem_cons_of_mem _ (List.mem_append_right _ ((E _).2 (Reaches.root (by simp) q)))⟩
    ·rcases List.mem_append.1 hid with hid|hid
     ·have s:=Reaches.closed M.cs [r.lo.to] id K ((A id).1 hid) I;exact⟨fun q=>List.mem_cons_of_mem _ (List.mem_append_left _ ((A _).2 (s.1 q))),fun q=>List.mem_cons_of_mem _ (List.mem_append_left _ ((A _).2 (s.2 q)))⟩
     ·have s:=Reaches.closed M.cs [r.hi.to] id K ((E id).1 hid) I;exact⟨fun q=>List.mem_cons_of_mem _ (List.mem_append_right _ ((E _).2 (s.1 q))),fun q=>List.mem_cons_of_mem _ (List.mem_append_right _ ((E _).2 (s.2 q)))⟩
   ·rcases List.mem_cons.1 j with rfl|j;·exact⟨r,t,T,ab⟩
    ·rcases List.mem_append.1 j with j|j;·exact Y x j
     ·exact Z x j

theorem vE (xs:List (List UInt8)):∀out:List (List UInt8),out.Nodup→(xs.foldl gi out).Nodup∧∀y,y∈xs.foldl gi out↔y∈out∨y∈xs:=by
 induction xs with
 |nil=>intro out h;exact⟨h,fun y=>by simp⟩
 |cons x xs A=>
  intro out h
  have t:(gi out x).Nodup∧∀y,y∈gi out x↔y∈out∨y=x:=by
   unfold gi;split
   ·rename_i q;exact⟨h,fun y=>⟨.inl,fun j=>by rcases j with j|rfl;exact j;exact q⟩⟩
   ·rename_i q;refine⟨List.nodup_append.2 ⟨h,by simp,fun a z b s e=>?_⟩,fun y=>by simp⟩;rw[List.mem_singleton]at s;subst s;subst e;exact q z
  obtain⟨q,s⟩:=A _ t.1;refine⟨q,fun y=>?_⟩;rw[List.foldl_cons,s,t.2,List.mem_cons];exact⟨fun j=>by rcases j with(j|j)|j;exact .inl j;exact .inr (.inl j);exact .inr (.inr j),fun j=>by rcases j with j|j|j;exact .inl (.inl j);exact .inl (.inr j);exact .inr j⟩

theorem qm:∀{a b:List (List UInt8)},a.Nodup→(∀x,x∈a→x∈b)→a.length≤b.length:=by
 intro a;induction a with
 |nil=>intro b _ _;exact Nat.zero_le _
 |cons x a z=>
  intro b t q;have s:x∈b:=q x (List.mem_cons_self);have j:=List.nodup_cons.1 t
  have t:=z (b:=b.erase x) j.2 (fun y t=>by
   have z:y≠x:=fun e=>j.1 (e ▸ t)
   exact(List.mem_erase_of_ne z).2 (q y (List.mem_cons_of_mem _ t)))
  have j:=List.length_erase_of_mem s;have j:0<b.length:=List.length_pos_of_mem s;rw[List.length_cons];omega

end Go.Proofs.YtafkamlhimkbmaaGreat
