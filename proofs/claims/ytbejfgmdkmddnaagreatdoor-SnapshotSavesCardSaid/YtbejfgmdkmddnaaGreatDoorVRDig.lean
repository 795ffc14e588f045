/-
  Layer 2, the document's: Digits of any number up to 2^40; layer 30: line.
-/
import Derived.Test.YtbejfgmdkmddnaaGreatDoorVRClkE
import Derived.Test.YtbejfgmdkmddnaaGreatDoorVSnPlain
set_option maxRecDepth 100000
set_option maxHeartbeats 16000000
namespace Go.Proofs.YtbejfgmdkmddnaaGreatDoor
open Go.RowKit Go.Maps Go.Sort Go.Shelf
theorem Lx(w:World)(n:Nat)(hn:n≤1099511627776):Calls Tryz.prog 185 #[.int .i64 n] w fun e w'=>e=.returned (.string ⟨(Lib.itoa (n:Int)).toArray⟩)∧RowKit.Below w.heap.size w w':=by
 have e:Lib.itoa (n:Int)=Lib.decDigits n:=by unfold Lib.itoa;simp
 rw[e];have hdl:=Ko (n:=n) (by omega);have kc:=conv1;clear e;go_enter Tryz.func185,Tryz.ntmps185;go_wp2;go_loopw[0,3](fun a b wr=> ∃(m:Nat)(l:List UInt8),a=.int .i64 m∧b=.string ⟨l.toArray⟩∧l.length≤21∧m≤n∧Lib.decDigits m++l=Lib.decDigits n∧RowKit.Below w.heap.size w wr)(fun a _ _=>(intOf a).toNat);case atStart=>exact⟨n,[],rfl,rfl,by simp,Nat.le_refl _,by simp,RowKit.Below.refl _ _⟩
 case round=>
  obtain⟨m,l,rfl,rfl,hln,hm,hl,hb⟩:=hrel;have HB:=qH hb;clear hb;by_cases h9:m<10
  ·have t1: ¬(9:Int)<m:=by omega
   have hl':=qS ((48+UInt8.ofNat m)::l=Lib.decDigits n) (by rw[←hl,Lib.decDigits,dif_pos h9];simp);have e1:IntKind.u8.wrap (48+(m:Int))=48+(m:Int):=by simp[IntKind.wrap,IntKind.bits,IntKind.signed];omega
   clear hl;go_wp2;go_ret;refine⟨?_,HB.o.alloc HB.o.size _⟩;exact congrArg (fun z:List UInt8=>Ending.returned (.string ⟨z.toArray⟩)) hl'.out
  ·have t1:(9:Int)<m:=by omega
   have hl':Lib.decDigits (m/10)++(48+UInt8.ofNat (m%10))::l=Lib.decDigits n:=by
    rw[←hl];conv=>rhs;rw[Lib.decDigits,dif_neg h9,List.append_assoc]
    simp
   obtain⟨q,r,hq,hr,hqm,hr10⟩: ∃q r:Nat,q=m/10∧r=m%10∧q<m∧r<10:=⟨_,_,rfl,rfl,by omega,by omega⟩;rw[←hq,←hr]at hl';have hl2:=qH hl';obtain⟨e1,e2,e3,e4,e5⟩:(m:Int).tmod 10=(r:Int)∧(m:Int).tdiv 10=(q:Int)∧IntKind.i64.wrap (q:Int)=(q:Int)∧IntKind.i64.wrap (48+(r:Int))=48+(r:Int)∧IntKind.u8.wrap (48+(r:Int))=48+(r:Int):=by
    refine⟨?_,?_,IntWalk.i64_in _ (by omega),IntWalk.i64_in _ (by omega),?_⟩;·rw[Int.tmod_eq_emod_of_nonneg (by omega)];omega
    ·rw[Int.tdiv_eq_ediv_of_nonneg (by omega)];omega
    ·simp[IntKind.wrap,IntKind.bits,IntKind.signed];omega
   have nJ:=qS (((48+UInt8.ofNat r)::l).length≤21) (by have h1:=congrArg List.length hl2.out;rw[List.length_append]at h1;omega);clear hl hl' hq hr h9;go_wp2;go_roundw;case rel=>exact⟨q,_,by first|rfl|go_num,rfl,nJ.o,by omega,hl2.out,HB.o.alloc HB.o.size _⟩
   case measure=>simp[intOf];omega
theorem AV(w:World)(s:List UInt8)(hs:s.length≤100)(n:Nat)(hn:n≤1099511627776):Calls Tryz.prog 137 #[.string ⟨s.toArray⟩,.int .i64 n] w fun e w'=>e=.returned (.string ⟨(ah s [(n:Int)]).toArray⟩)∧RowKit.Below w.heap.size w w':=by
 have HD:=qH (Lx w n hn);have hdl:(Lib.itoa (n:Int)).length≤21:=Lib.itoa_length_le _ (by omega) (by omega);obtain⟨d,hd⟩: ∃d,d=Lib.itoa (n:Int):=⟨_,rfl⟩;have HL:=qS ((⟨s.toArray⟩++⟨#[32]⟩++⟨d.toArray⟩++⟨#[10]⟩:ByteArray)=⟨(ah s [(n:Int)]).toArray⟩) (by
  rw[show(⟨#[32]⟩:ByteArray)=⟨[32].toArray⟩from rfl,show(⟨#[10]⟩:ByteArray)=⟨[10].toArray⟩from rfl];repeat rw[eH]
  unfold ah dC;rw[hd];simp);rw[←hd]at HD hdl;clear hd;have z1: ¬9223372036854775807<s.length+1:=by omega
 have z2: ¬9223372036854775807<s.length+1+d.length:=by omega
 have z3: ¬9223372036854775807<s.length+1+d.length+1:=by omega
 go_enter Tryz.func137,Tryz.ntmps137;go_wp2_with fail;with_reducible refine HD.o.mono ?_
 rintro r w1⟨rfl,hb⟩;have HB:=qH hb;clear hb;go_wp2;go_ret;exact⟨congrArg (fun b=>Ending.returned (.string b)) HL.o,HB.o⟩
end Go.Proofs.YtbejfgmdkmddnaaGreatDoor
