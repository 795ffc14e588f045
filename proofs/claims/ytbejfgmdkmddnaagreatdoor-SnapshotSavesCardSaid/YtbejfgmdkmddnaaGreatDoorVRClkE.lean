/-
  Layer 6, the document's: digits, Encode.
-/
import Derived.Test.YtbejfgmdkmddnaaGreatDoorVRClk3
import Derived.Test.YtbejfgmdkmddnaaGreatDoorVClkEnc2
set_option maxRecDepth 100000
set_option maxHeartbeats 16000000
namespace Go.Proofs.YtbejfgmdkmddnaaGreatDoor
open Go.RowKit Go.Maps Go.Sort Go.Shelf
def FY(m:Nat):List UInt8:=if m=0 then[]else Lib.decDigits m
theorem BG(m:Nat):Lib.decDigits m=FY (m/10)++[48+UInt8.ofNat (m%10)]:=by
 unfold FY;by_cases h:m<10;·rw[if_pos (by omega),Lib.decDigits,dif_pos h,Nat.mod_eq_of_lt h];simp
 ·rw[if_neg (by omega)];conv=>lhs;rw[Lib.decDigits,dif_neg h]
  simp
theorem Ko{n:Nat}(h:n≤9223372036854775807):(Lib.decDigits n).length≤21:=by
 have:=Lib.itoa_length_le (n:Int) (by omega) (by omega);have e:Lib.itoa (n:Int)=Lib.decDigits n:=by unfold Lib.itoa;simp
 rw[e]at this;exact this
theorem kG(w:World)(n:Int)(h0: -1≤n)(h1:n≤1099511627776):Calls Tryz.prog 66 #[.int .i64 n] w fun e w'=>e=.returned (.string ⟨(Lib.itoa n).toArray⟩)∧RowKit.Below w.heap.size w w':=by
 by_cases hn:n<0
 ·have e1:n= -1:=by omega
  subst e1;go_enter Tryz.func66,Tryz.ntmps66;go_wp2;go_ret;exact⟨by rw[show Lib.itoa (-1)=[45,49]by decide+kernel];rfl,Below.refl _ _⟩
 obtain⟨n,rfl⟩:=Int.eq_ofNat_of_zero_le (show 0≤n by omega);have e:Lib.itoa (n:Int)=Lib.decDigits n:=by unfold Lib.itoa;simp
 rw[e];have hdl:=Ko (n:=n) (by omega);have kc:=conv1;clear e h0;go_enter Tryz.func66,Tryz.ntmps66;go_wp2;go_loopw[0,3](fun a b wr=> ∃(m:Nat)(l:List UInt8),a=.int .i64 m∧b=.string ⟨l.toArray⟩∧m≤n∧l.length≤21∧((l=[]∧m=n)∨(l≠[]∧FY m++l=Lib.decDigits n))∧RowKit.Below w.heap.size w wr)(fun _ b _=>match b with|.string s=>22-s.size|_=>0);case atStart=>exact⟨n,[],rfl,rfl,Nat.le_refl _,by simp,.inl ⟨rfl,rfl⟩,Below.refl _ _⟩
 case round=>
  obtain⟨m,l,rfl,rfl,hm,hln,hl,hb⟩:=hrel;have HB:=qH hb;clear hb;by_cases hst:m=0∧l≠[]
  ·obtain⟨rfl,hne⟩:=hst;have hl':l=Lib.decDigits n:=by
    rcases hl with⟨h,_⟩|⟨_,h⟩;·exact absurd h hne
    ·simpa[FY]using h
   have HL:=qH hl';have hq:(l==[])=false:=by cases l<;>simp_all
   clear hl hl';go_wp2;go_ret;exact⟨congrArg (fun z:List UInt8=>Ending.returned (.string ⟨z.toArray⟩)) HL.o,HB.o⟩
  ·have hl':FY (m/10)++(48+UInt8.ofNat (m%10))::l=Lib.decDigits n:=by
    rcases hl with⟨rfl,rfl⟩|⟨h1,h2⟩;·rw[BG m]
    ·have hm0:m≠0:=fun h=>hst ⟨h,h1⟩;rw[←h2];unfold FY at h2⊢;rw[if_neg hm0];conv=>rhs;rw[BG m]
     unfold FY;simp
   obtain⟨q,r,hq,hr,hqm,hr10⟩: ∃q r:Nat,q=m/10∧r=m%10∧q≤m∧r<10:=⟨_,_,rfl,rfl,by omega,by omega⟩;rw[←hq,←hr]at hl';have hl2:=qH hl';obtain⟨e1,e2,e3,e4,e5⟩:(m:Int).tmod 10=(r:Int)∧(m:Int).tdiv 10=(q:Int)∧IntKind.i64.wrap (q:Int)=(q:Int)∧IntKind.i64.wrap (48+(r:Int))=48+(r:Int)∧IntKind.u8.wrap (48+(r:Int))=48+(r:Int):=by
    refine⟨?_,?_,IntWalk.i64_in _ (by omega),IntWalk.i64_in _ (by omega),?_⟩;·rw[Int.tmod_eq_emod_of_nonneg (by omega)];omega
    ·rw[Int.tdiv_eq_ediv_of_nonneg (by omega)];omega
    ·simp[IntKind.wrap,IntKind.bits,IntKind.signed];omega
   have nJ:=qS (((48+UInt8.ofNat r)::l).length≤21) (by have h1:=congrArg List.length hl2.out;rw[List.length_append]at h1;omega);by_cases hm0:0<m
   ·have t1:(0:Int)<m:=by omega
    have hq1:q<m:=by omega
    clear hl hl' hst hq hr;go_wp2;go_roundw;case rel=>exact⟨q,_,by first|rfl|go_num,rfl,by omega,nJ.o,.inr ⟨by simp,hl2.out⟩,HB.o.alloc HB.o.size _⟩
    case measure=>have:=nJ.o;simp[ByteArray.size]at this⊢;omega
   ·have hz:m=0:=by omega
    have hle:l=[]:=by
     rcases Classical.em (l=[])with h|h;·exact h
     ·exact absurd ⟨hz,h⟩ hst
    subst hz hle;have hq0:q=0:=by omega
    have hr0:r=0:=by omega
    have KX:=qS (FY 0++[48]=Lib.decDigits n) (by have h9:=hl2.out;rw[hq0,hr0]at h9;exact h9);clear hl hl' hst hq hr;go_wp2;go_roundw;case rel=>exact⟨0,[48],by first|rfl|go_num,by first|rfl|(simp;done),by omega,by simp,.inr ⟨by simp,KX.o⟩,HB.o.alloc HB.o.size _⟩
    case measure=>simp[ByteArray.size]
end Go.Proofs.YtbejfgmdkmddnaaGreatDoor
