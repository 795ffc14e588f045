/-
  Layer 30, the document's: events, Pieces.
-/
import Derived.Test.YtbejfgmdkmddnaaGreatDoorVRDig
import Derived.Test.YtbejfgmdkmddnaaGreatDoorVRJl4
import Derived.Test.YtbejfgmdkmddnaaGreatDoorVSnLives
set_option maxRecDepth 100000
set_option maxHeartbeats 16000000
namespace Go.Proofs.YtbejfgmdkmddnaaGreatDoor
open Go.RowKit Go.Maps Go.Sort Go.Shelf
def Ji(w:World)(ws:List UInt8)(es:List Ev)(s i:Value)(wr:World):Prop:= ∃(k:Nat)(P:List UInt8),i=.int .i64 k∧k≤es.length∧s=.string ⟨P.toArray⟩∧P=ah ws [(es.length:Int)]++dG (es.take k)∧Below w.heap.size w wr
theorem yw(w:World)(ws:List UInt8)(hws:ws.length≤100)(A:Option Addr)(n c:Nat)(es:List Ev)(h:fV w w.heap.size A n c es)(hn:n≤100000)(hm: ∀e∈es,bA e=true):Calls Tryz.prog 138 #[.string ⟨ws.toArray⟩,.slice A n c] w fun e w'=>e=.returned (.string ⟨(ah ws [(es.length:Int)]++dG es).toArray⟩)∧Below w.heap.size w w':=by
 have HH:=qH h;have HM:=qH hm;have hln:=h.len;have zy:=qS (∀k,(ah ws [(es.length:Int)]++dG (es.take k)).length≤200+1229*es.length) (fun k=>by have g1:=iK (es.take k) (fun e he=>hm e (List.mem_of_mem_take he));have g3:=jw ws [(es.length:Int)] (by intro v hv;simp at hv;subst hv;omega);simp only[List.length_cons,List.length_nil,List.length_take]at g1 g3;rw[List.length_append];have:=Nat.min_le_right k es.length;omega);clear h hm;go_enter Tryz.func138,Tryz.ntmps138;have HL:=qH (AV w ws hws n (by omega));go_wp2_with fail;with_reducible refine HL.o.mono ?_
 rintro r w1⟨rfl,hb1⟩;have jF:=qS (Ji w ws es (.string ⟨(ah ws [(n:Int)]).toArray⟩) (.int .i64 ((0:Nat):Int)) w1) (⟨0,_,rfl,Nat.zero_le _,rfl,by rw[hln];simp[dG],hb1⟩);have wZ:=qH hln;clear hb1 HL hln;generalize(⟨(ah ws [(n:Int)]).toArray⟩:ByteArray)=st at*;go_wp2;go_loopw[5,6](fun s i wr=>Ji w ws es s i wr)(fun _ i _=>n-(intOf i).toNat);case atStart=>exact jF.o
 case round=>
  obtain⟨k,P,rfl,hk,rfl,hP,hbel⟩:=hrel;have HB:=qH hbel;have hpl:P.length≤200+1229*es.length:=by rw[hP];exact zy.o k
  have KU:=qH hP;have hln:=wZ.o;clear hP hbel jF;by_cases hkn:k<n
  ·have hkl:k<es.length:=by omega
   have XC:fV wr wr.heap.size A n c es:=az.more (az.below HH.o HB.o) HB.o.size;obtain⟨b,off,hA,hb,hev⟩:=XC.ev k hkl;clear XC;subst hA;have HMK:=qH (HM.o _ (List.getElem_mem hkl));have dx:=qH (Bv es k hkl);have hfl:=(kY HMK.o).len;obtain⟨e0,e1,e2,e3,e4,e5,e6,e7⟩:=hev;have t1:(k:Int)<n:=by omega
   generalize es[k]=e at*;have UL:=qH (EC wr e HMK.o);unfold Ev.agg MZ at UL;clear hb;go_wp2_with fail;with_reducible refine UL.o.mono ?_
   rintro r w2⟨v2,rfl,ho2,hb2⟩;obtain⟨A2,c2,rfl⟩:=ho2.form;have kc:=ho2.oF.str (P:=Tryz.prog) 32 5 9 Tryz.underlying32 Tryz.underlying5 Tryz.underlying9;have HB2:=qH (HB.o.trans (hb2.mono HB.o.size));clear ho2 hb2 e0 e1 e2 e3 e4 e5 e6 e7;have z1: ¬9223372036854775807<P.length+(ik e).length:=by omega
   have Nz:=qS ((⟨P.toArray⟩++⟨(ik e).toArray⟩:ByteArray)=⟨(P++ik e).toArray⟩) (eH _ _);have wY:=qS (Ji w ws es (.string (⟨P.toArray⟩++⟨(ik e).toArray⟩)) (.int .i64 ((k:Int)+1)) w2) (⟨k+1,_,rfl,by omega,by rw[Nz.o],by rw[dx.o,KU.o];simp,HB2.o⟩);generalize ik e=q at*;go_wp2;go_roundw;case rel=>exact wY.o
   case measure=>simp[intOf];omega
  ·have hkk:k=es.length:=by omega
   have t1: ¬(k:Int)<n:=by omega
   have QM:=qS (P=ah ws [(n:Int)]++dG es) (by rw[KU.o,hkk,List.take_length,hln]);go_wp2;go_ret;exact⟨congrArg (fun z:List UInt8=>Ending.returned (.string ⟨z.toArray⟩)) QM.o,HB.o⟩
def Jf(w:World)(l:List UInt8)(s o:Value)(wr:World):Prop:= ∃(t P:List UInt8),s=.string ⟨t.toArray⟩∧o=.string ⟨P.toArray⟩∧t≠[]∧t.length≤l.length∧P++aD t=aD l∧Below w.heap.size w wr
theorem Ep(w:World)(l:List UInt8)(h:l≠[])(hn:l.length≤900000):Calls Tryz.prog 33 #[.string ⟨l.toArray⟩] w fun e w'=>e=.returned (.string ⟨(aD l).toArray⟩)∧Below w.heap.size w w':=by
 have hpl:=EJ l;have HST:=qS (Jf w l (.string ⟨l.toArray⟩) (.string ⟨#[]⟩) w) (⟨l,[],rfl,rfl,h,Nat.le_refl _,rfl,Below.refl _ _⟩);go_enter Tryz.func33,Tryz.ntmps33;go_wp2;go_loopw[0,3](fun s o wr=>Jf w l s o wr)(fun s _ _=>match s with|.string b=>b.size|_=>0);case atStart=>exact HST.o
 case round=>
  obtain⟨t,P,rfl,rfl,hne,htl,Vt,hbel⟩:=hrel;have HB:=qH hbel;have HC:=qH Vt;have hp:P.length≤11*l.length:=by have:=congrArg List.length Vt;rw[List.length_append]at this;omega
  have zH:=qH hne;clear hbel Vt HST hne;by_cases h6:65536<t.length
  ·have t1:(65536:Int)<t.length:=by omega
   have r1: ∀w,(Instr.slice 9 (.string ⟨t.toArray⟩) none (some (.int .i64 65536)) none).run Tryz.prog w=.ok (.string ⟨(t.take 65536).toArray⟩) w:=fun w=>NM 9 Tryz.underlying9 t 65536 65536 rfl (by omega) w;have r2: ∀w,(Instr.slice 9 (.string ⟨t.toArray⟩) (some (.int .i64 65536)) none none).run Tryz.prog w=.ok (.string ⟨(t.drop 65536).toArray⟩) w:=fun w=>by have r:=run_slice_string_from_if w 9 ⟨t.toArray⟩ .i64 65536 Tryz.underlying9;rw[if_pos ⟨by omega,by simp only[ByteArray.size,List.size_toArray];omega⟩,sO]at r;simpa[ByteArray.size,List.take_of_length_le]using r
   have rV:=qH (uL wr (t.take 65536) (by rw[List.length_take];omega));have hsl:=aN.eP (t.take 65536);have hst:=sZ (l:=t) (q:=65536) zH.o (by omega);have HS:=qH hst;have hdl:(t.drop 65536).length=t.length-65536:=by rw[List.length_drop]
   have hd0:t.drop 65536≠[]:=fun e=>by rw[e]at hdl;simp at hdl;omega
   have htk:(t.take 65536).length=65536:=by rw[List.length_take];omega
   rw[htk]at hsl;have HD0:=qH hd0;clear hst htk hd0;generalize t.take 65536=a at*;generalize t.drop 65536=d at*;obtain⟨f,hf⟩: ∃f,f=aN.bZ a:=⟨_,rfl⟩;rw[←hf]at rV HS hsl;clear hf;have z1: ¬9223372036854775807<P.length+f.length:=by omega
   have Nz:=qS ((⟨P.toArray⟩++⟨f.toArray⟩:ByteArray)=⟨(P++f).toArray⟩) (eH _ _);have jF:=qH (fun W(hW:Below wr.heap.size wr W)=>show Jf w l (.string ⟨d.toArray⟩) (.string (⟨P.toArray⟩++⟨f.toArray⟩)) W from⟨d,P++f,rfl,by rw[Nz.o],HD0.o,by omega,by rw[←HC.o,HS.o];simp,HB.o.trans (hW.mono HB.o.size)⟩);go_wp2_with fail;with_reducible refine rV.o.mono ?_
   rintro r w2⟨rfl,hb2⟩;have HR2:=qH (jF.o w2.drew (below_drewN hb2 1));clear hb2 jF rV r1;go_wp2;go_region;all_goals
    go_wp2;go_roundw;case rel=>exact HR2.o
    case measure=>simp[ByteArray.size];omega
  ·have t1: ¬(65536:Int)<t.length:=by omega
   have rV:=qH (uL wr t (by omega));have HS:=qH (yz t zH.o (by omega));have hsl:=aN.eP t;obtain⟨f,hf⟩: ∃f,f=aN.bZ t:=⟨_,rfl⟩;rw[←hf]at rV HS hsl;clear hf;have z1: ¬9223372036854775807<P.length+f.length:=by omega
   have Nz:=qS ((⟨P.toArray⟩++⟨f.toArray⟩:ByteArray)=⟨(aD l).toArray⟩) (by rw[eH,←HC.o,HS.o]);go_wp2_with fail;with_reducible refine rV.o.mono ?_
   rintro r w2⟨rfl,hb2⟩;have HB2:=qH (HB.o.trans (hb2.mono HB.o.size));clear hb2 rV;go_wp2;go_ret;exact⟨congrArg (fun b=>Ending.returned (.string b)) Nz.o,HB2.o⟩
end Go.Proofs.YtbejfgmdkmddnaaGreatDoor
