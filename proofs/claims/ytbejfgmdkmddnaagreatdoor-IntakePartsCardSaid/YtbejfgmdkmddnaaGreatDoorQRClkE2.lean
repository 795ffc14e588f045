/-
  Layer 6, the document's: Encode.
-/
import Derived.Test.YtbejfgmdkmddnaaGreatDoorQRClk1
import Derived.Test.YtbejfgmdkmddnaaGreatDoorQSets
import Derived.Test.YtbejfgmdkmddnaaGreatDoorQPtClk
import Derived.Test.YtbejfgmdkmddnaaGreatDoorQClkEnc2
import Derived.Deep.RegionHeld3
import Derived.BigRegion
import Derived.Deep.DeepCutAuto
set_option maxRecDepth 100000
set_option maxHeartbeats 16000000
namespace Go.Proofs.YtbejfgmdkmddnaaGreatDoor
open Go.RowKit Go.Maps Go.Sort Go.Shelf
def decP(m:Nat):List UInt8:=if m=0 then[]else Lib.decDigits m
theorem decP_step(m:Nat):Lib.decDigits m=decP (m/10)++[48+UInt8.ofNat (m%10)]:=by
 unfold decP;by_cases h:m<10;·rw[if_pos (by omega),Lib.decDigits,dif_pos h,Nat.mod_eq_of_lt h];simp
 ·rw[if_neg (by omega)];conv=>lhs;rw[Lib.decDigits,dif_neg h]
  simp
theorem dec_len{n:Nat}(h:n≤9223372036854775807):(Lib.decDigits n).length≤21:=by
 have:=Lib.itoa_length_le (n:Int) (by omega) (by omega);have e:Lib.itoa (n:Int)=Lib.decDigits n:=by unfold Lib.itoa;simp
 rw[e]at this;exact this
theorem rdig6_any(w:World)(n:Int)(h0: -1≤n)(h1:n≤1099511627776):Calls Tryz.prog 66 #[.int .i64 n] w fun e w'=>e=.returned (.string ⟨(Lib.itoa n).toArray⟩)∧RowKit.Below w.heap.size w w':=by
 by_cases hn:n<0
 ·have e1:n= -1:=by omega
  subst e1;go_enter Tryz.func66,Tryz.ntmps66;go_wp2;go_ret;exact⟨by rw[show Lib.itoa (-1)=[45,49]by decide+kernel];rfl,Below.refl _ _⟩
 obtain⟨n,rfl⟩:=Int.eq_ofNat_of_zero_le (show 0≤n by omega);have e:Lib.itoa (n:Int)=Lib.decDigits n:=by unfold Lib.itoa;simp
 rw[e];have hdl:=dec_len (n:=n) (by omega);have kc:=conv1;clear e h0;go_enter Tryz.func66,Tryz.ntmps66;go_wp2;go_loopw[0,3](fun a b wr=> ∃(m:Nat)(l:List UInt8),a=.int .i64 m∧b=.string ⟨l.toArray⟩∧m≤n∧l.length≤21∧((l=[]∧m=n)∨(l≠[]∧decP m++l=Lib.decDigits n))∧RowKit.Below w.heap.size w wr)(fun _ b _=>match b with|.string s=>22-s.size|_=>0);case atStart=>exact⟨n,[],rfl,rfl,Nat.le_refl _,by simp,.inl ⟨rfl,rfl⟩,Below.refl _ _⟩
 case round=>
  obtain⟨m,l,rfl,rfl,hm,hln,hl,hb⟩:=hrel;have HB:=qH hb;clear hb;by_cases hst:m=0∧l≠[]
  ·obtain⟨rfl,hne⟩:=hst;have hl':l=Lib.decDigits n:=by
    rcases hl with⟨h,_⟩|⟨_,h⟩;·exact absurd h hne
    ·simpa[decP]using h
   have HL:=qH hl';have hq:(l==[])=false:=by cases l<;>simp_all
   clear hl hl';go_wp2;go_ret;exact⟨congrArg (fun z:List UInt8=>Ending.returned (.string ⟨z.toArray⟩)) HL.out,HB.out⟩
  ·have hl':decP (m/10)++(48+UInt8.ofNat (m%10))::l=Lib.decDigits n:=by
    rcases hl with⟨rfl,rfl⟩|⟨h1,h2⟩;·rw[decP_step m]
    ·have hm0:m≠0:=fun h=>hst ⟨h,h1⟩;rw[←h2];unfold decP at h2⊢;rw[if_neg hm0];conv=>rhs;rw[decP_step m]
     unfold decP;simp
   obtain⟨q,r,hq,hr,hqm,hr10⟩: ∃q r:Nat,q=m/10∧r=m%10∧q≤m∧r<10:=⟨_,_,rfl,rfl,by omega,by omega⟩;rw[←hq,←hr]at hl';have hl2:=qH hl';obtain⟨e1,e2,e3,e4,e5⟩:(m:Int).tmod 10=(r:Int)∧(m:Int).tdiv 10=(q:Int)∧IntKind.i64.wrap (q:Int)=(q:Int)∧IntKind.i64.wrap (48+(r:Int))=48+(r:Int)∧IntKind.u8.wrap (48+(r:Int))=48+(r:Int):=by
    refine⟨?_,?_,IntWalk.i64_in _ (by omega),IntWalk.i64_in _ (by omega),?_⟩;·rw[Int.tmod_eq_emod_of_nonneg (by omega)];omega
    ·rw[Int.tdiv_eq_ediv_of_nonneg (by omega)];omega
    ·simp[IntKind.wrap,IntKind.bits,IntKind.signed];omega
   have HLL:=qH (show((48+UInt8.ofNat r)::l).length≤21 from by have h1:=congrArg List.length hl2.out;rw[List.length_append]at h1;omega);by_cases hm0:0<m
   ·have t1:(0:Int)<m:=by omega
    have hq1:q<m:=by omega
    clear hl hl' hst hq hr;go_wp2;go_roundw;case rel=>exact⟨q,_,by first|rfl|go_num,rfl,by omega,HLL.out,.inr ⟨by simp,hl2.out⟩,HB.out.alloc HB.out.size _⟩
    case measure=>have:=HLL.out;simp[ByteArray.size]at this⊢;omega
   ·have hz:m=0:=by omega
    have hle:l=[]:=by
     rcases Classical.em (l=[])with h|h;·exact h
     ·exact absurd ⟨hz,h⟩ hst
    subst hz hle;have hq0:q=0:=by omega
    have hr0:r=0:=by omega
    have HL3:=qH (show decP 0++[48]=Lib.decDigits n by have h9:=hl2.out;rw[hq0,hr0]at h9;exact h9);clear hl hl' hst hq hr;go_wp2;go_roundw;case rel=>exact⟨0,[48],by first|rfl|go_num,by first|rfl|(simp;done),by omega,by simp,.inr ⟨by simp,HL3.out⟩,HB.out.alloc HB.out.size _⟩
    case measure=>simp[ByteArray.size]
def ReRel(w:World)(c:Clk)(s i:Value)(wr:World):Prop:= ∃(k:Nat)(P:List UInt8),i=.int .i64 k∧k≤c.src.length∧s=.string ⟨P.toArray⟩∧P=lineB [99,108,111,99,107] [c.slack,c.idle,c.now,c.mark]++srcB (c.src.take k)∧RowKit.Below w.heap.size w wr
theorem rclkenc_any(w:World)(bc:Nat)(S:Nat→Prop)(N:Nat)(c:Clk)(h:RClk w bc S N c)(hN:N≤90000):Calls Tryz.prog 28 #[.pointer (some ⟨bc,0,none⟩)] w fun e w'=>e=.returned (.string ⟨(encC c).toArray⟩)∧RowKit.Below w.heap.size w w':=by
 obtain⟨A,n,cp,hblk,hsrc,_⟩:=h.view;have hok:=h.ok;have hln:=hsrc.len;have hlN:=h.len;have HSR:=qH hsrc;have HOK:=qH hok;have hbl:bc<w.heap.size:=heap_lt hblk;have HCL:=qH (show∀W,RowKit.Below w.heap.size w W→W.cell? ⟨bc,0,none⟩=some (.int .i64 c.slack)∧W.cell? ⟨bc,1,none⟩=some (.int .i64 c.idle)∧W.cell? ⟨bc,2,none⟩=some (.int .i64 c.now)∧W.cell? ⟨bc,3,none⟩=some (.int .i64 c.mark)∧W.cell? ⟨bc,4,none⟩=some (.slice A n cp)from fun W hW=>by have hb:=(hW.block bc hbl).trans hblk;have key: ∀o,W.cell? ⟨bc,o,none⟩=_:=fun o=>cell_of_row W bc o _ _ (0,0) hb;exact⟨(key 0).trans rfl,(key 1).trans rfl,(key 2).trans rfl,(key 3).trans rfl,(key 4).trans rfl⟩);have h1:=hok.slack;have h2:=hok.idle;have h3:=hok.now;have h4:=hok.mark;obtain⟨d1,q1⟩: ∃d,d=Lib.itoa c.slack:=⟨_,rfl⟩;have l1:d1.length≤21:=by rw[q1];exact Lib.itoa_length_le c.slack (by omega) (by omega)
 have HD1:=qH (show∀W:World,Calls Tryz.prog 66 #[.int .i64 c.slack] W fun e w'=>e=.returned (.string ⟨d1.toArray⟩)∧RowKit.Below W.heap.size W w' from fun W=>by rw[q1];exact rdig6_any W c.slack (by omega) (by omega));obtain⟨d2,q2⟩: ∃d,d=Lib.itoa c.idle:=⟨_,rfl⟩;have l2:d2.length≤21:=by rw[q2];exact Lib.itoa_length_le c.idle (by omega) (by omega)
 have HD2:=qH (show∀W:World,Calls Tryz.prog 66 #[.int .i64 c.idle] W fun e w'=>e=.returned (.string ⟨d2.toArray⟩)∧RowKit.Below W.heap.size W w' from fun W=>by rw[q2];exact rdig6_any W c.idle (by omega) (by omega));obtain⟨d3,q3⟩: ∃d,d=Lib.itoa c.now:=⟨_,rfl⟩;have l3:d3.length≤21:=by rw[q3];exact Lib.itoa_length_le c.now (by omega) (by omega)
 have HD3:=qH (show∀W:World,Calls Tryz.prog 66 #[.int .i64 c.now] W fun e w'=>e=.returned (.string ⟨d3.toArray⟩)∧RowKit.Below W.heap.size W w' from fun W=>by rw[q3];exact rdig6_any W c.now (by omega) (by omega));obtain⟨d4,q4⟩: ∃d,d=Lib.itoa c.mark:=⟨_,rfl⟩;have l4:d4.length≤21:=by rw[q4];exact Lib.itoa_length_le c.mark (by omega) (by omega)
 have HD4:=qH (show∀W:World,Calls Tryz.prog 66 #[.int .i64 c.mark] W fun e w'=>e=.returned (.string ⟨d4.toArray⟩)∧RowKit.Below W.heap.size W w' from fun W=>by rw[q4];exact rdig6_any W c.mark (by omega) (by omega));have HQ:=qH (And.intro q1 (And.intro q2 (And.intro q3 q4)));clear q1 q2 q3 q4;have HPL:=qH (show∀k,(lineB [99,108,111,99,107] [c.slack,c.idle,c.now,c.mark]++srcB (c.src.take k)).length≤100+69*c.src.length from fun k=>by
  have g1:=srcB_len hok (min k c.src.length);have g2:c.src.take k=c.src.take (min k c.src.length):=by rw[List.take_eq_take_iff];simp
  rw[←g2]at g1;have g3:=lineB_len [99,108,111,99,107] [c.slack,c.idle,c.now,c.mark] (by intro v hv;simp at hv;rcases hv with rfl|rfl|rfl|rfl<;>omega);simp only[List.length_cons,List.length_nil]at g3;rw[List.length_append];omega);have HBF:=qH (Below.refl w.heap.size w);clear h hblk hsrc hok;go_enter Tryz.func28,Tryz.ntmps28;go_upto_region 1 with fail;have z1: ¬9223372036854775807<6+d1.length:=by omega
 have z2: ¬9223372036854775807<6+d1.length+1:=by omega
 have z3: ¬9223372036854775807<6+d1.length+1+d2.length:=by omega
 have z4: ¬9223372036854775807<6+d1.length+1+d2.length+1:=by omega
 have z5: ¬9223372036854775807<6+d1.length+1+d2.length+1+d3.length:=by omega
 have z6: ¬9223372036854775807<6+d1.length+1+d2.length+1+d3.length+1:=by omega
 have z7: ¬9223372036854775807<6+d1.length+1+d2.length+1+d3.length+1+d4.length:=by omega
 have z8: ¬9223372036854775807<6+d1.length+1+d2.length+1+d3.length+1+d4.length+1:=by omega
 have HBX:=qH (show RowKit.Below w.heap.size w w.drew from below_drewN (Below.refl _ _) 1);have hS:=HCL.out _ HBX.out;go_region_held3(fun W=>W.cell? ⟨bc,0,none⟩=some (.int .i64 c.slack)∧W.cell? ⟨bc,1,none⟩=some (.int .i64 c.idle)∧W.cell? ⟨bc,2,none⟩=some (.int .i64 c.now)∧W.cell? ⟨bc,3,none⟩=some (.int .i64 c.mark)∧W.cell? ⟨bc,4,none⟩=some (.slice A n cp))(first|with_reducible assumption|with_reducible exact HCL.out _ HBX.out)((go_at_call 66;first|((with_reducible refine(HD1.out _).mono ?_);rintro r wx⟨rfl,hb⟩;have HBX2:=qH (HBX.out.trans (hb.mono HBX.out.size));clear HBX;have HBX:=HBX2;clear HBX2 hb hS;have hS:=HCL.out _ HBX.out)|((with_reducible refine(HD2.out _).mono ?_);rintro r wx⟨rfl,hb⟩;have HBX2:=qH (HBX.out.trans (hb.mono HBX.out.size));clear HBX;have HBX:=HBX2;clear HBX2 hb hS;have hS:=HCL.out _ HBX.out)|((with_reducible refine(HD3.out _).mono ?_);rintro r wx⟨rfl,hb⟩;have HBX2:=qH (HBX.out.trans (hb.mono HBX.out.size));clear HBX;have HBX:=HBX2;clear HBX2 hb hS;have hS:=HCL.out _ HBX.out)|((with_reducible refine(HD4.out _).mono ?_);rintro r wx⟨rfl,hb⟩;have HBX2:=qH (HBX.out.trans (hb.mono HBX.out.size));clear HBX;have HBX:=HBX2;clear HBX2 hb hS;have hS:=HCL.out _ HBX.out)));clear z1 z2 z3 z4 z5 z6 z7 z8;obtain⟨p1,p2,p3,p4⟩:=HQ.out;have HP:=qH (show(⟨#[99,108,111,99,107,32]⟩++⟨d1.toArray⟩++⟨#[32]⟩++⟨d2.toArray⟩++⟨#[32]⟩++⟨d3.toArray⟩++⟨#[32]⟩++⟨d4.toArray⟩++⟨#[10]⟩:ByteArray)=⟨(lineB [99,108,111,99,107] [c.slack,c.idle,c.now,c.mark]).toArray⟩from by
  rw[show(⟨#[99,108,111,99,107,32]⟩:ByteArray)=⟨[99,108,111,99,107,32].toArray⟩from rfl,show(⟨#[32]⟩:ByteArray)=⟨[32].toArray⟩from rfl,show(⟨#[10]⟩:ByteArray)=⟨[10].toArray⟩from rfl];repeat rw[str_app]
  unfold lineB numsB;rw[p1,p2,p3,p4];simp);clear p1 p2 p3 p4 hS;generalize(⟨#[99,108,111,99,107,32]⟩++⟨d1.toArray⟩++⟨#[32]⟩++⟨d2.toArray⟩++⟨#[32]⟩++⟨d3.toArray⟩++⟨#[32]⟩++⟨d4.toArray⟩++⟨#[10]⟩:ByteArray)=st at*;have hst:=HP.out;subst hst;have HREL:=qH (show ReRel w c (.string ⟨(lineB [99,108,111,99,107] [c.slack,c.idle,c.now,c.mark]).toArray⟩) (.int .i64 0) wx from⟨0,_,rfl,Nat.zero_le _,rfl,by simp[srcB],HBX.out⟩);clear HBX HD1 HD2 HD3 HD4 l1 l2 l3 l4 HQ;generalize(⟨(lineB [99,108,111,99,107] [c.slack,c.idle,c.now,c.mark]).toArray⟩:ByteArray)=st at*;go_wp2;go_loopw[3,4](fun s i wr=>ReRel w c s i wr)(fun _ i _=>n-(intOf i).toNat);case atStart=>exact HREL.out
 case round=>
  obtain⟨k,P,rfl,hk,rfl,hP,hbel⟩:=hrel;have HB:=qH hbel;have hpl:P.length≤100+69*c.src.length:=by rw[hP];exact HPL.out k
  have HPP:=qH hP;obtain⟨c0,c1,c2,c3,c4⟩:=HCL.out wr hbel;clear hP hbel HREL;by_cases hkn:k<n
  ·have hkl:k<c.src.length:=by omega
   obtain⟨b,off,hA,hb,s0,s1,s2⟩:=HSR.out.at_ k hkl;subst hA;have hsk:=HOK.out.src _ (List.getElem_mem hkl);have hnw:=HOK.out.now;have HTK:=qH (srcB_take c.src k hkl);have HSS:=qH (show∀W,RowKit.Below wr.heap.size wr W→W.cell? ⟨bc,4,none⟩=some (.slice (some ⟨b,off,none⟩) n cp)∧W.cell? ⟨b,off+k*3,none⟩=some (.string ⟨c.src[k].1.toArray⟩)∧W.cell? ⟨b,off+k*3+1,none⟩=some (.int .i64 c.src[k].2.1)∧W.cell? ⟨b,off+k*3+2,none⟩=some (.int .i64 c.src[k].2.2)from fun W hW=>by have hb2:=HB.out.trans (hW.mono HB.out.size);obtain⟨_,_,_,_,c4⟩:=HCL.out W hb2;exact⟨c4,(hb2.cell (p:=⟨b,off+k*3,none⟩) hb).trans s0,(hb2.cell (p:=⟨b,off+k*3+1,none⟩) hb).trans s1,(hb2.cell (p:=⟨b,off+k*3+2,none⟩) hb).trans s2⟩);have hnl:c.src[k].1.length≤24:=by have:=hsk.1;unfold nameB at this;simp at this;omega
   obtain⟨da,q5⟩: ∃d,d=Lib.itoa c.src[k].2.1:=⟨_,rfl⟩;have l5:da.length≤21:=by rw[q5];exact Lib.itoa_length_le _ (by omega) (by omega)
   have HD5:=qH (show∀W:World,Calls Tryz.prog 66 #[.int .i64 c.src[k].2.1] W fun e w'=>e=.returned (.string ⟨da.toArray⟩)∧RowKit.Below W.heap.size W w' from fun W=>by rw[q5];exact rdig6_any W _ (by omega) (by omega));obtain⟨db,q6⟩: ∃d,d=Lib.itoa c.src[k].2.2:=⟨_,rfl⟩;have l6:db.length≤21:=by rw[q6];exact Lib.itoa_length_le _ (by omega) (by omega)
   have HD6:=qH (show∀W:World,Calls Tryz.prog 66 #[.int .i64 c.src[k].2.2] W fun e w'=>e=.returned (.string ⟨db.toArray⟩)∧RowKit.Below W.heap.size W w' from fun W=>by rw[q6];exact rdig6_any W _ (by omega) (by omega));have HL:=qH (show lineB c.src[k].1 [c.src[k].2.1,c.src[k].2.2]=c.src[k].1++[32]++da++[32]++db++[10]from by unfold lineB numsB;rw[q5,q6];simp);clear q5 q6 hsk s0 s1 s2 c0 c1 c2 c3;generalize c.src[k].1=nm at*;generalize c.src[k].2.1=na at*;generalize c.src[k].2.2=nb at*;have t1:(k:Int)<n:=by omega
   have z1: ¬9223372036854775807<P.length+nm.length:=by omega
   have z2: ¬9223372036854775807<P.length+nm.length+1:=by omega
   have z3: ¬9223372036854775807<P.length+nm.length+1+da.length:=by omega
   have z4: ¬9223372036854775807<P.length+nm.length+1+da.length+1:=by omega
   have z5: ¬9223372036854775807<P.length+nm.length+1+da.length+1+db.length:=by omega
   have z6: ¬9223372036854775807<P.length+nm.length+1+da.length+1+db.length+1:=by omega
   have HBX:=qH (show RowKit.Below wr.heap.size wr wr.drew from below_drewN (Below.refl _ _) 1);have hS:=HSS.out _ HBX.out;go_upto_region 5 with fail;clear c4;go_region_held3(fun W=>W.cell? ⟨bc,4,none⟩=some (.slice (some ⟨b,off,none⟩) n cp)∧W.cell? ⟨b,off+k*3,none⟩=some (.string ⟨nm.toArray⟩)∧W.cell? ⟨b,off+k*3+1,none⟩=some (.int .i64 na)∧W.cell? ⟨b,off+k*3+2,none⟩=some (.int .i64 nb))(first|with_reducible assumption|with_reducible exact HSS.out _ HBX.out)((go_at_call 66;first|((with_reducible refine(HD5.out _).mono ?_);rintro r wx⟨rfl,hb⟩;have HBX2:=qH (HBX.out.trans (hb.mono HBX.out.size));clear HBX;have HBX:=HBX2;clear HBX2 hb hS;have hS:=HSS.out _ HBX.out)|((with_reducible refine(HD6.out _).mono ?_);rintro r wx⟨rfl,hb⟩;have HBX2:=qH (HBX.out.trans (hb.mono HBX.out.size));clear HBX;have HBX:=HBX2;clear HBX2 hb hS;have hS:=HSS.out _ HBX.out)));clear z1 z2 z3 z4 z5 z6 hS;have HP2:=qH (show(⟨P.toArray⟩++⟨nm.toArray⟩++⟨#[32]⟩++⟨da.toArray⟩++⟨#[32]⟩++⟨db.toArray⟩++⟨#[10]⟩:ByteArray)=⟨(P++(nm++[32]++da++[32]++db++[10])).toArray⟩from by
    rw[show(⟨#[32]⟩:ByteArray)=⟨[32].toArray⟩from rfl,show(⟨#[10]⟩:ByteArray)=⟨[10].toArray⟩from rfl];repeat rw[str_app]
    simp);generalize(⟨P.toArray⟩++⟨nm.toArray⟩++⟨#[32]⟩++⟨da.toArray⟩++⟨#[32]⟩++⟨db.toArray⟩++⟨#[10]⟩:ByteArray)=st2 at*;have HREL2:=qH (show ReRel w c (.string st2) (.int .i64 ((k+1:Nat):Int)) wx from⟨k+1,_,rfl,by omega,by rw[HP2.out],by rw[HTK.out,HL.out,HPP.out];simp,HB.out.trans (HBX.out.mono HB.out.size)⟩);clear HBX HD5 HD6 HSS;go_wp2;go_roundw;case rel=>exact HREL2.out
   case measure=>simp[intOf];omega
  ·have hkk:k=c.src.length:=by omega
   have t1: ¬(k:Int)<n:=by omega
   have HEQ:=qH (show P=encC c from by rw[HPP.out,hkk,List.take_length];rfl);go_wp2;go_ret;exact⟨congrArg (fun z:List UInt8=>Ending.returned (.string ⟨z.toArray⟩)) HEQ.out,HB.out⟩
end Go.Proofs.YtbejfgmdkmddnaaGreatDoor
