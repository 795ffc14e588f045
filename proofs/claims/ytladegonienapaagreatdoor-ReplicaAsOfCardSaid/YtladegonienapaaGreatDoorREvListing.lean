/-
  Layer 2: the document's Some and Texts.
-/
import Derived.Test.YtladegonienapaaGreatDoorRSearch
import Derived.Test.YtladegonienapaaGreatDoorRShelf
import Derived.WalkLawsBesides
set_option maxRecDepth 100000
set_option maxHeartbeats 16000000
namespace Go.Proofs.YtladegonienapaaGreatDoor
open Go.RowKit
def jE(e:Ev):Bool:=ae e.src&&decide (1≤e.num)&&decide (e.num≤1099511627776)&&decide (0≤e.at_)&&decide (e.at_≤1099511627776)
def qZ(e:Ev):Bool:=(e.kind==14)&&jE e&&ae e.per&&e.item.isEmpty&&(e.val==0)&&e.text.isEmpty
def Ev.small(e:Ev):Prop:=e.src.length≤1000000000∧e.per.length≤1000000000∧e.item.length≤1000000000∧e.text.length≤1000000000
theorem Ga(w:World)(e:Ev)(hs:e.small)(hh:jE e=false):Calls Tryz.prog 43 #[e.agg] w (Says false w):=by
 obtain⟨s1,s2,s3,s4⟩:=hs;unfold Ev.agg;have HH:=qS ((ae e.src&&decide (1≤e.num)&&decide (e.num≤1099511627776)&&decide (0≤e.at_)&&decide (e.at_≤1099511627776))=false) (hh);clear hh;go_enter Tryz.func43,Tryz.ntmps43;go_wp2_with fail;refine(kN _ e.src s1).mono ?_;rintro r w1⟨rfl,rfl⟩;have hb:Below w.heap.size w (w.alloc (aj e)):=(Below.refl _ _).alloc (Nat.le_refl _) _;generalize ae e.src=ns at*;cases ns;·go_wp2;go_ret;exact⟨rfl,hb⟩
 ·by_cases h1:e.num<1;·go_wp2;go_ret;exact⟨rfl,hb⟩
  by_cases h2:1099511627776<e.num;·go_wp2;go_ret;exact⟨rfl,hb⟩
  by_cases h3:e.at_<0;·go_wp2;go_ret;exact⟨rfl,hb⟩
  have h4:1099511627776<e.at_:=by have:=HH.o;simp at this;omega
  go_wp2;go_ret;exact⟨rfl,hb⟩
theorem Oa(w:World)(l:List UInt8)(hm:l.length≤1000000000):Calls Tryz.prog 66 #[.string ⟨l.toArray⟩] w fun e w'=>e=.returned (.bool (ae l))∧w'=w:=(kN w l hm).mono fun _ _ h=>⟨h.1,h.2.symm⟩
theorem AR(w:World)(e:Ev)(hs:e.small)(hh:jE e=true)(hk:e.kind=14):Calls Tryz.prog 43 #[e.agg] w (Says (ae e.per&&e.item.isEmpty&&(e.val==0)&&e.text.isEmpty) w):=by
 obtain⟨s1,s2,s3,s4⟩:=hs;have hh':(ae e.src&&decide (1≤e.num)&&decide (e.num≤1099511627776)&&decide (0≤e.at_)&&decide (e.at_≤1099511627776))=true:=hh;simp only[Bool.and_eq_true,decide_eq_true_eq]at hh';obtain⟨⟨⟨⟨hns,h1⟩,h2⟩,h3⟩,h4⟩:=hh';have M4:=qH hns;clear hns hh;have d1:decide (e.num<1)=false:=decide_eq_false (by omega);have d2:decide (1099511627776<e.num)=false:=decide_eq_false (by omega);have d3:decide (e.at_<0)=false:=decide_eq_false (by omega);have d4:decide (1099511627776<e.at_)=false:=decide_eq_false (by omega);have HK:=qH hk;clear hk;unfold Ev.agg;go_enter Tryz.func43,Tryz.ntmps43;go_wp2_with fail;refine(kN _ e.src s1).mono ?_;rintro r w1⟨rfl,rfl⟩;rw[M4.o];have hb:Below w.heap.size w (w.alloc (aj e)):=(Below.refl _ _).alloc (Nat.le_refl _) _;obtain⟨f0,f1,f2,f3,f4,f5,f6,f7⟩:=dK.new w e;generalize w.alloc (aj e)=w1 at*;rw[HK.o]at f3;go_wp2;clear d1 d2 d3 d4;go_quiet((go_at_call 66;exact Calls.quiet_of_same (Oa _ _ (by assumption))));have hbq:Below w.heap.size w (w1.drewN nq):=below_drewN hb nq;generalize ae e.per=np at*;generalize ae e.item=ni at*;cases np;·go_wp2;go_ret;exact⟨rfl,hbq⟩
 cases hi:e.item.isEmpty;·go_wp2;go_ret;exact⟨by rw[hi];rfl,hbq⟩
 cases hv:(e.val==0);·go_wp2;go_ret;exact⟨by rw[hi,hv];rfl,hbq⟩
 go_wp2;go_ret;exact⟨by rw[hi,hv];rfl,hbq⟩
open Go.Maps Go.Sort
theorem FD:(Tryz.prog.info? 9).map (fun i=>(i.zero,i.size,i.bytes))=some (some (.string ByteArray.empty),1,16):=by kernel_rfl
def Strs(w:World)(B:Nat)(A:Option Addr)(n c:Nat)(ss:List (List UInt8)):Prop:=aI w B 1 A n c (ss.map encStr)
theorem Strs.len{w:World}{B n c:Nat}{A:Option Addr}{ss:List (List UInt8)}(h:Strs w B A n c ss):ss.length=n:=by have:=aI.len h;simpa using this
theorem Strs.at_{w:World}{B n c:Nat}{A:Option Addr}{ss:List (List UInt8)}(h:Strs w B A n c ss)(k:Nat)(hk:k<ss.length): ∃b off,A=some ⟨b,off,none⟩∧b<B∧w.cell? ⟨b,off+k,none⟩=some (.string ⟨ss[k].toArray⟩):=by have hl:=h.len;obtain⟨b,off,e,hb,hc⟩:=aI.cell h (by omega);exact⟨b,off,e,hb,hc k _ (by simp[hk,encStr])⟩
def aM(w:World):Prop:= ∃m,w.cell? ⟨0,0,none⟩=some (.int .i64 m)
theorem aM.lt{w:World}(h:aM w):0<w.heap.size:=by obtain⟨m,h⟩:=h;exact World.block_lt_of_cell? w ⟨0,0,none⟩ h
theorem aM.below{w w':World}{B:Nat}(h:aM w)(hb:Below B w w')(hB:0<B):aM w':=by obtain⟨m,h⟩:=h;exact⟨m,(hb.cell (p:=⟨0,0,none⟩) hB).trans h⟩
theorem aM.up{w w':World}(h:aM w)(hb:Below w.heap.size w w'):aM w':=h.below hb h.lt
def dQ(s:List UInt8):List UInt8:=(Lib.cut s [59]).2.1
def dw(s:List UInt8):List (List UInt8):=if(dQ s).isEmpty then[]else(Lib.splitB ⟨#[44]⟩ 0 (Lib.countB ⟨(dQ s).toArray⟩ ⟨#[44]⟩) ⟨(dQ s).toArray⟩).map (fun b=>b.data.toList)
theorem nQ(s:List UInt8):(dQ s).length≤s.length:=by
 unfold dQ Lib.cut;split;·simp
 ·simp
theorem LV(b:ByteArray):(⟨b.data.toList.toArray⟩:ByteArray)=b:=by cases b;simp
theorem FC(w:World)(s:List UInt8)(hs:s.length≤1000000000)(hm:aM w):Calls Tryz.prog 127 #[.string ⟨s.toArray⟩] w fun e w'=> ∃A c,e=.returned (.slice A (dw s).length c)∧Strs w' w'.heap.size A (dw s).length c (dw s)∧Below w.heap.size w w':=by
 obtain⟨m,hmc⟩:=hm;have HM:=qH hmc;clear hmc;have HR:=qS ((Lib.cut s [59]).2.1=dQ s) (rfl);have hrl:=nQ s;have HT:=qS (dw s=if(dQ s).isEmpty then[]else(Lib.splitB ⟨#[44]⟩ 0 (Lib.countB ⟨(dQ s).toArray⟩ ⟨#[44]⟩) ⟨(dQ s).toArray⟩).map (fun b=>b.data.toList)) (rfl);go_enter Tryz.func127,Tryz.ntmps127;go_wp2_with fail;refine(Tryz.strings_Cut ⟨s.toArray⟩ ⟨#[59]⟩ m w (by simp[ByteArray.size];omega) HM.o).mono ?_;rintro q w1⟨rfl,n1,rfl⟩;simp only;rw[HR.o];generalize dQ s=rest at*;generalize(Lib.cut s [59]).1=mk at*;generalize(Lib.cut s [59]).2.2=ok at*;cases he:rest.isEmpty
 ·go_wp2_with fail;refine(Tryz.strings_Split ⟨rest.toArray⟩ ⟨#[44]⟩ m (w.drewN n1) (by simp[ByteArray.size];omega) HM.o (by simp[ByteArray.size])).mono ?_;rintro q w2⟨rfl,rfl⟩;have hT:=HT.o;rw[he]at hT;simp only[Bool.false_eq_true,if_false]at hT;have hl:(dw s).length=Lib.countB ⟨rest.toArray⟩ ⟨#[44]⟩+1:=by rw[hT,List.length_map];exact(Lib.splitB_all ⟨#[44]⟩ (by simp[ByteArray.size]) 0 _ ⟨rest.toArray⟩ rfl)
  have hE:(Lib.splitB ⟨#[44]⟩ 0 (Lib.countB ⟨rest.toArray⟩ ⟨#[44]⟩) ⟨rest.toArray⟩).map Value.string=(dw s).map encStr:=by rw[hT,List.map_map];refine List.map_congr_left fun b _=>?_;show Value.string b=.string ⟨b.data.toList.toArray⟩;rw[LV]
  have HL:=qH hl;have HE:=qH hE;clear hl hE hT;have hcb:Lib.countB ⟨rest.toArray⟩ ⟨#[44]⟩≤1000000000:=by have:=Lib.countB_le ⟨#[44]⟩ (by simp[ByteArray.size]) _ ⟨rest.toArray⟩ (Nat.le_refl _);simp[ByteArray.size]at this;omega
  go_wp2;go_ret;refine⟨some ⟨w.heap.size,0,none⟩,Lib.countB ⟨rest.toArray⟩ ⟨#[44]⟩+1,by rw[HL.o];rfl,?_,((below_drewN (Below.refl _ _) n1).alloc (by simp) _)⟩;rw[HE.o,←HL.o];have h:=aI.new (w.drewN n1) ((dw s).map encStr).toArray 9 (n:=(dw s).length) (size:=1) (by rw[HL.o];unfold maxLen;omega) (by simp);unfold Strs;simpa using h
 ·have hT:=HT.o;rw[he]at hT;simp only[if_true]at hT;have MR:=qH hT;clear hT;go_wp2;go_ret;exact⟨none,0,by rw[MR.o];rfl,by rw[MR.o];exact aI.nil _ _ _ _ _ (by unfold maxLen;omega),below_drewN (Below.refl _ _) n1⟩
def l7(ts:List (List UInt8))(j:Nat):Bool:=ae (ts.getD j [])&&(j==0||Op.bytesLess (ts.getD (j-1) []) (ts.getD j []))
def iR(ts:List (List UInt8)):Bool:=(List.range ts.length).all (l7 ts)
def aQ(s:List UInt8):Bool:=(Lib.cut s [59]).2.2&&ae (Lib.cut s [59]).1&&decide ((dw s).length≤8)&&iR (dw s)
theorem qK(s:List UInt8):(Lib.cut s [59]).1.length≤s.length:=by
 unfold Lib.cut;split;·simp;omega
 ·simp
theorem fF(w:World)(l:List UInt8):Calls Tryz.prog 66 #[.string ⟨l.toArray⟩] w fun e w'=>e=.returned (.bool (ae l))∧w=w':=by
 by_cases h:l.length≤1000000000;·exact kN w l h
 ·have h24:24<l.length:=by omega
  have h0: ¬l.length<1:=by omega
  go_enter Tryz.func66,Tryz.ntmps66;go_wp2;go_ret;rw[dX (.inr h24)];exact⟨rfl,rfl⟩
def Ke(ts:List (List UInt8))(w2:World)(i:Value)(wr:World):Prop:= ∃k:Nat,i=.int .i64 k∧k≤ts.length∧wr=w2∧Hid (∀j,j<k→l7 ts j=true)
theorem yV(w:World)(s:List UInt8)(hs:s.length≤1000000000)(hm:aM w):Calls Tryz.prog 80 #[.string ⟨s.toArray⟩] w (Says (aQ s) w):=by
 have PZ:=qH hm;obtain⟨m,hmc⟩:=hm;have HM:=qH hmc;clear hmc;have kr:=qS (aQ s=((Lib.cut s [59]).2.2&&ae (Lib.cut s [59]).1&&decide ((dw s).length≤8)&&iR (dw s))) (rfl);have hcl:=qK s;go_enter Tryz.func80,Tryz.ntmps80;go_wp2_with fail;refine(Tryz.strings_Cut ⟨s.toArray⟩ ⟨#[59]⟩ m w (by simp[ByteArray.size];omega) HM.o).mono ?_;rintro q w1⟨rfl,n1,rfl⟩;simp only;have hb1:Below w.heap.size w (w.drewN n1):=below_drewN (Below.refl _ _) n1;generalize(Lib.cut s [59]).1=mk at*;generalize(Lib.cut s [59]).2.1=rs at*;generalize(Lib.cut s [59]).2.2=ok at*;have lH:=qH (PZ.o.up hb1);generalize w.drewN n1=w1 at*;cases ok;·go_wp2;go_ret;exact⟨aa (by rw[kr.o];rfl),hb1⟩
 go_wp2_with fail;refine(kN w1 mk (by omega)).mono ?_;rintro q w2⟨rfl,rfl⟩;generalize ae mk=nm at*;cases nm;·go_wp2;go_ret;exact⟨aa (by rw[kr.o];rfl),hb1⟩
 go_wp2_with fail;refine(FC w1 s hs lH.o).mono ?_;rintro q w2⟨A,c,rfl,hst,hb2⟩;have hbw2:Below w.heap.size w w2:=hb1.trans (hb2.mono hb1.size);have HS:=qH hst;clear hst;generalize dw s=ts at*;by_cases h8:8<ts.length
 ·have t8:(8:Int)<ts.length:=by omega
  have HF:=qS (aQ s=false) (by rw[kr.o,decide_eq_false (show¬ts.length≤8 by omega)];simp);go_wp2;go_ret;exact⟨aa HF.o.symm,hbw2⟩
 have HG:=qS (aQ s=iR ts) (by rw[kr.o,decide_eq_true (show ts.length≤8 by omega)];simp);clear kr;go_wp2;go_loopw[29](fun i wr=>Ke ts w2 i wr)(fun i _=>ts.length-(intOf i).toNat);case atStart=>exact⟨0,rfl,Nat.zero_le _,rfl,fun j h=>by omega⟩
 case round=>
  obtain⟨k,rfl,hk,rfl,HK⟩:=hrel;by_cases hkn:k<ts.length
  ·obtain⟨b,off,rfl,hb,hc⟩:=HS.o.at_ k hkn;have HB:=qS (l7 ts k=(ae ts[k]&&(k==0||Op.bytesLess (ts.getD (k-1) []) ts[k]))) (by unfold l7;simp[List.getD,List.getElem?_eq_getElem hkn]);have uu:=qS (l7 ts k=false→iR ts=false) (fun h=>by unfold iR;rw[List.all_eq_false];exact⟨k,by simpa using hkn,by simp[h]⟩);have BQ:=qS (l7 ts k=true→ ∀j,j<k+1→l7 ts j=true) (fun h j hj=>by
    by_cases e:j=k;·subst e;exact h
    ·exact HK.o j (by omega));have hts:ts.length≤8:=by omega
   have oO:=qS (0<k→wr.cell? ⟨b,off+(k-1),none⟩=some (.string ⟨(ts.getD (k-1) []).toArray⟩)) (fun h0=>by obtain⟨b',off',e',_,hc'⟩:=HS.o.at_ (k-1) (by omega);injection e' with e';injection e' with e1 e2;subst e1 e2;rw[hc'];simp[List.getD,List.getElem?_eq_getElem (show k-1<ts.length by omega)]);generalize ts.getD (k-1) []=q at*;have t1:(k:Int)<ts.length:=by omega
   generalize ts[k]=t at*;go_wp2_with fail;refine(fF wr t).mono ?_;rintro e w3⟨rfl,rfl⟩;generalize ae t=nt at*;cases nt;·have HF:=qH (uu.o (by rw[HB.o];rfl));go_wp2;go_ret;exact⟨aa (by rw[HG.o,HF.o]),hbw2⟩
   by_cases k0:k=0
   ·subst k0;have HY:=qH (BQ.o (by rw[HB.o];rfl));go_wp2;go_roundw;case rel=>exact⟨1,by go_num,by omega,rfl,HY.o⟩
    case measure=>simp[intOf];omega
   ·have hc1:=oO.o (by omega);have k1:(0:Int)<k:=by omega
    have ek:(k:Int)-1=((k-1:Nat):Int):=by omega
    have xJ:=qS (l7 ts k=Op.bytesLess q t) (by rw[HB.o];simp[k0]);cases hbl:Op.bytesLess q t;·have HF:=qH (uu.o (xJ.o.trans hbl));go_wp2;go_ret;exact⟨aa (by rw[HG.o,HF.o]),hbw2⟩
    ·have HY:=qH (BQ.o (xJ.o.trans hbl));go_wp2;go_roundw;case rel=>exact⟨k+1,by go_num,by omega,rfl,HY.o⟩
     case measure=>simp[intOf];omega
  ·have HT:=qS (iR ts=true) (by
    unfold iR;rw[List.all_eq_true];intro j hj;exact HK.o j (by
     have:j<ts.length:=by simpa using hj
     omega));go_wp2;go_ret;exact⟨aa (by rw[HG.o,HT.o]),hbw2⟩
theorem mK(w:World)(B B':Nat)(A A':Option Addr)(n c c':Nat)(es:List Ev)(h:eD w B A n c es)(h':eD w B' A' n c' es)(hn:n≤100000):Calls Tryz.prog 13 #[.slice A n c,.slice A' n c'] w fun e w'=>e=.returned (.bool true)∧ ∃k,w'=w.drewN k:=by
 have HH:=qH h;clear h;have NT:=qH h';clear h';have hnn:((n:Int)!=(n:Int))=false:=by simp
 go_enter Tryz.func13,Tryz.ntmps13;go_wp2;clear hnn;go_loopw[5](fun i wr=> ∃k q:Nat,i=.int .i64 k∧k≤n∧wr=w.drewN q)(fun i _=>n-(intOf i).toNat);case atStart=>exact⟨0,0,rfl,Nat.zero_le _,rfl⟩
 case round=>
  obtain⟨k,q,rfl,hk,rfl⟩:=hrel;by_cases hkn:k<n
  ·have hkl:k<es.length:=by rw[HH.o.len];exact hkn
   obtain⟨b,off,rfl,hb,hc⟩:=HH.o.ev k hkl;obtain⟨b',off',rfl,hb',hc'⟩:=NT.o.ev k hkl;obtain⟨e0,e1,e2,e3,e4,e5,e6,e7⟩:=hc;obtain⟨f0,f1,f2,f3,f4,f5,f6,f7⟩:=hc';have t1:(k:Int)<n:=by omega
   generalize es[k]=x at*;go_wp2;go_quiet(fail);go_wp2;go_roundw;case rel=>exact⟨k+1,q+nq,by go_num,by omega,by first|rfl|exact World.drewN_drewN ..⟩
   case measure=>simp[intOf];omega
  ·go_wp2;go_ret;exact⟨rfl,_,rfl⟩
def gN(e:Ev)(m:Int):Bool:=decide (m<e.src.length)||decide (m<e.per.length)||decide (m<e.item.length)||decide (m<e.text.length)
theorem CR(w:World)(e:Ev)(m:Int):Calls Tryz.prog 24 #[e.agg,.int .i64 m] w (Says (gN e m) w):=by
 have HB:=qS (gN e m=(decide (m<e.src.length)||decide (m<e.per.length)||decide (m<e.item.length)||decide (m<e.text.length))) (rfl);have hb:Below w.heap.size w (w.alloc (aj e)):=(Below.refl _ _).alloc (Nat.le_refl _) _;unfold Ev.agg;cases h1:decide (m<(e.src.length:Int))
 ·cases h2:decide (m<(e.per.length:Int))
  ·cases h3:decide (m<(e.item.length:Int));·have HX:=qS (gN e m=decide (m<e.text.length)) (by rw[HB.o,h1,h2,h3];rfl);go_enter Tryz.func24,Tryz.ntmps24;go_wp2;go_ret;exact⟨aa HX.o.symm,hb⟩
   ·have HX:=qS (gN e m=true) (by rw[HB.o,h1,h2,h3];rfl);go_enter Tryz.func24,Tryz.ntmps24;go_wp2;go_ret;exact⟨aa HX.o.symm,hb⟩
  ·have HX:=qS (gN e m=true) (by rw[HB.o,h1,h2];rfl);go_enter Tryz.func24,Tryz.ntmps24;go_wp2;go_ret;exact⟨aa HX.o.symm,hb⟩
 ·have HX:=qS (gN e m=true) (by rw[HB.o,h1];rfl);go_enter Tryz.func24,Tryz.ntmps24;go_wp2;go_ret;exact⟨aa HX.o.symm,hb⟩
def O8(w:World)(es:List Ev)(m:Int)(i:Value)(wr:World):Prop:= ∃k:Nat,i=.int .i64 k∧k≤es.length∧(∀d∈es.take k,gN d m=false)∧Below w.heap.size w wr
theorem FJ(w:World)(A:Option Addr)(n c:Nat)(ds:List Ev)(h:eD w w.heap.size A n c ds)(hn:n≤140737488355328)(m:Int):Calls Tryz.prog 33 #[.slice A n c,.int .i64 m] w (Says (ds.any (fun d=>gN d m)) w):=by
 have HH:=qH h;clear h;have hl:=HH.o.len;have HL:=qH hl;clear hl;go_enter Tryz.func33,Tryz.ntmps33;go_wp2;go_loopw[5](fun i wr=>O8 w ds m i wr)(fun i _=>n-(intOf i).toNat);case atStart=>exact⟨0,rfl,Nat.zero_le _,fun d hd=>by simp at hd,Below.refl _ _⟩
 case round=>
  obtain⟨k,rfl,hk,hno,hbel⟩:=hrel;have uu:=qH hno;clear hno;have QC:k≤n:=by rw[←HL.o];exact hk
  by_cases hkn:k<n
  ·have hkl:k<ds.length:=by rw[HL.o];exact hkn
   obtain⟨b,off,rfl,hb,hd⟩:=HH.o.ev k hkl;obtain⟨e0,e1,e2,e3,e4,e5,e6,e7⟩:=hd.below hbel hb;have HT:=qS (gN ds[k] m=false→ ∀d∈ds.take (k+1),gN d m=false) (fun h d hd=>by
    rw[List.take_add_one,List.getElem?_eq_getElem hkl,Option.toList_some]at hd;rcases List.mem_append.1 hd with hd|hd;·exact uu.o d hd
    ·simp at hd;subst hd;exact h);have HY:=qS (gN ds[k] m=true→ds.any (fun d=>gN d m)=true) (fun h=>List.any_eq_true.2 ⟨_,List.getElem_mem hkl,h⟩);generalize ds[k]=d at*;have t1:(k:Int)<n:=by omega
   go_wp2_with fail;refine(CR wr d m).mono ?_;rintro r w2⟨rfl,hb2⟩;have hbw2:Below w.heap.size w w2:=hbel.trans (hb2.mono hbel.size);clear hb2 e0 e1 e2 e3 e4 e5 e6 e7 hd;cases hbg:gN d m
   ·have Po:=qH (HT.o hbg);clear hbg;go_wp2;go_roundw;case rel=>exact⟨k+1,by go_num,by omega,Po.o,hbw2⟩
    case measure=>simp[intOf];omega
   ·have Sg:=qH (HY.o hbg);clear hbg;go_wp2;go_ret;exact⟨aa (by rw[Sg.o]),hbw2⟩
  ·have HZ:=qS (ds.any (fun d=>gN d m)=false) (by rw[List.any_eq_false];intro d hd;have:=uu.o d (by rw[List.take_of_length_le (by rw[HL.o];omega)];exact hd);simp[this]);have t1: ¬(k:Int)<n:=by omega
   go_wp2;go_ret;exact⟨aa (by rw[HZ.o]),hbel⟩
theorem uR(w:World)(B B':Nat)(A A':Option Addr)(n c c':Nat)(ss:List (List UInt8))(h:Strs w B A n c ss)(h':Strs w B' A' n c' ss)(hn:n≤100000):Calls Tryz.prog 15 #[.slice A n c,.slice A' n c'] w fun e w'=>e=.returned (.bool true)∧ ∃k,w'=w.drewN k:=by
 have HH:=qH h;clear h;have NT:=qH h';clear h';have hnn:((n:Int)!=(n:Int))=false:=by simp
 go_enter Tryz.func15,Tryz.ntmps15;go_wp2;clear hnn;go_loopw[5](fun i wr=> ∃k q:Nat,i=.int .i64 k∧k≤n∧wr=w.drewN q)(fun i _=>n-(intOf i).toNat);case atStart=>exact⟨0,0,rfl,Nat.zero_le _,rfl⟩
 case round=>
  obtain⟨k,q,rfl,hk,rfl⟩:=hrel;by_cases hkn:k<n
  ·have hkl:k<ss.length:=by rw[HH.o.len];exact hkn
   obtain⟨b,off,rfl,hb,hc⟩:=HH.o.at_ k hkl;obtain⟨b',off',rfl,hb',hc'⟩:=NT.o.at_ k hkl;have t1:(k:Int)<n:=by omega
   generalize ss[k]=x at*;have t5:(!(x==x))=false:=by simp
   go_wp2;go_quiet(fail);go_wp2;go_roundw;case rel=>exact⟨k+1,_,by go_num,by omega,rfl⟩
   case measure=>simp[intOf];omega
  ·go_wp2;go_ret;exact⟨rfl,_,rfl⟩
end Go.Proofs.YtladegonienapaaGreatDoor
