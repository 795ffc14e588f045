/-
  The law ReplicaOwn, walked.
-/
import Derived.Test.YtladegonienapaaGreatDoorRRpMore
set_option maxRecDepth 100000
set_option maxHeartbeats 16000000
namespace Go.Proofs.YtladegonienapaaGreatDoor
open Go.RowKit Go.Maps Go.Sort Go.Shelf
theorem DK(w:World)(A:Option Addr)(n c:Nat)(ds:List Ev)(h:eD w w.heap.size A n c ds)(hn:n≤140737488355328)(z:Int)(e:Ev)(hmx:aM w)(he:eQ w)(ht:Lib.TabBelow Tryz.prog w.heap.size w "internal/strconv.uint64pow10" .u64 Lib.pow10Tab):Calls Tryz.prog 5 #[.slice A n c,.int .i64 z,e.agg] w (Says true w):=by
 have HL:=qH h.len;have hbx:RowKit.Below w.heap.size w (w.alloc (aj e)):=(Below.refl _ _).alloc (Nat.le_refl _) _;have aZ:=qH hbx;have HH:=qS (eD (w.alloc (aj e)) (w.alloc (aj e)).heap.size A n c ds) (aI.more (aI.below h hbx) hbx.size);have dO:=qH (hmx.up hbx);have HE:=qH (he.up hbx);have HT:=qH (iw ht hbx);have IJ:=qH (dK.new w e);have hs0:(w.alloc (aj e)).heap.size=w.heap.size+1:=by simp
 have LC:=qS (∀X:Value,X=e.agg→X=e.agg) (fun _ h=>h);clear h hmx he ht hbx;unfold Ev.agg;go_enter Tryz.func5,Tryz.ntmps5;go_upto_region 1 with fail;generalize w.alloc (aj e)=w0 at*;go_wp2_with fail;with_reducible refine(iV w0 dO.o).mono ?_
 rintro r w1⟨rfl,hb1⟩;have HB1:=qH hb1;have qR:=qS (eD w1 w1.heap.size A n c ds) (aI.more (aI.below HH.o hb1) hb1.size);clear hb1;go_wp2_with fail;with_reducible refine(lM w1 A n c ds qR.o hn).mono ?_
 rintro r w2⟨rfl,hb2⟩;have HB2:=qH (HB1.o.trans (hb2.mono HB1.o.size));have ky:=qS (eD w2 w2.heap.size A n c ds) (aI.more (aI.below qR.o hb2) hb2.size);have ma:=qS (∀W,RowKit.Below w0.heap.size w0 W→Says true w (.returned (.bool true)) W) (fun W hW=>⟨rfl,aZ.o.trans (hW.mono aZ.o.size)⟩);clear hb2 qR;cases hfw:ow ds;case false=>clear hfw;go_wp2;go_ret;exact ma.o _ HB2.o
 have hfw2:(ds.length≤30∧ds.any (fun d=>gN d 300)=false)∧ds.all aB=true:=by unfold ow at hfw;simpa using hfw
 have Ce:=qH hfw2.2;have hn30:n≤30:=by have:=HL.o;omega
 clear hfw hfw2;obtain⟨e0,e1,e2,e3,e4,e5,e6,e7⟩:=IJ.o.below HB2.o (by omega);have TJ:=qH (CR w2 e 300);unfold Ev.agg at TJ;go_wp2_with fail;clear e0 e1 e2 e3 e4 e5 e6 e7;with_reducible refine TJ.o.mono ?_
 rintro r w3⟨rfl,hb3⟩;have HB3:=qH (HB2.o.trans (hb3.mono HB2.o.size));have Qg:=qS (eD w3 w3.heap.size A n c ds) (aI.more (aI.below ky.o hb3) hb3.size);clear hb3 ky TJ;cases hbg:gN e 300;case true=>clear hbg;go_wp2;go_ret;exact ma.o _ HB3.o
 have xD:=qH (qM (ds:=[e]) (by simp[hbg]) e (by simp));clear hbg;have Vr:=qS (Calls Tryz.prog 11 #[.int .i64 7,.slice A n c] w3 (vV w3 ds)) (jv w3 A n c ds Qg.o (by omega) Ce.o 7 (by omega) (by omega) (dO.o.up HB3.o));go_wp2_with fail;with_reducible refine Vr.o.mono ?_
 rintro r w4⟨bd,bj,G,F,j,rfl,hj,hGF,hb4,hes⟩;have HJ:=qH hj;have uw:=qH hes;have NU:=qH hGF;have fA:=qH (HB3.o.trans (hb4.mono HB3.o.size));have hs3:=HB3.o.size;have hs4:=hb4.size;have Fx:=qS (∀b,G b∨F b→b<w4.heap.size) (hj.lt);clear hj hGF hb4 hes Qg Vr;go_wp2_with fail;with_reducible refine(fQ w4 G F bj bd j HJ.o 0 0 (dO.o.up fA.o)).mono ?_
 rintro r w5⟨br,bi,R,rfl,hr5,hb5,hR,hbr⟩;have Km:=qH hr5;have jJ:=qH (fA.o.trans (hb5.mono fA.o.size));have hs5:=hb5.size;have M7:=qS ((∀b,R b→w4.heap.size≤b∧b<w5.heap.size)∧w4.heap.size≤br∧br<w5.heap.size) (⟨fun b hb=>⟨hR b hb,hr5.DT b hb⟩,hbr,hr5.blt⟩);clear hr5 hb5 hR hbr HJ;go_wp2_with fail;with_reducible refine(fQ w5 G F bj bd j Km.o.jl 0 0 (dO.o.up jJ.o)).mono ?_
 rintro r w6⟨br2,bi2,R2,rfl,hr6,hb6,hR2,hbr2⟩;have PO:=qH hr6;have xS:=qH (Km.o.up hb6);have rq:=qH (jJ.o.trans (hb6.mono jJ.o.size));have hs6:=hb6.size;have Ku:=qS ((∀b,R2 b→w5.heap.size≤b∧b<w6.heap.size)∧w5.heap.size≤br2∧br2<w6.heap.size) (⟨fun b hb=>⟨hR2 b hb,hr6.DT b hb⟩,hbr2,hr6.blt⟩);clear hr6 hb6 hR2 hbr2 Km;obtain⟨m,hm⟩: ∃m:Nat,m=(min (max z 0) (n:Int)).toNat:=⟨_,rfl⟩;have Ye:m≤n:=by omega
 have HM:=qH hm;clear hm;go_wp2_with fail;with_reducible refine(bG w6 G F R br bj bd bi 0 j _ 0 xS.o ds uw.o z m (by rw[HL.o];have:=HM.o;omega) (by omega) (by rw[HL.o];omega) (by omega) (dO.o.up rq.o)).mono ?_
 rintro r w7⟨rfl,R7,hr7,hk7,Uk⟩;have Iw:=qS (dD w7 G F R7 br bj bd bi (2*30) j (av (az.new 0 0) (ds.take m)) m) (by rw[List.drop_zero,Nat.zero_add,Nat.zero_add]at hr7;exact hr7.more (by omega));have Kq:=qH (PO.o.apart hk7 (fun b hb hg hc=>by
  have hlo:w4.heap.size≤b∧b<w5.heap.size:=by
   rcases hg with h|h;·exact M7.o.1 b h
   ·rw[h];exact M7.o.2
  rcases hc with h1|h1|h1|h1;·have:=Fx.o b (.inl h1);omega
  ·have:=Fx.o b (.inr h1);omega
  ·have:=Ku.o.1 b h1;omega
  ·have:=Ku.o.2;omega));have nH:=qS (RowKit.Below w0.heap.size w0 w7) (rq.o.trans (hk7.below rq.o.size (fun b hb hg=>by
  rcases hg with h|h;·have:=M7.o.1 b h;omega
  ·have:=M7.o.2;omega)));have hs7:=hk7.size;have zT:=qS (∀b,R7 b∨b=br→((w4.heap.size≤b∧b<w5.heap.size)∨w6.heap.size≤b)∧b<w7.heap.size) (fun b hb=>by
  rcases hb with h|h
  ·refine⟨?_,hr7.DT b h⟩;rcases Uk b h with h2|h2;·exact .inl (M7.o.1 b h2)
   ·exact .inr h2
  ·have:=M7.o.2;rw[h];omega);clear hr7 hk7 Uk xS PO;go_wp2_with fail;with_reducible refine(bG w7 G F R2 br2 bj bd bi2 0 j _ 0 Kq.o ds uw.o z m (by rw[HL.o];have:=HM.o;omega) (by omega) (by rw[HL.o];omega) (by omega) (dO.o.up nH.o)).mono ?_
 rintro r w8⟨rfl,R8,hr8,hk8,OJ⟩;have vX:=qS (dD w8 G F R8 br2 bj bd bi2 (2*30) j (av (az.new 0 0) (ds.take m)) m) (by rw[List.drop_zero,Nat.zero_add,Nat.zero_add]at hr8;exact hr8.more (by omega));have BU:=qH (Iw.o.apart hk8 (fun b hb hg hc=>by
  have hlo:w5.heap.size≤b∧b<w6.heap.size:=by
   rcases hg with h|h;·exact Ku.o.1 b h
   ·rw[h];exact Ku.o.2
  rcases hc with h1|h1|h1|h1;·have:=Fx.o b (.inl h1);omega
  ·have:=Fx.o b (.inr h1);omega
  ·have:=zT.o b (.inl h1);omega
  ·have:=zT.o b (.inr h1);omega));have vY:=qS (RowKit.Below w0.heap.size w0 w8) (nH.o.trans (hk8.below nH.o.size (fun b hb hg=>by
  rcases hg with h|h;·have:=Ku.o.1 b h;omega
  ·have:=Ku.o.2;omega)));have hs8:=hk8.size;have PV:=qS (∀b,R8 b∨b=br2→((w5.heap.size≤b∧b<w6.heap.size)∨w7.heap.size≤b)∧b<w8.heap.size) (fun b hb=>by
  rcases hb with h|h
  ·refine⟨?_,hr8.DT b h⟩;rcases OJ b h with h2|h2;·exact .inl (Ku.o.1 b h2)
   ·exact .inr h2
  ·have:=Ku.o.2;rw[h];omega);have Df:=qS (bL (2*30) (av (az.new 0 0) (ds.take m))) (by obtain⟨h1,h2⟩:=lV BU.o.it;exact bL.QI rfl h1 h2 (by rw[List.length_take,HL.o];omega));clear hr8 hk8 OJ Iw Kq;go_wp2_with fail;with_reducible refine(gU w8 G F R7 br bj bd bi (2*30) j _ m BU.o Df.o (by omega) (dO.o.up vY.o) (HE.o.up vY.o) (iw HT.o vY.o)).mono ?_
 rintro r w9⟨b1,F1,rfl,hx,hb9,hF1⟩;have U4:=qH hx;have De:=qH (BU.o.up hb9);have Fh:=qH (vX.o.up hb9);have oP:=qH (vY.o.trans (hb9.mono vY.o.size));have hs9:=hb9.size;have PU:=qH hF1;have zU:=qS (∀b,G b∨F b∨R7 b∨b=br→b<w8.heap.size) (fun b hb=>by
  rcases hb with h1|h1|h1|h1;·exact BU.o.jl.lt b (.inl h1)
  ·exact BU.o.jl.lt b (.inr h1)
  ·exact BU.o.DT b h1
  ·rw[h1];exact BU.o.blt);have Nc:=qS (∀b,G b∨F b∨R8 b∨b=br2→b<w8.heap.size) (fun b hb=>by
  rcases hb with h1|h1|h1|h1;·exact vX.o.jl.lt b (.inl h1)
  ·exact vX.o.jl.lt b (.inr h1)
  ·exact vX.o.DT b h1
  ·rw[h1];exact vX.o.blt);clear hx hb9 hF1 BU vX Df;obtain⟨e0,e1,e2,e3,e4,e5,e6,e7⟩:=IJ.o.below oP.o (by omega);have HAD:=qH (vN w9 F1 b1 (2*30) _ U4.o (by omega) e xD.o (dO.o.up oP.o));unfold Ev.agg at HAD;go_wp2_with fail;clear e0 e1 e2 e3 e4 e5 e6 e7;with_reducible refine HAD.o.mono ?_
 rintro r w10⟨rfl,VM,hx10,hk10,OX⟩;have Pk:=qH hx10;have ET:=qH (De.o.apart hk10 (fun b hb hg hc=>by have:=PU.o b hg;have:=zU.o b hc;omega));have IC:=qH (Fh.o.apart hk10 (fun b hb hg hc=>by have:=PU.o b hg;have:=Nc.o b hc;omega));have mh:=qS (RowKit.Below w0.heap.size w0 w10) (oP.o.trans (hk10.below oP.o.size (fun b hb hg=>by have:=PU.o b hg;omega)));have hs10:=hk10.size;have Kv:=qS (∀b,VM b→w8.heap.size≤b) (fun b hb=>by
  rcases OX b hb with h|h;·exact PU.o b h
  ·omega);clear hx10 hk10 OX U4 De Fh HAD;generalize(av (az.new 0 0) (ds.take m)).admits e=xa at*;generalize(av (az.new 0 0) (ds.take m)).lC e=xv at*;go_wp2_with fail;with_reducible refine(Ei w10 VM b1 _ xa Pk.o 1073741824).mono ?_
 rintro r w11⟨rfl,Yq,_,hk11,_⟩;have ES:=qH (ET.o.apart hk11 (fun b hb hg hc=>by have:=Kv.o b hg;have:=zU.o b hc;omega));have IB:=qH (IC.o.apart hk11 (fun b hb hg hc=>by have:=Kv.o b hg;have:=Nc.o b hc;omega));have ug:=qS (RowKit.Below w0.heap.size w0 w11) (mh.o.trans (hk11.below mh.o.size (fun b hb hg=>by have:=Kv.o b hg;omega)));have hs11:=hk11.size;clear hk11 Pk ET IC Kv PU;generalize(xa.tick 1073741824).aG.mark=xm at*;go_wp2_with fail;with_reducible refine(bG w11 G F R7 br bj bd bi (2*30) j _ m ES.o ds uw.o n (n-m) (by rw[HL.o];omega) (by rw[HL.o];omega) (by rw[HL.o];omega) (by omega) (dO.o.up ug.o)).mono ?_
 rintro r w12⟨rfl,QJ,hr12,hk12,OM⟩;have Nv:=qS (av (av (az.new 0 0) (ds.take m)) ((ds.drop m).take (n-m))=av (az.new 0 0) ds) (by rw[←xq,←List.take_add,List.take_of_length_le (by rw[HL.o];omega)]);have PH:=qS (dD w12 G F QJ br bj bd bi (2*90) j (av (az.new 0 0) ds) n) (by rw[Nv.o,show m+(n-m)=n by omega]at hr12;exact hr12.more (by omega));have uL:=qH (IB.o.apart hk12 (fun b hb hg hc=>by
  have hlo:=zT.o b hg;rcases hc with h1|h1|h1|h1
  ·rcases hg with h|h;·exact ES.o.rj b h (.inl h1)
   ·exact ES.o.nr (.inl (h▸h1))
  ·rcases hg with h|h;·exact ES.o.rj b h (.inr h1)
   ·exact ES.o.nr (.inr (.inl (h▸h1)))
  ·have:=PV.o b (.inl h1);omega
  ·have:=PV.o b (.inr h1);omega));have E9:=qS (RowKit.Below w0.heap.size w0 w12) (ug.o.trans (hk12.below ug.o.size (fun b hb hg=>by have:=zT.o b hg;omega)));have hs12:=hk12.size;have M8:=qS (∀b,QJ b∨b=br→(((w4.heap.size≤b∧b<w5.heap.size)∨w6.heap.size≤b)∧b<w7.heap.size)∨w11.heap.size≤b) (fun b hb=>by
  rcases hb with h|h
  ·rcases OM b h with h2|h2;·exact .inl (zT.o b (.inl h2))
   ·exact .inr h2
  ·exact .inl (zT.o b (.inr h)));clear hr12 hk12 OM ES IB;go_wp2_with fail;with_reducible refine(bG w12 G F R8 br2 bj bd bi2 (2*30) j _ m uL.o ds uw.o n (n-m) (by rw[HL.o];omega) (by rw[HL.o];omega) (by rw[HL.o];omega) (by omega) (dO.o.up E9.o)).mono ?_
 rintro r w13⟨rfl,UT,hr13,hk13,RG⟩;have PR:=qS (dD w13 G F UT br2 bj bd bi2 (2*90) j (av (az.new 0 0) ds) n) (by rw[Nv.o,show m+(n-m)=n by omega]at hr13;exact hr13.more (by omega));have Kn:=qH (PH.o.apart hk13 (fun b hb hg hc=>by
  have hlo:=PV.o b hg;rcases hc with h1|h1|h1|h1
  ·rcases hg with h|h;·exact uL.o.rj b h (.inl h1)
   ·exact uL.o.nr (.inl (h▸h1))
  ·rcases hg with h|h;·exact uL.o.rj b h (.inr h1)
   ·exact uL.o.nr (.inr (.inl (h▸h1)))
  ·have:=M8.o b (.inl h1);omega
  ·have:=M8.o b (.inr h1);omega));have Cb:=qS (RowKit.Below w0.heap.size w0 w13) (E9.o.trans (hk13.below E9.o.size (fun b hb hg=>by have:=PV.o b hg;omega)));have Df:=qS (bL (2*90) (av (az.new 0 0) ds)) (by obtain⟨h1,h2⟩:=lV Kn.o.it;exact bL.QI rfl h1 h2 (by rw[HL.o];omega));clear hr13 hk13 RG PH uL M8 PV zT Ku M7 zU Nc Fx NU Nv;generalize av (az.new 0 0) ds=x at*;go_wp2_with fail;with_reducible refine(gU w13 G F QJ br bj bd bi (2*90) j x n Kn.o Df.o (by omega) (dO.o.up Cb.o) (HE.o.up Cb.o) (iw HT.o Cb.o)).mono ?_
 rintro r w14⟨b3,F3,rfl,hy,hb14,_⟩;have Pg:=qH hy;have PG:=qH (Kn.o.up hb14);have PQ:=qH (PR.o.up hb14);have IP:=qH (Cb.o.trans (hb14.mono Cb.o.size));clear hy hb14 Kn PR;go_wp2_with fail;with_reducible refine(gU w14 G F UT br2 bj bd bi2 (2*90) j x n PQ.o Df.o (by omega) (dO.o.up IP.o) (HE.o.up IP.o) (iw HT.o IP.o)).mono ?_
 rintro r w15⟨b4,F4,rfl,hz,hb15,_⟩;have MM:=qH hz;have MN:=qH (Pg.o.up hb15);have PE:=qH (PG.o.up hb15);have Qq:=qH (IP.o.trans (hb15.mono IP.o.size));clear hz hb15 Pg PG PQ;go_wp2_with fail;with_reducible refine(mM w15 F3 F4 b3 b4 (2*90) x MN.o MM.o Df.o (by omega)).mono ?_
 rintro r w16⟨rfl,hb16⟩;have Sc:=qH (MN.o.up hb16);have Sb:=qH (MM.o.up hb16);have Sy:=qH (PE.o.up hb16);have TK:=qH (Qq.o.trans (hb16.mono Qq.o.size));clear hb16 MN MM PE;go_wp2_with fail;with_reducible refine(gW w16 F3 b3 (2*90) x Sc.o).mono ?_
 rintro r w17⟨rfl,rfl⟩;go_wp2_with fail;with_reducible refine(gW w16 F4 b4 (2*90) x Sb.o).mono ?_
 rintro r w17⟨rfl,rfl⟩;go_wp2_with fail;with_reducible refine(oZ w16 G F QJ br bj bd bi (2*90) j x n Sy.o).mono ?_
 rintro r w17⟨rfl,rfl⟩;go_wp2;go_ret;exact ma.o _ TK.o
end Go.Proofs.YtladegonienapaaGreatDoor
