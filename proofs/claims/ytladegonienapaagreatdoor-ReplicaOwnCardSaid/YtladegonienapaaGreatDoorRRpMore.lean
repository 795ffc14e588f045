/-
  The law ReplicaMore, walked.
-/
import Derived.Test.YtladegonienapaaGreatDoorRRpAsLaw
set_option maxRecDepth 100000
set_option maxHeartbeats 16000000
namespace Go.Proofs.YtladegonienapaaGreatDoor
open Go.RowKit Go.Maps Go.Sort Go.Shelf
theorem dD.more{w:World}{G F R:Nat→Prop}{br bj bd bi N M:Nat}{j:Jl}{x:az}{off:Nat}(h:dD w G F R br bj bd bi N j x off)(hN:N≤M):dD w G F R br bj bd bi M j x off:=⟨h.jl,h.it.more hN,h.blk,h.nr,h.rj,h.ml⟩
theorem dD.apart{w w':World}{G F R K:Nat→Prop}{br bj bd bi N:Nat}{j:Jl}{x:az}{off:Nat}(h:dD w G F R br bj bd bi N j x off)(hk:ai K w w')(hK: ∀b,b<w.heap.size→K b→ ¬(G b∨F b∨R b∨b=br)):dD w' G F R br bj bd bi N j x off:=h.keep hk.size fun b hb=>by
 have hlt:b<w.heap.size:=by
  rcases hb with h1|h1|h1|h1;·exact h.jl.lt b (.inl h1)
  ·exact h.jl.lt b (.inr h1)
  ·exact h.DT b h1
  ·rw[h1];exact h.blt
 exact hk.block b hlt (fun hg=>hK b hlt hg hb)
theorem dD.grew{w w':World}{G F G' F' R:Nat→Prop}{br bj bd bi N:Nat}{j j':Jl}{x:az}{off:Nat}(h:dD w G F R br bj bd bi N j x off)(hj:fo w' G' F' bj bd j')(hG: ∀b,G' b→G b∨w.heap.size≤b)(hF: ∀b,F' b→F b∨w.heap.size≤b)(hk:ai (fun b=>G b∨F b) w w'):dD w' G' F' R br bj bd bi N j' x off:=by
 have hb:=h.blt;refine⟨hj,h.it.keep hk.size (fun b hb=>hk.block b (h.DT b hb) (h.rj b hb)),(hk.block br h.blt (fun hg=>h.nr (hg.elim .inl fun h=>.inr (.inl h)))).trans h.blk,fun hc=>?_,fun b hb hc=>?_,h.ml⟩
 ·rcases hc with h1|h1|h1
  ·rcases hG _ h1 with h2|h2;·exact h.nr (.inl h2)
   ·omega
  ·rcases hF _ h1 with h2|h2;·exact h.nr (.inr (.inl h2))
   ·omega
  ·exact h.nr (.inr (.inr h1))
 ·have hl:=h.DT b hb;rcases hc with h1|h1
  ·rcases hG _ h1 with h2|h2;·exact h.rj b hb (.inl h2)
   ·omega
  ·rcases hF _ h1 with h2|h2;·exact h.rj b hb (.inr h2)
   ·omega
theorem Am(w:World)(per:Int)(A:Option Addr)(n c:Nat)(ds:List Ev)(h:eD w w.heap.size A n c ds)(hn:n≤140737488355328)(cut pull:Int)(hmx:aM w)(he:eQ w)(ht:Lib.TabBelow Tryz.prog w.heap.size w "internal/strconv.uint64pow10" .u64 Lib.pow10Tab):Calls Tryz.prog 4 #[.int .i64 per,.slice A n c,.int .i64 cut,.int .i64 pull] w (Says true w):=by
 have HH:=qH h;have dO:=qH hmx;have HE:=qH he;have HT:=qH ht;have HL:=qH h.len;clear h hmx he ht;go_enter Tryz.func4,Tryz.ntmps4;go_wp2_with fail;with_reducible refine(iV w dO.o).mono ?_
 rintro r w1⟨rfl,hb1⟩;have HB1:=qH hb1;have qR:=qS (eD w1 w1.heap.size A n c ds) (aI.more (aI.below HH.o hb1) hb1.size);clear hb1;go_wp2_with fail;with_reducible refine(lM w1 A n c ds qR.o hn).mono ?_
 rintro r w2⟨rfl,hb2⟩;have HB2:=qH (HB1.o.trans (hb2.mono HB1.o.size));have ky:=qS (eD w2 w2.heap.size A n c ds) (aI.more (aI.below qR.o hb2) hb2.size);clear hb2 qR;cases hfw:ow ds;case false=>clear hfw;go_wp2;go_ret;exact⟨rfl,HB2.o⟩
 have hfw2:(ds.length≤30∧ds.any (fun d=>gN d 300)=false)∧ds.all aB=true:=by unfold ow at hfw;simpa using hfw
 have Ce:=qH hfw2.2;have hn30:n≤30:=by have:=HL.o;omega
 clear hfw hfw2;by_cases hp1:per<1;·go_wp2;go_ret;exact⟨rfl,HB2.o⟩
 by_cases hp2:4096<per;·go_wp2;go_ret;exact⟨rfl,HB2.o⟩
 by_cases hc0:cut<0;·go_wp2;go_ret;exact⟨rfl,HB2.o⟩
 by_cases hc1:(n:Int)<cut;·go_wp2;go_ret;exact⟨rfl,HB2.o⟩
 obtain⟨p,rfl⟩:=Int.eq_ofNat_of_zero_le (show 0≤per by omega);obtain⟨t,rfl⟩:=Int.eq_ofNat_of_zero_le (show 0≤cut by omega);have hs2:=HB2.o.size;have htn:t≤n:=by omega
 have hcap:n≤c:=aI.cap HH.o;have htc:t≤c:=by omega
 have uM:=qS (eD w2 w2.heap.size A t c (ds.take t)) (by have:=aI.upto ky.o t htn;unfold eD;rw[←uF];exact this);have HE2:=qS (eD w w.heap.size (if c=t then A else A.map (·.add (t*8))) (n-t) (c-t) (ds.drop t)) (by have:=aI.from_ HH.o t htn;unfold eD;rw[←uG];exact this);have tY:=qS ((ds.take t).length=t) (by rw[List.length_take,HL.o];omega);have Vs:=qS ((ds.drop t).length=n-t) (by rw[List.length_drop,HL.o]);have HA1:=qS ((ds.take t).all aB=true) (List.all_eq_true.2 fun e he=>List.all_eq_true.1 Ce.o e (List.mem_of_mem_take he));have HA2:=qS ((ds.drop t).all aB=true) (List.all_eq_true.2 fun e he=>List.all_eq_true.1 Ce.o e (List.mem_of_mem_drop he));clear hcap;go_wp2_with fail;with_reducible refine(rP w2 A t c (ds.take t) uM.o (by omega) HA1.o p (by omega) (by omega) (dO.o.up HB2.o)).mono ?_
 rintro r w3⟨bd,bj,G,F,j,rfl,hj,hGF,hb3,hes,Ui⟩;have HJ:=qH hj;have uw:=qH hes;have XI:=qH Ui;have NU:=qH hGF;have HB3:=qH (HB2.o.trans (hb3.mono HB2.o.size));have hs3:=hb3.size;clear hj hGF hb3 hes Ui hp1 hp2 uM ky;go_wp2_with fail;with_reducible refine(fQ w3 G F bj bd j HJ.o 0 0 (dO.o.up HB3.o)).mono ?_
 rintro r w4⟨br,bi,R,rfl,hr4,hb4,hR,hbr⟩;have HR4:=qH hr4;have fA:=qH (HB3.o.trans (hb4.mono HB3.o.size));have hs4:=hb4.size;have Lm:=qS ((∀b,R b→w3.heap.size≤b)∧w3.heap.size≤br) (⟨hR,hbr⟩);clear hr4 hb4 hR hbr HJ;obtain⟨m,hm⟩: ∃m:Nat,m=(min (max pull 0) (t:Int)).toNat:=⟨_,rfl⟩;have hm2:min (max pull 0) (t:Int)=(m:Int):=by omega
 have hmt:m≤t:=by omega
 go_wp2_with fail;with_reducible refine(bG w4 G F R br bj bd bi 0 j _ 0 HR4.o (ds.take t) uw.o pull m (by rw[tY.o];omega) (by omega) (by rw[tY.o];omega) (by omega) (dO.o.up fA.o)).mono ?_
 rintro r w5⟨rfl,R5,hr5,hk5,QE⟩;have Km:=qS (dD w5 G F R5 br bj bd bi (2*m) j (av (az.new 0 0) (ds.take m)) m) (by
  have e1:((ds.take t).drop 0).take m=ds.take m:=by rw[List.drop_zero,List.take_take,Nat.min_eq_left hmt]
  rw[e1,Nat.zero_add,Nat.zero_add]at hr5;exact hr5);have jJ:=qS (RowKit.Below w.heap.size w w5) (fA.o.trans (hk5.below fA.o.size (fun b hb hg=>by
  rcases hg with h|h;·have:=Lm.o.1 b h;omega
  ·have:=Lm.o.2;omega)));have M5:=qS (∀b,R5 b→w.heap.size≤b) (fun b hb=>by
  rcases QE b hb with h|h;·have:=Lm.o.1 b h;omega
  ·omega);have hs5:=jJ.o.size;have Wv:w.heap.size≤br:=by have:=Lm.o.2;omega
 clear hr5 hk5 QE HR4 Lm hm;have QZ:=qH (Hr XI.o (es:=ds.drop t) (by rw[uw.o,List.length_map,tY.o,Vs.o];omega) HA2.o);have Cc:=qS (∀A' n' c',eD w w.heap.size A' n' c' (ds.drop t)→Calls Tryz.prog 19 #[.pointer (some ⟨bj,0,none⟩),.slice A' n' c'] w5 (l6 w5 G F bj bd (j.app (ds.drop t)) (j.oH (ds.drop t)) (j.oI (ds.drop t)))) (fun A' n' c' hev=>vF w5 G F bj bd j Km.o.jl A' n' c' (ds.drop t) (aI.more (aI.below hev jJ.o) jJ.o.size) (fun b off e h0 hg=>by obtain⟨b',off',e',hb',_⟩:=aI.cell hev h0;rw[e']at e;injection e with e;injection e with e;have:=NU.o b hg;omega) (fun e he=>jS (List.all_eq_true.1 HA2.o e he)) (by rw[uw.o,List.length_map,tY.o,Vs.o];omega) (dO.o.up jJ.o) ⟨fun hg=>by have:=dO.o.lt;have:=NU.o _ (.inl hg);omega,fun hg=>by have:=dO.o.lt;have:=NU.o _ (.inr hg);omega⟩);rw[QZ.o.2.1,QZ.o.2.2.1]at Cc;have vZ:=qH (Cc.o _ _ _ HE2.o);clear Cc HE2;have Vo:=qS (n=t→n-t=0) (by omega);by_cases hct:c=t;case' pos=>
  rw[if_pos hct]at vZ;have z2:c-t=0:=by omega
  rw[z2]at vZ;clear z2
 case' neg=>rw[if_neg hct]at vZ
 all_goals
  go_wp2_with fail;with_reducible refine vZ.o.mono ?_
  rintro r w6⟨rfl,G6,F6,hj6,OQ,OV,hk6⟩;have xS:=qH (Km.o.grew hj6 OQ OV hk6);have Nj:=qS ((j.app (ds.drop t)).es=ds.map some) (by rw[QZ.o.2.2.2,uw.o,←List.map_append,List.take_append_drop]);have rq:=qS (RowKit.Below w.heap.size w w6) (jJ.o.trans (hk6.below jJ.o.size (fun b hb hg=>by have:=NU.o b hg;omega)));have hs6:=rq.o.size;clear hj6 OQ OV hk6 Km vZ QZ;generalize j.app (ds.drop t)=j6 at*;go_wp2_with fail;with_reducible refine(oZ w6 G6 F6 R5 br bj bd bi (2*m) j6 _ m xS.o).mono ?_
  rintro r w7⟨rfl,rfl⟩;have hnm:(n:Int)-m=((n-m:Nat):Int):=by omega
  go_wp2_with fail;with_reducible refine(fQ w6 G6 F6 bj bd j6 xS.o.jl 0 0 (dO.o.up rq.o)).mono ?_
  rintro r w7⟨br2,bi2,R2,rfl,hr7,hb7,hR2,hbr2⟩;have Iw:=qH (xS.o.up hb7);have Kq:=qH hr7;have nH:=qH (rq.o.trans (hb7.mono rq.o.size));have hs7:=hb7.size;have zT:=qS ((∀b,R2 b→w6.heap.size≤b)∧w6.heap.size≤br2) (⟨hR2,hbr2⟩);have NR:=qS (∀b,G6 b∨F6 b∨R5 b∨b=br→b<w6.heap.size) (fun b hb=>by
   rcases hb with h1|h1|h1|h1;·exact xS.o.jl.lt b (.inl h1)
   ·exact xS.o.jl.lt b (.inr h1)
   ·exact xS.o.DT b h1
   ·rw[h1];exact xS.o.blt);clear hr7 hb7 hR2 hbr2 xS;go_wp2_with fail;with_reducible refine(bG w7 G6 F6 R5 br bj bd bi (2*m) j6 _ m Iw.o ds Nj.o 1099511627776 (n-m) (by rw[HL.o];omega) (by rw[HL.o];omega) (by rw[HL.o];omega) (by omega) (dO.o.up nH.o)).mono ?_
  rintro r w8⟨rfl,R8,hr8,hk8,OJ⟩;have BU:=qS (dD w8 G6 F6 R8 br bj bd bi (2*30) j6 (av (az.new 0 0) ds) n) (by
   have e1:av (av (az.new 0 0) (ds.take m)) ((ds.drop m).take (n-m))=av (az.new 0 0) ds:=by rw[←xq,←List.take_add,List.take_of_length_le (by rw[HL.o];omega)]
   rw[e1,show m+(n-m)=n by omega]at hr8;exact hr8.more (by omega));have vX:=qH (Kq.o.apart hk8 (fun b hb hg hc=>by
   have hlo:b<w6.heap.size:=NR.o b (hg.elim (fun h=>.inr (.inr (.inl h))) (fun h=>.inr (.inr (.inr h))));rcases hc with h1|h1|h1|h1
   ·rcases hg with h|h;·exact Iw.o.rj b h (.inl h1)
    ·exact Iw.o.nr (.inl (h▸h1))
   ·rcases hg with h|h;·exact Iw.o.rj b h (.inr h1)
    ·exact Iw.o.nr (.inr (.inl (h▸h1)))
   ·have:=zT.o.1 b h1;omega
   ·have:=zT.o.2;omega));have vY:=qS (RowKit.Below w.heap.size w w8) (nH.o.trans (hk8.below nH.o.size (fun b hb hg=>by
   rcases hg with h|h;·have:=M5.o b h;omega
   ·omega)));have zU:=qS (∀b,R8 b→(b<w6.heap.size∧w.heap.size≤b)∨w7.heap.size≤b) (fun b hb=>by
   rcases OJ b hb with h|h;·exact .inl ⟨NR.o b (.inr (.inr (.inl h))),M5.o b h⟩
   ·exact .inr h);have IA:=qS ((∀b,R2 b→b<w7.heap.size)∧br2<w7.heap.size) (⟨Kq.o.DT,Kq.o.blt⟩);have xJ:=qH (NR.o br (.inr (.inr (.inr rfl))));have hs8:=hk8.size;clear hr8 hk8 OJ Iw Kq;go_wp2_with fail;with_reducible refine(bG w8 G6 F6 R2 br2 bj bd bi2 0 j6 _ 0 vX.o ds Nj.o n n (by rw[HL.o];omega) (by omega) (by rw[HL.o];omega) (by omega) (dO.o.up vY.o)).mono ?_
  rintro r w9⟨rfl,R9,hr9,hk9,OI⟩;have Fh:=qS (dD w9 G6 F6 R9 br2 bj bd bi2 (2*30) j6 (av (az.new 0 0) ds) n) (by
   have e1:((ds.drop 0).take n)=ds:=by rw[List.drop_zero,List.take_of_length_le (by rw[HL.o];omega)]
   rw[e1,Nat.zero_add,Nat.zero_add]at hr9;exact hr9.more (by omega));have De:=qH (BU.o.apart hk9 (fun b hb hg hc=>by
   have hlo:w6.heap.size≤b∧b<w7.heap.size:=by
    rcases hg with h|h;·exact⟨zT.o.1 b h,IA.o.1 b h⟩
    ·rw[h];exact⟨zT.o.2,IA.o.2⟩
   rcases hc with h1|h1|h1|h1;·have:=NR.o b (.inl h1);omega
   ·have:=NR.o b (.inr (.inl h1));omega
   ·have:=zU.o b h1;omega
   ·have:=xJ.o;omega));have oP:=qS (RowKit.Below w.heap.size w w9) (vY.o.trans (hk9.below vY.o.size (fun b hb hg=>by
   rcases hg with h|h;·have:=zT.o.1 b h;omega
   ·have:=zT.o.2;omega)));have Py:=qS (∀b,R9 b∨b=br2→(w6.heap.size≤b∧b<w7.heap.size)∨w8.heap.size≤b) (fun b hb=>by
   rcases hb with h|h
   ·rcases OI b h with h2|h2;·exact .inl ⟨zT.o.1 b h2,IA.o.1 b h2⟩
    ·exact .inr h2
   ·rw[h];exact .inl ⟨zT.o.2,IA.o.2⟩);have PD:=qS (∀b,R8 b→b<w8.heap.size) (BU.o.DT);clear hr9 hk9 OI BU vX;go_wp2_with fail;with_reducible refine(bG w9 G6 F6 R8 br bj bd bi (2*30) j6 _ n De.o ds Nj.o 5 0 (by rw[HL.o];omega) (by rw[HL.o];omega) (by rw[HL.o];omega) (by omega) (dO.o.up oP.o)).mono ?_
  rintro r w10⟨rfl,UU,hr10,hk10,RH⟩;have ET:=qS (dD w10 G6 F6 UU br bj bd bi (2*30) j6 (av (az.new 0 0) ds) n) (hr10);have IC:=qH (Fh.o.apart hk10 (fun b hb hg hc=>by
   have hlo:(b<w6.heap.size∨w7.heap.size≤b)∧b<w8.heap.size:=by
    rcases hg with h|h;·have:=zU.o b h;have:=PD.o b h;omega
    ·have:=xJ.o;omega
   rcases hc with h1|h1|h1|h1
   ·rcases hg with h|h;·exact De.o.rj b h (.inl h1)
    ·exact De.o.nr (.inl (h▸h1))
   ·rcases hg with h|h;·exact De.o.rj b h (.inr h1)
    ·exact De.o.nr (.inr (.inl (h▸h1)))
   ·have:=Py.o b (.inl h1);omega
   ·have:=Py.o b (.inr h1);omega));have mh:=qS (RowKit.Below w.heap.size w w10) (oP.o.trans (hk10.below oP.o.size (fun b hb hg=>by
   rcases hg with h|h;·have:=zU.o b h;omega
   ·omega)));have Df:=qS (bL (2*30) (av (az.new 0 0) ds)) (by obtain⟨h1,h2⟩:=lV ET.o.it;exact bL.QI rfl h1 h2 (by rw[HL.o];omega));clear hr10 hk10 RH De Fh Py PD zU xJ IA NR zT M5;generalize av (az.new 0 0) ds=x at*;go_wp2_with fail;with_reducible refine(gU w10 G6 F6 UU br bj bd bi (2*30) j6 x n ET.o Df.o (by omega) (dO.o.up mh.o) (HE.o.up mh.o) (iw HT.o mh.o)).mono ?_
  rintro r w11⟨b1,F1,rfl,hx,hb11,hF1⟩;have Pj:=qH hx;have IB:=qH (IC.o.up hb11);have ug:=qH (mh.o.trans (hb11.mono mh.o.size));clear hx hb11 hF1 ET IC;go_wp2_with fail;with_reducible refine(gU w11 G6 F6 R9 br2 bj bd bi2 (2*30) j6 x n IB.o Df.o (by omega) (dO.o.up ug.o) (HE.o.up ug.o) (iw HT.o ug.o)).mono ?_
  rintro r w12⟨b2,F2,rfl,hy,hb12,hF2⟩;have MO:=qH hy;have MQ:=qH (Pj.o.up hb12);have E9:=qH (ug.o.trans (hb12.mono ug.o.size));clear hy hb12 hF2 IB Pj;go_wp2_with fail;with_reducible refine(mM w12 F1 F2 b1 b2 (2*30) x MQ.o MO.o Df.o (by omega)).mono ?_
  rintro r w13⟨rfl,hb13⟩;have Si:=qH (MQ.o.up hb13);have Sd:=qH (MO.o.up hb13);have Cb:=qH (E9.o.trans (hb13.mono E9.o.size));clear hb13 MQ MO;go_wp2_with fail;with_reducible refine(gW w13 F1 b1 (2*30) x Si.o).mono ?_
  rintro r w14⟨rfl,rfl⟩;go_wp2_with fail;with_reducible refine(gW w13 F2 b2 (2*30) x Sd.o).mono ?_
  rintro r w14⟨rfl,rfl⟩;go_wp2;go_ret;exact⟨rfl,Cb.o⟩
end Go.Proofs.YtladegonienapaaGreatDoor
