/-
  The law SnapshotWays, walked.
-/
import Derived.Test.YtbejfgmdkmddnaaGreatDoorVPtSame3g
import Derived.Test.YtbejfgmdkmddnaaGreatDoorVSnLives
import Derived.Test.YtbejfgmdkmddnaaGreatDoorVGrown
set_option maxRecDepth 100000
set_option maxHeartbeats 16000000
namespace Go.Proofs.YtbejfgmdkmddnaaGreatDoor
open Go.RowKit Go.Maps Go.Sort Go.Shelf
theorem JU(c:aZ):c.rise.aa=c.aa∧c.rise.idle=c.idle:=by unfold aZ.rise;split<;>exact⟨rfl,rfl⟩
theorem BX(c:aZ)(n:Int):(c.tick n).aa=c.aa∧(c.tick n).idle=c.idle:=by unfold aZ.tick;exact JU _
theorem Sw(c:aZ)(s:List UInt8)(a n:Int):(c.hear s a n).aa=c.aa∧(c.hear s a n).idle=c.idle:=by
 unfold aZ.hear;split;·unfold aZ.heard;have h1:=JU ({c.tick n with src:=bL s (max ((bO (c.tick n).src s).getD (0,0)).1 a,(c.tick n).now) (c.tick n).src}:aZ);have h2:=BX c n;exact⟨h1.1.trans h2.1,h1.2.trans h2.2⟩
 ·exact BX c n
theorem DW(x:ay)(e:Ev):(x.took e).au=x.au:=by unfold ay.took;split<;>rfl
theorem L8(x:ay)(e:Ev):(x.bu e).au=x.au:=by unfold ay.bu;split<;>rfl
theorem Fv(x:ay)(n:Int):(x.tick n).au.aa=x.au.aa∧(x.tick n).au.idle=x.au.idle:=BX _ _
theorem Fy(x:ay)(e:Ev)(n:Int):(x.hear e n).au.aa=x.au.aa∧(x.hear e n).au.idle=x.au.idle:=Sw _ _ _ _
theorem SL(x:ay)(d:Dd):(x.deed d).au.aa=x.au.aa∧(x.deed d).au.idle=x.au.idle:=by
 unfold ay.deed;split
 ·unfold ay.offer;have h1:=Fv x d.now;have h2:=Fy (x.tick d.now) d.e d.now;split;·exact h1
  ·split;·rw[DW];exact⟨h2.1.trans h1.1,h2.2.trans h1.2⟩
   ·rw[L8];exact⟨h2.1.trans h1.1,h2.2.trans h1.2⟩
 ·split
  ·unfold ay.admits;split;·exact⟨rfl,rfl⟩
   ·rw[DW];exact Fy _ _ _
  ·split;·exact Fv _ _
   ·split;·exact⟨rfl,rfl⟩
    ·exact⟨rfl,rfl⟩
theorem FO(aa idle:Int)(ds:List Dd):(ay.grown aa idle ds).au.aa=df aa∧(ay.grown aa idle ds).au.idle=df idle:=by
 have key: ∀(ds:List Dd)(x:ay),(ds.foldl ay.deed x).au.aa=x.au.aa∧(ds.foldl ay.deed x).au.idle=x.au.idle:=fun ds=>by induction ds with|nil=>exact fun x=>⟨rfl,rfl⟩|cons d ds ih=>intro x;have h1:=ih (x.deed d);have h2:=SL x d;exact⟨h1.1.trans h2.1,h1.2.trans h2.2⟩
 exact key ds (ay.new aa idle)
theorem G6(w:World)(aa idle:Int)(A:Option Addr)(n c:Nat)(ds:List Dd)(h:Dn w w.heap.size A n c ds)(hn:n≤140737488355328)(hkd: ∀d∈ds,0≤d.kind∧d.kind≤255)(A2:Option Addr)(n2 c2:Nat)(ms:List Dd)(h2:Dn w w.heap.size A2 n2 c2 ms)(hn2:n2≤140737488355328)(hkd2: ∀d∈ms,0≤d.kind∧d.kind≤255)(hmx:bf w)(xB:dV w)(htab:Lib.TabBelow Tryz.prog w.heap.size w "internal/strconv.uint64pow10" .u64 Lib.pow10Tab):Calls Tryz.prog 9 #[.int .i64 aa,.int .i64 idle,.slice A n c,.slice A2 n2 c2] w (Says true w):=by
 have HH:=qH h;clear h;have rW:=qH h2;clear h2;have aa9:=qH hkd2;clear hkd2;have TN:=qH hkd;clear hkd;have jS:=qH hmx;have JD:=qH xB;have HT:=qH htab;clear hmx xB htab;have HW0:=qS (∀W,RowKit.Below w.heap.size w W→Says true w (.returned (.bool true)) W) (fun W hW=>⟨rfl,hW⟩);have qc:=qS (∀W,RowKit.Below w.heap.size w W→Dn W W.heap.size A n c ds) (fun W hW=>az.more (az.below HH.o hW) hW.size);have HDM:=qS (∀W,RowKit.Below w.heap.size w W→Dn W W.heap.size A2 n2 c2 ms) (fun W hW=>az.more (az.below rW.o hW) hW.size);go_enter Tryz.func9,Tryz.ntmps9;go_wp2_with fail;refine(pF w jS.o JD.o HT.o).mono ?_;rintro r w1⟨rfl,hb1⟩;have HB1:=qH hb1;clear hb1;go_wp2_with fail;refine(mZ w1 A n c ds (qc.o w1 HB1.o) hn 20).mono ?_;rintro r w2⟨rfl,hb2⟩;have HB2:=qH (HB1.o.trans (hb2.mono HB1.o.size));clear hb2;cases zY:j3 ds 20;case true=>have HR:=qH (HW0.o w2 HB2.o);clear zY;go_wp2;go_ret;exact HR.o
 obtain⟨hl,hsm⟩:=jg (m:=20) zY;have qL:=qH hsm;have hlen:=HH.o.len;have hn30:n≤20:=by omega
 clear zY hsm hl;go_wp2_with fail;refine(mZ w2 A2 n2 c2 ms (HDM.o w2 HB2.o) hn2 20).mono ?_;rintro r w2'⟨rfl,hb2⟩;have QP:=qH (HB2.o.trans (hb2.mono HB2.o.size));clear hb2 HB2;have HB2:=QP;clear QP;cases zY:j3 ms 20;case true=>have HR:=qH (HW0.o w2' HB2.o);clear zY;go_wp2;go_ret;exact HR.o
 obtain⟨hl2,hsm2⟩:=jg (m:=20) zY;have V8:=qH hsm2;have hlen2:=rW.o.len;have hn210:n2≤20:=by omega
 clear zY hsm2 hl2;go_wp2_with fail;refine(qp w2' aa idle A n c ds (qc.o w2' HB2.o) (by omega) qL.o TN.o (jS.o.up HB2.o)).mono ?_;rintro r w3⟨F,S,bi,bm,bc,rfl,hB⟩;have HB3:=qH (HB2.o.trans (hB.bN.mono HB2.o.size));have HG:=qH (bY.grown hB.both.gI (by omega));have HI:=qH hB.both.gI;have HM:=qH hB.both.ref;have Xp:=qH (FO aa idle ds);clear hB hlen;generalize ay.grown aa idle ds=x at*;go_wp2_with fail;refine(qp w3 aa idle A2 n2 c2 ms (HDM.o w3 HB3.o) (by omega) V8.o aa9.o (jS.o.up HB3.o)).mono ?_;rintro r w4⟨F',S',bi',bm',bc',rfl,hB⟩;have fM:=qH (HB3.o.trans (hB.bN.mono HB3.o.size));have WH:=qH (bY.grown hB.both.gI (by omega));have HI':=qH hB.both.gI;have HI4:=qH (HI.o.up hB.bN);have Y8:=qH (FO aa idle ms);clear hB hlen2 HI HM;generalize ay.grown aa idle ms=y at*;have hs4:=fM.o.size;have rV:=qS (y.au.aa=x.au.aa∧y.au.idle=x.au.idle) (⟨Y8.o.1.trans Xp.o.1.symm,Y8.o.2.trans Xp.o.2.symm⟩);have mE:=qH (fun W(hW:RowKit.Below w4.heap.size w4 W)=>iN W F bi (3*n) x (HI4.o.up hW) HG.o (by omega) 5 (by omega) (by omega) (jS.o.up (fM.o.trans (hW.mono hs4))) (fe HT.o (fM.o.trans (hW.mono hs4))));have vU:=qH (fun W(hW:RowKit.Below w4.heap.size w4 W)(o:Int)(o0:0≤o)(o1:o≤1048576)=>iN W F' bi' (3*n2) y (HI'.o.up hW) WH.o (by omega) o o0 o1 (jS.o.up (fM.o.trans (hW.mono hs4))) (fe HT.o (fM.o.trans (hW.mono hs4))));unfold vK at mE vU;have HPX:=qH (fun W(hW:RowKit.Below w4.heap.size w4 W)=>jv W F bi (3*n) x (HI4.o.up hW) (by omega) (jS.o.up (fM.o.trans (hW.mono hs4))) (fe HT.o (fM.o.trans (hW.mono hs4))));have HPY:=qH (fun W(hW:RowKit.Below w4.heap.size w4 W)=>jv W F' bi' (3*n2) y (HI'.o.up hW) (by omega) (jS.o.up (fM.o.trans (hW.mono hs4))) (fe HT.o (fM.o.trans (hW.mono hs4))));unfold uu at HPX HPY;rw[rV.o.1,rV.o.2]at HPY;have hf5:=HG.o.JS (by omega) (n:=5) (by omega) (by omega);have Vs:=WH.o.JS (by omega) (n:=5) (by omega) (by omega);have Yf:=WH.o.JS (by omega) (n:=6) (by omega) (by omega);have Za:=qS (Qf x y (ko x) (ko y)↔(aD (jW 5 x)==aD (jW 5 y))=true) (by
  rw[beq_iff_eq];constructor;·intro⟨a1,a2,a3,a4,a5⟩;unfold jW;rw[a1,a2,a3,a4,a5,rV.o.1,rV.o.2]
  ·intro h;obtain⟨_,_,_,a1,a2,a3,a4,a5⟩:=JR hf5 Vs (wE h);exact⟨a1,a2,a3,a4,a5⟩);have zH:=qS (¬aD (jW 5 y)=aD (jW 6 y)) (fun h=>by have:=(JR Vs Yf (wE h)).1;omega);have hx1:x.taken.length≤100000:=by have:=HG.o.ok.taken;omega
 have hx2:x.late.length≤100000:=by have:=HG.o.ok.late;omega
 have hx3:x.gone.length≤100000:=by have:=HG.o.gone;omega
 have hy1:y.taken.length≤100000:=by have:=WH.o.ok.taken;omega
 have hy2:y.late.length≤100000:=by have:=WH.o.ok.late;omega
 have hy3:y.gone.length≤100000:=by have:=WH.o.gone;omega
 have wX:=qH (fun W B1 B2 vc1 vh1 vt1 vl1 vg1 vc2 vh2 vt2 vl2 vg2 r1 r2(h1:oG W B1 x vc1 vh1 vt1 vl1 vg1 r1)(h2:oG W B2 y vc2 vh2 vt2 vl2 vg2 r2)=>LG W B1 B2 x y x.au.aa x.au.idle vc1 vh1 vt1 vl1 vg1 vc2 vh2 vt2 vl2 vg2 r1 r2 h1 h2 hx1 hx2 hx3 hy1 hy2 hy3 (aD (jW 5 x)==aD (jW 5 y)) (by rw[nu h1.rise,nu h2.rise];exact Za.o));clear hx1 hx2 hx3 hy1 hy2 hy3 hf5 Vs Yf;go_wp2_with fail;with_reducible refine(mE.o w4 (Below.refl _ _)).mono ?_
 rintro r w5⟨v5,rfl,ho5,hb5⟩;obtain⟨A5,k5,rfl⟩:=ho5.form;have qE:=qH hb5;have j5:=qH ho5.oF;clear ho5 hb5;go_wp2_with fail;with_reducible refine(vU.o w5 qE.o 5 (by omega) (by omega)).mono ?_
 rintro r w6⟨v6,rfl,ho6,hb6⟩;obtain⟨A6,k6,rfl⟩:=ho6.form;have dY:=qH (qE.o.trans (hb6.mono qE.o.size));have Zv:=qH ((j5.o.below hb6).more hb6.size);have qV:=qH ho6.oF;clear ho6 hb6 j5;go_wp2_with fail;with_reducible refine(vU.o w6 dY.o 6 (by omega) (by omega)).mono ?_
 rintro r w7⟨v7,rfl,ho7,hb7⟩;obtain⟨A7,k7,rfl⟩:=ho7.form;have iW:=qH (dY.o.trans (hb7.mono dY.o.size));have Zu:=qH ((Zv.o.below hb7).more hb7.size);have Zt:=qH ((qV.o.below hb7).more hb7.size);have Gv:=qH ho7.oF;clear ho7 hb7 Zv qV mE vU;have hs7:=iW.o.size;have HR:=qS (∀W,RowKit.Below w7.heap.size w7 W→Says true w (.returned (.bool true)) W) (fun W hW=>HW0.o W (fM.o.trans ((iW.o.trans (hW.mono hs7)).mono hs4)));have aa0:=qH (fun W(hW:RowKit.Below w7.heap.size w7 W)=>HPX.o W (iW.o.trans (hW.mono hs7)));have aaZ:=qH (fun W(hW:RowKit.Below w7.heap.size w7 W)=>HPY.o W (iW.o.trans (hW.mono hs7)));have bS:=qS (∀W,RowKit.Below w7.heap.size w7 W→(convert 32 9 (.slice A5 (aD (jW 5 x)).length k5)).run Tryz.prog W=.ok (.string ⟨(aD (jW 5 x)).toArray⟩) W∧(convert 32 9 (.slice A6 (aD (jW 5 y)).length k6)).run Tryz.prog W=.ok (.string ⟨(aD (jW 5 y)).toArray⟩) W∧(convert 32 9 (.slice A7 (aD (jW 6 y)).length k7)).run Tryz.prog W=.ok (.string ⟨(aD (jW 6 y)).toArray⟩) W) (fun W hW=>⟨(Zu.o.below hW).str (P:=Tryz.prog) 32 5 9 Tryz.underlying32 Tryz.underlying5 Tryz.underlying9,(Zt.o.below hW).str (P:=Tryz.prog) 32 5 9 Tryz.underlying32 Tryz.underlying5 Tryz.underlying9,(Gv.o.below hW).str (P:=Tryz.prog) 32 5 9 Tryz.underlying32 Tryz.underlying5 Tryz.underlying9⟩);have vX:=qH (ax (Below.refl w7.heap.size w7));clear Zu Zt Gv HPX HPY Za HI4 HI' HG WH;generalize aD (jW 5 x)=la at*;generalize aD (jW 5 y)=lb at*;generalize aD (jW 6 y)=lc at*;have hne:=zH.o;have hq2:(lb==lc)=false:=by simp[hne]
 have hq3:decide (lb=lc)=false:=decide_eq_false hne;clear hne;cases hq:(la==lb);all_goals rw[hq]at wX;have hq4:=hq;clear hq;have hS:=bS.o _ vX.o;go_wp2;go_region_held3(fun W=>(convert 32 9 (.slice A5 la.length k5)).run Tryz.prog W=.ok (.string ⟨la.toArray⟩) W∧(convert 32 9 (.slice A6 lb.length k6)).run Tryz.prog W=.ok (.string ⟨lb.toArray⟩) W∧(convert 32 9 (.slice A7 lc.length k7)).run Tryz.prog W=.ok (.string ⟨lc.toArray⟩) W)(first|with_reducible assumption|with_reducible exact bS.o _ vX.o)(first|(go_at_call 17;(with_reducible refine(aa0.o _ vX.o).mono ?_);rintro r wx⟨vc2,vh2,vt2,vl2,vg2,r2,rfl,hV2,hb⟩;have HVA:=qH hV2;clear hV2;have bR:=qH (vX.o.trans (hb.mono vX.o.size));clear vX;have vX:=bR;clear bR hS;have hS:=bS.o _ vX.o;clear hb)|(go_at_call 17;(with_reducible refine(aaZ.o _ vX.o).mono ?_);rintro r wx⟨vc4,vh4,vt4,vl4,vg4,r4,rfl,hV4,hb⟩;have UB:=qH hV4;clear hV4;have HVE:=qH (HVA.o.up hb);clear HVA;have bR:=qH (vX.o.trans (hb.mono vX.o.size));clear vX;have vX:=bR;clear bR hS;have hS:=bS.o _ vX.o;clear hb)|(go_at_call 18;(with_reducible refine(wX.o _ _ _ _ _ _ _ _ _ _ _ _ _ _ _ HVE.o UB.o).mono ?_);rintro r wx⟨rfl,hb⟩;clear HVE UB;have bR:=qH (vX.o.trans (hb.mono vX.o.size));clear vX;have vX:=bR;clear bR hS;have hS:=bS.o _ vX.o;clear hb));all_goals have HRR:=qH (HR.o _ vX.o);go_wp2;go_ret;exact HRR.o
end Go.Proofs.YtbejfgmdkmddnaaGreatDoor
