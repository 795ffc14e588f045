/-
  The law SnapshotBack, walked.
-/
import Derived.Test.YtbejfgmdkmddnaaGreatDoorVPtSame3
import Derived.Test.YtbejfgmdkmddnaaGreatDoorVSnLives
import Derived.Test.YtbejfgmdkmddnaaGreatDoorVGrown
set_option maxRecDepth 100000
set_option maxHeartbeats 16000000
namespace Go.Proofs.YtbejfgmdkmddnaaGreatDoor
open Go.RowKit Go.Maps Go.Sort Go.Shelf
theorem Ii(x:ay)(e:Ev)(now:Int):(x.offer e now).gone.length≤x.gone.length+1:=by
 unfold ay.offer;split;·exact Nat.le_succ _
 ·split;·exact uH _ _
  ·unfold ay.bu;split;·exact Nat.le_succ _
   ·exact Nat.le_succ _
def XF(w:World)(bi b9 N:Nat)(ms:List Dd)(i:Value)(wr:World):Prop:= ∃(k:Nat)(F1 F2:Nat→Prop)(z:ay),i=.int .i64 k∧k≤ms.length∧aU wr F1 bi (N+2*k) z∧aU wr F2 b9 (N+2*k) z∧z.gone.length≤N+2*k∧(∀b,F1 b→ ¬F2 b)∧(∀b,F1 b∨F2 b→w.heap.size≤b)∧Below w.heap.size w wr
theorem XF.step{w wr w1 w2:World}{bi b9 N k:Nat}{ms:List Dd}{F1 F2 F3 F4:Nat→Prop}{z:ay}{e:Ev}{now:Int}(hk:k<ms.length)(hb:Below w.heap.size w wr)(h2:aU wr F2 b9 (N+2*k) z)(hg:z.gone.length≤N+2*k)(hap: ∀b,F1 b→ ¬F2 b)(hlo: ∀b,F1 b∨F2 b→w.heap.size≤b)(a1:aU w1 F3 bi (N+2*k+2) (z.offer e now))(a2:ak F1 wr w1)(a3: ∀b,F3 b→F1 b∨wr.heap.size≤b)(c1:aU w2 F4 b9 (N+2*k+2) (z.offer e now))(c2:ak F2 w1 w2)(c3: ∀b,F4 b→F2 b∨w1.heap.size≤b):XF w bi b9 N ms (.int .i64 ((k:Int)+1)) w2:=by
 have s1:=a2.size;have s2:=c2.size;have s0:=hb.size;have ap: ∀b,F3 b→ ¬F2 b:=fun b h3 h2'=>by
  rcases a3 b h3 with h|h;·exact hap b h h2'
  ·have:=h2.low h2';omega
 refine⟨k+1,F3,F4,z.offer e now,rfl,hk,?_,c1,?_,?_,?_,?_⟩;·exact a1.keep s2 (fun b hb'=>c2.block b (a1.low hb') (ap b hb'))
 ·have:=Ii z e now;omega
 ·intro b h3 h4;rcases c3 b h4 with h|h;·exact ap b h3 h
  ·have:=a1.low h3;omega
 ·intro b h;rcases h with h|h
  ·rcases a3 b h with h|h;·exact hlo b (.inl h)
   ·omega
  ·rcases c3 b h with h|h;·exact hlo b (.inr h)
   ·omega
 ·refine(a2.below s0 (fun b hb' hf=>?_)|>hb.trans∘id).trans ?_;·have:=hlo b (.inl hf);omega
  ·exact c2.below (by omega) (fun b hb' hf=>by have:=hlo b (.inr hf);omega)
theorem He(w:World)(aa idle:Int)(A:Option Addr)(n c:Nat)(ds:List Dd)(h:Dn w w.heap.size A n c ds)(hn:n≤140737488355328)(hkd: ∀d∈ds,0≤d.kind∧d.kind≤255)(A2:Option Addr)(n2 c2:Nat)(ms:List Dd)(h2:Dn w w.heap.size A2 n2 c2 ms)(hn2:n2≤140737488355328)(_abt: ∀d∈ms,0≤d.kind∧d.kind≤255)(off:Int)(hmx:bf w)(xB:dV w)(htab:Lib.TabBelow Tryz.prog w.heap.size w "internal/strconv.uint64pow10" .u64 Lib.pow10Tab):Calls Tryz.prog 8 #[.int .i64 aa,.int .i64 idle,.slice A n c,.slice A2 n2 c2,.int .i64 off] w (Says true w):=by
 have HH:=qH h;clear h;have rW:=qH h2;clear h2;have TN:=qH hkd;clear hkd;have jS:=qH hmx;have JD:=qH xB;have HT:=qH htab;clear hmx xB htab;have HW0:=qS (∀W,RowKit.Below w.heap.size w W→Says true w (.returned (.bool true)) W) (fun W hW=>⟨rfl,hW⟩);have qc:=qS (∀W,RowKit.Below w.heap.size w W→Dn W W.heap.size A n c ds) (fun W hW=>az.more (az.below HH.o hW) hW.size);have HDM:=qS (∀W,RowKit.Below w.heap.size w W→Dn W W.heap.size A2 n2 c2 ms) (fun W hW=>az.more (az.below rW.o hW) hW.size);go_enter Tryz.func8,Tryz.ntmps8;go_wp2_with fail;refine(pF w jS.o JD.o HT.o).mono ?_;rintro r w1⟨rfl,hb1⟩;have HB1:=qH hb1;clear hb1;go_wp2_with fail;refine(mZ w1 A n c ds (qc.o w1 HB1.o) hn 30).mono ?_;rintro r w2⟨rfl,hb2⟩;have HB2:=qH (HB1.o.trans (hb2.mono HB1.o.size));clear hb2;cases zY:j3 ds 30;case true=>have HR:=qH (HW0.o w2 HB2.o);clear zY;go_wp2;go_ret;exact HR.o
 obtain⟨hl,hsm⟩:=jg (m:=30) zY;have qL:=qH hsm;have hlen:=HH.o.len;have hn30:n≤30:=by omega
 clear zY hsm hl;go_wp2_with fail;refine(mZ w2 A2 n2 c2 ms (HDM.o w2 HB2.o) hn2 10).mono ?_;rintro r w2'⟨rfl,hb2⟩;have QP:=qH (HB2.o.trans (hb2.mono HB2.o.size));clear hb2 HB2;have HB2:=QP;clear QP;cases zY:j3 ms 10;case true=>have HR:=qH (HW0.o w2' HB2.o);clear zY;go_wp2;go_ret;exact HR.o
 obtain⟨hl2,hsm2⟩:=jg (m:=10) zY;have V8:=qH hsm2;have hlen2:=rW.o.len;have hn210:n2≤10:=by omega
 clear zY hsm2 hl2 hlen2;by_cases h0:off<0;·have HR:=qH (HW0.o w2' HB2.o);go_wp2;go_ret;exact HR.o
 by_cases h1:1048576<off;·have HR:=qH (HW0.o w2' HB2.o);go_wp2;go_ret;exact HR.o
 go_wp2_with fail;refine(qp w2' aa idle A n c ds (qc.o w2' HB2.o) (by omega) qL.o TN.o (jS.o.up HB2.o)).mono ?_;rintro r w3⟨F,S,bi,bm,bc,rfl,hB⟩;have HB3:=qH (HB2.o.trans (hB.bN.mono HB2.o.size));have HG:=qH (bY.grown hB.both.gI (by omega));have HI:=qH hB.both.gI;have HM:=qH hB.both.ref;have zK:=qS (∀b,F b→w.heap.size≤b) (fun b hb=>by have:=hB.LV b hb;have:=HB2.o.size;omega);clear hB hlen;generalize ay.grown aa idle ds=x at*;have o0:0≤off:=by omega
 have o1:off≤1048576:=by omega
 clear h0 h1;have hs3:=HB3.o.size;have Xo:=qH (fun W(hW:RowKit.Below w3.heap.size w3 W)=>iN W F bi (3*n) x (HI.o.up hW) HG.o (by omega) off o0 o1 (jS.o.up (HB3.o.trans (hW.mono hs3))) (fe HT.o (HB3.o.trans (hW.mono hs3))));unfold vK at Xo;have HLD:=qH (fun W(hW:RowKit.Below w3.heap.size w3 W)A1 n1 c1(hB:bU W W.heap.size A1 n1 c1 (aD (jW off x)))=>wh W A1 n1 c1 x off (3*n) hB HG.o (by omega) o0 o1 (jS.o.up (HB3.o.trans (hW.mono hs3))) (JD.o.up (HB3.o.trans (hW.mono hs3))) (fe HT.o (HB3.o.trans (hW.mono hs3))));unfold Jk at HLD;go_wp2_with fail;with_reducible refine(Xo.o w3 (Below.refl _ _)).mono ?_
 rintro r w4⟨v4,rfl,ho4,hb4⟩;obtain⟨A4,c4,rfl⟩:=ho4.form;have fM:=qH hb4;have xL:=qH ho4.oF;clear ho4 hb4;go_wp2_with fail;with_reducible refine(HLD.o w4 fM.o _ _ _ xL.o).mono ?_
 rintro r w5⟨b9,F9,rfl,hI9,hb5,hF9⟩;have qE:=qH (fM.o.trans (hb5.mono fM.o.size));have HI9:=qH hI9;have HF9:=qH hF9;have j5:=qH ((xL.o.below hb5).more hb5.size);clear hI9 hF9 hb5;have hs5:=qE.o.size;have Dk:=qH (HB3.o.trans (qE.o.mono hs3));have Rb:=Dk.o.size;have Xq:=qH (fun W(hW:RowKit.Below w5.heap.size w5 W)=>jv W F bi (3*n) x (HI.o.up (qE.o.trans (hW.mono hs5))) (by omega) (jS.o.up (Dk.o.trans (hW.mono Rb))) (fe HT.o (Dk.o.trans (hW.mono Rb))));have Dv:=qH (fun W(hW:RowKit.Below w5.heap.size w5 W)=>jv W F9 b9 (3*n) x (HI9.o.up hW) (by omega) (jS.o.up (Dk.o.trans (hW.mono Rb))) (fe HT.o (Dk.o.trans (hW.mono Rb))));unfold uu at Xq Dv;have hx1:x.taken.length≤100000:=by have:=HG.o.ok.taken;omega
 have hx2:x.late.length≤100000:=by have:=HG.o.ok.late;omega
 have hx3:x.gone.length≤100000:=by have:=HG.o.gone;omega
 have wX:=qH (fun W B1 B2 vc1 vh1 vt1 vl1 vg1 vc2 vh2 vt2 vl2 vg2 r1 r2 h1 h2=>wC W B1 B2 x x.au.aa x.au.idle vc1 vh1 vt1 vl1 vg1 vc2 vh2 vt2 vl2 vg2 r1 r2 h1 h2 hx1 hx2 hx3);clear hx1 hx2 hx3 qL HLD;go_wp2_with fail;with_reducible refine(Xq.o w5 (Below.refl _ _)).mono ?_
 rintro r w6⟨vc,vh,vt,vl,vg,r1,rfl,hV1,hb6⟩;have dY:=qH hb6;have kC:=qH hV1;clear hb6 hV1;go_wp2_with fail;with_reducible refine(Dv.o w6 dY.o).mono ?_
 rintro r w7⟨DR,DL,DI,DJ,DN,r2,rfl,hV2,hb7⟩;have iW:=qH (dY.o.trans (hb7.mono dY.o.size));have wW:=qH hV2;have Qv:=qH (kC.o.up hb7);clear hb7 hV2 kC;go_wp2_with fail;with_reducible refine(wX.o _ _ _ _ _ _ _ _ _ _ _ _ _ _ _ Qv.o wW.o).mono ?_
 rintro r w8⟨rfl,hb8⟩;have rZ:=qH (iW.o.trans (hb8.mono iW.o.size));have VZ:=qH (fun W(hW:RowKit.Below w5.heap.size w5 W)=>iN W F9 b9 (3*n) x (HI9.o.up hW) HG.o (by omega) off o0 o1 (jS.o.up (Dk.o.trans (hW.mono Rb))) (fe HT.o (Dk.o.trans (hW.mono Rb))));unfold vK at VZ;clear hb8 Qv wW;go_wp2_with fail;with_reducible refine(VZ.o w8 rZ.o).mono ?_
 rintro r w9⟨v9,rfl,ho9,hb9⟩;obtain⟨A9,c9,rfl⟩:=ho9.form;have zM:=qH (rZ.o.trans (hb9.mono rZ.o.size));have ka:=((j5.o.below zM.o).more zM.o.size).str (P:=Tryz.prog) 32 5 9 Tryz.underlying32 Tryz.underlying5 Tryz.underlying9;have kb:=ho9.oF.str (P:=Tryz.prog) 32 5 9 Tryz.underlying32 Tryz.underlying5 Tryz.underlying9;clear ho9 hb9 VZ Xo xL j5;generalize aD (jW off x)=la at*;have Kc:=jS.o.lt;have jF:=qS (XF w bi b9 (3*n) ms (.int .i64 ((0:Nat):Int)) w9) (⟨0,F,F9,x,rfl,Nat.zero_le _,HI.o.up (qE.o.trans (zM.o.mono hs5)),HI9.o.up zM.o,by have:=HG.o.gone;omega,fun b h1 h2=>by have:=HF9.o b h2;have:=HI.o.low h1;have:=fM.o.size;omega,fun b h=>by
  rcases h with h|h;·exact zK.o b h
  ·have:=HF9.o b h;have:=fM.o.size;have:=HB3.o.size;omega,Dk.o.trans (zM.o.mono Rb)⟩);clear HI HI9 HG HF9 Xq Dv fM qE dY iW rZ zM Dk wX hs5 Rb hs3 o0 o1 zK HM;go_wp2;go_loopw[21](fun i wr=>XF w bi b9 (3*n) ms i wr)(fun i _=>n2-(intOf i).toNat);case atStart=>exact jF.o
 case round=>
  obtain⟨k,F1,F2,z,rfl,hk,h1,h2,hgz,hap,hlo,hbel⟩:=hrel;have H1:=qH h1;have H2:=qH h2;have QQ:=qH hap;have Jy:=qH hlo;have HB:=qH hbel;have HGZ:=qH hgz;have hlm:=rW.o.len;clear h1 h2 hap hlo hbel jF hgz;by_cases hkn:k<n2
  ·have hkl:k<ms.length:=by omega
   obtain⟨b,off',hA,hb,hd⟩:=rW.o.at_ k hkl;obtain⟨_,hev,hnw⟩:=hd;have V7:=qH (V8.o _ (List.getElem_mem hkl));subst hA;generalize ms[k]=d at*;obtain⟨kd,e,t,pr⟩:=d;simp only at hev hnw V7;have bS:=qS (∀W,RowKit.Below w.heap.size w W→lM W b (off'+k*11+1) e∧W.cell? ⟨b,off'+k*11+9,none⟩=some (.int .i64 t)) (fun W hW=>⟨hev.below hW hb,(hW.cell (p:=⟨b,off'+k*11+9,none⟩) hb).trans hnw⟩);unfold lM at bS;have hbd:=ax HB.o;have HA:=qH (uR wr.drew F1 bi (3*n+2*k) z (H1.o.up (ax (Below.refl _ _))) (by omega) e V7.o t (jS.o.up hbd) (fun hf=>by have:=Jy.o _ (.inl hf);omega));have HC:=qH (fun(w1:World)(F3:Nat→Prop)(a1:aU w1 F3 bi (3*n+2*k+2) (z.offer e t))(a2:ak F1 wr.drew w1)(a3: ∀b,F3 b→F1 b∨wr.drew.heap.size≤b)=>show RowKit.Below w.heap.size w w1∧Calls Tryz.prog 16 #[.pointer (some ⟨b9,0,none⟩),e.agg,.int .i64 t] w1 (fun r w2=>r=.returned (.int .i64 (z.offered e t))∧RowKit.Below w.heap.size w w2∧XF w bi b9 (3*n) ms (.int .i64 ((k:Int)+1)) w2)from by have hb1:=hbd.trans (a2.below hbd.size (fun b hb' hf=>by have:=Jy.o b (.inl hf);omega));have h2':=(H2.o.up (ax (Below.refl _ _))).keep a2.size (fun b hb'=>a2.block b ((H2.o.up (ax (Below.refl _ _))).low hb') (fun hf=>QQ.o b hf hb'));refine⟨hb1,(uR w1 F2 b9 (3*n+2*k) z h2' (by omega) e V7.o t (jS.o.up hb1) (fun hf=>by have:=Jy.o _ (.inr hf);omega)).mono ?_⟩;rintro r w2⟨rfl,F4,c1,c2,c3⟩;have hr:=XF.step hkl hbd (H2.o.up (ax (Below.refl _ _))) HGZ.o QQ.o Jy.o a1 a2 a3 c1 c2 c3;obtain⟨_,_,_,_,_,_,_,_,_,_,_,hbz⟩:=id hr;exact⟨rfl,hbz,hr⟩);unfold Ev.agg at HA HC;have t1:(k:Int)<n2:=by omega
   have hS:=bS.o _ hbd;clear hev hnw hb;have KP:=qS (∀W,RowKit.Below w.heap.size w W→(W.cell? ⟨b,off'+k*11+1,none⟩=some (.string ⟨e.src.toArray⟩)∧W.cell? ⟨b,off'+k*11+1+1,none⟩=some (.int .i64 e.num)∧W.cell? ⟨b,off'+k*11+1+2,none⟩=some (.int .i64 e.at_)∧W.cell? ⟨b,off'+k*11+1+3,none⟩=some (.int .i64 e.kind)∧W.cell? ⟨b,off'+k*11+1+4,none⟩=some (.string ⟨e.per.toArray⟩)∧W.cell? ⟨b,off'+k*11+1+5,none⟩=some (.string ⟨e.item.toArray⟩)∧W.cell? ⟨b,off'+k*11+1+6,none⟩=some (.int .i64 e.val)∧W.cell? ⟨b,off'+k*11+1+7,none⟩=some (.string ⟨e.text.toArray⟩))∧W.cell? ⟨b,off'+k*11+9,none⟩=some (.int .i64 t)) (bS.o);clear hS bS;have hS:=KP.o _ hbd;go_upto_region 18 with fail;go_region_held3(fun W=>(W.cell? ⟨b,off'+k*11+1,none⟩=some (.string ⟨e.src.toArray⟩)∧W.cell? ⟨b,off'+k*11+1+1,none⟩=some (.int .i64 e.num)∧W.cell? ⟨b,off'+k*11+1+2,none⟩=some (.int .i64 e.at_)∧W.cell? ⟨b,off'+k*11+1+3,none⟩=some (.int .i64 e.kind)∧W.cell? ⟨b,off'+k*11+1+4,none⟩=some (.string ⟨e.per.toArray⟩)∧W.cell? ⟨b,off'+k*11+1+5,none⟩=some (.string ⟨e.item.toArray⟩)∧W.cell? ⟨b,off'+k*11+1+6,none⟩=some (.int .i64 e.val)∧W.cell? ⟨b,off'+k*11+1+7,none⟩=some (.string ⟨e.text.toArray⟩))∧W.cell? ⟨b,off'+k*11+9,none⟩=some (.int .i64 t))(first|with_reducible assumption)(first|(go_at_call 16;(with_reducible refine HA.o.mono ?_);rintro r wx⟨rfl,F3,a1,a2,a3⟩;obtain⟨hb6,hc6⟩:=HC.o wx F3 a1 a2 a3;have dS:=qH hc6;clear hS a1 a2 a3 hc6;have hS:=KP.o _ hb6;clear hb6)|(go_at_call 16;(with_reducible refine dS.o.mono ?_);rintro r wy⟨rfl,hb7,hr7⟩;have wY:=qH hr7;clear hS;have hS:=KP.o _ hb7;clear hb7 hr7));all_goals
    clear hS;go_wp2;go_roundw;case rel=>exact wY.o
    case measure=>simp[intOf];omega
  ·have t1: ¬(k:Int)<n2:=by omega
   have hsz:=HB.o.size;have hz1:z.taken.length≤100000:=by obtain⟨A,hM,hO,_⟩:=H1.o;have:=hO.taken;omega
   have hz2:z.late.length≤100000:=by obtain⟨A,hM,hO,_⟩:=H1.o;have:=hO.late;omega
   have hz3:z.gone.length≤100000:=by have:=HGZ.o;omega
   have Xq:=qH (jv wr F1 bi (3*n+2*k) z H1.o (by omega) (jS.o.up HB.o) (fe HT.o HB.o));have Dv:=qH (fun W(hW:RowKit.Below wr.heap.size wr W)=>jv W F2 b9 (3*n+2*k) z (H2.o.up hW) (by omega) (jS.o.up (HB.o.trans (hW.mono hsz))) (fe HT.o (HB.o.trans (hW.mono hsz))));have wX:=qH (fun W B1 B2 vc1 vh1 vt1 vl1 vg1 vc2 vh2 vt2 vl2 vg2 r1 r2 h1 h2=>wC W B1 B2 z z.au.aa z.au.idle vc1 vh1 vt1 vl1 vg1 vc2 vh2 vt2 vl2 vg2 r1 r2 h1 h2 hz1 hz2 hz3);unfold uu at Xq Dv;clear hz1 hz2 hz3 hlm;go_wp2_with fail;with_reducible refine Xq.o.mono ?_
   rintro r w6⟨vc,vh,vt,vl,vg,r1,rfl,hV1,hb6⟩;have dY:=qH hb6;have kC:=qH hV1;clear hb6 hV1;go_wp2_with fail;with_reducible refine(Dv.o w6 dY.o).mono ?_
   rintro r w7⟨DR,DL,DI,DJ,DN,r2,rfl,hV2,hb7⟩;have iW:=qH (dY.o.trans (hb7.mono dY.o.size));have wW:=qH hV2;have Qv:=qH (kC.o.up hb7);clear hb7 hV2 kC;go_wp2_with fail;with_reducible refine(wX.o _ _ _ _ _ _ _ _ _ _ _ _ _ _ _ Qv.o wW.o).mono ?_
   rintro r w8⟨rfl,hb8⟩;have HR:=qH (HW0.o w8 (HB.o.trans ((iW.o.trans (hb8.mono iW.o.size)).mono hsz)));clear hb8 Qv wW;go_wp2;go_ret;exact HR.o
end Go.Proofs.YtbejfgmdkmddnaaGreatDoor
