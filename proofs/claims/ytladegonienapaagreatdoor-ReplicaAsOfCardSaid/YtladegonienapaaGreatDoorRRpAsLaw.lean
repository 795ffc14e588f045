/-
  The law ReplicaAsOf, walked.
-/
import Derived.Test.YtladegonienapaaGreatDoorRRpSame
set_option maxRecDepth 100000
set_option maxHeartbeats 16000000
namespace Go.Proofs.YtladegonienapaaGreatDoor
open Go.RowKit Go.Maps Go.Sort Go.Shelf
theorem xq(x:az)(a b:List Ev):av x (a++b)=av (av x a) b:=by unfold av;rw[List.foldl_append]
theorem FK{l:List Ev}{m:Int}{k k':Nat}(h:CX l m k)(h':CX l m k'):k=k':=by
 rcases Nat.lt_trichotomy k k' with hlt|rfl|hlt;·have h1:=h'.2.1 k (by have:=h'.1;omega) hlt;have h2:=h.2.2 k (by have:=h'.1;omega) (Nat.le_refl _);omega
 ·rfl
 ·have h1:=h.2.1 k' (by have:=h.1;omega) hlt;have h2:=h'.2.2 k' (by have:=h.1;omega) (Nat.le_refl _);omega
theorem Ap(w:World)(G F:Nat→Prop)(bj bd:Nat)(j:Jl)(hj:fo w G F bj bd j)(ag idle off:Int)(ho:off<0∨(j.es.length:Int)<off):Calls Tryz.prog 12 #[.pointer (some ⟨bj,0,none⟩),.int .i64 ag,.int .i64 idle,.int .i64 off] w (fun e w'=>e=.returned (.tuple #[.pointer none,.int .i64 9])∧RowKit.Below w.heap.size w w'):=by
 have xI:=qH (pG w G F bj bd j hj);clear hj;go_enter Tryz.func12,Tryz.ntmps12;by_cases h0:off<0;·go_wp2;go_ret2;exact⟨rfl,Below.refl _ _⟩
 ·have h1:(j.es.length:Int)<off:=by omega
  go_wp2_with fail;refine xI.o.mono ?_;rintro r w1⟨rfl,rfl⟩;go_wp2;go_ret2;exact⟨rfl,Below.refl _ _⟩
def IZ(w w6:World)(G F R0:Nat→Prop)(br bj bd bi:Nat)(j:Jl)(ds:List Ev)(ag idle:Int)(off:Nat)(i:Value)(wr:World):Prop:= ∃(k:Nat)(R:Nat→Prop),i=.int .i64 k∧k≤off∧dD wr G F R br bj bd bi (2*k) j (av (az.new ag idle) (ds.take k)) k∧ai (fun b=>R0 b∨b=br) w6 wr∧(∀b,R b→R0 b∨w6.heap.size≤b)∧RowKit.Below w.heap.size w wr
theorem lV{w:World}{F:Nat→Prop}{bi N:Nat}{x:az}(h:aS w F bi N x):bU N x∧fP x.aG:=by obtain⟨A,hM,hO,_⟩:=h;exact⟨hO,hM.aG.ok⟩
theorem yl(w:World)(per:Int)(A:Option Addr)(n c:Nat)(ds:List Ev)(h:eD w w.heap.size A n c ds)(hn:n≤140737488355328)(ag idle off:Int)(hmx:aM w)(he:eQ w)(ht:Lib.TabBelow Tryz.prog w.heap.size w "internal/strconv.uint64pow10" .u64 Lib.pow10Tab):Calls Tryz.prog 6 #[.int .i64 per,.slice A n c,.int .i64 ag,.int .i64 idle,.int .i64 off] w (Says true w):=by
 have HH:=qH h;have dO:=qH hmx;have HE:=qH he;have HT:=qH ht;have HL:=qH h.len;clear h hmx he ht;go_enter Tryz.func6,Tryz.ntmps6;go_wp2_with fail;refine(iV w dO.o).mono ?_;rintro r w1⟨rfl,hb1⟩;have HB1:=qH hb1;have qR:=qS (eD w1 w1.heap.size A n c ds) (aI.more (aI.below HH.o hb1) hb1.size);clear hb1;go_wp2_with fail;refine(lM w1 A n c ds qR.o hn).mono ?_;rintro r w2⟨rfl,hb2⟩;have HB2:=qH (HB1.o.trans (hb2.mono HB1.o.size));have ky:=qS (eD w2 w2.heap.size A n c ds) (aI.more (aI.below qR.o hb2) hb2.size);clear hb2 qR;cases hfw:ow ds;case false=>clear hfw;go_wp2;go_ret;exact⟨rfl,HB2.o⟩
 have hfw2:(ds.length≤30∧ds.any (fun d=>gN d 300)=false)∧ds.all aB=true:=by unfold ow at hfw;simpa using hfw
 have Ce:=qH hfw2.2;have hn30:n≤30:=by have:=HL.o;omega
 have hdl:ds.length≤30:=hfw2.1.1;clear hfw hfw2;by_cases hp1:per<1;·go_wp2;go_ret;exact⟨rfl,HB2.o⟩
 by_cases hp2:4096<per;·go_wp2;go_ret;exact⟨rfl,HB2.o⟩
 obtain⟨p,rfl⟩:=Int.eq_ofNat_of_zero_le (show 0≤per by omega);have hs2:=HB2.o.size;go_wp2_with fail;refine(jv w2 A n c ds ky.o (by omega) Ce.o p (by omega) (by omega) (dO.o.up HB2.o)).mono ?_;rintro r w3⟨bd,bj,G,F,j,rfl,hj,hGF,hb3,hes⟩;have HJ:=qH hj;have uw:=qH hes;have HB3:=qH (HB2.o.trans (hb3.mono HB2.o.size));have hlj:j.es.length=ds.length:=by rw[hes,List.length_map]
 have hs3:=hb3.size;clear hj hGF hb3 hes ky hp1 hp2;have hln:=HL.o;by_cases hoff:off<0∨(ds.length:Int)<off
 ·have HBAD:=qH (Ap w3 G F bj bd j HJ.o ag idle off (by rw[hlj];exact hoff));go_wp2_with fail;refine HBAD.o.mono ?_;rintro r w4⟨rfl,hb4⟩;have fA:=qH (HB3.o.trans (hb4.mono HB3.o.size));clear hb4 HBAD hlj;by_cases h0:off<0;·go_wp2;go_ret;exact⟨rfl,fA.o⟩
  ·have h1:(n:Int)<off:=by omega
   clear hoff;go_wp2;go_ret;exact⟨rfl,fA.o⟩
 have ho0: ¬off<0:=fun h=>hoff (.inl h);have ho1: ¬(ds.length:Int)<off:=fun h=>hoff (.inr h);have ho2: ¬(n:Int)<off:=by omega
 obtain⟨m,rfl⟩:=Int.eq_ofNat_of_zero_le (show 0≤off by omega);have hmd:m≤ds.length:=by omega
 have hm30:m≤30:=by omega
 clear hoff hln;go_wp2_with fail;refine(mP w3 G F bj bd j HJ.o ds uw.o ag idle m hmd (by omega) (dO.o.up HB3.o)).mono ?_;rintro r w4⟨b1,F1,rfl,hx,hb4,hF1⟩;have HX:=qH hx;have fA:=qH (HB3.o.trans (hb4.mono HB3.o.size));have XJ:=qH (HJ.o.keep hb4.size (fun b hb=>hb4.block b (HJ.o.lt b hb)));have hs4:=hb4.size;have lI:=qH hF1;clear hx hb4 HJ hF1;go_wp2_with fail;refine(fQ w4 G F bj bd j XJ.o ag idle (dO.o.up fA.o)).mono ?_;rintro r w5⟨br,bi,R0,rfl,hr5,hb5,hR0,hbr⟩;have jJ:=qH (fA.o.trans (hb5.mono fA.o.size));have Le:=qH (HX.o.up hb5);have Fg:=qS ((∀b,R0 b→w4.heap.size≤b)∧w4.heap.size≤br) (⟨hR0,hbr⟩);have gZ:=qS (∀b,F1 b→b<w4.heap.size) (by obtain⟨A',_,_,_,_,_,h6⟩:=HX.o;exact h6);have hs5:=hb5.size;have HST:=qS (IZ w w5 G F R0 br bj bd bi j ds ag idle m (.int .i64 0) w5) (⟨0,R0,rfl,Nat.zero_le _,hr5,ai.refl _ _,fun b hb=>.inl hb,jJ.o⟩);clear hr5 hb5 hR0 hbr HX;go_wp2;go_loopw[15](fun i wr=>IZ w w5 G F R0 br bj bd bi j ds ag idle m i wr)(fun i _=>m-(intOf i).toNat);case atStart=>exact HST.o
 case round=>
  obtain⟨k,R,rfl,hk,hr,hkp,hRR,hbel⟩:=hrel;have HR:=qH hr;have HK:=qH hkp;have HRR:=qH hRR;have HB:=qH hbel;have qX:=hkp.size;clear hr hkp hRR HST;by_cases Wl:k<m
  ·have t1:(k:Int)<m:=by omega
   go_wp2_with fail;refine(bG wr G F R br bj bd bi (2*k) j _ k HR.o ds uw.o 1 1 (by omega) (by omega) (by omega) (by omega) (dO.o.up HB.o)).mono ?_;rintro r w6⟨rfl,R',hr6,hk6,Ul⟩;have gI:=qS (IZ w w5 G F R0 br bj bd bi j ds ag idle m (.int .i64 ((k+1:Nat):Int)) w6) (by
    refine⟨k+1,R',rfl,by omega,?_,?_,?_,?_⟩
    ·have e1:av (av (az.new ag idle) (ds.take k)) ((ds.drop k).take 1)=av (az.new ag idle) (ds.take (k+1)):=by rw[←xq,←List.take_add]
     rw[e1]at hr6;exact hr6
    ·refine HK.o.trans hk6 fun b hb hg=>?_;rcases hg with h|h
     ·rcases HRR.o b h with h2|h2;·exact .inl h2
      ·omega
     ·exact .inr h
    ·intro b hb;rcases Ul b hb with h|h;·exact HRR.o b h
     ·exact .inr (by omega)
    ·refine HB.o.trans (hk6.below HB.o.size fun b hb hg=>?_);rcases hg with h|h
     ·rcases HRR.o b h with h2|h2;·have:=Fg.o.1 b h2;omega
      ·omega
     ·have:=Fg.o.2;omega);clear hr6 hk6 Ul;go_wp2;go_roundw;case rel=>exact gI.o
   case measure=>simp[intOf];omega
  ·have hkk:k=m:=by omega
   have t1: ¬(k:Int)<m:=by omega
   subst hkk;have MP:=qH (Le.o.keep qX (fun b hb=>HK.o.block b (by have:=gZ.o b hb;omega) (fun hg=>by
    have h1:=gZ.o b hb;rcases hg with h|h;·have:=Fg.o.1 b h;omega
    ·have:=Fg.o.2;omega)));have Df:=qS (bL (2*30) (av (az.new ag idle) (ds.take k))) (by obtain⟨h1,h2⟩:=lV MP.o;exact bL.QI rfl (h1.more (by omega)) h2 (by rw[List.length_take];omega));have Ve:=qS (dD wr G F R br bj bd bi (2*30) j (av (az.new ag idle) (ds.take k)) k) (⟨HR.o.jl,HR.o.it.more (by omega),HR.o.blk,HR.o.nr,HR.o.rj,HR.o.ml⟩);have U3:=qH (MP.o.more (show 2*k≤2*30 by omega));clear HR MP Le;generalize av (az.new ag idle) (ds.take k)=x at*;go_wp2_with fail;refine(gU wr G F R br bj bd bi (2*30) j x k Ve.o Df.o (by omega) (dO.o.up HB.o) (HE.o.up HB.o) (iw HT.o HB.o)).mono ?_;rintro r w7⟨b2,F2,rfl,hy,hb7,hF2⟩;have HY:=qH hy;have Iq:=qH (U3.o.up hb7);have nH:=qH (HB.o.trans (hb7.mono HB.o.size));clear hy hb7 hF2 Ve U3;go_wp2_with fail;refine(mM w7 F1 F2 b1 b2 (2*30) x Iq.o HY.o Df.o (by omega)).mono ?_;rintro r w8⟨rfl,hb8⟩;have U5:=qH (Iq.o.up hb8);have QK:=qH (HY.o.up hb8);have vY:=qH (nH.o.trans (hb8.mono nH.o.size));clear hb8 Iq HY;go_wp2_with fail;refine(gW w8 F1 b1 (2*30) x U5.o).mono ?_;rintro r w9⟨rfl,rfl⟩;go_wp2_with fail;refine(gW w8 F2 b2 (2*30) x QK.o).mono ?_;rintro r w9⟨rfl,rfl⟩;go_wp2_with fail;refine(qj w8 F1 b1 (2*30) x U5.o (by omega)).mono ?_;rintro r w9⟨k1,v1,hs1,rfl,ho1,hb9⟩;obtain⟨tk,htk⟩: ∃tk,tk=x.taken.take k1:=⟨_,rfl⟩;have fH:=qH htk;have XE:=qS (tk.length≤100000) (by have:=Df.o.ok.taken;rw[htk,List.length_take];omega);rw[←htk]at ho1;clear htk;obtain⟨A1,c1,rfl⟩:=ownsRow_form ho1;have uM:=qS (eD w9 w9.heap.size A1 tk.length c1 tk) (aI.bz ho1);have WS:=qH (QK.o.up hb9);have oP:=qH (vY.o.trans (hb9.mono vY.o.size));have uq:=qH hs1;clear ho1 hb9 hs1;go_wp2_with fail;refine(qj w9 F2 b2 (2*30) x WS.o (by omega)).mono ?_;rintro r w10⟨k2,v2,hs2,rfl,ho2,hb10⟩;obtain rfl:=FK uq.o hs2;rw[←fH.o]at ho2;obtain⟨A2,c2,rfl⟩:=ownsRow_form ho2;have HE2:=qS (eD w10 w10.heap.size A2 tk.length c2 tk) (aI.bz ho2);have Tv:=qS (eD w10 w10.heap.size A1 tk.length c1 tk) (aI.more (aI.below uM.o hb10) hb10.size);have mh:=qH (oP.o.trans (hb10.mono oP.o.size));have hlx:=XE.o;clear ho2 hb10 hs2;go_wp2_with fail;refine(mK w10 _ _ A1 A2 _ c1 c2 _ Tv.o HE2.o hlx).mono ?_;rintro r w11⟨rfl,q,rfl⟩;have ug:=qH (below_drewN mh.o q);go_wp2;go_ret;exact⟨rfl,ug.o⟩
end Go.Proofs.YtladegonienapaaGreatDoor
