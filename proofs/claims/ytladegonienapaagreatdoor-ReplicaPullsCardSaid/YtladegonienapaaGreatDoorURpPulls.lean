/-
  The law ReplicaPulls, walked.
-/
import Derived.Test.YtladegonienapaaGreatDoorURRead33
import Derived.Test.YtladegonienapaaGreatDoorURpPullG
import Derived.Test.YtladegonienapaaGreatDoorUJGoodB
set_option maxRecDepth 100000
set_option maxHeartbeats 16000000
namespace Go.Proofs.YtladegonienapaaGreatDoor
open Go.RowKit Go.Maps Go.Sort Go.Shelf
theorem oM.upto33{w:World}{B n c:Nat}{A:Option Addr}{l:List (Option Ev)}(h:oM w B A n c l)(m:Nat)(hm:m≤n):oM w B A m c (l.take m):=by have:=ax.upto h m hm;unfold oM;rw[←fV];exact this
theorem wZ(os:List (Option Ev))(a m:Nat):bU (os.take a)++bU ((os.drop a).take m)=bU (os.take (a+m)):=by rw[←uD,←List.take_add]
theorem Nt{kb:Ev→Bool}{ds:List Ev}(h:ds.all aK=true): ∀e,some e∈(ds.map some).map (iP kb)→aK e=true:=fun e he=>by have:=uS he;obtain⟨x,hx,e2⟩:=List.mem_map.1 this;injection e2 with e2;exact List.all_eq_true.1 h e (e2▸hx)
def Oi(w w8:World)(G F:Nat→Prop)(br bj bd bi:Nat)(j:Jl)(ag idle:Int)(os:List (Option Ev))(q:Nat)(at_ i:Value)(wr:World):Prop:= ∃(k a:Nat)(R:Nat→Prop),i=.int .i64 k∧at_=.int .i64 a∧k≤q∧a≤os.length∧iQ wr G F R br bj bd bi (2*a) j (bE (aG.new ag idle) (bU (os.take a))) a∧RowKit.Below w.heap.size w wr∧RowKit.Below w8.heap.size w8 wr∧(∀b,R b→w8.heap.size≤b)
theorem CF(w:World)(per:Int)(A:Option Addr)(n c:Nat)(ds:List Ev)(h:gH w w.heap.size A n c ds)(hn:n≤140737488355328)(p:List UInt8)(hp:p.length≤140737488355328)(A2:Option Addr)(n2 c2:Nat)(ps:List Int)(h2:Ints w w.heap.size A2 n2 c2 ps)(ag idle:Int)(hmx:aW w)(he:iO w)(ht:Lib.TabBelow Tryz.prog w.heap.size w "internal/strconv.uint64pow10" .u64 Lib.pow10Tab):Calls Tryz.prog 7 #[.int .i64 per,.slice A n c,.string ⟨p.toArray⟩,.slice A2 n2 c2,.int .i64 ag,.int .i64 idle] w (Says true w):=by
 have HH:=qH h;have kL:=qH hmx;have HE:=qH he;have HT:=qH ht;have HI2:=qH h2;have HL:=qH h.len;have HL2:=qH h2.len;clear h hmx he ht h2;go_enter Tryz.func7,Tryz.ntmps7;go_wp2_with fail;with_reducible refine(CJ w kL.o).mono ?_
 rintro r w1⟨rfl,hb1⟩;have HB1:=qH hb1;have Cb:=qS (gH w1 w1.heap.size A n c ds) (ax.more (ax.below HH.o hb1) hb1.size);clear hb1;go_wp2_with fail;with_reducible refine(JG w1 A n c ds Cb.o hn).mono ?_
 rintro r w2⟨rfl,hb2⟩;have HB2:=qH (HB1.o.trans (hb2.mono HB1.o.size));have mR:=qS (gH w2 w2.heap.size A n c ds) (ax.more (ax.below Cb.o hb2) hb2.size);clear hb2 Cb;cases hfw:Ed ds;case false=>clear hfw;go_wp2;go_ret;exact⟨rfl,HB2.o⟩
 have hfw2:(ds.length≤30∧ds.any (fun d=>lV d 300)=false)∧ds.all aK=true:=by unfold Ed at hfw;simpa using hfw
 have Rq:=qH hfw2.2;have hn30:n≤30:=by have:=HL.o;omega
 clear hfw hfw2;by_cases hp1:per<1;·go_wp2;go_ret;exact⟨rfl,HB2.o⟩
 by_cases hp2:4096<per;·go_wp2;go_ret;exact⟨rfl,HB2.o⟩
 by_cases hq:20<n2;·go_wp2;go_ret;exact⟨rfl,HB2.o⟩
 by_cases hpl:100<p.length;·go_wp2;go_ret;exact⟨rfl,HB2.o⟩
 obtain⟨pe,rfl⟩:=Int.eq_ofNat_of_zero_le (show 0≤per by omega);go_wp2_with fail;with_reducible refine(wV w2 A n c ds mR.o (by omega) Rq.o pe (by omega) (by omega) (kL.o.up HB2.o)).mono ?_
 rintro r w3⟨bd,bj,G,F,j,rfl,hj,hGF,hb3,hes,hjf,Yr⟩;have HJ:=qH hj;have BL:=qH hes;have XT:=qH hGF;have HG:=qS (j.Good) (by rw[Yr];exact((Jl.Nj [106] pe (by simp) (by omega)).app (l:=ds) (by show 0+ds.length≤100;rw[HL.o];omega) Rq.o).1);have HB3:=qH (HB2.o.trans (hb3.mono HB2.o.size));have hs3:=HB3.o.size;have hs2:=HB2.o.size;clear hj hGF hb3 hes hjf Yr hp1 hp2 mR;have HRW:=qH (FX (A8 p) HJ.o (show NoI [] (fun _=>False) w3 from fun _ h=>h) (fun b hb=>hb.elim) (by rw[BL.o,List.length_map,HL.o];omega) (by simp) (kL.o.up HB3.o) (fun hg=>by
  have hm:=kL.o.lt;rcases hg with hg|hg|hg;·have:=XT.o _ (.inl hg);omega
  ·have:=XT.o _ (.inr hg);omega
  ·exact hg));obtain⟨j2,hrw,hg2,he2,_⟩:=HG.o.vC (by rw[BL.o,List.length_map,HL.o];omega) (gY p);rw[hrw]at HRW;have Rj:=qS (j2.es=(ds.map some).map (iP (gY p))) (by rw[he2,BL.o]);clear hrw hg2 he2 HG BL;go_wp2_with fail;with_reducible refine HRW.o.mono ?_
 rintro r w4⟨rfl,G4,F4,H4,aq4,hj4,_,_,_,hG4,hF4,_,hk4⟩;have HJ4:=qH hj4;have jP:=qS (RowKit.Below w.heap.size w w4) (HB3.o.trans (hk4.below HB3.o.size (fun k hk hg=>by
  rcases hg with hg|hg|hg;·have:=XT.o k (.inl hg);omega
  ·have:=XT.o k (.inr hg);omega
  ·exact hg.elim)));clear hj4 hG4 hF4 hk4 HRW HJ XT;generalize dG (gY p) j.es=zc at*;go_wp2_with fail;obtain⟨os,hos⟩: ∃os,os=(ds.map some).map (iP (gY p)):=⟨_,rfl⟩;have HER:=qH (CY w4 A n c ds (ax.more (ax.below HH.o jP.o) jP.o.size) (by omega) p os hos);with_reducible refine HER.o.mono ?_
 rintro r w5⟨v,rfl,hv,hb5⟩;clear HER;have HOS:=qH hos;have sw:=qS (∀e,some e∈os→e.small) (fun e he=>jK (Nt Rq.o e (hos▸he)));rw[←hos]at Rj;have hol:os.length=n:=by rw[hos,List.length_map,List.length_map,HL.o]
 have Ja:=qH hol;obtain⟨Ao,co,hf⟩:=ownsRow_form hv;rw[hol]at hf;subst hf;have Sz:=qS (oM w5 w5.heap.size Ao n co os) (by have h1:=hv;unfold ko at h1;rw[hol]at h1;exact ax.aQ h1);have XI:=qH (HJ4.o.up hb5);have pV:=qH (jP.o.trans (hb5.mono jP.o.size));clear hv hb5 hos hol HJ4;go_wp2_with fail;with_reducible refine(zg w5 G4 F4 bj bd j2 XI.o ag idle (kL.o.up pV.o)).mono ?_
 rintro r w6⟨br,bi,R,rfl,hr6,hb6,hR,hbr⟩;have HN:=qH hbr;have BU:=qS (Oi w w5 G4 F4 br bj bd bi j2 ag idle os n2 (.int .i64 ((0:Nat):Int)) (.int .i64 ((0:Nat):Int)) w6) (⟨0,0,R,rfl,rfl,Nat.zero_le _,Nat.zero_le _,hr6,pV.o.trans (hb6.mono pV.o.size),hb6,hR⟩);clear hr6 hb6 hR hbr XI;go_wp2;go_loopw[18,19](fun a i wr=>Oi w w5 G4 F4 br bj bd bi j2 ag idle os n2 a i wr)(fun _ i _=>n2-(intOf i).toNat);case atStart=>exact BU.o
 case round=>
  obtain⟨k,a,R,rfl,rfl,hk,ha,hr,hbw,TE,hR⟩:=hrel;have HR:=qH hr;have nA:=qH hbw;have Yc:=qH TE;have lX:=qH hR;have han:a≤n:=by have:=Ja.o;omega
  clear hr hR;by_cases hkn:k<n2
  ·have hkl:k<ps.length:=by rw[HL2.o];exact hkn
   obtain⟨b,off,rfl,hb,hd⟩:=HI2.o.at_ k hkl;have d0:=(hbw.cell (p:=⟨b,off+k,none⟩) hb).trans hd;generalize ps[k]=z at*;have t1:(k:Int)<n2:=by omega
   have hkl2:k+1≤n2:=hkn;have hsz:=hbw.size;obtain⟨m,hm⟩: ∃m:Nat,m=(min (max z 0) ((n:Int)-a)).toNat:=⟨_,rfl⟩;have hm2:min (max z 0) ((n:Int)-a)=(m:Int):=by omega
   have ham:a+m≤n:=by omega
   have jD:=qS (∀W,RowKit.Below wr.heap.size wr W→Calls Tryz.prog 18 #[.pointer (some ⟨br,0,none⟩),.int .i64 z] W (oC W G4 F4 R br bj bd bi (2*a) j2 (bE (aG.new ag idle) (bU (os.take a))) a m os)) (fun W hW=>CG W G4 F4 R br bj bd bi (2*a) j2 _ a (HR.o.up hW) os Rj.o z m (by rw[Ja.o];exact hm) (by rw[Ja.o];omega) (by rw[Ja.o];omega) (by omega) ((kL.o.up nA.o).up hW));have aaN:=TE.size;clear hd hb hbw TE hkn hm;go_wp2_with fail;with_reducible refine(jD.o _ ?hbp).mono ?_
   case hbp=>first|exact Below.refl _ _|exact below_drewN (Below.refl _ _) _
   rintro r wp⟨rfl,R2,Yo,hkp,hR2⟩;rw[←QN,wZ,←Nat.mul_add]at Yo;have Uo:=qS (iQ wp G4 F4 R2 br bj bd bi 90 j2 (bE (aG.new ag idle) (bU (os.take (a+m)))) (a+m)) (Yo.more (by omega));have Xi:=qS (iQ wp G4 F4 R2 br bj bd bi (2*(a+m)) j2 (bE (aG.new ag idle) (bU (os.take (a+m)))) (a+m)) (Yo);have X8:=qS (RowKit.Below w5.heap.size w5 wp) (Yc.o.trans (hkp.below Yc.o.size (fun b hb hg=>by
    rcases hg with h|h;·have:=lX.o b h;omega
    ·have:=HN.o;omega)));have UY:=qH (pV.o.trans (X8.o.mono pV.o.size));have aac:=qS (∀b,R2 b→w5.heap.size≤b) (fun b hb=>by
    rcases hR2 b hb with h|h;·exact lX.o b h
    ·have h1:wr.heap.size≤b:=h;omega);have HPG:=qS (fF 90 (bE (aG.new ag idle) (bU (os.take (a+m))))) (by obtain⟨h1,h2⟩:=Ke Uo.o.it;refine fF.adm rfl h1 h2 ?_;have h3:=vP (os.take (a+m));rw[List.length_take]at h3;omega);clear Yo hkp hR2 jD HR d0;go_wp2_with fail;with_reducible refine(ze wp G4 F4 R2 br bj bd bi 90 j2 _ (a+m) Uo.o).mono ?_
   rintro r w7⟨rfl,rfl⟩;go_wp2_with fail;with_reducible refine(JF wp G4 F4 R2 br bj bd bi 90 j2 _ (a+m) Uo.o HPG.o (by omega) (kL.o.up UY.o) (HE.o.up UY.o) (wK HT.o UY.o)).mono ?_
   rintro r wi⟨bx,Fx,rfl,hx,hbi,_⟩;have HX:=qH hx;have UZ:=qH (X8.o.trans (hbi.mono X8.o.size));have Xj:=qH (Xi.o.up hbi);have aav:=qS (oM wi wi.heap.size Ao (a+m) co (os.take (a+m))) (oM.upto33 (ax.more (ax.below Sz.o UZ.o) UZ.o.size) (a+m) ham);have hcap:n≤co:=ax.cap Sz.o;clear hx hbi Xi Uo;go_wp2_with fail;with_reducible refine(Cz wi Ao (a+m) co (os.take (a+m)) aav.o (by omega) (fun e he=>sw.o e (List.mem_of_mem_take he)) ag idle).mono ?_
   rintro r wj⟨bm,bc,S,rfl,hrr,hbj⟩;have HPA:=qS (WJ wj Fx bx bm bc S 90 (bE (aG.new ag idle) (bU (os.take (a+m))))) (⟨HX.o.up hbj,hrr.more (by omega)⟩);have HBJ:=qH (UZ.o.trans (hbj.mono UZ.o.size));have aad:=qH (Xj.o.up hbj);clear hrr hbj HX Xj;go_wp2_with fail;with_reducible refine(Nr wj Fx bx bm bc S 90 _ HPA.o (by omega)).mono ?_
   rintro r we⟨rfl,hbe⟩;have HZ:=qS (Oi w w5 G4 F4 br bj bd bi j2 ag idle os n2 (.int .i64 ((a:Int)+m)) (.int .i64 ((k:Int)+1)) we) (by have hb:=HBJ.o.trans (hbe.mono HBJ.o.size);exact⟨k+1,a+m,R2,rfl,rfl,hkl2,by rw[Ja.o];exact ham,aad.o.up hbe,pV.o.trans (hb.mono pV.o.size),hb,aac.o⟩);clear hbe HPA;go_wp2;go_roundw;case rel=>exact HZ.o
   case measure=>simp[intOf];omega
  ·have t1: ¬(k:Int)<n2:=by omega
   go_wp2;go_ret;exact⟨rfl,nA.o⟩
end Go.Proofs.YtladegonienapaaGreatDoor
