/-
  Layer 5: Rewrite.
-/
import Derived.Test.YtladegonienapaaGreatDoorUJlRwB2
set_option maxRecDepth 100000
set_option maxHeartbeats 16000000
namespace Go.Proofs.YtladegonienapaaGreatDoor
open Go.RowKit Go.Maps Go.Sort
theorem uD(a b:List (Option Ev)):bU (a++b)=bU a++bU b:=List.filterMap_append ..
theorem xN(kb:Ev→Bool)(per k:Nat)(l:List (Option Ev))(h:k*per≤l.length):(dL kb per k l).drop ((k+1)*per)=l.drop ((k+1)*per):=by
 by_cases h4:(k+1)*per≤l.length
 ·have h5:(l.take (k*per)++(aT per k l).map (iP kb)).length=(k+1)*per:=by rw[List.length_append,List.length_take,List.length_map,fP];rw[Nat.succ_mul]at*;omega
  unfold dL;rw[List.drop_left' h5]
 ·have:=bW kb per k l;rw[List.drop_eq_nil_of_le (by omega),List.drop_eq_nil_of_le (by omega)]
theorem Jl.JO(j:Jl)(kb:Ev→Bool)(k:Nat)(h:k*j.per≤j.es.length):(j.rew1 kb k).es.drop ((k+1)*j.per)=j.es.drop ((k+1)*j.per):=by
 unfold Jl.rew1;split;·rfl
 ·split;·rfl
  ·exact xN _ _ _ _ h
def wh(I:List Ev→(Nat→Prop)→World→Prop)(G F H:Nat→Prop)(bj bd:Nat)(j:Jl)(p:Jl×Nat×Int)(aq:List Ev)(w:World)(r:Ending)(w':World):Prop:=r=.returned (.tuple #[.int .i64 p.2.1,.int .i64 p.2.2])∧ ∃G' F' H' aq',gT w' G' F' bj bd p.1∧I aq' H' w'∧(p.2.2=0→aq'=aq++bU j.es)∧(∀b,H' b→ ¬(G' b∨F' b))∧(∀b,G' b→G b∨w.heap.size≤b)∧(∀b,F' b→F b∨w.heap.size≤b)∧(∀b,H' b→H b∨w.heap.size≤b)∧ah (fun b=>G b∨F b∨H b) w w'
def GI(I:List Ev→(Nat→Prop)→World→Prop)(fv:Value)(kb:Ev→Bool)(G F H:Nat→Prop)(bj bd bt:Nat)(j:Jl)(aq:List Ev)(w:World)(c i:Value)(wr:World):Prop:= ∃(q all:Nat)(jq:Jl)(G' F' H':Nat→Prop)(v':Value),i=.int .i64 q∧c=.int .i64 all∧q≤iw j.es.length j.per∧all≤q*99∧Jl.sP kb (iw j.es.length j.per-q) jq q all=Jl.sP kb (iw j.es.length j.per) j 0 0∧jq.es.length=j.es.length∧jq.per=j.per∧jq.es.drop (q*j.per)=j.es.drop (q*j.per)∧jq.Ok∧Rw I fv G' F' H' bj bd bt v' jq (aq++bU (j.es.take (q*j.per))) wr∧(∀b,G' b→G b∨w.heap.size≤b)∧(∀b,F' b→F b∨w.heap.size≤b)∧(∀b,H' b→H b∨w.heap.size≤b)∧ah (fun b=>G b∨F b∨H b) w wr
section
variable{I:List Ev→(Nat→Prop)→World→Prop}{kb:Ev→Bool}{f:Nat}{rc fo:Array Value}{G F H:Nat→Prop}{bj bd:Nat}{j:Jl}{aq:List Ev}{w:World}
theorem FX(hk:ve f rc fo kb I)(h:gT w G F bj bd j)(hi:I aq H w)(hap: ∀b,H b→ ¬(G b∨F b))(hn:j.es.length≤99)(haq:aq.length≤600)(hmx:aW w)(qV: ¬(G 0∨F 0∨H 0)):Calls Tryz.prog 28 #[.pointer (some ⟨bj,0,none⟩),.func (.func f) rc fo] w (wh I G F H bj bd j (j.vC kb) aq w):=by
 obtain⟨ho,v,hj⟩:=h;have SG:=qH haq;clear haq;have hb1:Below w.heap.size w (w.alloc (.cells #[.func (.func f) rc fo] 57)):=(Below.refl _ _).alloc (Nat.le_refl _) _;have ET:=hk.lt _ _ _ hi;have hlt: ∀b,G b∨F b∨H b→b<w.heap.size:=fun b hb=>by
  rcases hb with hb|hb|hb;·exact hj.dk.lt b hb
  ·exact hj.lt b hb
  ·exact ET b hb
 have hrw:Rw I (.func (.func f) rc fo) G F H bj bd w.heap.size v j aq (w.alloc (.cells #[.func (.func f) rc fo] 57)):=⟨hj.up hb1,hk.keep _ _ _ _ hi hb1.size fun b hb=>hb1.block b (ET b hb),cell_of_row _ w.heap.size 0 _ _ (0,0) (heap_alloc_new w _),hmx.up hb1,hap,fun hb=>by have:=hlt _ hb;omega,qV⟩;have HK:=qH hk;have HO:=qH ho;have HRW:=qH hrw;have HB1:=qH hb1;have pM:=qH hlt;clear hk ho hj hi hap hmx qV hrw ET hlt hb1;go_enter Tryz.func28,Tryz.ntmps28;go_upto_region 1 with fail;generalize hw1:w.alloc (.cells #[.func (.func f) rc fo] 57)=w1 at*;clear hw1;have c6:=HRW.o.jl.cells.2.2.2.2.2.2;by_cases h0:j.stuck=0
 ·rw[h0]at c6;have H0:=qS (j.vC kb=Jl.sP kb (iw j.es.length j.per) j 0 0) (by unfold Jl.vC;rw[if_neg (by simp[h0])]);have HST:=qS (GI I (.func (.func f) rc fo) kb G F H bj bd w.heap.size j aq w (.int .i64 ((0:Nat):Int)) (.int .i64 ((0:Nat):Int)) w1) (⟨0,0,j,G,F,H,v,rfl,rfl,Nat.zero_le _,Nat.zero_le _,by rw[Nat.sub_zero],rfl,rfl,rfl,HO.o,by simpa[bU]using HRW.o,fun _ h=>.inl h,fun _ h=>.inl h,fun _ h=>.inl h,ah.of_below HB1.o⟩);clear h0;go_wp2;go_loopw[7,8](fun c i wr=>GI I (.func (.func f) rc fo) kb G F H bj bd w.heap.size j aq w c i wr)(fun _ i _=>iw j.es.length j.per-(intOf i).toNat);case atStart=>exact HST.o
  case round=>
   obtain⟨q,all,jq,G',F',H',v',rfl,rfl,hq,hal,hrf,hle,hpe,hdr,hok,hrw,hG,hF,hH,hkp⟩:=hrel;have mQ:=qH hok;have HRQ:=qH hrw;have HG:=qH hG;have HF:=qH hF;have HH:=qH hH;have lY:=qH hkp;have HRF:=qH hrf;have HDR:=qH hdr;have OM:=qH hle;have Uq:=qH hpe;have c2:=hrw.jl.cells.2.2.1;have c4:=hrw.jl.cells.2.2.2.2.1;obtain⟨A4,cp4,hv4⟩:=ownsRow_form hrw.jl.own;rw[hv4,hle]at c4;rw[hpe]at c2;have hp1:=HO.o.per1;have hp2:=HO.o.per2;have hs0:=hkp.size;have OJ:=qH (And.intro (Ik (n:=j.es.length) hp1) (P7 (n:=j.es.length) (per:=j.per)));obtain⟨lo,hlo⟩: ∃lo,lo=q*j.per:=⟨_,rfl⟩;have BZ:=qH hlo;have hmul:((q:Int)*(j.per:Int))=(lo:Int):=by rw[hlo];exact(Int.natCast_mul q j.per).symm
   have Pf:=qS (aT jq.per q jq.es=aT j.per q j.es) (by unfold aT;rw[hpe,hdr]);have hN:iw j.es.length j.per≤99:=by
    have h1:=(OJ.o).2;rcases Nat.lt_or_ge 99 (iw j.es.length j.per)with h2|h2;·have h3:100*j.per≤iw j.es.length j.per*j.per:=Nat.mul_le_mul_right _ h2;omega
    ·exact h2
   clear hok hrw hG hF hH hkp hrf hdr hle hpe hv4;by_cases O6:q<iw j.es.length j.per
   ·have hlt:lo<j.es.length:=by have h1:(q+1)*j.per≤iw j.es.length j.per*j.per:=Nat.mul_le_mul_right _ O6;have h2:=OJ.o.2;rw[Nat.succ_mul,←hlo]at h1;omega
    have hlw:wrap64 (lo:Int)=lo:=by unfold wrap64;omega
    have t1:(lo:Int)<j.es.length:=by omega
    clear hlo;go_wp2;go_quiet(fail);go_wp2_with fail;have hbq:Below wr.heap.size wr (wr.drewN nq):=below_drewN (Below.refl _ _) nq;have HBQ:=qH hbq;with_reducible refine(FY HK.o rfl (HRQ.o.up HK.o hbq) mQ.o q (by rw[Uq.o,OM.o,←BZ.o];exact hlt) (by rw[OM.o];exact hn) (by have h1:=vP (j.es.take (q*j.per));have h2:=SG.o;rw[List.length_take]at h1;rw[List.length_append];omega)).mono ?_
    rintro r w2⟨rfl,G2,F2,H2,v2,hrw2,hok2,hG2,hF2,hH2,hk2⟩;have Qo:=hbq.size;have Q6:=qH hrw2;have yQ:=qH hok2;have HG2:=qS (∀b,G2 b→G b∨w.heap.size≤b) (fun b hb=>(hG2 b hb).elim (HG.o b) (fun h=>by right;omega));have wE:=qS (∀b,F2 b→F b∨w.heap.size≤b) (fun b hb=>(hF2 b hb).elim (HF.o b) (fun h=>by right;omega));have mR:=qS (∀b,H2 b→H b∨w.heap.size≤b) (fun b hb=>(hH2 b hb).elim (HH.o b) (fun h=>by right;omega));have sD:=qS (ah (fun b=>G b∨F b∨H b) w w2) ((lY.o.trans (ah.of_below (F:=fun _=>False) hbq) (fun _ _ h=>h.elim)).trans hk2 (fun b hb h=>by
     rcases h with h|h|h;·exact(HG.o b h).elim .inl (fun h=>by omega)
     ·exact(HF.o b h).elim (fun h=>.inr (.inl h)) (fun h=>by omega)
     ·exact(HH.o b h).elim (fun h=>.inr (.inr h)) (fun h=>by omega)));obtain⟨fu,hfu⟩: ∃fu,iw j.es.length j.per-q=fu+1:=⟨iw j.es.length j.per-q-1,by omega⟩;have hrf:=HRF.o;rw[hfu]at hrf;simp only[Jl.sP]at hrf;have Xf:=qH hrf;have hfu2:iw j.es.length j.per-(q+1)=fu:=by omega
    clear hrw2 hok2 hG2 hF2 hH2 hk2 hbq hrf c2 c4;by_cases hE:jq.jH kb q=0
    ·have hcn:jq.nM kb q=dG kb (aT j.per q j.es):=by unfold Jl.nM;rw[if_neg (by simp[hE]),Pf.o]
     have hcl:dG kb (aT j.per q j.es)≤99:=by unfold dG;have h1:=List.length_filter_le (jY kb) (aT j.per q j.es);rw[fP]at h1;omega
     have lX:=qS (GI I (.func (.func f) rc fo) kb G F H bj bd w.heap.size j aq w (.int .i64 ((all+dG kb (aT j.per q j.es):Nat):Int)) (.int .i64 ((q+1:Nat):Int)) w2) (by
      have hsame:=jq.zn kb q;refine⟨q+1,all+dG kb (aT j.per q j.es),jq.rew1 kb q,G2,F2,H2,v2,rfl,rfl,by omega,by omega,?_,hsame.2.2.2.trans OM.o,hsame.2.1.trans Uq.o,?_,yQ.o,?_,HG2.o,wE.o,mR.o,sD.o⟩;·have:=Xf.o;rw[if_neg (by simp[hE]),Pf.o]at this;rw[hfu2];exact this
      ·have h1:=jq.JO kb q (by rw[Uq.o,OM.o,←BZ.o];omega);rw[Uq.o]at h1;rw[h1,show(q+1)*j.per=q*j.per+j.per by rw[Nat.succ_mul],←List.drop_drop,HDR.o,List.drop_drop]
      ·have h1:=Q6.o;rw[Pf.o,List.append_assoc,←uD]at h1;rw[show(q+1)*j.per=q*j.per+j.per by rw[Nat.succ_mul],List.take_add];exact h1);have haw:wrap64 ((all:Int)+(dG kb (aT j.per q j.es):Nat))=((all+dG kb (aT j.per q j.es):Nat):Int):=by
      have:all≤99*99:=by omega
      unfold wrap64;omega
     rw[hE,hcn];clear hE hcn;generalize dG kb (aT j.per q j.es)=cn at*;go_wp2;go_roundw;case rel=>first|exact lX.o|(rw[haw];exact lX.o)
     case measure=>simp[intOf];omega
    ·have Xh:=qS (wh I G F H bj bd j (j.vC kb) aq w (.returned (.tuple #[.int .i64 all,.int .i64 (jq.jH kb q)])) w2) (by have h1:=Xf.o;rw[if_pos hE]at h1;rw[H0.o,←h1];exact⟨rfl,G2,F2,H2,_,⟨yQ.o,v2,Q6.o.jl⟩,Q6.o.i,fun h=>absurd h hE,Q6.o.hg,HG2.o,wE.o,mR.o,sD.o⟩);generalize jq.jH kb q=er at*;generalize jq.nM kb q=nn at*;go_wp2;go_ret2;exact Xh.o
   ·have hqe:q=iw j.es.length j.per:=by omega
    have hge: ¬lo<j.es.length:=by have h1:=OJ.o.1;rw[←hqe,←hlo]at h1;omega
    have t1: ¬(lo:Int)<j.es.length:=by omega
    have Xh:=qS (∀k,wh I G F H bj bd j (j.vC kb) aq w (.returned (.tuple #[.int .i64 all,.int .i64 0])) (wr.drewN k)) (fun k=>by have hb2:Below wr.heap.size wr (wr.drewN k):=below_drewN (Below.refl _ _) k;have h2:=HRQ.o.up HK.o hb2;have h1:=HRF.o;rw[hqe,Nat.sub_self]at h1;simp only[Jl.sP]at h1;rw[H0.o,←h1];refine⟨rfl,G',F',H',_,⟨mQ.o,v',h2.jl⟩,h2.i,fun _=>?_,h2.hg,HG.o,HF.o,HH.o,lY.o.trans (ah.of_below (F:=fun _=>False) hb2) (fun _ _ h=>h.elim)⟩;rw[List.take_of_length_le (by rw[←BZ.o];omega)]);have hlw:wrap64 (lo:Int)=lo:=by have h1:q*j.per≤99*j.per:=Nat.mul_le_mul_right _ (by omega);unfold wrap64;omega
    clear hlo hqe;go_wp2;go_quiet(fail);go_wp2;go_ret2;exact Xh.o _
 ·have HR2:=qS (∀q,wh I G F H bj bd j (j.vC kb) aq w (.returned (.tuple #[.int .i64 0,.int .i64 j.stuck])) (w1.drewN q)) (fun q=>by
   have e:j.vC kb=(j,0,j.stuck):=by unfold Jl.vC;rw[if_pos h0]
   rw[e];have hb2:Below w1.heap.size w1 (w1.drewN q):=below_drewN (Below.refl _ _) q;have h2:=HRW.o.up HK.o hb2;exact⟨rfl,G,F,H,aq,⟨HO.o,v,h2.jl⟩,h2.i,fun h=>absurd h h0,h2.hg,fun _ h=>.inl h,fun _ h=>.inl h,fun _ h=>.inl h,ah.of_below (HB1.o.trans (hb2.mono HB1.o.size))⟩);generalize j.stuck=er at*;go_wp2;go_quiet(fail);go_wp2;go_ret2;exact HR2.o _
end
end Go.Proofs.YtladegonienapaaGreatDoor
