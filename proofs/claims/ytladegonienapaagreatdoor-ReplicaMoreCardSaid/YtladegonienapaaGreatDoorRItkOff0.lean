/-
  Layer 8: what Offer, Admit, New want of the memory.
-/
import Derived.Test.YtladegonienapaaGreatDoorRItkTake
import Derived.Deep.DeepCutAuto
import Derived.BigRegion
set_option maxRecDepth 100000
set_option maxHeartbeats 16000000
namespace Go.Proofs.YtladegonienapaaGreatDoor
open Go.RowKit Go.Maps Go.Sort
def H9(w:World)(F:Nat→Prop)(bi N:Nat)(x:az)(e:Ending)(w':World):Prop:=e=.returned (.tuple #[])∧uj w F bi N x w'
theorem oz(es:List Ev)(k:Nat):(au es).take (k*8)=au (es.take k):=by
 induction es generalizing k with
  |nil=>simp[au]
  |cons e es ih=>
   have hc:e.cells.length=8:=rfl;cases k with
    |zero=>simp[au]
    |succ k=>
     have:au (e::es)=e.cells++au es:=by simp[au]
     rw[this,List.take_append,hc,List.take_of_length_le (by rw[hc];omega),show(k+1)*8-8=k*8 by omega,ih];simp[au]
theorem wU(es:List Ev)(k:Nat):(au es).drop (k*8)=au (es.drop k):=by
 induction es generalizing k with
  |nil=>simp[au]
  |cons e es ih=>
   have hc:e.cells.length=8:=rfl;cases k with
    |zero=>simp
    |succ k=>
     have:au (e::es)=e.cells++au es:=by simp[au]
     rw[this,List.drop_append,hc,List.drop_of_length_le (by rw[hc];omega),show(k+1)*8-8=k*8 by omega,ih];simp
theorem zw(es:List Ev): ∀u∈au es,u.oneCell'=true:=by intro u hu;simp only[au,List.mem_flatMap]at hu;obtain⟨e,_,he⟩:=hu;exact cells_one e u he
def Lc(w4:World)(bi b1 b2:Nat)(B:Option Addr)(n cp:Nat)(l:List Ev)(e:Ev)(r:Ending)(w5:World):Prop:= ∃B5 c5,r=.returned (.slice B5 (n+1) c5)∧aU w5 0 (.slice B5 (n+1) c5) l∧w4.grownBy w5 (Value.slice B n cp).ownBlock∧((Value.slice B5 (n+1) c5).ownBlock=(Value.slice B n cp).ownBlock∨ ∃k,(Value.slice B5 (n+1) c5).ownBlock=some k∧w4.heap.size≤k)∧w5.cell? ⟨bi,2,none⟩=some (.slice B n cp)∧w5.frozen? ⟨bi,2,none⟩=false∧w5.cell? ⟨b1,0,none⟩=some (.pointer (some ⟨bi,0,none⟩))∧dK w5 b2 e
def LM(w4:World)(bi b1 b2:Nat)(B:Option Addr)(n cp:Nat)(l:List Ev)(e:Ev)(wc:World):Prop:= ∃w5 B5 c5,Lc w4 bi b1 b2 B n cp l e (.returned (.slice B5 (n+1) c5)) w5∧wc=w5.setCell ⟨bi,2,none⟩ (.slice B5 (n+1) c5)
theorem Mk(w4:World)(bi b1 b2:Nat)(A:oN)(x:az)(e:Ev)(B:Option Addr)(cp k:Nat)(hM:aD w4 bi A x)(uk:A.vt=.slice B x.taken.length cp)(hl:x.taken.length≤100000)(hk:k=Ay e x.taken)(h1:w4.cell? ⟨b1,0,none⟩=some (.pointer (some ⟨bi,0,none⟩)))(WE:A.vt.ownBlock≠some b1)(h2:dK w4 b2 e)(UI:A.vt.ownBlock≠some b2):Calls Tryz.prog 99 #[.slice B x.taken.length cp,.int .i64 k,.slice (some ⟨w4.heap.size,0,none⟩) 1 1] (w4.alloc (aj e)).drew (Lc w4 bi b1 b2 B x.taken.length cp (gL e x.taken) e):=by
 have xO:Below w4.heap.size w4 (w4.alloc (aj e)).drew:=((Below.refl _ _).alloc (Nat.le_refl _) _).drew;have hown:aU (w4.alloc (aj e)).drew 0 (.slice B x.taken.length cp) x.taken:=by have:=(hM.up xO).taken;rw[uk]at this;exact this
 have hown4:aU w4 0 (.slice B x.taken.length cp) x.taken:=by have:=hM.taken;rw[uk]at this;exact this
 have hnew:(w4.alloc (aj e)).drew.heap[w4.heap.size]?=some (.cells e.cells.toArray 28 (0,0)):=heap_alloc_new w4 _;refine(Gq _ 0 x.taken.length k w4.heap.size _ (au x.taken) e.cells (by rw[hk];exact Cr _ _) (by omega) (Nat.zero_le _) hown rfl hnew (fun h=>by have:=hown4.lt h;omega) (zw _) (cells_one e)).mono ?_;rintro r w5⟨v5,rfl,ho5,hg5,hbl5⟩;obtain⟨B5,c5,rfl⟩:=ownsRow_form ho5;have hg:w4.grownBy w5 (Value.slice B x.taken.length cp).ownBlock:=by have:=(show w4.grownBy (w4.alloc (aj e)).drew none from⟨xO.os,xO.tape,xO.output,xO.size,fun i hi _=>xO.block i hi⟩);exact(this.but _).andThen hg5 (fun j hj=>.inr hj)
 have keep: ∀b o,b<w4.heap.size→(Value.slice B x.taken.length cp).ownBlock≠some b→w5.cell? ⟨b,o,none⟩=w4.cell? ⟨b,o,none⟩:=fun b o hb hne=>World.cell?_of_block (w:=w4) (hg.block b hb (Ne.symm hne));have TT:(Value.slice B x.taken.length cp).ownBlock≠some bi:=fun h=>(hM.ev (hown4.typ h)).1 rfl;have hb1:b1<w4.heap.size:=World.block_lt_of_cell? w4 ⟨b1,0,none⟩ h1;have n1:(Value.slice B x.taken.length cp).ownBlock≠some b1:=by rw[←uk];exact WE
 refine⟨B5,c5,rfl,?_,hg,hbl5.imp id (fun⟨k,h1,h2⟩=>⟨k,h1,Nat.le_trans xO.size h2⟩),?_,?_,(keep b1 0 hb1 n1).trans h1,?_⟩;·have:=ho5;rw[oz,wU,show e.cells=au [e]by simp[au],←kT,←kT,hk,←CE]at this;unfold aU;rw[ja];exact this
 ·rw[keep bi 2 (hM.lt (.inl rfl)) TT,←uk];exact hM.cells.c2
 ·rw[World.frozen?_of_block (w:=w4) (a:=⟨bi,2,none⟩) (hg.block bi (hM.lt (.inl rfl)) (Ne.symm TT))];exact hM.cells.f2
 ·obtain⟨a0,a1,a2,a3,a4,a5,a6,a7⟩:=h2;have hb2:b2<w4.heap.size:=World.block_lt_of_cell? w4 ⟨b2,0,none⟩ a0;rw[uk]at UI;have key: ∀(o:Nat)u,w4.cell? ⟨b2,o,none⟩=some u→w5.cell? ⟨b2,o,none⟩=some u:=fun o u hu=>(keep b2 o hb2 UI).trans hu;exact⟨key _ _ a0,key _ _ a1,key _ _ a2,key _ _ a3,key _ _ a4,key _ _ a5,key _ _ a6,key _ _ a7⟩
theorem FB(w:World)(F:Nat→Prop)(bi N:Nat)(x:az)(h:aS w F bi N x)(hN:N<100000)(e:Ev)(hsm:e.small)(l8:aB e=true)(Bg:hadB x.had e.src e.num=false):Calls Tryz.prog 53 #[.pointer (some ⟨bi,0,none⟩),e.agg] w (H9 w F bi (N+1) (x.took e)):=by
 obtain⟨A,hM,hO,hnl,Bf,iF,nk⟩:=h;have HM:=qH hM;have HO:=qH hO;have Dl:=qH iF;have tZ:=qH nk;have l9:=qH l8;have Qf:=qH Bg;have hlt:bi<w.heap.size:=hM.lt (.inl rfl);have htl:=hO.taken;have kv:=qH (hO.rows e.src);have XP:=qH hO.had;have Li:=qH (wH l8 Bg);have Vw:=qH (hO.put hM.had.ok e l8 Bg);clear hM hO iF nk l8 Bg;unfold Ev.agg;go_enter Tryz.func53,Tryz.ntmps53;go_wp2;have bQ:Below w.heap.size w ((w.alloc (.cells #[.pointer (some ⟨bi,0,none⟩)] 31)).alloc (aj e)):=((Below.refl _ _).alloc (Nat.le_refl _) _).alloc (by simp) _;have hB1:((w.alloc (.cells #[.pointer (some ⟨bi,0,none⟩)] 31)).alloc (aj e)).cell? ⟨w.heap.size,0,none⟩=some (.pointer (some ⟨bi,0,none⟩)):=by rw[World.cell?_alloc_lt _ _ _ (by simp)];exact cell_of_row _ w.heap.size 0 _ _ (0,0) (heap_alloc_new w _)
 have hE:dK ((w.alloc (.cells #[.pointer (some ⟨bi,0,none⟩)] 31)).alloc (aj e)) (w.heap.size+1) e:=by have:=dK.new (w.alloc (.cells #[.pointer (some ⟨bi,0,none⟩)] 31)) e;simpa using this
 have hsA:((w.alloc (.cells #[.pointer (some ⟨bi,0,none⟩)] 31)).alloc (aj e)).heap.size=w.heap.size+2:=by simp
 generalize(w.alloc (.cells #[.pointer (some ⟨bi,0,none⟩)] 31)).alloc (aj e)=w1 at*;have lH:=qH (HM.o.up bQ);have uM:=qH hE;have HB1:=qH hB1;obtain⟨e0,e1,e2,e3,e4,e5,e6,e7⟩:=hE;obtain⟨c0,c1,c2,c3,c4,c5,f2,f3,f4⟩:=lH.o.cells;clear hB1;have hb1':=HB1.o;go_still_tail 8,(by kernel_rfl);change wpList _ _ _ _ _ (w1.drewN 1);have hbq:Below w1.heap.size w1 (w1.drewN 1):=below_drewN (Below.refl _ _) 1;have Oh:(w1.drewN 1).heap.size=w.heap.size+2:=hsA;clear e0 e1 e2 e3 e4 e5 e6 e7 c0 c1 c2 c3 c4 c5 f2 f3 f4 hb1';generalize w1.drewN 1=w2 at*;have xH:=qH (lH.o.up hbq);have HE2:=qH (uM.o.below hbq (by omega));have HB2:=qH ((hbq.cell (p:=⟨w.heap.size,0,none⟩) (by show w.heap.size<w1.heap.size;omega)).trans HB1.o);have hbw2:Below w.heap.size w w2:=bQ.trans (hbq.mono (by omega));clear hbq;go_wp2_with fail;refine(FW w2 A.G A.bs A.bh x.had A.V xH.o.had e.src e.num (by have:=kv.o;omega) (by have:=XP.o;omega) Li.o).mono ?_;rintro r w3⟨G',V',rfl,hh3,hk3,hG3⟩;have Un:=xH.o.LX hh3 hk3 hG3;have Mg: ∀b,w.heap.size≤b→ ¬A.G b:=fun b hb hg=>by have:=HM.o.had.lt b hg;omega
 have Fv:=qH Un;have EZ:=qS (dK w3 (w.heap.size+1) e) (by obtain⟨a0,a1,a2,a3,a4,a5,a6,a7⟩:=HE2.o;have key: ∀(o:Nat)u,w2.cell? ⟨w.heap.size+1,o,none⟩=some u→w3.cell? ⟨w.heap.size+1,o,none⟩=some u:=fun o u hu=>(hk3.cell (p:=⟨w.heap.size+1,o,none⟩) (by show w.heap.size+1<_;omega) (Mg _ (by show w.heap.size≤w.heap.size+1;omega))).trans hu;exact⟨key _ _ a0,key _ _ a1,key _ _ a2,key _ _ a3,key _ _ a4,key _ _ a5,key _ _ a6,key _ _ a7⟩);have HB3:=qH ((hk3.cell (p:=⟨w.heap.size,0,none⟩) (by show w.heap.size<_;omega) (Mg _ (Nat.le_refl _))).trans HB2.o);have Lu:=qS (ai F w w3) ((ai.of_below (F:=F) hbw2).trans hk3 (fun b _ hg=>Dl.o b (.inr (.inr (.inr (.inl hg))))));have hs3:=hk3.size;have Fy:=qS (∀b,G' b→F b∨w.heap.size≤b) (fun b hb=>(hG3 b hb).imp (fun h=>Dl.o b (.inr (.inr (.inr (.inl h))))) (fun h=>by omega));clear hh3 hk3 hG3 Un Mg hbw2;obtain⟨c0,c1,c2,c3,c4,c5,f2,f3,f4⟩:=Fv.o.cells;obtain⟨B,cp,uk,hcm⟩:=Fv.o.taken.form;simp only at uk c0 c1 c2 c3 c4 c5;rw[uk]at c2;have JM:=HB3.o;have hbi3:bi<w3.heap.size:=by omega
 go_wp2_with fail;have sJ:eD w3 w3.heap.size B x.taken.length cp x.taken:=by have:=Fv.o.taken;simp only at this;rw[uk]at this;exact aI.bz this
 have IJ:=qH sJ;clear sJ;refine(mJ w3 97 #[.pointer (some ⟨w.heap.size,0,none⟩),.pointer (some ⟨w.heap.size+1,0,none⟩)] x.taken.length (fun i=>decide (0<lq (x.taken.getD i e) e)) (by omega) (fun _ _=>by kernel_rfl) ?_ ?_).mono ?_
 ·intro w4 i hb4 hi;obtain⟨g,off,rfl,hg,hev⟩:=IJ.o.ev i hi;have e':x.taken.getD i e=x.taken[i]:=by simp[List.getD,List.getElem?_eq_getElem hi]
  simp only[e'];exact Dy w4 _ _ bi g off _ cp _ e i hi ((hb4.cell (p:=⟨w.heap.size,0,none⟩) (by show w.heap.size<_;omega)).trans HB3.o) ((hb4.cell (p:=⟨bi,2,none⟩) hbi3).trans c2) (hev.below hb4 hg) (EZ.o.below hb4 (by omega))
 ·intro i j hij hj hp;simp only[List.getD,List.getElem?_eq_getElem hj,List.getElem?_eq_getElem (show i<x.taken.length by omega),Option.getD_some,decide_eq_true_eq,kZ]at*;rcases Nat.lt_or_ge i j with hlt'|hge;·exact(List.pairwise_iff_getElem.1 HO.o.sorted i j (by omega) hj hlt').lt hp
  ·have:i=j:=by omega
   subst this;exact hp
 rintro r w4⟨k,rfl,hkl,h1,h2,hb4⟩;have HP:=qH (yD (e:=e) (l:=x.taken) k hkl (fun i hi hlt'=>by have:=h1 i hlt';simp only[List.getD,List.getElem?_eq_getElem hi,Option.getD_some,decide_eq_false_iff_not,kZ]at this;exact this) (fun i hi hge=>by have:=h2 i hge hi;simpa only[List.getD,List.getElem?_eq_getElem hi,Option.getD_some,decide_eq_true_eq,kZ]using this));have SV:=qH (Fv.o.up hb4);have I8:=qH (EZ.o.below hb4 (by omega));have fA:=qH ((hb4.cell (p:=⟨w.heap.size,0,none⟩) (by show w.heap.size<_;omega)).trans HB3.o);have IG:=qH (Lu.o.trans (ai.of_below (F:=fun _=>False) hb4) (fun _ _ h=>h.elim));have hs4:=hb4.size;clear h1 h2 hb4 c0 c1 c2 c3 c4 c5 f2 f3 f4 JM hbi3;obtain⟨c0,c1,c2,c3,c4,c5,f2,f3,f4⟩:=SV.o.cells;simp only at c0 c1 c2 c3 c4 c5;rw[uk]at c2;have RA:=fA.o;obtain⟨e0,e1,e2,e3,e4,e5,e6,e7⟩:=I8.o;have hbi4:bi<w4.heap.size:=by omega
 have hw4:w.heap.size<w4.heap.size:=by omega
 have hw41:w.heap.size+1<w4.heap.size:=by omega
 have I7:=qH (Mk w4 bi w.heap.size (w.heap.size+1) _ _ e B cp k SV.o uk (by simp only;omega) HP.o fA.o (fun h=>by have:=HM.o.taken.lt h;omega) I8.o (fun h=>by have:=HM.o.taken.lt h;omega));go_upto_region 3 with(fail);go_cut[](fun wc=>LM w4 bi w.heap.size (w.heap.size+1) B x.taken.length cp (gL e x.taken) e wc);case first=>go_region_law((go_simp;go_at_call 99;refine I7.o.mono ?_;rintro r w5⟨B5,cp5,rfl,ho5,hg5,hbl5,hc52,hf52,JL,hev5⟩;have Ld:=qS (LM w4 bi w.heap.size (w.heap.size+1) B x.taken.length cp (gL e x.taken) e (w5.setCell ⟨bi,2,none⟩ (.slice B5 (x.taken.length+1) cp5))) (⟨w5,B5,cp5,⟨B5,cp5,rfl,ho5,hg5,hbl5,hc52,hf52,JL,hev5⟩,rfl⟩);clear ho5 hg5 hbl5 hev5));all_goals(go_wp2_with fail;go_meet;exact Ld.o)
 case rest=>
  obtain⟨w5,B5,q5,⟨Ya,VX,heq,ho5,hg5,hbl5,hc52,hf52,JL,hev5⟩,rfl⟩:=hcut;obtain⟨rfl,rfl⟩:B5=Ya∧q5=VX:=by injection heq with heq;injection heq with q1 _ q3;exact⟨q1,q3⟩
  rw[←uk]at hg5 hbl5;have RL:=SV.o.FL (v:=.slice B5 (x.taken.length+1) q5) (l:=gL e x.taken) hg5 ho5 hbl5;simp only at RL;have hs5:=hg5.size;have hs6:(w5.setCell ⟨bi,2,none⟩ (.slice B5 (x.taken.length+1) q5)).heap.size=w5.heap.size:=by simp[World.setCell]
  have Ur:ai F w (w5.setCell ⟨bi,2,none⟩ (.slice B5 (x.taken.length+1) q5)):=(IG.o.trans (ai.dW (F:=fun b=>A.vt.ownBlock=some b) hg5 (fun k h=>h)) (fun b _ h=>Dl.o b (.inr (.inr (.inr (.inr (.inl h))))))).setCell (fun _=>Dl.o bi (.inl rfl)) _;have UC:dK (w5.setCell ⟨bi,2,none⟩ (.slice B5 (x.taken.length+1) q5)) (w.heap.size+1) e:=by obtain⟨a0,a1,a2,a3,a4,a5,a6,a7⟩:=hev5;have key: ∀(o:Nat)u,w5.cell? ⟨w.heap.size+1,o,none⟩=some u→(w5.setCell ⟨bi,2,none⟩ (.slice B5 (x.taken.length+1) q5)).cell? ⟨w.heap.size+1,o,none⟩=some u:=fun o u hu=>(World.cell?_setCell_other w5 _ _ _ (fun q=>by injection q;omega)).trans hu;exact⟨key _ _ a0,key _ _ a1,key _ _ a2,key _ _ a3,key _ _ a4,key _ _ a5,key _ _ a6,key _ _ a7⟩
  have UD:(w5.setCell ⟨bi,2,none⟩ (.slice B5 (x.taken.length+1) q5)).cell? ⟨w.heap.size,0,none⟩=some (.pointer (some ⟨bi,0,none⟩)):=(World.cell?_setCell_other w5 _ _ _ (fun q=>by injection q;omega)).trans JL;have hv6: ∀b,(Value.slice B5 (x.taken.length+1) q5).ownBlock=some b→F b∨w.heap.size≤b:=fun b hb=>by
   rcases hbl5 with q|⟨k',q,hk'⟩;·exact .inl (Dl.o b (.inr (.inr (.inr (.inr (.inl (q▸hb)))))))
   ·rw[q]at hb;injection hb with hb;right;omega
  have Dh:=qH RL;have QY:=qH UC;have rq:=qH UD;have Vu:=qH Ur;have QM:=qH hv6;clear heq ho5 hg5 hbl5 hc52 hf52 JL hev5 RL UC UD Ur hv6 c0 c1 c2 c3 c4 c5 f2 f3 f4 e0 e1 e2 e3 e4 e5 e6 e7 RA I7;have hs46:w4.heap.size≤(w5.setCell ⟨bi,2,none⟩ (.slice B5 (x.taken.length+1) q5)).heap.size:=by omega
  clear hs5 hs6;generalize w5.setCell ⟨bi,2,none⟩ (.slice B5 (x.taken.length+1) q5)=w6 at*;have fH:=qS (x.took e=if e.kind=14 then({x.put e with gone:=e.per::x.gone}:az).drop (bF e.per)else x.put e) (rfl);obtain⟨e0,e1,e2,e3,e4,e5,e6,e7⟩:=QY.o;have hfoot6: ∀(ng:Nat)b,oN.foot {A with G:=G',V:=V',vt:=.slice B5 (x.taken.length+1) q5,ng:=ng} bi b→F b∨w.heap.size≤b:=fun ng b hb=>by
   have hfo:=Dl.o b;rcases hb with rfl|rfl|rfl|hb|hb|hb|rfl|rfl;·exact .inl (hfo (.inl rfl))
   ·exact .inl (hfo (.inr (.inl rfl)))
   ·exact .inl (hfo (.inr (.inr (.inl rfl))))
   ·exact Fy.o b hb
   ·exact QM.o b hb
   ·exact .inl (hfo (.inr (.inr (.inr (.inr (.inr (.inl hb)))))))
   ·exact .inl (hfo (.inr (.inr (.inr (.inr (.inr (.inr (.inl rfl))))))))
   ·exact .inl (hfo (.inr (.inr (.inr (.inr (.inr (.inr (.inr rfl))))))))
  have Lx:=qH hfoot6;clear hfoot6;by_cases hk14:e.kind=14
  ·have Kh:=qS (x.took e=({x.put e with gone:=e.per::x.gone}:az).drop (bF e.per)) (by rw[fH.o,if_pos hk14]);have bk:(e.kind==14)=true:=by simpa using hk14
   clear hk14;obtain⟨c0,c1,c2,c3,c4,UN,f2,f3,f4⟩:=Dh.o.cells;simp only at UN;have Rz:=rq.o;have Gs:e.per.length≤1000000000:=hsm.2.1;go_wp2;go_still_tail 6,(by kernel_rfl);change wpList _ _ _ _ _ (w6.drewN 1);have Qh:=qS (dJ (w6.drewN 1) A.bg A.ng x.gone) (Dh.o.gone.drewN 1);refine uy rfl (.tmp 38) (.tmp 40) _ rfl A.bg A.ng x.gone rfl Qh.o (by unfold maxLen;omega) e.per rfl (by unfold maxLen;omega) rfl ?_;intro w7 hs7 hg7;have Eu:w6.grownBy w7 (some A.bg):=⟨hg7.os,hg7.tape,hg7.output,hg7.size,hg7.block⟩;have RJ:=Dh.o.Jj hs7 Eu;have hsz7:=Eu.size;have Uq:ai F w w7:=Vu.o.trans (ai.dW (F:=F) Eu (fun k h=>by injection h with h;exact Dl.o k (.inr (.inr (.inr (.inr (.inr (.inr (.inr h.symm))))))))) (fun _ _ h=>h);have hnb:w.heap.size≠A.bg∧w.heap.size+1≠A.bg:=by have:=HM.o.gone.lt;omega
   have WB:w7.cell? ⟨w.heap.size,0,none⟩=some (.pointer (some ⟨bi,0,none⟩)):=(World.cell?_of_block (w:=w6) (a:=⟨w.heap.size,0,none⟩) (Eu.block _ (by show w.heap.size<_;omega) (fun q=>hnb.1 (by injection q)))).trans rq.o;have UB:dK w7 (w.heap.size+1) e:=by obtain⟨a0,a1,a2,a3,a4,a5,a6,a7⟩:=QY.o;have key: ∀(o:Nat)u,w6.cell? ⟨w.heap.size+1,o,none⟩=some u→w7.cell? ⟨w.heap.size+1,o,none⟩=some u:=fun o u hu=>(World.cell?_of_block (w:=w6) (a:=⟨w.heap.size+1,o,none⟩) (Eu.block _ (by show w.heap.size+1<_;omega) (fun q=>hnb.2 (by injection q)))).trans hu;exact⟨key _ _ a0,key _ _ a1,key _ _ a2,key _ _ a3,key _ _ a4,key _ _ a5,key _ _ a6,key _ _ a7⟩
   have Uu:aS w7 (fun b=>F b∨(w.heap.size≤b∧b<w7.heap.size)) bi (N+1) {x.put e with gone:=e.per::x.gone}:=⟨_,RJ,Vw.o.gone _,by show A.nl≤_;omega,by show A.ng+1≤_;omega,fun b hb=>(Lx.o _ b hb).imp id (fun h=>⟨h,RJ.lt hb⟩),fun b hb=>by
    rcases hb with hb|hb;·have:=tZ.o b hb;omega
    ·exact hb.2⟩;have Td:=qH Uu;have VG:=qH UB;have QU:=qH Uq;clear hs7 hg7 Eu RJ Uq UB Uu e0 e1 e2 e3 e4 e5 e6 e7 c0 c1 c2 c3 c4 UN f2 f3 f4 Rz Gs hnb;go_wp2_with fail;refine(GX w7 _ bi (N+1) _ Td.o (by omega) 101 #[.pointer (some ⟨w.heap.size+1,0,none⟩)] (bF e.per) (fun _ _=>by kernel_rfl) (fun w8 y _ hb8=>Dx w8 (w.heap.size+1) y e (VG.o.below hb8 (by omega)) (by have:=hb8.size;omega))).mono ?_;rintro r w8⟨rfl,F8,Ut,Uo,Uz⟩;have hD:uj w F bi (N+1) (x.took e) w8:=by
    refine⟨F8,by rw[Kh.o];exact Ut,QU.o.trans Uo (fun b hb h=>h.elim id (fun h=>by omega)),fun b hb=>?_⟩;rcases Uz b hb with h|h;·exact h.imp id (fun h=>h.1)
    ·right;omega
   have HD:=qH hD;clear Ut Uo Uz hD WB;go_wp2;go_end0;exact⟨rfl,HD.o⟩
  ·have Kh:=qS (x.took e=x.put e) (by rw[fH.o,if_neg hk14]);have bk:(e.kind==14)=false:=by simpa using hk14
   clear hk14;go_wp2;go_end0;refine⟨rfl,fun b=>F b∨(w.heap.size≤b∧b<w6.heap.size),⟨_,by rw[Kh.o];exact Dh.o,by rw[Kh.o];exact Vw.o,by show A.nl≤_;omega,by show A.ng≤_;omega,fun b hb=>(Lx.o A.ng b hb).imp id (fun h=>⟨h,Dh.o.lt hb⟩),fun b hb=>?_⟩,Vu.o,fun b hb=>hb.imp id (fun h=>h.1)⟩;rcases hb with hb|hb;·have:=tZ.o b hb;omega
   ·exact hb.2
theorem aS.rJ{w w':World}{F:Nat→Prop}{bi N M:Nat}{x:az}{A:oN}(hM:aD w bi A x)(hnl:A.nl≤N)(Bf:A.ng≤N)(hNM:N≤M)(hfo: ∀b,A.foot bi b→F b)(RO: ∀b,F b→b<w.heap.size){c:bq}(hc:ay w' A.bc A.bm c)(hk:ai (fun b=>b=A.bc∨b=A.bm) w w')(hok:bU M {x with aG:=c}):aS w' F bi M {x with aG:=c}∧aD w' bi A {x with aG:=c}∧ai F w w':=⟨⟨A,hM.rJ hc hk,hok,Nat.le_trans hnl hNM,Nat.le_trans Bf hNM,hfo,fun b hb=>Nat.lt_of_lt_of_le (RO b hb) hk.size⟩,hM.rJ hc hk,hk.mono fun b _ hb=>by
 rcases hb with rfl|rfl;·exact hfo _ (.inr (.inl rfl))
 ·exact hfo _ (.inr (.inr (.inl rfl)))⟩
def vT(w:World)(F:Nat→Prop)(bi N:Nat)(x:az)(v:Int)(r:Ending)(w':World):Prop:=r=.returned (.int .i64 v)∧uj w F bi N x w'
theorem MC{F:Nat→Prop}{w w':World}(hk:ai F w w'){b:Nat}(hb:b<w.heap.size)(hF: ¬F b){e:Ev}(h:dK w b e):dK w' b e:=by obtain⟨a0,a1,a2,a3,a4,a5,a6,a7⟩:=h;have key: ∀(o:Nat)u,w.cell? ⟨b,o,none⟩=some u→w'.cell? ⟨b,o,none⟩=some u:=fun o u hu=>(hk.cell (p:=⟨b,o,none⟩) hb hF).trans hu;exact⟨key _ _ a0,key _ _ a1,key _ _ a2,key _ _ a3,key _ _ a4,key _ _ a5,key _ _ a6,key _ _ a7⟩
theorem aM.out{F:Nat→Prop}{w w':World}(h:aM w)(hk:ai F w w')(hF: ¬F 0):aM w':=by have hl:=h.lt;obtain⟨m,h⟩:=h;exact⟨m,(hk.cell (p:=⟨0,0,none⟩) hl hF).trans h⟩
end Go.Proofs.YtladegonienapaaGreatDoor
