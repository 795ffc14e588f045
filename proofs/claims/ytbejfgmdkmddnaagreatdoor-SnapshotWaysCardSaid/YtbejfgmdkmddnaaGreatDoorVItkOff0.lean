/-
  Layer 8: what Offer, Admit, New want of the memory.
-/
import Derived.Test.YtbejfgmdkmddnaaGreatDoorVItkTake
set_option maxRecDepth 100000
set_option maxHeartbeats 16000000
namespace Go.Proofs.YtbejfgmdkmddnaaGreatDoor
open Go.RowKit Go.Maps Go.Sort
def P9(w:World)(F:Nat→Prop)(bi N:Nat)(x:ay)(e:Ending)(w':World):Prop:=e=.returned (.tuple #[])∧dP w F bi N x w'
theorem tT(es:List Ev)(k:Nat):(aj es).take (k*8)=aj (es.take k):=by
 induction es generalizing k with
  |nil=>simp[aj]
  |cons e es ih=>
   have hc:e.cells.length=8:=rfl;cases k with
    |zero=>simp[aj]
    |succ k=>
     have:aj (e::es)=e.cells++aj es:=by simp[aj]
     rw[this,List.take_append,hc,List.take_of_length_le (by rw[hc];omega),show(k+1)*8-8=k*8 by omega,ih];simp[aj]
theorem CQ(es:List Ev)(k:Nat):(aj es).drop (k*8)=aj (es.drop k):=by
 induction es generalizing k with
  |nil=>simp[aj]
  |cons e es ih=>
   have hc:e.cells.length=8:=rfl;cases k with
    |zero=>simp
    |succ k=>
     have:aj (e::es)=e.cells++aj es:=by simp[aj]
     rw[this,List.drop_append,hc,List.drop_of_length_le (by rw[hc];omega),show(k+1)*8-8=k*8 by omega,ih];simp
theorem FV(es:List Ev): ∀u∈aj es,u.oneCell'=true:=by intro u hu;simp only[aj,List.mem_flatMap]at hu;obtain⟨e,_,he⟩:=hu;exact cells_one e u he
def Uz(w4:World)(bi b1 b2:Nat)(B:Option Addr)(n cp:Nat)(l:List Ev)(e:Ev)(r:Ending)(w5:World):Prop:= ∃B5 c5,r=.returned (.slice B5 (n+1) c5)∧aP w5 0 (.slice B5 (n+1) c5) l∧w4.grownBy w5 (Value.slice B n cp).ownBlock∧((Value.slice B5 (n+1) c5).ownBlock=(Value.slice B n cp).ownBlock∨ ∃k,(Value.slice B5 (n+1) c5).ownBlock=some k∧w4.heap.size≤k)∧w5.cell? ⟨bi,2,none⟩=some (.slice B n cp)∧w5.frozen? ⟨bi,2,none⟩=false∧w5.cell? ⟨b1,0,none⟩=some (.pointer (some ⟨bi,0,none⟩))∧dO w5 b2 e
def U3(w4:World)(bi b1 b2:Nat)(B:Option Addr)(n cp:Nat)(l:List Ev)(e:Ev)(wc:World):Prop:= ∃w5 B5 c5,Uz w4 bi b1 b2 B n cp l e (.returned (.slice B5 (n+1) c5)) w5∧wc=w5.setCell ⟨bi,2,none⟩ (.slice B5 (n+1) c5)
theorem Vm(w4:World)(bi b1 b2:Nat)(A:uy)(x:ay)(e:Ev)(B:Option Addr)(cp k:Nat)(hM:aL w4 bi A x)(wR:A.vt=.slice B x.taken.length cp)(hl:x.taken.length≤100000)(hk:k=zP e x.taken)(h1:w4.cell? ⟨b1,0,none⟩=some (.pointer (some ⟨bi,0,none⟩)))(h1t:A.vt.ownBlock≠some b1)(h2:dO w4 b2 e)(h2t:A.vt.ownBlock≠some b2):Calls Tryz.prog 89 #[.slice B x.taken.length cp,.int .i64 k,.slice (some ⟨w4.heap.size,0,none⟩) 1 1] (w4.alloc (ai e)).drew (Uz w4 bi b1 b2 B x.taken.length cp (eX e x.taken) e):=by
 have uZ:Below w4.heap.size w4 (w4.alloc (ai e)).drew:=((Below.refl _ _).alloc (Nat.le_refl _) _).drew;have hown:aP (w4.alloc (ai e)).drew 0 (.slice B x.taken.length cp) x.taken:=by have:=(hM.up uZ).taken;rw[wR]at this;exact this
 have hown4:aP w4 0 (.slice B x.taken.length cp) x.taken:=by have:=hM.taken;rw[wR]at this;exact this
 have hnew:(w4.alloc (ai e)).drew.heap[w4.heap.size]?=some (.cells e.cells.toArray 31 (0,0)):=heap_alloc_new w4 _;refine(O6 _ 0 x.taken.length k w4.heap.size _ (aj x.taken) e.cells (by rw[hk];exact JW _ _) (by omega) (Nat.zero_le _) hown rfl hnew (fun h=>by have:=hown4.lt h;omega) (FV _) (cells_one e)).mono ?_;rintro r w5⟨v5,rfl,ho5,hg5,hbl5⟩;obtain⟨B5,c5,rfl⟩:=ownsRow_form ho5;have hg:w4.grownBy w5 (Value.slice B x.taken.length cp).ownBlock:=by have:=(show w4.grownBy (w4.alloc (ai e)).drew none from⟨uZ.os,uZ.tape,uZ.output,uZ.size,fun i hi _=>uZ.block i hi⟩);exact(this.but _).andThen hg5 (fun j hj=>.inr hj)
 have keep: ∀b o,b<w4.heap.size→(Value.slice B x.taken.length cp).ownBlock≠some b→w5.cell? ⟨b,o,none⟩=w4.cell? ⟨b,o,none⟩:=fun b o hb hne=>World.cell?_of_block (w:=w4) (hg.block b hb (Ne.symm hne));have XO:(Value.slice B x.taken.length cp).ownBlock≠some bi:=fun h=>(hM.ev (hown4.typ h)).1 rfl;have hb1:b1<w4.heap.size:=World.block_lt_of_cell? w4 ⟨b1,0,none⟩ h1;have n1:(Value.slice B x.taken.length cp).ownBlock≠some b1:=by rw[←wR];exact h1t
 refine⟨B5,c5,rfl,?_,hg,hbl5.imp id (fun⟨k,h1,h2⟩=>⟨k,h1,Nat.le_trans uZ.size h2⟩),?_,?_,(keep b1 0 hb1 n1).trans h1,?_⟩;·have:=ho5;rw[tT,CQ,show e.cells=aj [e]by simp[aj],←fu,←fu,hk,←qm]at this;unfold aP;rw[iU];exact this
 ·rw[keep bi 2 (hM.lt (.inl rfl)) XO,←wR];exact hM.cells.c2
 ·rw[World.frozen?_of_block (w:=w4) (a:=⟨bi,2,none⟩) (hg.block bi (hM.lt (.inl rfl)) (Ne.symm XO))];exact hM.cells.f2
 ·obtain⟨a0,a1,a2,a3,a4,a5,a6,a7⟩:=h2;have hb2:b2<w4.heap.size:=World.block_lt_of_cell? w4 ⟨b2,0,none⟩ a0;rw[wR]at h2t;have key: ∀(o:Nat)u,w4.cell? ⟨b2,o,none⟩=some u→w5.cell? ⟨b2,o,none⟩=some u:=fun o u hu=>(keep b2 o hb2 h2t).trans hu;exact⟨key _ _ a0,key _ _ a1,key _ _ a2,key _ _ a3,key _ _ a4,key _ _ a5,key _ _ a6,key _ _ a7⟩
theorem D6(w:World)(F:Nat→Prop)(bi N:Nat)(x:ay)(h:aU w F bi N x)(hN:N<100000)(e:Ev)(hsm:e.small)(nV:bA e=true)(FI:hadB x.had e.src e.num=false):Calls Tryz.prog 39 #[.pointer (some ⟨bi,0,none⟩),e.agg] w (P9 w F bi (N+1) (x.took e)):=by
 obtain⟨A,hM,hO,hnl,Bq,jq,oD⟩:=h;have HM:=qH hM;have HO:=qH hO;have Ao:=qH jq;have zK:=qH oD;have jT:=qH nV;have Gz:=qH FI;have hlt:bi<w.heap.size:=hM.lt (.inl rfl);have htl:=hO.taken;have nI:=qH (hO.rows e.src);have HHL:=qH hO.had;have Dv:=qH (Cs nV FI);have HIO:=qH (hO.put hM.had.ok e nV FI);clear hM hO jq oD nV FI;unfold Ev.agg;go_enter Tryz.func39,Tryz.ntmps39;go_wp2;have bJ:Below w.heap.size w ((w.alloc (.cells #[.pointer (some ⟨bi,0,none⟩)] 25)).alloc (ai e)):=((Below.refl _ _).alloc (Nat.le_refl _) _).alloc (by simp) _;have hB1:((w.alloc (.cells #[.pointer (some ⟨bi,0,none⟩)] 25)).alloc (ai e)).cell? ⟨w.heap.size,0,none⟩=some (.pointer (some ⟨bi,0,none⟩)):=by rw[World.cell?_alloc_lt _ _ _ (by simp)];exact cell_of_row _ w.heap.size 0 _ _ (0,0) (heap_alloc_new w _)
 have hE:dO ((w.alloc (.cells #[.pointer (some ⟨bi,0,none⟩)] 25)).alloc (ai e)) (w.heap.size+1) e:=by have:=dO.new (w.alloc (.cells #[.pointer (some ⟨bi,0,none⟩)] 25)) e;simpa using this
 have hsA:((w.alloc (.cells #[.pointer (some ⟨bi,0,none⟩)] 25)).alloc (ai e)).heap.size=w.heap.size+2:=by simp
 generalize(w.alloc (.cells #[.pointer (some ⟨bi,0,none⟩)] 25)).alloc (ai e)=w1 at*;have oH:=qH (HM.o.up bJ);have qD:=qH hE;have HB1:=qH hB1;obtain⟨e0,e1,e2,e3,e4,e5,e6,e7⟩:=hE;obtain⟨c0,c1,c2,c3,c4,c5,f2,f3,f4⟩:=oH.o.cells;clear hB1;have hb1':=HB1.o;go_still_tail 8,(by kernel_rfl);change wpList _ _ _ _ _ (w1.drewN 1);have hbq:Below w1.heap.size w1 (w1.drewN 1):=below_drewN (Below.refl _ _) 1;have Sl:(w1.drewN 1).heap.size=w.heap.size+2:=hsA;clear e0 e1 e2 e3 e4 e5 e6 e7 c0 c1 c2 c3 c4 c5 f2 f3 f4 hb1';generalize w1.drewN 1=w2 at*;have zI:=qH (oH.o.up hbq);have HE2:=qH (qD.o.below hbq (by omega));have HB2:=qH ((hbq.cell (p:=⟨w.heap.size,0,none⟩) (by show w.heap.size<w1.heap.size;omega)).trans HB1.o);have hbw2:Below w.heap.size w w2:=bJ.trans (hbq.mono (by omega));clear hbq;go_wp2_with fail;refine(Oi w2 A.G A.bs A.bh x.had A.V zI.o.had e.src e.num (by have:=nI.o;omega) (by have:=HHL.o;omega) Dv.o).mono ?_;rintro r w3⟨G',V',rfl,hh3,hk3,hG3⟩;have hM3:=zI.o.Va hh3 hk3 hG3;have Vk: ∀b,w.heap.size≤b→ ¬A.G b:=fun b hb hg=>by have:=HM.o.had.lt b hg;omega
 have Jw:=qH hM3;have zL:=qS (dO w3 (w.heap.size+1) e) (by obtain⟨a0,a1,a2,a3,a4,a5,a6,a7⟩:=HE2.o;have key: ∀(o:Nat)u,w2.cell? ⟨w.heap.size+1,o,none⟩=some u→w3.cell? ⟨w.heap.size+1,o,none⟩=some u:=fun o u hu=>(hk3.cell (p:=⟨w.heap.size+1,o,none⟩) (by show w.heap.size+1<_;omega) (Vk _ (by show w.heap.size≤w.heap.size+1;omega))).trans hu;exact⟨key _ _ a0,key _ _ a1,key _ _ a2,key _ _ a3,key _ _ a4,key _ _ a5,key _ _ a6,key _ _ a7⟩);have HB3:=qH ((hk3.cell (p:=⟨w.heap.size,0,none⟩) (by show w.heap.size<_;omega) (Vk _ (Nat.le_refl _))).trans HB2.o);have BR:=qS (ak F w w3) ((ak.of_below (F:=F) hbw2).trans hk3 (fun b _ hg=>Ao.o b (.inr (.inr (.inr (.inl hg))))));have hs3:=hk3.size;have NF:=qS (∀b,G' b→F b∨w.heap.size≤b) (fun b hb=>(hG3 b hb).imp (fun h=>Ao.o b (.inr (.inr (.inr (.inl h))))) (fun h=>by omega));clear hh3 hk3 hG3 hM3 Vk hbw2;obtain⟨c0,c1,c2,c3,c4,c5,f2,f3,f4⟩:=Jw.o.cells;obtain⟨B,cp,wR,hcm⟩:=Jw.o.taken.form;simp only at wR c0 c1 c2 c3 c4 c5;rw[wR]at c2;have yQ:=HB3.o;have hbi3:bi<w3.heap.size:=by omega
 go_wp2_with fail;have Pg:fV w3 w3.heap.size B x.taken.length cp x.taken:=by have:=Jw.o.taken;simp only at this;rw[wR]at this;exact az.aI this
 have Np:=qH Pg;clear Pg;refine(ru w3 87 #[.pointer (some ⟨w.heap.size,0,none⟩),.pointer (some ⟨w.heap.size+1,0,none⟩)] x.taken.length (fun i=>decide (0<pR (x.taken.getD i e) e)) (by omega) (fun _ _=>by kernel_rfl) ?_ ?_).mono ?_
 ·intro w4 i hb4 hi;obtain⟨g,off,rfl,hg,hev⟩:=Np.o.ev i hi;have e':x.taken.getD i e=x.taken[i]:=by simp[List.getD,List.getElem?_eq_getElem hi]
  simp only[e'];exact Lb w4 _ _ bi g off _ cp _ e i hi ((hb4.cell (p:=⟨w.heap.size,0,none⟩) (by show w.heap.size<_;omega)).trans HB3.o) ((hb4.cell (p:=⟨bi,2,none⟩) hbi3).trans c2) (hev.below hb4 hg) (zL.o.below hb4 (by omega))
 ·intro i j hij hj hp;simp only[List.getD,List.getElem?_eq_getElem hj,List.getElem?_eq_getElem (show i<x.taken.length by omega),Option.getD_some,decide_eq_true_eq,pQ]at*;rcases Nat.lt_or_ge i j with hlt'|hge;·exact(List.pairwise_iff_getElem.1 HO.o.sorted i j (by omega) hj hlt').lt hp
  ·have:i=j:=by omega
   subst this;exact hp
 rintro r w4⟨k,rfl,hkl,h1,h2,hb4⟩;have HP:=qH (wD (e:=e) (l:=x.taken) k hkl (fun i hi hlt'=>by have:=h1 i hlt';simp only[List.getD,List.getElem?_eq_getElem hi,Option.getD_some,decide_eq_false_iff_not,pQ]at this;exact this) (fun i hi hge=>by have:=h2 i hge hi;simpa only[List.getD,List.getElem?_eq_getElem hi,Option.getD_some,decide_eq_true_eq,pQ]using this));have Wu:=qH (Jw.o.up hb4);have Nq:=qH (zL.o.below hb4 (by omega));have fM:=qH ((hb4.cell (p:=⟨w.heap.size,0,none⟩) (by show w.heap.size<_;omega)).trans HB3.o);have xN:=qH (BR.o.trans (ak.of_below (F:=fun _=>False) hb4) (fun _ _ h=>h.elim));have hs4:=hb4.size;clear h1 h2 hb4 c0 c1 c2 c3 c4 c5 f2 f3 f4 yQ hbi3;obtain⟨c0,c1,c2,c3,c4,c5,f2,f3,f4⟩:=Wu.o.cells;simp only at c0 c1 c2 c3 c4 c5;rw[wR]at c2;have aaE:=fM.o;obtain⟨e0,e1,e2,e3,e4,e5,e6,e7⟩:=Nq.o;have hbi4:bi<w4.heap.size:=by omega
 have hw4:w.heap.size<w4.heap.size:=by omega
 have hw41:w.heap.size+1<w4.heap.size:=by omega
 have NC:=qH (Vm w4 bi w.heap.size (w.heap.size+1) _ _ e B cp k Wu.o wR (by simp only;omega) HP.o fM.o (fun h=>by have:=HM.o.taken.lt h;omega) Nq.o (fun h=>by have:=HM.o.taken.lt h;omega));go_upto_region 3 with(fail);go_cut[](fun wc=>U3 w4 bi w.heap.size (w.heap.size+1) B x.taken.length cp (eX e x.taken) e wc);case first=>go_region_law((go_simp;go_at_call 89;refine NC.o.mono ?_;rintro r w5⟨B5,cp5,rfl,ho5,hg5,hbl5,hc52,hf52,Sy,hev5⟩;have BM:=qS (U3 w4 bi w.heap.size (w.heap.size+1) B x.taken.length cp (eX e x.taken) e (w5.setCell ⟨bi,2,none⟩ (.slice B5 (x.taken.length+1) cp5))) (⟨w5,B5,cp5,⟨B5,cp5,rfl,ho5,hg5,hbl5,hc52,hf52,Sy,hev5⟩,rfl⟩);clear ho5 hg5 hbl5 hev5));all_goals(go_wp2_with fail;go_meet;exact BM.o)
 case rest=>
  obtain⟨w5,B5,q5,⟨B5',q5',heq,ho5,hg5,hbl5,hc52,hf52,Sy,hev5⟩,rfl⟩:=hcut;obtain⟨rfl,rfl⟩:B5=B5'∧q5=q5':=by injection heq with heq;injection heq with q1 _ q3;exact⟨q1,q3⟩
  rw[←wR]at hg5 hbl5;have SA:=Wu.o.NS (v:=.slice B5 (x.taken.length+1) q5) (l:=eX e x.taken) hg5 ho5 hbl5;simp only at SA;have hs5:=hg5.size;have hs6:(w5.setCell ⟨bi,2,none⟩ (.slice B5 (x.taken.length+1) q5)).heap.size=w5.heap.size:=by simp[World.setCell]
  have hK6:ak F w (w5.setCell ⟨bi,2,none⟩ (.slice B5 (x.taken.length+1) q5)):=(xN.o.trans (ak.eF (F:=fun b=>A.vt.ownBlock=some b) hg5 (fun k h=>h)) (fun b _ h=>Ao.o b (.inr (.inr (.inr (.inr (.inl h))))))).setCell (fun _=>Ao.o bi (.inl rfl)) _;have YE:dO (w5.setCell ⟨bi,2,none⟩ (.slice B5 (x.taken.length+1) q5)) (w.heap.size+1) e:=by obtain⟨a0,a1,a2,a3,a4,a5,a6,a7⟩:=hev5;have key: ∀(o:Nat)u,w5.cell? ⟨w.heap.size+1,o,none⟩=some u→(w5.setCell ⟨bi,2,none⟩ (.slice B5 (x.taken.length+1) q5)).cell? ⟨w.heap.size+1,o,none⟩=some u:=fun o u hu=>(World.cell?_setCell_other w5 _ _ _ (fun q=>by injection q;omega)).trans hu;exact⟨key _ _ a0,key _ _ a1,key _ _ a2,key _ _ a3,key _ _ a4,key _ _ a5,key _ _ a6,key _ _ a7⟩
  have hB6:(w5.setCell ⟨bi,2,none⟩ (.slice B5 (x.taken.length+1) q5)).cell? ⟨w.heap.size,0,none⟩=some (.pointer (some ⟨bi,0,none⟩)):=(World.cell?_setCell_other w5 _ _ _ (fun q=>by injection q;omega)).trans Sy;have hv6: ∀b,(Value.slice B5 (x.taken.length+1) q5).ownBlock=some b→F b∨w.heap.size≤b:=fun b hb=>by
   rcases hbl5 with q|⟨k',q,hk'⟩;·exact .inl (Ao.o b (.inr (.inr (.inr (.inr (.inl (q▸hb)))))))
   ·rw[q]at hb;injection hb with hb;right;omega
  have Dx:=qH SA;have HE6:=qH YE;have dY:=qH hB6;have Dy:=qH hK6;have VS:=qH hv6;clear heq ho5 hg5 hbl5 hc52 hf52 Sy hev5 SA YE hB6 hK6 hv6 c0 c1 c2 c3 c4 c5 f2 f3 f4 e0 e1 e2 e3 e4 e5 e6 e7 aaE NC;have hs46:w4.heap.size≤(w5.setCell ⟨bi,2,none⟩ (.slice B5 (x.taken.length+1) q5)).heap.size:=by omega
  clear hs5 hs6;generalize w5.setCell ⟨bi,2,none⟩ (.slice B5 (x.taken.length+1) q5)=w6 at*;have dx:=qS (x.took e=if e.kind=14 then({x.put e with gone:=e.per::x.gone}:ay).drop (bT e.per)else x.put e) (rfl);obtain⟨e0,e1,e2,e3,e4,e5,e6,e7⟩:=HE6.o;have hfoot6: ∀(ng:Nat)b,uy.foot {A with G:=G',V:=V',vt:=.slice B5 (x.taken.length+1) q5,ng:=ng} bi b→F b∨w.heap.size≤b:=fun ng b hb=>by
   have hfo:=Ao.o b;rcases hb with rfl|rfl|rfl|hb|hb|hb|rfl|rfl;·exact .inl (hfo (.inl rfl))
   ·exact .inl (hfo (.inr (.inl rfl)))
   ·exact .inl (hfo (.inr (.inr (.inl rfl))))
   ·exact NF.o b hb
   ·exact VS.o b hb
   ·exact .inl (hfo (.inr (.inr (.inr (.inr (.inr (.inl hb)))))))
   ·exact .inl (hfo (.inr (.inr (.inr (.inr (.inr (.inr (.inl rfl))))))))
   ·exact .inl (hfo (.inr (.inr (.inr (.inr (.inr (.inr (.inr rfl))))))))
  have Rl:=qH hfoot6;clear hfoot6;by_cases hk14:e.kind=14
  ·have vT:=qS (x.took e=({x.put e with gone:=e.per::x.gone}:ay).drop (bT e.per)) (by rw[dx.o,if_pos hk14]);have bk:(e.kind==14)=true:=by simpa using hk14
   clear hk14;obtain⟨c0,c1,c2,c3,c4,c5',f2,f3,f4⟩:=Dx.o.cells;simp only at c5';have aaD:=dY.o;have O9:e.per.length≤1000000000:=hsm.2.1;go_wp2;go_still_tail 6,(by kernel_rfl);change wpList _ _ _ _ _ (w6.drewN 1);have JA:=qS (fQ (w6.drewN 1) A.bg A.ng x.gone) (Dx.o.gone.drewN 1);refine zN rfl (.tmp 38) (.tmp 40) _ rfl A.bg A.ng x.gone rfl JA.o (by unfold maxLen;omega) e.per rfl (by unfold maxLen;omega) rfl ?_;intro w7 hs7 hg7;have Mv:w6.grownBy w7 (some A.bg):=⟨hg7.os,hg7.tape,hg7.output,hg7.size,hg7.block⟩;have hM7:=Dx.o.RF hs7 Mv;have hsz7:=Mv.size;have hK7:ak F w w7:=Dy.o.trans (ak.eF (F:=F) Mv (fun k h=>by injection h with h;exact Ao.o k (.inr (.inr (.inr (.inr (.inr (.inr (.inr h.symm))))))))) (fun _ _ h=>h);have hnb:w.heap.size≠A.bg∧w.heap.size+1≠A.bg:=by have:=HM.o.gone.lt;omega
   have hB7:w7.cell? ⟨w.heap.size,0,none⟩=some (.pointer (some ⟨bi,0,none⟩)):=(World.cell?_of_block (w:=w6) (a:=⟨w.heap.size,0,none⟩) (Mv.block _ (by show w.heap.size<_;omega) (fun q=>hnb.1 (by injection q)))).trans dY.o;have hE7:dO w7 (w.heap.size+1) e:=by obtain⟨a0,a1,a2,a3,a4,a5,a6,a7⟩:=HE6.o;have key: ∀(o:Nat)u,w6.cell? ⟨w.heap.size+1,o,none⟩=some u→w7.cell? ⟨w.heap.size+1,o,none⟩=some u:=fun o u hu=>(World.cell?_of_block (w:=w6) (a:=⟨w.heap.size+1,o,none⟩) (Mv.block _ (by show w.heap.size+1<_;omega) (fun q=>hnb.2 (by injection q)))).trans hu;exact⟨key _ _ a0,key _ _ a1,key _ _ a2,key _ _ a3,key _ _ a4,key _ _ a5,key _ _ a6,key _ _ a7⟩
   have hI7:aU w7 (fun b=>F b∨(w.heap.size≤b∧b<w7.heap.size)) bi (N+1) {x.put e with gone:=e.per::x.gone}:=⟨_,hM7,HIO.o.gone _,by show A.nl≤_;omega,by show A.ng+1≤_;omega,fun b hb=>(Rl.o _ b hb).imp id (fun h=>⟨h,hM7.lt hb⟩),fun b hb=>by
    rcases hb with hb|hb;·have:=zK.o b hb;omega
    ·exact hb.2⟩;have HI7:=qH hI7;have HE7:=qH hE7;have KY:=qH hK7;clear hs7 hg7 Mv hM7 hK7 hE7 hI7 e0 e1 e2 e3 e4 e5 e6 e7 c0 c1 c2 c3 c4 c5' f2 f3 f4 aaD O9 hnb;go_wp2_with fail;refine(FX w7 _ bi (N+1) _ HI7.o (by omega) 90 #[.pointer (some ⟨w.heap.size+1,0,none⟩)] (bT e.per) (fun _ _=>by kernel_rfl) (fun w8 y _ hb8=>La w8 (w.heap.size+1) y e (HE7.o.below hb8 (by omega)) (by have:=hb8.size;omega))).mono ?_;rintro r w8⟨rfl,F8,hI8,hK8,hF8⟩;have hD:dP w F bi (N+1) (x.took e) w8:=by
    refine⟨F8,by rw[vT.o];exact hI8,KY.o.trans hK8 (fun b hb h=>h.elim id (fun h=>by omega)),fun b hb=>?_⟩;rcases hF8 b hb with h|h;·exact h.imp id (fun h=>h.1)
    ·right;omega
   have HD:=qH hD;clear hI8 hK8 hF8 hD hB7;go_wp2;go_end0;exact⟨rfl,HD.o⟩
  ·have vT:=qS (x.took e=x.put e) (by rw[dx.o,if_neg hk14]);have bk:(e.kind==14)=false:=by simpa using hk14
   clear hk14;go_wp2;go_end0;refine⟨rfl,fun b=>F b∨(w.heap.size≤b∧b<w6.heap.size),⟨_,by rw[vT.o];exact Dx.o,by rw[vT.o];exact HIO.o,by show A.nl≤_;omega,by show A.ng≤_;omega,fun b hb=>(Rl.o A.ng b hb).imp id (fun h=>⟨h,Dx.o.lt hb⟩),fun b hb=>?_⟩,Dy.o,fun b hb=>hb.imp id (fun h=>h.1)⟩;rcases hb with hb|hb;·have:=zK.o b hb;omega
   ·exact hb.2
theorem aU.mF{w w':World}{F:Nat→Prop}{bi N M:Nat}{x:ay}{A:uy}(hM:aL w bi A x)(hnl:A.nl≤N)(Bq:A.ng≤N)(hNM:N≤M)(hfo: ∀b,A.foot bi b→F b)(Xh: ∀b,F b→b<w.heap.size){c:aZ}(hc:aH w' A.bc A.bm c)(hk:ak (fun b=>b=A.bc∨b=A.bm) w w')(hok:dR M {x with au:=c}):aU w' F bi M {x with au:=c}∧aL w' bi A {x with au:=c}∧ak F w w':=⟨⟨A,hM.mF hc hk,hok,Nat.le_trans hnl hNM,Nat.le_trans Bq hNM,hfo,fun b hb=>Nat.lt_of_lt_of_le (Xh b hb) hk.size⟩,hM.mF hc hk,hk.mono fun b _ hb=>by
 rcases hb with rfl|rfl;·exact hfo _ (.inr (.inl rfl))
 ·exact hfo _ (.inr (.inr (.inl rfl)))⟩
theorem dR.later{N:Nat}{x:ay}(h:dR N x){e:Ev}(he:bA e=true):dR (N+1) {x with late:=x.late++[e]}:=by
 refine⟨h.sorted,fun a ha=>?_,Nat.le_succ_of_le h.src,Nat.le_succ_of_le h.had,fun s=>Nat.le_succ_of_le (h.rows s),Nat.le_succ_of_le h.taken,?_⟩
 ·rcases ha with ha|ha;·exact h.may a (.inl ha)
  ·rcases List.mem_append.1 ha with ha|ha;·exact h.may a (.inr ha)
   ·simp at ha;subst ha;exact he
 ·have:=h.late;simp;omega
theorem xc{P:Program}{ops:Array Oper}{o:Oper}{a:Act}{w:World}{K:Act→World→Prop}{Q:Exit→Act→World→Prop}{E:Prop}(hgd:o.guard=none)(s x:Operand)(t:TypeId)(hop:o.op=Op.call {callee:=Callee.builtin Builtin.append,args:= #[s,x],argTypes:= #[t,t]})(v u:Value)(hs:a.eval s=v)(hx:a.eval x=u){v':Value}{w':World}(hr:(Builtin.append_ #[t,t] o.type #[v,u]).run P w=.ok v' w')(hK:K (a.put o.dst v') w'):if Region.wanted o (yielded ops a.tmps)=true then Oper.wp P o a w K Q else E:=by
 have hw:Region.wanted o (yielded ops a.tmps)=true:=by simp[Region.wanted,hgd]
 rw[if_pos hw];unfold Oper.wp;simp[execOp,hop,resolve,invoke,builtin,hs,hx,hr,Result.andThen];exact hK
def jD(w:World)(F:Nat→Prop)(bi N:Nat)(x:ay)(v:Int)(r:Ending)(w':World):Prop:=r=.returned (.int .i64 v)∧dP w F bi N x w'
theorem jA{F:Nat→Prop}{w w':World}(hk:ak F w w'){b:Nat}(hb:b<w.heap.size)(hF: ¬F b){e:Ev}(h:dO w b e):dO w' b e:=by obtain⟨a0,a1,a2,a3,a4,a5,a6,a7⟩:=h;have key: ∀(o:Nat)u,w.cell? ⟨b,o,none⟩=some u→w'.cell? ⟨b,o,none⟩=some u:=fun o u hu=>(hk.cell (p:=⟨b,o,none⟩) hb hF).trans hu;exact⟨key _ _ a0,key _ _ a1,key _ _ a2,key _ _ a3,key _ _ a4,key _ _ a5,key _ _ a6,key _ _ a7⟩
theorem bf.out{F:Nat→Prop}{w w':World}(h:bf w)(hk:ak F w w')(hF: ¬F 0):bf w':=by have hl:=h.lt;obtain⟨m,h⟩:=h;exact⟨m,(hk.cell (p:=⟨0,0,none⟩) hl hF).trans h⟩
end Go.Proofs.YtbejfgmdkmddnaaGreatDoor
