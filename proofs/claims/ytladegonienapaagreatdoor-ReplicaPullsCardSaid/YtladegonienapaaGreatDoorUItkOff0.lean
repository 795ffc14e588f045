/-
  Layer 8: what Offer, Admit, New want of the memory.
-/
import Derived.Test.YtladegonienapaaGreatDoorUItkTake
import Derived.BigRegion
set_option maxRecDepth 100000
set_option maxHeartbeats 16000000
namespace Go.Proofs.YtladegonienapaaGreatDoor
open Go.RowKit Go.Maps Go.Sort
def Oa(w:World)(F:Nat→Prop)(bi N:Nat)(x:aG)(e:Ending)(w':World):Prop:=e=.returned (.tuple #[])∧Ae w F bi N x w'
theorem rO(es:List Ev)(k:Nat):(ai es).take (k*8)=ai (es.take k):=by
 induction es generalizing k with
  |nil=>simp[ai]
  |cons e es ih=>
   have hc:e.cells.length=8:=rfl;cases k with
    |zero=>simp[ai]
    |succ k=>
     have:ai (e::es)=e.cells++ai es:=by simp[ai]
     rw[this,List.take_append,hc,List.take_of_length_le (by rw[hc];omega),show(k+1)*8-8=k*8 by omega,ih];simp[ai]
theorem Bh(es:List Ev)(k:Nat):(ai es).drop (k*8)=ai (es.drop k):=by
 induction es generalizing k with
  |nil=>simp[ai]
  |cons e es ih=>
   have hc:e.cells.length=8:=rfl;cases k with
    |zero=>simp
    |succ k=>
     have:ai (e::es)=e.cells++ai es:=by simp[ai]
     rw[this,List.drop_append,hc,List.drop_of_length_le (by rw[hc];omega),show(k+1)*8-8=k*8 by omega,ih];simp
theorem Eg(es:List Ev): ∀u∈ai es,u.oneCell'=true:=by intro u hu;simp only[ai,List.mem_flatMap]at hu;obtain⟨e,_,he⟩:=hu;exact cells_one e u he
def Sc(w4:World)(bi b1 b2:Nat)(B:Option Addr)(n cp:Nat)(l:List Ev)(e:Ev)(r:Ending)(w5:World):Prop:= ∃B5 c5,r=.returned (.slice B5 (n+1) c5)∧bq w5 0 (.slice B5 (n+1) c5) l∧w4.grownBy w5 (Value.slice B n cp).ownBlock∧((Value.slice B5 (n+1) c5).ownBlock=(Value.slice B n cp).ownBlock∨ ∃k,(Value.slice B5 (n+1) c5).ownBlock=some k∧w4.heap.size≤k)∧w5.cell? ⟨bi,2,none⟩=some (.slice B n cp)∧w5.frozen? ⟨bi,2,none⟩=false∧w5.cell? ⟨b1,0,none⟩=some (.pointer (some ⟨bi,0,none⟩))∧eD w5 b2 e
def SL(w4:World)(bi b1 b2:Nat)(B:Option Addr)(n cp:Nat)(l:List Ev)(e:Ev)(wc:World):Prop:= ∃w5 B5 c5,Sc w4 bi b1 b2 B n cp l e (.returned (.slice B5 (n+1) c5)) w5∧wc=w5.setCell ⟨bi,2,none⟩ (.slice B5 (n+1) c5)
theorem Tn(w4:World)(bi b1 b2:Nat)(A:su)(x:aG)(e:Ev)(B:Option Addr)(cp k:Nat)(hM:aP w4 bi A x)(uP:A.vt=.slice B x.taken.length cp)(hl:x.taken.length≤100000)(hk:k=yB e x.taken)(h1:w4.cell? ⟨b1,0,none⟩=some (.pointer (some ⟨bi,0,none⟩)))(h1t:A.vt.ownBlock≠some b1)(h2:eD w4 b2 e)(h2t:A.vt.ownBlock≠some b2):Calls Tryz.prog 99 #[.slice B x.taken.length cp,.int .i64 k,.slice (some ⟨w4.heap.size,0,none⟩) 1 1] (w4.alloc (au e)).drew (Sc w4 bi b1 b2 B x.taken.length cp (dW e x.taken) e):=by
 have BQ:Below w4.heap.size w4 (w4.alloc (au e)).drew:=((Below.refl _ _).alloc (Nat.le_refl _) _).drew;have hown:bq (w4.alloc (au e)).drew 0 (.slice B x.taken.length cp) x.taken:=by have:=(hM.up BQ).taken;rw[uP]at this;exact this
 have hown4:bq w4 0 (.slice B x.taken.length cp) x.taken:=by have:=hM.taken;rw[uP]at this;exact this
 have hnew:(w4.alloc (au e)).drew.heap[w4.heap.size]?=some (.cells e.cells.toArray 28 (0,0)):=heap_alloc_new w4 _;refine(MV _ 0 x.taken.length k w4.heap.size _ (ai x.taken) e.cells (by rw[hk];exact Ig _ _) (by omega) (Nat.zero_le _) hown rfl hnew (fun h=>by have:=hown4.lt h;omega) (Eg _) (cells_one e)).mono ?_;rintro r w5⟨v5,rfl,ho5,hg5,hbl5⟩;obtain⟨B5,c5,rfl⟩:=ownsRow_form ho5;have hg:w4.grownBy w5 (Value.slice B x.taken.length cp).ownBlock:=by have:=(show w4.grownBy (w4.alloc (au e)).drew none from⟨BQ.os,BQ.tape,BQ.output,BQ.size,fun i hi _=>BQ.block i hi⟩);exact(this.but _).andThen hg5 (fun j hj=>.inr hj)
 have keep: ∀b o,b<w4.heap.size→(Value.slice B x.taken.length cp).ownBlock≠some b→w5.cell? ⟨b,o,none⟩=w4.cell? ⟨b,o,none⟩:=fun b o hb hne=>World.cell?_of_block (w:=w4) (hg.block b hb (Ne.symm hne));have nbi:(Value.slice B x.taken.length cp).ownBlock≠some bi:=fun h=>(hM.ev (hown4.typ h)).1 rfl;have hb1:b1<w4.heap.size:=World.block_lt_of_cell? w4 ⟨b1,0,none⟩ h1;have n1:(Value.slice B x.taken.length cp).ownBlock≠some b1:=by rw[←uP];exact h1t
 refine⟨B5,c5,rfl,?_,hg,hbl5.imp id (fun⟨k,h1,h2⟩=>⟨k,h1,Nat.le_trans BQ.size h2⟩),?_,?_,(keep b1 0 hb1 n1).trans h1,?_⟩;·have:=ho5;rw[rO,Bh,show e.cells=ai [e]by simp[ai],←dZ,←dZ,hk,←o9]at this;unfold bq;rw[gZ];exact this
 ·rw[keep bi 2 (hM.lt (.inl rfl)) nbi,←uP];exact hM.cells.c2
 ·rw[World.frozen?_of_block (w:=w4) (a:=⟨bi,2,none⟩) (hg.block bi (hM.lt (.inl rfl)) (Ne.symm nbi))];exact hM.cells.f2
 ·obtain⟨a0,a1,a2,a3,a4,a5,a6,a7⟩:=h2;have hb2:b2<w4.heap.size:=World.block_lt_of_cell? w4 ⟨b2,0,none⟩ a0;rw[uP]at h2t;have key: ∀(o:Nat)u,w4.cell? ⟨b2,o,none⟩=some u→w5.cell? ⟨b2,o,none⟩=some u:=fun o u hu=>(keep b2 o hb2 h2t).trans hu;exact⟨key _ _ a0,key _ _ a1,key _ _ a2,key _ _ a3,key _ _ a4,key _ _ a5,key _ _ a6,key _ _ a7⟩
theorem LP(w:World)(F:Nat→Prop)(bi N:Nat)(x:aG)(h:bN w F bi N x)(hN:N<100000)(e:Ev)(hsm:e.small)(mG:aK e=true)(D7:hadB x.had e.src e.num=false):Calls Tryz.prog 53 #[.pointer (some ⟨bi,0,none⟩),e.agg] w (Oa w F bi (N+1) (x.took e)):=by
 obtain⟨A,hM,hO,hnl,Kv,mW,vF⟩:=h;have HM:=qH hM;have HO:=qH hO;have LJ:=qH mW;have Ce:=qH vF;have ny:=qH mG;have Rh:=qH D7;have hlt:bi<w.heap.size:=hM.lt (.inl rfl);have htl:=hO.taken;have nu:=qH (hO.rows e.src);have HHL:=qH hO.had;have OD:=qH (AO mG D7);have HIO:=qH (hO.put hM.had.ok e mG D7);clear hM hO mW vF mG D7;unfold Ev.agg;go_enter Tryz.func53,Tryz.ntmps53;go_wp2;have bL:Below w.heap.size w ((w.alloc (.cells #[.pointer (some ⟨bi,0,none⟩)] 31)).alloc (au e)):=((Below.refl _ _).alloc (Nat.le_refl _) _).alloc (by simp) _;have hB1:((w.alloc (.cells #[.pointer (some ⟨bi,0,none⟩)] 31)).alloc (au e)).cell? ⟨w.heap.size,0,none⟩=some (.pointer (some ⟨bi,0,none⟩)):=by rw[World.cell?_alloc_lt _ _ _ (by simp)];exact cell_of_row _ w.heap.size 0 _ _ (0,0) (heap_alloc_new w _)
 have hE:eD ((w.alloc (.cells #[.pointer (some ⟨bi,0,none⟩)] 31)).alloc (au e)) (w.heap.size+1) e:=by have:=eD.new (w.alloc (.cells #[.pointer (some ⟨bi,0,none⟩)] 31)) e;simpa using this
 have hsA:((w.alloc (.cells #[.pointer (some ⟨bi,0,none⟩)] 31)).alloc (au e)).heap.size=w.heap.size+2:=by simp
 generalize(w.alloc (.cells #[.pointer (some ⟨bi,0,none⟩)] 31)).alloc (au e)=w1 at*;have oJ:=qH (HM.o.up bL);have sF:=qH hE;have HB1:=qH hB1;obtain⟨e0,e1,e2,e3,e4,e5,e6,e7⟩:=hE;obtain⟨c0,c1,c2,c3,c4,c5,f2,f3,f4⟩:=oJ.o.cells;clear hB1;have hb1':=HB1.o;go_still_tail 8,(by kernel_rfl);change wpList _ _ _ _ _ (w1.drewN 1);have hbq:Below w1.heap.size w1 (w1.drewN 1):=below_drewN (Below.refl _ _) 1;have Qo:(w1.drewN 1).heap.size=w.heap.size+2:=hsA;clear e0 e1 e2 e3 e4 e5 e6 e7 c0 c1 c2 c3 c4 c5 f2 f3 f4 hb1';generalize w1.drewN 1=w2 at*;have BK:=qH (oJ.o.up hbq);have HE2:=qH (sF.o.below hbq (by omega));have HB2:=qH ((hbq.cell (p:=⟨w.heap.size,0,none⟩) (by show w.heap.size<w1.heap.size;omega)).trans HB1.o);have hbw2:Below w.heap.size w w2:=bL.trans (hbq.mono (by omega));clear hbq;go_wp2_with fail;refine(Mo w2 A.G A.bs A.bh x.had A.V BK.o.had e.src e.num (by have:=nu.o;omega) (by have:=HHL.o;omega) OD.o).mono ?_;rintro r w3⟨G',V',rfl,hh3,hk3,hG3⟩;have hM3:=BK.o.SY hh3 hk3 hG3;have Tj: ∀b,w.heap.size≤b→ ¬A.G b:=fun b hb hg=>by have:=HM.o.had.lt b hg;omega
 have LD:=qH hM3;have Li:=qS (eD w3 (w.heap.size+1) e) (by obtain⟨a0,a1,a2,a3,a4,a5,a6,a7⟩:=HE2.o;have key: ∀(o:Nat)u,w2.cell? ⟨w.heap.size+1,o,none⟩=some u→w3.cell? ⟨w.heap.size+1,o,none⟩=some u:=fun o u hu=>(hk3.cell (p:=⟨w.heap.size+1,o,none⟩) (by show w.heap.size+1<_;omega) (Tj _ (by show w.heap.size≤w.heap.size+1;omega))).trans hu;exact⟨key _ _ a0,key _ _ a1,key _ _ a2,key _ _ a3,key _ _ a4,key _ _ a5,key _ _ a6,key _ _ a7⟩);have HB3:=qH ((hk3.cell (p:=⟨w.heap.size,0,none⟩) (by show w.heap.size<_;omega) (Tj _ (Nat.le_refl _))).trans HB2.o);have OO:=qS (ah F w w3) ((ah.of_below (F:=F) hbw2).trans hk3 (fun b _ hg=>LJ.o b (.inr (.inr (.inr (.inl hg))))));have hs3:=hk3.size;have LH:=qS (∀b,G' b→F b∨w.heap.size≤b) (fun b hb=>(hG3 b hb).imp (fun h=>LJ.o b (.inr (.inr (.inr (.inl h))))) (fun h=>by omega));clear hh3 hk3 hG3 hM3 Tj hbw2;obtain⟨c0,c1,c2,c3,c4,c5,f2,f3,f4⟩:=LD.o.cells;obtain⟨B,cp,uP,hcm⟩:=LD.o.taken.form;simp only at uP c0 c1 c2 c3 c4 c5;rw[uP]at c2;have Qv:=HB3.o;have hbi3:bi<w3.heap.size:=by omega
 go_wp2_with fail;have nZ:gH w3 w3.heap.size B x.taken.length cp x.taken:=by have:=LD.o.taken;simp only at this;rw[uP]at this;exact ax.aQ this
 have UK:=qH nZ;clear nZ;refine(qo w3 97 #[.pointer (some ⟨w.heap.size,0,none⟩),.pointer (some ⟨w.heap.size+1,0,none⟩)] x.taken.length (fun i=>decide (0<oq (x.taken.getD i e) e)) (by omega) (fun _ _=>by kernel_rfl) ?_ ?_).mono ?_
 ·intro w4 i hb4 hi;obtain⟨g,off,rfl,hg,hev⟩:=UK.o.ev i hi;have e':x.taken.getD i e=x.taken[i]:=by simp[List.getD,List.getElem?_eq_getElem hi]
  simp only[e'];exact Jr w4 _ _ bi g off _ cp _ e i hi ((hb4.cell (p:=⟨w.heap.size,0,none⟩) (by show w.heap.size<_;omega)).trans HB3.o) ((hb4.cell (p:=⟨bi,2,none⟩) hbi3).trans c2) (hev.below hb4 hg) (Li.o.below hb4 (by omega))
 ·intro i j hij hj hp;simp only[List.getD,List.getElem?_eq_getElem hj,List.getElem?_eq_getElem (show i<x.taken.length by omega),Option.getD_some,decide_eq_true_eq,oo]at*;rcases Nat.lt_or_ge i j with hlt'|hge;·exact(List.pairwise_iff_getElem.1 HO.o.sorted i j (by omega) hj hlt').lt hp
  ·have:i=j:=by omega
   subst this;exact hp
 rintro r w4⟨k,rfl,hkl,h1,h2,hb4⟩;have HP:=qH (uE (e:=e) (l:=x.taken) k hkl (fun i hi hlt'=>by have:=h1 i hlt';simp only[List.getD,List.getElem?_eq_getElem hi,Option.getD_some,decide_eq_false_iff_not,oo]at this;exact this) (fun i hi hge=>by have:=h2 i hge hi;simpa only[List.getD,List.getElem?_eq_getElem hi,Option.getD_some,decide_eq_true_eq,oo]using this));have HM4:=qH (LD.o.up hb4);have Ps:=qH (Li.o.below hb4 (by omega));have jP:=qH ((hb4.cell (p:=⟨w.heap.size,0,none⟩) (by show w.heap.size<_;omega)).trans HB3.o);have Lh:=qH (OO.o.trans (ah.of_below (F:=fun _=>False) hb4) (fun _ _ h=>h.elim));have hs4:=hb4.size;clear h1 h2 hb4 c0 c1 c2 c3 c4 c5 f2 f3 f4 Qv hbi3;obtain⟨c0,c1,c2,c3,c4,c5,f2,f3,f4⟩:=HM4.o.cells;simp only at c0 c1 c2 c3 c4 c5;rw[uP]at c2;have Zr:=jP.o;obtain⟨e0,e1,e2,e3,e4,e5,e6,e7⟩:=Ps.o;have hbi4:bi<w4.heap.size:=by omega
 have hw4:w.heap.size<w4.heap.size:=by omega
 have hw41:w.heap.size+1<w4.heap.size:=by omega
 have Sv:=qH (Tn w4 bi w.heap.size (w.heap.size+1) _ _ e B cp k HM4.o uP (by simp only;omega) HP.o jP.o (fun h=>by have:=HM.o.taken.lt h;omega) Ps.o (fun h=>by have:=HM.o.taken.lt h;omega));go_upto_region 3 with(fail);go_cut[](fun wc=>SL w4 bi w.heap.size (w.heap.size+1) B x.taken.length cp (dW e x.taken) e wc);case first=>go_region_law((go_simp;go_at_call 99;refine Sv.o.mono ?_;rintro r w5⟨B5,cp5,rfl,ho5,hg5,hbl5,hc52,hf52,Qt,hev5⟩;have Sd:=qS (SL w4 bi w.heap.size (w.heap.size+1) B x.taken.length cp (dW e x.taken) e (w5.setCell ⟨bi,2,none⟩ (.slice B5 (x.taken.length+1) cp5))) (⟨w5,B5,cp5,⟨B5,cp5,rfl,ho5,hg5,hbl5,hc52,hf52,Qt,hev5⟩,rfl⟩);clear ho5 hg5 hbl5 hev5));all_goals(go_wp2_with fail;go_meet;exact Sd.o)
 case rest=>
  obtain⟨w5,B5,q5,⟨B5',q5',heq,ho5,hg5,hbl5,hc52,hf52,Qt,hev5⟩,rfl⟩:=hcut;obtain⟨rfl,rfl⟩:B5=B5'∧q5=q5':=by injection heq with heq;injection heq with q1 _ q3;exact⟨q1,q3⟩
  rw[←uP]at hg5 hbl5;have ZA:=HM4.o.LZ (v:=.slice B5 (x.taken.length+1) q5) (l:=dW e x.taken) hg5 ho5 hbl5;simp only at ZA;have hs5:=hg5.size;have hs6:(w5.setCell ⟨bi,2,none⟩ (.slice B5 (x.taken.length+1) q5)).heap.size=w5.heap.size:=by simp[World.setCell]
  have hK6:ah F w (w5.setCell ⟨bi,2,none⟩ (.slice B5 (x.taken.length+1) q5)):=(Lh.o.trans (ah.bV (F:=fun b=>A.vt.ownBlock=some b) hg5 (fun k h=>h)) (fun b _ h=>LJ.o b (.inr (.inr (.inr (.inr (.inl h))))))).setCell (fun _=>LJ.o bi (.inl rfl)) _;have hE6:eD (w5.setCell ⟨bi,2,none⟩ (.slice B5 (x.taken.length+1) q5)) (w.heap.size+1) e:=by obtain⟨a0,a1,a2,a3,a4,a5,a6,a7⟩:=hev5;have key: ∀(o:Nat)u,w5.cell? ⟨w.heap.size+1,o,none⟩=some u→(w5.setCell ⟨bi,2,none⟩ (.slice B5 (x.taken.length+1) q5)).cell? ⟨w.heap.size+1,o,none⟩=some u:=fun o u hu=>(World.cell?_setCell_other w5 _ _ _ (fun q=>by injection q;omega)).trans hu;exact⟨key _ _ a0,key _ _ a1,key _ _ a2,key _ _ a3,key _ _ a4,key _ _ a5,key _ _ a6,key _ _ a7⟩
  have hB6:(w5.setCell ⟨bi,2,none⟩ (.slice B5 (x.taken.length+1) q5)).cell? ⟨w.heap.size,0,none⟩=some (.pointer (some ⟨bi,0,none⟩)):=(World.cell?_setCell_other w5 _ _ _ (fun q=>by injection q;omega)).trans Qt;have hv6: ∀b,(Value.slice B5 (x.taken.length+1) q5).ownBlock=some b→F b∨w.heap.size≤b:=fun b hb=>by
   rcases hbl5 with q|⟨k',q,hk'⟩;·exact .inl (LJ.o b (.inr (.inr (.inr (.inr (.inl (q▸hb)))))))
   ·rw[q]at hb;injection hb with hb;right;omega
  have Jd:=qH ZA;have HE6:=qH hE6;have gq:=qH hB6;have Vq:=qH hK6;have YC:=qH hv6;clear heq ho5 hg5 hbl5 hc52 hf52 Qt hev5 ZA hE6 hB6 hK6 hv6 c0 c1 c2 c3 c4 c5 f2 f3 f4 e0 e1 e2 e3 e4 e5 e6 e7 Zr Sv;have hs46:w4.heap.size≤(w5.setCell ⟨bi,2,none⟩ (.slice B5 (x.taken.length+1) q5)).heap.size:=by omega
  clear hs5 hs6;generalize w5.setCell ⟨bi,2,none⟩ (.slice B5 (x.taken.length+1) q5)=w6 at*;have df:=qS (x.took e=if e.kind=14 then({x.put e with gone:=e.per::x.gone}:aG).drop (aN e.per)else x.put e) (rfl);obtain⟨e0,e1,e2,e3,e4,e5,e6,e7⟩:=HE6.o;have hfoot6: ∀(ng:Nat)b,su.foot {A with G:=G',V:=V',vt:=.slice B5 (x.taken.length+1) q5,ng:=ng} bi b→F b∨w.heap.size≤b:=fun ng b hb=>by
   have hfo:=LJ.o b;rcases hb with rfl|rfl|rfl|hb|hb|hb|rfl|rfl;·exact .inl (hfo (.inl rfl))
   ·exact .inl (hfo (.inr (.inl rfl)))
   ·exact .inl (hfo (.inr (.inr (.inl rfl))))
   ·exact LH.o b hb
   ·exact YC.o b hb
   ·exact .inl (hfo (.inr (.inr (.inr (.inr (.inr (.inl hb)))))))
   ·exact .inl (hfo (.inr (.inr (.inr (.inr (.inr (.inr (.inl rfl))))))))
   ·exact .inl (hfo (.inr (.inr (.inr (.inr (.inr (.inr (.inr rfl))))))))
  have Pq:=qH hfoot6;clear hfoot6;by_cases hk14:e.kind=14
  ·have uk:=qS (x.took e=({x.put e with gone:=e.per::x.gone}:aG).drop (aN e.per)) (by rw[df.o,if_pos hk14]);have bk:(e.kind==14)=true:=by simpa using hk14
   clear hk14;obtain⟨c0,c1,c2,c3,c4,c5',f2,f3,f4⟩:=Jd.o.cells;simp only at c5';have Zq:=gq.o;have M0:e.per.length≤1000000000:=hsm.2.1;go_wp2;go_still_tail 6,(by kernel_rfl);change wpList _ _ _ _ _ (w6.drewN 1);have OU:=qS (fw (w6.drewN 1) A.bg A.ng x.gone) (Jd.o.gone.drewN 1);refine yA rfl (.tmp 38) (.tmp 40) _ rfl A.bg A.ng x.gone rfl OU.o (by unfold maxLen;omega) e.per rfl (by unfold maxLen;omega) rfl ?_;intro w7 hs7 hg7;have Kw:w6.grownBy w7 (some A.bg):=⟨hg7.os,hg7.tape,hg7.output,hg7.size,hg7.block⟩;have Zz:=Jd.o.gP hs7 Kw;have hsz7:=Kw.size;have hK7:ah F w w7:=Vq.o.trans (ah.bV (F:=F) Kw (fun k h=>by injection h with h;exact LJ.o k (.inr (.inr (.inr (.inr (.inr (.inr (.inr h.symm))))))))) (fun _ _ h=>h);have hnb:w.heap.size≠A.bg∧w.heap.size+1≠A.bg:=by have:=HM.o.gone.lt;omega
   have hB7:w7.cell? ⟨w.heap.size,0,none⟩=some (.pointer (some ⟨bi,0,none⟩)):=(World.cell?_of_block (w:=w6) (a:=⟨w.heap.size,0,none⟩) (Kw.block _ (by show w.heap.size<_;omega) (fun q=>hnb.1 (by injection q)))).trans gq.o;have hE7:eD w7 (w.heap.size+1) e:=by obtain⟨a0,a1,a2,a3,a4,a5,a6,a7⟩:=HE6.o;have key: ∀(o:Nat)u,w6.cell? ⟨w.heap.size+1,o,none⟩=some u→w7.cell? ⟨w.heap.size+1,o,none⟩=some u:=fun o u hu=>(World.cell?_of_block (w:=w6) (a:=⟨w.heap.size+1,o,none⟩) (Kw.block _ (by show w.heap.size+1<_;omega) (fun q=>hnb.2 (by injection q)))).trans hu;exact⟨key _ _ a0,key _ _ a1,key _ _ a2,key _ _ a3,key _ _ a4,key _ _ a5,key _ _ a6,key _ _ a7⟩
   have hI7:bN w7 (fun b=>F b∨(w.heap.size≤b∧b<w7.heap.size)) bi (N+1) {x.put e with gone:=e.per::x.gone}:=⟨_,Zz,HIO.o.gone _,by show A.nl≤_;omega,by show A.ng+1≤_;omega,fun b hb=>(Pq.o _ b hb).imp id (fun h=>⟨h,Zz.lt hb⟩),fun b hb=>by
    rcases hb with hb|hb;·have:=Ce.o b hb;omega
    ·exact hb.2⟩;have HI7:=qH hI7;have HE7:=qH hE7;have Vp:=qH hK7;clear hs7 hg7 Kw Zz hK7 hE7 hI7 e0 e1 e2 e3 e4 e5 e6 e7 c0 c1 c2 c3 c4 c5' f2 f3 f4 Zq M0 hnb;go_wp2_with fail;refine(NB w7 _ bi (N+1) _ HI7.o (by omega) 101 #[.pointer (some ⟨w.heap.size+1,0,none⟩)] (aN e.per) (fun _ _=>by kernel_rfl) (fun w8 y _ hb8=>Jq w8 (w.heap.size+1) y e (HE7.o.below hb8 (by omega)) (by have:=hb8.size;omega))).mono ?_;rintro r w8⟨rfl,F8,hI8,hK8,hF8⟩;have hD:Ae w F bi (N+1) (x.took e) w8:=by
    refine⟨F8,by rw[uk.o];exact hI8,Vp.o.trans hK8 (fun b hb h=>h.elim id (fun h=>by omega)),fun b hb=>?_⟩;rcases hF8 b hb with h|h;·exact h.imp id (fun h=>h.1)
    ·right;omega
   have HD:=qH hD;clear hI8 hK8 hF8 hD hB7;go_wp2;go_end0;exact⟨rfl,HD.o⟩
  ·have uk:=qS (x.took e=x.put e) (by rw[df.o,if_neg hk14]);have bk:(e.kind==14)=false:=by simpa using hk14
   clear hk14;go_wp2;go_end0;refine⟨rfl,fun b=>F b∨(w.heap.size≤b∧b<w6.heap.size),⟨_,by rw[uk.o];exact Jd.o,by rw[uk.o];exact HIO.o,by show A.nl≤_;omega,by show A.ng≤_;omega,fun b hb=>(Pq.o A.ng b hb).imp id (fun h=>⟨h,Jd.o.lt hb⟩),fun b hb=>?_⟩,Vq.o,fun b hb=>hb.imp id (fun h=>h.1)⟩;rcases hb with hb|hb;·have:=Ce.o b hb;omega
   ·exact hb.2
theorem bN.sM{w w':World}{F:Nat→Prop}{bi N M:Nat}{x:aG}{A:su}(hM:aP w bi A x)(hnl:A.nl≤N)(Kv:A.ng≤N)(hNM:N≤M)(hfo: ∀b,A.foot bi b→F b)(ZB: ∀b,F b→b<w.heap.size){c:bu}(hc:aH w' A.bc A.bm c)(hk:ah (fun b=>b=A.bc∨b=A.bm) w w')(hok:dU M {x with aI:=c}):bN w' F bi M {x with aI:=c}∧aP w' bi A {x with aI:=c}∧ah F w w':=⟨⟨A,hM.sM hc hk,hok,Nat.le_trans hnl hNM,Nat.le_trans Kv hNM,hfo,fun b hb=>Nat.lt_of_lt_of_le (ZB b hb) hk.size⟩,hM.sM hc hk,hk.mono fun b _ hb=>by
 rcases hb with rfl|rfl;·exact hfo _ (.inr (.inl rfl))
 ·exact hfo _ (.inr (.inr (.inl rfl)))⟩
def K3(w:World)(F:Nat→Prop)(bi N:Nat)(x:aG)(v:Int)(r:Ending)(w':World):Prop:=r=.returned (.int .i64 v)∧Ae w F bi N x w'
theorem om{F:Nat→Prop}{w w':World}(hk:ah F w w'){b:Nat}(hb:b<w.heap.size)(hF: ¬F b){e:Ev}(h:eD w b e):eD w' b e:=by obtain⟨a0,a1,a2,a3,a4,a5,a6,a7⟩:=h;have key: ∀(o:Nat)u,w.cell? ⟨b,o,none⟩=some u→w'.cell? ⟨b,o,none⟩=some u:=fun o u hu=>(hk.cell (p:=⟨b,o,none⟩) hb hF).trans hu;exact⟨key _ _ a0,key _ _ a1,key _ _ a2,key _ _ a3,key _ _ a4,key _ _ a5,key _ _ a6,key _ _ a7⟩
theorem aW.out{F:Nat→Prop}{w w':World}(h:aW w)(hk:ah F w w')(hF: ¬F 0):aW w':=by have hl:=h.lt;obtain⟨m,h⟩:=h;exact⟨m,(hk.cell (p:=⟨0,0,none⟩) hl hF).trans h⟩
end Go.Proofs.YtladegonienapaaGreatDoor
