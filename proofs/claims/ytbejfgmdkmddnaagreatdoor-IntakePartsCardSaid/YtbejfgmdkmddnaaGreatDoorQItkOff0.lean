/-
  Layer 8: what Offer, Admit, New want of the memory.
-/
import Derived.Test.YtbejfgmdkmddnaaGreatDoorQItkTake
import Derived.Deep.DeepCutAuto
import Derived.RegionTactic
import Derived.BigRegion
set_option maxRecDepth 100000
set_option maxHeartbeats 16000000
namespace Go.Proofs.YtbejfgmdkmddnaaGreatDoor
open Go.RowKit Go.Maps Go.Sort
def TakePost(w:World)(F:Nat→Prop)(bi N:Nat)(x:Itk)(e:Ending)(w':World):Prop:=e=.returned (.tuple #[])∧Deeds w F bi N x w'
theorem evCells_take(es:List Ev)(k:Nat):(evCells es).take (k*8)=evCells (es.take k):=by
 induction es generalizing k with
  |nil=>simp[evCells]
  |cons e es ih=>
   have hc:e.cells.length=8:=rfl;cases k with
    |zero=>simp[evCells]
    |succ k=>
     have:evCells (e::es)=e.cells++evCells es:=by simp[evCells]
     rw[this,List.take_append,hc,List.take_of_length_le (by rw[hc];omega),show(k+1)*8-8=k*8 by omega,ih];simp[evCells]
theorem evCells_drop(es:List Ev)(k:Nat):(evCells es).drop (k*8)=evCells (es.drop k):=by
 induction es generalizing k with
  |nil=>simp[evCells]
  |cons e es ih=>
   have hc:e.cells.length=8:=rfl;cases k with
    |zero=>simp
    |succ k=>
     have:evCells (e::es)=e.cells++evCells es:=by simp[evCells]
     rw[this,List.drop_append,hc,List.drop_of_length_le (by rw[hc];omega),show(k+1)*8-8=k*8 by omega,ih];simp
theorem evCells_all(es:List Ev): ∀u∈evCells es,u.oneCell'=true:=by intro u hu;simp only[evCells,List.mem_flatMap]at hu;obtain⟨e,_,he⟩:=hu;exact cells_one e u he
def InsAt(w4:World)(bi b1 b2:Nat)(B:Option Addr)(n cp:Nat)(l:List Ev)(e:Ev)(r:Ending)(w5:World):Prop:= ∃B5 c5,r=.returned (.slice B5 (n+1) c5)∧OwnE w5 0 (.slice B5 (n+1) c5) l∧w4.grownBy w5 (Value.slice B n cp).ownBlock∧((Value.slice B5 (n+1) c5).ownBlock=(Value.slice B n cp).ownBlock∨ ∃k,(Value.slice B5 (n+1) c5).ownBlock=some k∧w4.heap.size≤k)∧w5.cell? ⟨bi,2,none⟩=some (.slice B n cp)∧w5.frozen? ⟨bi,2,none⟩=false∧w5.cell? ⟨b1,0,none⟩=some (.pointer (some ⟨bi,0,none⟩))∧EvIn w5 b2 e
def CutAt(w4:World)(bi b1 b2:Nat)(B:Option Addr)(n cp:Nat)(l:List Ev)(e:Ev)(wc:World):Prop:= ∃w5 B5 c5,InsAt w4 bi b1 b2 B n cp l e (.returned (.slice B5 (n+1) c5)) w5∧wc=w5.setCell ⟨bi,2,none⟩ (.slice B5 (n+1) c5)
theorem ins_at(w4:World)(bi b1 b2:Nat)(A:ItkA)(x:Itk)(e:Ev)(B:Option Addr)(cp k:Nat)(hM:ItkMem w4 bi A x)(hvt:A.vt=.slice B x.taken.length cp)(hl:x.taken.length≤100000)(hk:k=posE e x.taken)(h1:w4.cell? ⟨b1,0,none⟩=some (.pointer (some ⟨bi,0,none⟩)))(h1t:A.vt.ownBlock≠some b1)(h2:EvIn w4 b2 e)(h2t:A.vt.ownBlock≠some b2):Calls Tryz.prog 89 #[.slice B x.taken.length cp,.int .i64 k,.slice (some ⟨w4.heap.size,0,none⟩) 1 1] (w4.alloc (evObj e)).drew (InsAt w4 bi b1 b2 B x.taken.length cp (insE e x.taken) e):=by
 have hbB:Below w4.heap.size w4 (w4.alloc (evObj e)).drew:=((Below.refl _ _).alloc (Nat.le_refl _) _).drew;have hown:OwnE (w4.alloc (evObj e)).drew 0 (.slice B x.taken.length cp) x.taken:=by have:=(hM.up hbB).taken;rw[hvt]at this;exact this
 have hown4:OwnE w4 0 (.slice B x.taken.length cp) x.taken:=by have:=hM.taken;rw[hvt]at this;exact this
 have hnew:(w4.alloc (evObj e)).drew.heap[w4.heap.size]?=some (.cells e.cells.toArray 31 (0,0)):=heap_alloc_new w4 _;refine(insE_any _ 0 x.taken.length k w4.heap.size _ (evCells x.taken) e.cells (by rw[hk];exact posE_le _ _) (by omega) (Nat.zero_le _) hown rfl hnew (fun h=>by have:=hown4.lt h;omega) (evCells_all _) (cells_one e)).mono ?_;rintro r w5⟨v5,rfl,ho5,hg5,hbl5⟩;obtain⟨B5,c5,rfl⟩:=ownsRow_form ho5;have hg:w4.grownBy w5 (Value.slice B x.taken.length cp).ownBlock:=by have:=(show w4.grownBy (w4.alloc (evObj e)).drew none from⟨hbB.os,hbB.tape,hbB.output,hbB.size,fun i hi _=>hbB.block i hi⟩);exact(this.but _).andThen hg5 (fun j hj=>.inr hj)
 have keep: ∀b o,b<w4.heap.size→(Value.slice B x.taken.length cp).ownBlock≠some b→w5.cell? ⟨b,o,none⟩=w4.cell? ⟨b,o,none⟩:=fun b o hb hne=>World.cell?_of_block (w:=w4) (hg.block b hb (Ne.symm hne));have nbi:(Value.slice B x.taken.length cp).ownBlock≠some bi:=fun h=>(hM.ev (hown4.typ h)).1 rfl;have hb1:b1<w4.heap.size:=World.block_lt_of_cell? w4 ⟨b1,0,none⟩ h1;have n1:(Value.slice B x.taken.length cp).ownBlock≠some b1:=by rw[←hvt];exact h1t
 refine⟨B5,c5,rfl,?_,hg,hbl5.imp id (fun⟨k,h1,h2⟩=>⟨k,h1,Nat.le_trans hbB.size h2⟩),?_,?_,(keep b1 0 hb1 n1).trans h1,?_⟩;·have:=ho5;rw[evCells_take,evCells_drop,show e.cells=evCells [e]by simp[evCells],←evCells_append,←evCells_append,hk,←insE_eq]at this;unfold OwnE;rw[insE_length];exact this
 ·rw[keep bi 2 (hM.lt (.inl rfl)) nbi,←hvt];exact hM.cells.c2
 ·rw[World.frozen?_of_block (w:=w4) (a:=⟨bi,2,none⟩) (hg.block bi (hM.lt (.inl rfl)) (Ne.symm nbi))];exact hM.cells.f2
 ·obtain⟨a0,a1,a2,a3,a4,a5,a6,a7⟩:=h2;have hb2:b2<w4.heap.size:=World.block_lt_of_cell? w4 ⟨b2,0,none⟩ a0;rw[hvt]at h2t;have key: ∀(o:Nat)u,w4.cell? ⟨b2,o,none⟩=some u→w5.cell? ⟨b2,o,none⟩=some u:=fun o u hu=>(keep b2 o hb2 h2t).trans hu;exact⟨key _ _ a0,key _ _ a1,key _ _ a2,key _ _ a3,key _ _ a4,key _ _ a5,key _ _ a6,key _ _ a7⟩
theorem take_any(w:World)(F:Nat→Prop)(bi N:Nat)(x:Itk)(h:ItkAt w F bi N x)(hN:N<100000)(e:Ev)(hsm:e.small)(hmay:mayB e=true)(hhad:hadB x.had e.src e.num=false):Calls Tryz.prog 39 #[.pointer (some ⟨bi,0,none⟩),e.agg] w (TakePost w F bi (N+1) (x.took e)):=by
 obtain⟨A,hM,hO,hnl,hng,hfoot,hFlt⟩:=h;have HM:=qH hM;have HO:=qH hO;have HFO:=qH hfoot;have HFL:=qH hFlt;have HMAY:=qH hmay;have HHAD:=qH hhad;have hlt:bi<w.heap.size:=hM.lt (.inl rfl);have htl:=hO.taken;have HRB:=qH (hO.rows e.src);have HHL:=qH hO.had;have HPB:=qH (may_put hmay hhad);have HIO:=qH (hO.put hM.had.ok e hmay hhad);clear hM hO hfoot hFlt hmay hhad;unfold Ev.agg;go_enter Tryz.func39,Tryz.ntmps39;go_wp2;have hbA:Below w.heap.size w ((w.alloc (.cells #[.pointer (some ⟨bi,0,none⟩)] 25)).alloc (evObj e)):=((Below.refl _ _).alloc (Nat.le_refl _) _).alloc (by simp) _;have hB1:((w.alloc (.cells #[.pointer (some ⟨bi,0,none⟩)] 25)).alloc (evObj e)).cell? ⟨w.heap.size,0,none⟩=some (.pointer (some ⟨bi,0,none⟩)):=by rw[World.cell?_alloc_lt _ _ _ (by simp)];exact cell_of_row _ w.heap.size 0 _ _ (0,0) (heap_alloc_new w _)
 have hE:EvIn ((w.alloc (.cells #[.pointer (some ⟨bi,0,none⟩)] 25)).alloc (evObj e)) (w.heap.size+1) e:=by have:=EvIn.new (w.alloc (.cells #[.pointer (some ⟨bi,0,none⟩)] 25)) e;simpa using this
 have hsA:((w.alloc (.cells #[.pointer (some ⟨bi,0,none⟩)] 25)).alloc (evObj e)).heap.size=w.heap.size+2:=by simp
 generalize(w.alloc (.cells #[.pointer (some ⟨bi,0,none⟩)] 25)).alloc (evObj e)=w1 at*;have HM1:=qH (HM.out.up hbA);have HE1:=qH hE;have HB1:=qH hB1;obtain⟨e0,e1,e2,e3,e4,e5,e6,e7⟩:=hE;obtain⟨c0,c1,c2,c3,c4,c5,f2,f3,f4⟩:=HM1.out.cells;clear hB1;have hb1':=HB1.out;go_still_tail 8,(by kernel_rfl);change wpList _ _ _ _ _ (w1.drewN 1);have hbq:Below w1.heap.size w1 (w1.drewN 1):=below_drewN (Below.refl _ _) 1;have hsq:(w1.drewN 1).heap.size=w.heap.size+2:=hsA;clear e0 e1 e2 e3 e4 e5 e6 e7 c0 c1 c2 c3 c4 c5 f2 f3 f4 hb1';generalize w1.drewN 1=w2 at*;have HM2:=qH (HM1.out.up hbq);have HE2:=qH (HE1.out.below hbq (by omega));have HB2:=qH ((hbq.cell (p:=⟨w.heap.size,0,none⟩) (by show w.heap.size<w1.heap.size;omega)).trans HB1.out);have hbw2:Below w.heap.size w w2:=hbA.trans (hbq.mono (by omega));clear hbq;go_wp2_with fail;refine(putI_any w2 A.G A.bs A.bh x.had A.V HM2.out.had e.src e.num (by have:=HRB.out;omega) (by have:=HHL.out;omega) HPB.out).mono ?_;rintro r w3⟨G',V',rfl,hh3,hk3,hG3⟩;have hM3:=HM2.out.setHad hh3 hk3 hG3;have notG: ∀b,w.heap.size≤b→ ¬A.G b:=fun b hb hg=>by have:=HM.out.had.lt b hg;omega
 have HM3:=qH hM3;have HE3:=qH (show EvIn w3 (w.heap.size+1) e by obtain⟨a0,a1,a2,a3,a4,a5,a6,a7⟩:=HE2.out;have key: ∀(o:Nat)u,w2.cell? ⟨w.heap.size+1,o,none⟩=some u→w3.cell? ⟨w.heap.size+1,o,none⟩=some u:=fun o u hu=>(hk3.cell (p:=⟨w.heap.size+1,o,none⟩) (by show w.heap.size+1<_;omega) (notG _ (by show w.heap.size≤w.heap.size+1;omega))).trans hu;exact⟨key _ _ a0,key _ _ a1,key _ _ a2,key _ _ a3,key _ _ a4,key _ _ a5,key _ _ a6,key _ _ a7⟩);have HB3:=qH ((hk3.cell (p:=⟨w.heap.size,0,none⟩) (by show w.heap.size<_;omega) (notG _ (Nat.le_refl _))).trans HB2.out);have HK3:=qH (show Keep F w w3 from(Keep.of_below (F:=F) hbw2).trans hk3 (fun b _ hg=>HFO.out b (.inr (.inr (.inr (.inl hg))))));have hs3:=hk3.size;have HG3:=qH (show∀b,G' b→F b∨w.heap.size≤b from fun b hb=>(hG3 b hb).imp (fun h=>HFO.out b (.inr (.inr (.inr (.inl h))))) (fun h=>by omega));clear hh3 hk3 hG3 hM3 notG hbw2;obtain⟨c0,c1,c2,c3,c4,c5,f2,f3,f4⟩:=HM3.out.cells;obtain⟨B,cp,hvt,hcm⟩:=HM3.out.taken.form;simp only at hvt c0 c1 c2 c3 c4 c5;rw[hvt]at c2;have hb3':=HB3.out;have hbi3:bi<w3.heap.size:=by omega
 go_wp2_with fail;have hevs:Evs w3 w3.heap.size B x.taken.length cp x.taken:=by have:=HM3.out.taken;simp only at this;rw[hvt]at this;exact Cel.of_own this
 have HEV:=qH hevs;clear hevs;refine(search_any w3 87 #[.pointer (some ⟨w.heap.size,0,none⟩),.pointer (some ⟨w.heap.size+1,0,none⟩)] x.taken.length (fun i=>decide (0<cmpE (x.taken.getD i e) e)) (by omega) (fun _ _=>by kernel_rfl) ?_ ?_).mono ?_
 ·intro w4 i hb4 hi;obtain⟨g,off,rfl,hg,hev⟩:=HEV.out.ev i hi;have e':x.taken.getD i e=x.taken[i]:=by simp[List.getD,List.getElem?_eq_getElem hi]
  simp only[e'];exact take1_any w4 _ _ bi g off _ cp _ e i hi ((hb4.cell (p:=⟨w.heap.size,0,none⟩) (by show w.heap.size<_;omega)).trans HB3.out) ((hb4.cell (p:=⟨bi,2,none⟩) hbi3).trans c2) (hev.below hb4 hg) (HE3.out.below hb4 (by omega))
 ·intro i j hij hj hp;simp only[List.getD,List.getElem?_eq_getElem hj,List.getElem?_eq_getElem (show i<x.taken.length by omega),Option.getD_some,decide_eq_true_eq,cmpE_pos]at*;rcases Nat.lt_or_ge i j with hlt'|hge;·exact(List.pairwise_iff_getElem.1 HO.out.sorted i j (by omega) hj hlt').lt hp
  ·have:i=j:=by omega
   subst this;exact hp
 rintro r w4⟨k,rfl,hkl,h1,h2,hb4⟩;have HP:=qH (posE_search (e:=e) (l:=x.taken) k hkl (fun i hi hlt'=>by have:=h1 i hlt';simp only[List.getD,List.getElem?_eq_getElem hi,Option.getD_some,decide_eq_false_iff_not,cmpE_pos]at this;exact this) (fun i hi hge=>by have:=h2 i hge hi;simpa only[List.getD,List.getElem?_eq_getElem hi,Option.getD_some,decide_eq_true_eq,cmpE_pos]using this));have HM4:=qH (HM3.out.up hb4);have HE4:=qH (HE3.out.below hb4 (by omega));have HB4:=qH ((hb4.cell (p:=⟨w.heap.size,0,none⟩) (by show w.heap.size<_;omega)).trans HB3.out);have HK4:=qH (HK3.out.trans (Keep.of_below (F:=fun _=>False) hb4) (fun _ _ h=>h.elim));have hs4:=hb4.size;clear h1 h2 hb4 c0 c1 c2 c3 c4 c5 f2 f3 f4 hb3' hbi3;obtain⟨c0,c1,c2,c3,c4,c5,f2,f3,f4⟩:=HM4.out.cells;simp only at c0 c1 c2 c3 c4 c5;rw[hvt]at c2;have hb4':=HB4.out;obtain⟨e0,e1,e2,e3,e4,e5,e6,e7⟩:=HE4.out;have hbi4:bi<w4.heap.size:=by omega
 have hw4:w.heap.size<w4.heap.size:=by omega
 have hw41:w.heap.size+1<w4.heap.size:=by omega
 have HIN:=qH (ins_at w4 bi w.heap.size (w.heap.size+1) _ _ e B cp k HM4.out hvt (by simp only;omega) HP.out HB4.out (fun h=>by have:=HM.out.taken.lt h;omega) HE4.out (fun h=>by have:=HM.out.taken.lt h;omega));go_upto_region 3 with(fail);go_cut[](fun wc=>CutAt w4 bi w.heap.size (w.heap.size+1) B x.taken.length cp (insE e x.taken) e wc);case first=>go_region_law((go_simp;go_at_call 89;refine HIN.out.mono ?_;rintro r w5⟨B5,cp5,rfl,ho5,hg5,hbl5,hc52,hf52,hc5b,hev5⟩;have HXX:=qH (show CutAt w4 bi w.heap.size (w.heap.size+1) B x.taken.length cp (insE e x.taken) e (w5.setCell ⟨bi,2,none⟩ (.slice B5 (x.taken.length+1) cp5))from⟨w5,B5,cp5,⟨B5,cp5,rfl,ho5,hg5,hbl5,hc52,hf52,hc5b,hev5⟩,rfl⟩);clear ho5 hg5 hbl5 hev5));all_goals(go_wp2_with fail;go_meet;exact HXX.out)
 case rest=>
  obtain⟨w5,B5,q5,⟨B5',q5',heq,ho5,hg5,hbl5,hc52,hf52,hc5b,hev5⟩,rfl⟩:=hcut;obtain⟨rfl,rfl⟩:B5=B5'∧q5=q5':=by injection heq with heq;injection heq with q1 _ q3;exact⟨q1,q3⟩
  rw[←hvt]at hg5 hbl5;have hM6:=HM4.out.setTaken (v:=.slice B5 (x.taken.length+1) q5) (l:=insE e x.taken) hg5 ho5 hbl5;simp only at hM6;have hs5:=hg5.size;have hs6:(w5.setCell ⟨bi,2,none⟩ (.slice B5 (x.taken.length+1) q5)).heap.size=w5.heap.size:=by simp[World.setCell]
  have hK6:Keep F w (w5.setCell ⟨bi,2,none⟩ (.slice B5 (x.taken.length+1) q5)):=(HK4.out.trans (Keep.of_grown (F:=fun b=>A.vt.ownBlock=some b) hg5 (fun k h=>h)) (fun b _ h=>HFO.out b (.inr (.inr (.inr (.inr (.inl h))))))).setCell (fun _=>HFO.out bi (.inl rfl)) _;have hE6:EvIn (w5.setCell ⟨bi,2,none⟩ (.slice B5 (x.taken.length+1) q5)) (w.heap.size+1) e:=by obtain⟨a0,a1,a2,a3,a4,a5,a6,a7⟩:=hev5;have key: ∀(o:Nat)u,w5.cell? ⟨w.heap.size+1,o,none⟩=some u→(w5.setCell ⟨bi,2,none⟩ (.slice B5 (x.taken.length+1) q5)).cell? ⟨w.heap.size+1,o,none⟩=some u:=fun o u hu=>(World.cell?_setCell_other w5 _ _ _ (fun q=>by injection q;omega)).trans hu;exact⟨key _ _ a0,key _ _ a1,key _ _ a2,key _ _ a3,key _ _ a4,key _ _ a5,key _ _ a6,key _ _ a7⟩
  have hB6:(w5.setCell ⟨bi,2,none⟩ (.slice B5 (x.taken.length+1) q5)).cell? ⟨w.heap.size,0,none⟩=some (.pointer (some ⟨bi,0,none⟩)):=(World.cell?_setCell_other w5 _ _ _ (fun q=>by injection q;omega)).trans hc5b;have hv6: ∀b,(Value.slice B5 (x.taken.length+1) q5).ownBlock=some b→F b∨w.heap.size≤b:=fun b hb=>by
   rcases hbl5 with q|⟨k',q,hk'⟩;·exact .inl (HFO.out b (.inr (.inr (.inr (.inr (.inl (q▸hb)))))))
   ·rw[q]at hb;injection hb with hb;right;omega
  have HM6:=qH hM6;have HE6:=qH hE6;have HB6:=qH hB6;have HK6:=qH hK6;have HV6:=qH hv6;clear heq ho5 hg5 hbl5 hc52 hf52 hc5b hev5 hM6 hE6 hB6 hK6 hv6 c0 c1 c2 c3 c4 c5 f2 f3 f4 e0 e1 e2 e3 e4 e5 e6 e7 hb4' HIN;have hs46:w4.heap.size≤(w5.setCell ⟨bi,2,none⟩ (.slice B5 (x.taken.length+1) q5)).heap.size:=by omega
  clear hs5 hs6;generalize w5.setCell ⟨bi,2,none⟩ (.slice B5 (x.taken.length+1) q5)=w6 at*;have HTK:=qH (show x.took e=if e.kind=14 then({x.put e with gone:=e.per::x.gone}:Itk).drop (keepB e.per)else x.put e from rfl);obtain⟨e0,e1,e2,e3,e4,e5,e6,e7⟩:=HE6.out;have hfoot6: ∀(ng:Nat)b,ItkA.foot {A with G:=G',V:=V',vt:=.slice B5 (x.taken.length+1) q5,ng:=ng} bi b→F b∨w.heap.size≤b:=fun ng b hb=>by
   have hfo:=HFO.out b;rcases hb with rfl|rfl|rfl|hb|hb|hb|rfl|rfl;·exact .inl (hfo (.inl rfl))
   ·exact .inl (hfo (.inr (.inl rfl)))
   ·exact .inl (hfo (.inr (.inr (.inl rfl))))
   ·exact HG3.out b hb
   ·exact HV6.out b hb
   ·exact .inl (hfo (.inr (.inr (.inr (.inr (.inr (.inl hb)))))))
   ·exact .inl (hfo (.inr (.inr (.inr (.inr (.inr (.inr (.inl rfl))))))))
   ·exact .inl (hfo (.inr (.inr (.inr (.inr (.inr (.inr (.inr rfl))))))))
  have HFT:=qH hfoot6;clear hfoot6;by_cases hk14:e.kind=14
  ·have HTK':=qH (show x.took e=({x.put e with gone:=e.per::x.gone}:Itk).drop (keepB e.per)by rw[HTK.out,if_pos hk14]);have bk:(e.kind==14)=true:=by simpa using hk14
   clear hk14;obtain⟨c0,c1,c2,c3,c4,c5',f2,f3,f4⟩:=HM6.out.cells;simp only at c5';have hb6':=HB6.out;have hper:e.per.length≤1000000000:=hsm.2.1;go_wp2;go_still_tail 6,(by kernel_rfl);change wpList _ _ _ _ _ (w6.drewN 1);have HGN:=qH (show SetB (w6.drewN 1) A.bg A.ng x.gone from HM6.out.gone.drewN 1);refine wpList_setput rfl (.tmp 38) (.tmp 40) _ rfl A.bg A.ng x.gone rfl HGN.out (by unfold maxLen;omega) e.per rfl (by unfold maxLen;omega) rfl ?_;intro w7 hs7 hg7;have hg7':w6.grownBy w7 (some A.bg):=⟨hg7.os,hg7.tape,hg7.output,hg7.size,hg7.block⟩;have hM7:=HM6.out.setGone hs7 hg7';have hsz7:=hg7'.size;have hK7:Keep F w w7:=HK6.out.trans (Keep.of_grown (F:=F) hg7' (fun k h=>by injection h with h;exact HFO.out k (.inr (.inr (.inr (.inr (.inr (.inr (.inr h.symm))))))))) (fun _ _ h=>h);have hnb:w.heap.size≠A.bg∧w.heap.size+1≠A.bg:=by have:=HM.out.gone.lt;omega
   have hB7:w7.cell? ⟨w.heap.size,0,none⟩=some (.pointer (some ⟨bi,0,none⟩)):=(World.cell?_of_block (w:=w6) (a:=⟨w.heap.size,0,none⟩) (hg7'.block _ (by show w.heap.size<_;omega) (fun q=>hnb.1 (by injection q)))).trans HB6.out;have hE7:EvIn w7 (w.heap.size+1) e:=by obtain⟨a0,a1,a2,a3,a4,a5,a6,a7⟩:=HE6.out;have key: ∀(o:Nat)u,w6.cell? ⟨w.heap.size+1,o,none⟩=some u→w7.cell? ⟨w.heap.size+1,o,none⟩=some u:=fun o u hu=>(World.cell?_of_block (w:=w6) (a:=⟨w.heap.size+1,o,none⟩) (hg7'.block _ (by show w.heap.size+1<_;omega) (fun q=>hnb.2 (by injection q)))).trans hu;exact⟨key _ _ a0,key _ _ a1,key _ _ a2,key _ _ a3,key _ _ a4,key _ _ a5,key _ _ a6,key _ _ a7⟩
   have hI7:ItkAt w7 (fun b=>F b∨(w.heap.size≤b∧b<w7.heap.size)) bi (N+1) {x.put e with gone:=e.per::x.gone}:=⟨_,hM7,HIO.out.gone _,by show A.nl≤_;omega,by show A.ng+1≤_;omega,fun b hb=>(HFT.out _ b hb).imp id (fun h=>⟨h,hM7.lt hb⟩),fun b hb=>by
    rcases hb with hb|hb;·have:=HFL.out b hb;omega
    ·exact hb.2⟩;have HI7:=qH hI7;have HE7:=qH hE7;have HK7:=qH hK7;clear hs7 hg7 hg7' hM7 hK7 hE7 hI7 e0 e1 e2 e3 e4 e5 e6 e7 c0 c1 c2 c3 c4 c5' f2 f3 f4 hb6' hper hnb;go_wp2_with fail;refine(drop_any w7 _ bi (N+1) _ HI7.out (by omega) 90 #[.pointer (some ⟨w.heap.size+1,0,none⟩)] (keepB e.per) (fun _ _=>by kernel_rfl) (fun w8 y _ hb8=>take2_any w8 (w.heap.size+1) y e (HE7.out.below hb8 (by omega)) (by have:=hb8.size;omega))).mono ?_;rintro r w8⟨rfl,F8,hI8,hK8,hF8⟩;have hD:Deeds w F bi (N+1) (x.took e) w8:=by
    refine⟨F8,by rw[HTK'.out];exact hI8,HK7.out.trans hK8 (fun b hb h=>h.elim id (fun h=>by omega)),fun b hb=>?_⟩;rcases hF8 b hb with h|h;·exact h.imp id (fun h=>h.1)
    ·right;omega
   have HD:=qH hD;clear hI8 hK8 hF8 hD hB7;go_wp2;go_end0;exact⟨rfl,HD.out⟩
  ·have HTK':=qH (show x.took e=x.put e by rw[HTK.out,if_neg hk14]);have bk:(e.kind==14)=false:=by simpa using hk14
   clear hk14;go_wp2;go_end0;refine⟨rfl,fun b=>F b∨(w.heap.size≤b∧b<w6.heap.size),⟨_,by rw[HTK'.out];exact HM6.out,by rw[HTK'.out];exact HIO.out,by show A.nl≤_;omega,by show A.ng≤_;omega,fun b hb=>(HFT.out A.ng b hb).imp id (fun h=>⟨h,HM6.out.lt hb⟩),fun b hb=>?_⟩,HK6.out,fun b hb=>hb.imp id (fun h=>h.1)⟩;rcases hb with hb|hb;·have:=HFL.out b hb;omega
   ·exact hb.2
theorem ItkAt.setClk{w w':World}{F:Nat→Prop}{bi N M:Nat}{x:Itk}{A:ItkA}(hM:ItkMem w bi A x)(hnl:A.nl≤N)(hng:A.ng≤N)(hNM:N≤M)(hfo: ∀b,A.foot bi b→F b)(hFl: ∀b,F b→b<w.heap.size){c:Clk}(hc:ClockAt w' A.bc A.bm c)(hk:Keep (fun b=>b=A.bc∨b=A.bm) w w')(hok:ItkOk M {x with clk:=c}):ItkAt w' F bi M {x with clk:=c}∧ItkMem w' bi A {x with clk:=c}∧Keep F w w':=⟨⟨A,hM.setClk hc hk,hok,Nat.le_trans hnl hNM,Nat.le_trans hng hNM,hfo,fun b hb=>Nat.lt_of_lt_of_le (hFl b hb) hk.size⟩,hM.setClk hc hk,hk.mono fun b _ hb=>by
 rcases hb with rfl|rfl;·exact hfo _ (.inr (.inl rfl))
 ·exact hfo _ (.inr (.inr (.inl rfl)))⟩
theorem ItkOk.later{N:Nat}{x:Itk}(h:ItkOk N x){e:Ev}(he:mayB e=true):ItkOk (N+1) {x with late:=x.late++[e]}:=by
 refine⟨h.sorted,fun a ha=>?_,Nat.le_succ_of_le h.src,Nat.le_succ_of_le h.had,fun s=>Nat.le_succ_of_le (h.rows s),Nat.le_succ_of_le h.taken,?_⟩
 ·rcases ha with ha|ha;·exact h.may a (.inl ha)
  ·rcases List.mem_append.1 ha with ha|ha;·exact h.may a (.inr ha)
   ·simp at ha;subst ha;exact he
 ·have:=h.late;simp;omega
theorem step_run_append{P:Program}{ops:Array Oper}{o:Oper}{a:Act}{w:World}{K:Act→World→Prop}{Q:Exit→Act→World→Prop}{E:Prop}(hgd:o.guard=none)(s x:Operand)(t:TypeId)(hop:o.op=Op.call {callee:=Callee.builtin Builtin.append,args:= #[s,x],argTypes:= #[t,t]})(v u:Value)(hs:a.eval s=v)(hx:a.eval x=u){v':Value}{w':World}(hr:(Builtin.append_ #[t,t] o.type #[v,u]).run P w=.ok v' w')(hK:K (a.put o.dst v') w'):if Region.wanted o (yielded ops a.tmps)=true then Oper.wp P o a w K Q else E:=by
 have hw:Region.wanted o (yielded ops a.tmps)=true:=by simp[Region.wanted,hgd]
 rw[if_pos hw];unfold Oper.wp;simp[execOp,hop,resolve,invoke,builtin,hs,hx,hr,Result.andThen];exact hK
def OfferPost(w:World)(F:Nat→Prop)(bi N:Nat)(x:Itk)(v:Int)(r:Ending)(w':World):Prop:=r=.returned (.int .i64 v)∧Deeds w F bi N x w'
theorem ev_out{F:Nat→Prop}{w w':World}(hk:Keep F w w'){b:Nat}(hb:b<w.heap.size)(hF: ¬F b){e:Ev}(h:EvIn w b e):EvIn w' b e:=by obtain⟨a0,a1,a2,a3,a4,a5,a6,a7⟩:=h;have key: ∀(o:Nat)u,w.cell? ⟨b,o,none⟩=some u→w'.cell? ⟨b,o,none⟩=some u:=fun o u hu=>(hk.cell (p:=⟨b,o,none⟩) hb hF).trans hu;exact⟨key _ _ a0,key _ _ a1,key _ _ a2,key _ _ a3,key _ _ a4,key _ _ a5,key _ _ a6,key _ _ a7⟩
theorem MaxAt.out{F:Nat→Prop}{w w':World}(h:MaxAt w)(hk:Keep F w w')(hF: ¬F 0):MaxAt w':=by have hl:=h.lt;obtain⟨m,h⟩:=h;exact⟨m,(hk.cell (p:=⟨0,0,none⟩) hl hF).trans h⟩
end Go.Proofs.YtbejfgmdkmddnaaGreatDoor
