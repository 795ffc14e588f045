/-
  TopTwin, plain: of a tale's events each of two intakes took some, and each event came to one of both.
-/
import Derived.Test.YtcmmclliabhnjaaGreatDoorWHadM
import Derived.Test.YtcmmclliabhnjaaGreatDoorWItkTake
import Derived.Test.YtcmmclliabhnjaaGreatDoorWGrPlain
import Derived.Test.YtcmmclliabhnjaaGreatDoorWItkOff0
import Derived.RegionTactic
import Derived.BigRegion
import Derived.Deep.DeepCutAuto
import Derived.Test.YtcmmclliabhnjaaGreatDoorWPnM
import Derived.Test.YtcmmclliabhnjaaGreatDoorWOfP
import Derived.Test.YtcmmclliabhnjaaGreatDoorWTwSmG
import Derived.Test.YtcmmclliabhnjaaGreatDoorWTaleRow
set_option maxRecDepth 100000
set_option maxHeartbeats 16000000
namespace Go.Proofs.YtcmmclliabhnjaaGreatDoor
open Go.RowKit Go.Maps Go.Sort Go.Shelf
def HadPost(w:World)(m:Had)(e:Ending)(w':World):Prop:= ∃bs bm G V,e=.returned (.pointer (some ⟨bs,0,none⟩))∧HadAt w' G bs bm m V∧Below w.heap.size w w'∧ ∀b,G b→w.heap.size≤b
theorem row_of_mem{m:Had}(h:HadOk m){p:List UInt8×Rg}(hp:p∈m):hadRow m p.1=p.2:=by unfold hadRow;rw[getB_of_mem h.up (v:=p.2) hp];rfl
theorem ihad_any(w:World)(F:Nat→Prop)(bi N:Nat)(x:Itk)(h:ItkAt w F bi N x)(hN:N≤90000):Calls Tryz.prog 41 #[.pointer (some ⟨bi,0,none⟩)] w (HadPost w x.had):=by
 obtain⟨A,hM,hO,_,_,_,_⟩:=h;have HM:=qH hM;have hhl:=hO.had;have HRW:=qH hO.rows;clear hM hO;go_enter Tryz.func41,Tryz.ntmps41;go_wp2_with fail;refine(hadnew_any w).mono ?_;rintro r w1⟨bs,bm,rfl,hd1,hbs,hbm,hb1⟩;have HD1:=qH hd1;have HB1:=qH hb1;have HM1:=qH (HM.out.up hb1);obtain⟨c0,c1,c2,c3,c4,c5,f2,f3,f4⟩:=HM1.out.cells;have HGL:=qH (show∀b,A.G b→b<w.heap.size from fun b hb=>HM.out.had.lt b hb);clear hd1 hb1;go_wp2_with fail;with_reducible refine(merge_any w1 (fun b=>b=bs∨b=bm) A.G bs bm A.bs A.bh [] x.had (fun _=>.slice none 0 0) A.V HD1.out HM1.out.had (fun b hb hg=>by have:=HGL.out b hg;rcases hb with rfl|rfl<;>omega) (by simp;omega) (fun s=>by simp[hadRow,getB]) (fun p hp=>by have:=HRW.out p.1;rw[row_of_mem HM.out.had.ok hp]at this;omega)).mono ?_
 rintro r w2⟨rfl,G2,m2,V2,hd2,hhas,hk2,hG2⟩;have hm2:m2=x.had:=had_unique hd2.ok HM.out.had.ok (fun s n=>by rw[hhas];simp[hadB,hadRow,getB,hasR]);subst hm2;have HF:=qH (show HadPost w x.had (.returned (.pointer (some ⟨bs,0,none⟩))) w2 from⟨bs,bm,G2,V2,rfl,hd2,HB1.out.trans (hk2.below HB1.out.size (fun k hk hF=>by rcases hF with rfl|rfl<;>omega)),fun b hb=>by
  have:=HB1.out.size;rcases hG2 b hb with(rfl|rfl)|h';·exact hbs
  ·exact hbm
  ·omega⟩);clear hd2 hhas hk2 hG2 c0 c1 c2 c3 c4 c5 f2 f3 f4;go_wp2;go_ret;exact HF.out
structure LowC(c:Clk):Prop where
 mark:c.mark= -1
 slack:c.slack=1073741824
 src: ∀p∈c.src,p.2.1≤100000
theorem LowC.new:LowC (Clk.new 1073741824 0):=⟨rfl,by decide,by simp[Clk.new]⟩
theorem LowC.rise{c:Clk}(h:LowC c):LowC c.rise:=by unfold Clk.rise;cases ht:c.told with|none=>exact h|some m=>obtain⟨⟨p,hp,_,rfl⟩,_⟩:=told_some.1 ht;have h1:=h.src p hp;have h2:=h.slack;have h3:=h.mark;exact⟨by simp only;omega,h2,h.src⟩
theorem LowC.tick{c:Clk}(h:LowC c)(now:Int):LowC (c.tick now):=LowC.rise ⟨h.mark,h.slack,h.src⟩
theorem LowC.heard{c:Clk}(h:LowC c)(name:List UInt8)(at_:Int)(ha:at_≤100000):LowC (c.heard name at_):=by
 refine LowC.rise ⟨h.mark,h.slack,fun p hp=>?_⟩;rcases putB_mem.1 hp with rfl|⟨hp,_⟩;·cases hg:getB c.src name with|none=>simp only[Option.getD_none];omega|some q=>have:=h.src _ (getB_mem hg);simp only[Option.getD_some]at*;omega
 ·exact h.src p hp
theorem LowC.hear{c:Clk}(h:LowC c)(name:List UInt8)(at_ now:Int)(ha:at_≤100000):LowC (c.hear name at_ now):=by
 unfold Clk.hear;split;·exact(h.tick now).heard name at_ ha
 ·exact h.tick now
theorem LowC.hears{c:Clk}(h:LowC c){e:Ev}(hm:mayB e=true)(h0:0≤e.at_)(ha:e.at_≤100000):c.hears e.src e.at_=true:=by unfold mayB headB at hm;simp only[Bool.and_eq_true,decide_eq_true_eq]at hm;unfold Clk.hears;simp only[Bool.and_eq_true,decide_eq_true_eq];have:=h.mark;exact⟨⟨⟨hm.1.1.1.1.1,h0⟩,by omega⟩,by omega⟩
def offsI(l:List Ev):Itk:=l.foldl (fun x e=>x.offer e 0) (Itk.new 1073741824 0)
theorem offsI_snoc(l:List Ev)(e:Ev):offsI (l++[e])=(offsI l).offer e 0:=by unfold offsI;rw[List.foldl_append];rfl
structure OffInv(p:List Ev)(x:Itk):Prop where
 ord:OrdInv p x
 low:LowC x.clk
 late:x.late=[]
 gone:x.gone=[]
theorem OffInv.new:OffInv [] (Itk.new 1073741824 0):=⟨OrdInv.new _ _,LowC.new,rfl,rfl⟩
theorem OffInv.offer{p:List Ev}{x:Itk}{e:Ev}(h:OffInv p x)(hp:p.length≤1000)(ha:AlikeP (p++[e]))(hm:mayB e=true)(hk:e.kind≠14)(h0:0≤e.at_)(h1:e.at_≤100000):OffInv (p++[e]) (x.offer e 0):=by
 have hlow:LowC ((x.tick 0).clk.tick 0):=(h.low.tick 0).tick 0;have hh:=hlow.hears hm h0 h1;have hoff:x.offered e 0≠2:=by
  unfold Itk.offered;split
  ·unfold Itk.verdict;split;·decide
   ·split<;>decide
  ·(try rw[if_pos hh]);decide
 refine⟨h.ord.offer hp ha 0 hoff,?_,?_,?_⟩
 ·unfold Itk.offer;split;·exact h.low.tick 0
  ·(try rw[if_pos hh]);unfold Itk.took;rw[if_neg hk];exact(h.low.tick 0).hear _ _ _ h1
 ·unfold Itk.offer;split;·exact h.late
  ·(try rw[if_pos hh]);unfold Itk.took;rw[if_neg hk];exact h.late
 ·unfold Itk.offer;split;·exact h.gone
  ·(try rw[if_pos hh]);unfold Itk.took;rw[if_neg hk];exact h.gone
theorem offs_inv{L:List Ev}(hm: ∀e∈L,mayB e=true∧e.kind≠14)(hl: ∀e∈L,0≤e.at_∧e.at_≤100000)(hA:AlikeP L): ∀l:List Ev,l.length≤1000→(∀e∈l,e∈L)→OffInv l (offsI l):=fun l=>by
 have key: ∀k,k≤l.length→l.length≤1000→(∀e∈l,e∈L)→OffInv (l.take k) (offsI (l.take k)):=fun k=>by
  induction k with
   |zero=>intro _ _ _;exact OffInv.new
   |succ k ih=>
    intro hk h1 h2;have e1:l.take (k+1)=l.take k++[l[k]]:=by rw[List.take_add_one,List.getElem?_eq_getElem (by omega),Option.toList_some]
    have hmem: ∀e∈l.take k++[l[k]],e∈L:=fun e he=>by rw[←e1]at he;exact h2 e (List.mem_of_mem_take he)
    have hL:=hmem l[k] (List.mem_append_right _ (List.mem_singleton.2 rfl));rw[e1,offsI_snoc];exact(ih (by omega) h1 h2).offer (by rw[List.length_take];omega) (fun a ha b hb=>hA a (hmem a ha) b (hmem b hb)) (hm _ hL).1 (hm _ hL).2 (hl _ hL).1 (hl _ hL).2
 intro h1 h2;have:=key l.length (Nat.le_refl _) h1 h2;rwa[List.take_length]at this
theorem offer_any(w:World)(F:Nat→Prop)(bi N:Nat)(x:Itk)(h:ItkAt w F bi N x)(hN:N+2<100000)(e:Ev)(hsm:e.small)(now:Int)(hmx:MaxAt w)(hF0: ¬F 2):Calls Tryz.prog 31 #[.pointer (some ⟨bi,0,none⟩),e.agg,.int .i64 now] w (OfferPost w F bi (N+2) (x.offer e now) (x.offered e now)):=by
 obtain⟨A,hM,hO,hnl,hng,hfoot,hFlt⟩:=h;have HM:=qH hM;have HO:=qH hO;have HFO:=qH hfoot;have HFL:=qH hFlt;have HMX:=qH hmx;have HF0:=qH hF0;have hlt:bi<w.heap.size:=hM.lt (.inl rfl);clear hM hO hfoot hFlt hmx hF0;have HOF:=qH (show x.offer e now=if(x.tick now).refuses e then x.tick now else if((x.tick now).clk.tick now).hears e.src e.at_ then((x.tick now).hear e now).took e else((x.tick now).hear e now).lates e from rfl);have HOV:=qH (show x.offered e now=if(x.tick now).refuses e then(x.tick now).verdict e else if((x.tick now).clk.tick now).hears e.src e.at_ then 0 else 2 from rfl);unfold Ev.agg;go_enter Tryz.func31,Tryz.ntmps31;have hbA:Below w.heap.size w (w.alloc (evObj e)):=(Below.refl _ _).alloc (Nat.le_refl _) _;obtain⟨c0,c1,c2,c3,c4,c5,f2,f3,f4⟩:=(HM.out.up hbA).cells;go_wp2_with fail;have HE0:=qH (EvIn.new w e);have hsA:(w.alloc (evObj e)).heap.size=w.heap.size+1:=by simp
 have HM0:=qH (HM.out.up hbA);have HMX0:=qH (HMX.out.up hbA);clear c0 c1 c2 c3 c4 c5 f2 f3 f4;generalize w.alloc (evObj e)=w0 at*;refine(tick_any w0 A.bc A.bm x.clk HM0.out.clk now).mono ?_;rintro r w1⟨rfl,hc1,hk1⟩;have hok1:ItkOk N (x.tick now):=HO.out.tick now;obtain⟨hI1,hM1,hK1⟩:=ItkAt.setClk (N:=N) (M:=N) HM0.out hnl hng (Nat.le_refl _) HFO.out (fun b hb=>by have:=HFL.out b hb;omega) hc1 (hk1.mono (F:=fun b=>b=A.bc∨b=A.bm) (fun _ _ h=>.inl h)) hok1;have nF: ¬F w.heap.size:=fun h=>by have:=HFL.out _ h;omega
 have HI1:=qH (show ItkAt w1 F bi N (x.tick now)from hI1);have HM1:=qH (show ItkMem w1 bi A (x.tick now)from hM1);have HK1:=qH (show Keep F w w1 from(Keep.of_below (F:=F) hbA).trans hK1 (fun _ _ h=>h));have HE1:=qH (ev_out hK1 (by omega) nF HE0.out);have HMX1:=qH (HMX0.out.out hK1 HF0.out);have HO1:=qH hok1;have hs1:=hK1.size;clear hc1 hk1 hI1 hM1 hK1 hok1;generalize x.tick now=y at*;obtain⟨e0,e1,e2,e3,e4,e5,e6,e7⟩:=HE1.out;go_wp2_with fail;refine(refused_any w1 F bi N y HI1.out (by omega) e hsm HMX1.out).mono ?_;rintro r w2⟨rfl,hb2⟩;have HI2:=qH (HI1.out.up hb2);have HM2:=qH (HM1.out.up hb2);have HK2:=qH (HK1.out.trans (Keep.of_below (F:=F) hb2) (fun _ _ h=>h));have HE2:=qH (HE1.out.below hb2 (by omega));have HMX2:=qH (HMX1.out.up hb2);have hs2:=hb2.size;clear e0 e1 e2 e3 e4 e5 e6 e7 hb2;cases href:y.refuses e
 ·have HREF:=qH href;have hww:y.wrong e=false∧hadB y.had e.src e.num=false:=by unfold Itk.refuses at href;simpa using href
  have HMAY:=qH (show mayB e=true by have:=hww.1;unfold Itk.wrong at this;simp only[Bool.or_eq_false_iff,Bool.not_eq_false']at this;exact this.1.1);have HHAD:=qH hww.2;clear href hww;obtain⟨c0,c1,c2,c3,c4,c5,f2,f3,f4⟩:=HM2.out.cells;obtain⟨e0,e1,e2,e3,e4,e5,e6,e7⟩:=HE2.out;go_wp2;go_still_tail 9,(by kernel_rfl);change wpList _ _ _ _ _ (w2.drewN 1);have hbq:Below w2.heap.size w2 (w2.drewN 1):=below_drewN (Below.refl _ _) 1;have hsq:(w2.drewN 1).heap.size=w2.heap.size:=rfl;clear e0 e1 e2 e3 e4 e5 e6 e7 c0 c1 c2 c3 c4 c5 f2 f3 f4;generalize w2.drewN 1=w3 at*;have HM3:=qH (HM2.out.up hbq);have HE3:=qH (HE2.out.below hbq (by omega));have HK3:=qH (HK2.out.trans (Keep.of_below (F:=F) hbq) (fun _ _ h=>h));clear hbq;go_wp2_with fail;refine(hear_any w3 A.bc A.bm y.clk HM3.out.clk e.src e.at_ now (by have:=HO1.out.src;omega)).mono ?_;rintro r w4⟨rfl,hc4,hk4⟩;have hok4:ItkOk (N+1) (y.hear e now):=HO1.out.hear e now;obtain⟨hI4,hM4,hK4⟩:=ItkAt.setClk (N:=N) (M:=N+1) HM3.out hnl hng (by omega) HFO.out (fun b hb=>by have:=HFL.out b hb;omega) hc4 hk4 hok4;have HI4:=qH (show ItkAt w4 F bi (N+1) (y.hear e now)from hI4);have HM4:=qH (show ItkMem w4 bi A (y.hear e now)from hM4);have HK4:=qH (HK3.out.trans hK4 (fun _ _ h=>h));have HE4:=qH (ev_out hK4 (by omega) nF HE3.out);have HO4:=qH hok4;have hs4:=hK4.size;have HH4:=qH (show(y.hear e now).had=y.had from rfl);clear hc4 hk4 hI4 hM4 hK4 hok4;have HOF2:=qH (show x.offer e now=if(y.clk.tick now).hears e.src e.at_ then(y.hear e now).took e else(y.hear e now).lates e by rw[HOF.out,HREF.out];rfl);have HOV2:=qH (show x.offered e now=if(y.clk.tick now).hears e.src e.at_ then 0 else 2 by rw[HOV.out,HREF.out];rfl);generalize(y.clk.tick now).hears e.src e.at_=ok at*;generalize y.hear e now=z at*;obtain⟨e0,e1,e2,e3,e4,e5,e6,e7⟩:=HE4.out;cases ok
  ·have HV:=qH (show x.offered e now=2 by rw[HOV2.out];rfl);have HR:=qH (show x.offer e now=if idOf e∈z.late.map idOf then z else{z with late:=z.late++[e]}by rw[HOF2.out];rfl);go_wp2_with fail;refine(ident_any w4 e).mono ?_;rintro r w5⟨rfl,hb5⟩;have hs5:=hb5.size;clear e0 e1 e2 e3 e4 e5 e6 e7;have hbI:Below w4.heap.size w4 (w5.alloc (.cells #[.string ⟨e.src.toArray⟩,.int .i64 e.num] 150)):=hb5.alloc hs5 _;have hM6:=HM4.out.up hbI;have hE6:=HE4.out.below hbI (by omega);have hI6: ∀o,(w5.alloc (.cells #[.string ⟨e.src.toArray⟩,.int .i64 e.num] 150)).cell? ⟨w5.heap.size,o,none⟩=_:=fun o=>cell_of_row _ w5.heap.size o _ _ (0,0) (heap_alloc_new w5 _);have hI60:=(hI6 0).trans rfl;have hI61:=(hI6 1).trans rfl;have hs6:(w5.alloc (.cells #[.string ⟨e.src.toArray⟩,.int .i64 e.num] 150)).heap.size=w5.heap.size+1:=by simp
   have hlk6: ∀k,(Instr.lookup 117 (.map (some A.bl)) (.agg #[.string ⟨e.src.toArray⟩,.int .i64 e.num]) false).run Tryz.prog ((w5.alloc (.cells #[.string ⟨e.src.toArray⟩,.int .i64 e.num] 150)).drewN k)=.ok (.bool (decide ((e.src,e.num)∈z.late.map idOf))) ((w5.alloc (.cells #[.string ⟨e.src.toArray⟩,.int .i64 e.num] 150)).drewN k):=fun k=>(SetI.block (w':=(w5.alloc (.cells #[.string ⟨e.src.toArray⟩,.int .i64 e.num] 150)).drewN k) hM6.lates rfl).look e.src e.num (may_id HMAY.out);have hlk0:=hM6.lates.look e.src e.num (may_id HMAY.out);have hcells6:=hM6.cells;have HM6:=qH hM6;have HE6:=qH hE6;have HI6:=qH (HI4.out.up hbI);have HK6:=qH (HK4.out.trans (Keep.of_below (F:=F) hbI) (fun _ _ h=>h));clear hI6 hM6 hE6 hb5 hbI;obtain⟨c0,c1,c2,c3,c4,c5,f2,f3,f4⟩:=hcells6;go_wp2;generalize w5.alloc (.cells #[.string ⟨e.src.toArray⟩,.int .i64 e.num] 150)=w6 at*;have HRR:=qH (show x.offer e now=if(e.src,e.num)∈z.late.map idOf then z else{z with late:=z.late++[e]}from HR.out);cases hin:decide ((e.src,e.num)∈z.late.map idOf)
   ·have HR2:=qH (show x.offer e now={z with late:=z.late++[e]}by rw[HRR.out,if_neg (of_decide_eq_false hin)]);rw[hin]at hlk6 hlk0;clear hin;go_quiet(fail);have HM7:=qH (show ItkMem (w6.drewN nq) bi A z from HM6.out.keep (Nat.le_refl _) (fun _ _=>rfl));have HE7:=qH (show EvIn (w6.drewN nq) w.heap.size e from HE6.out);have HK7:=qH (HK6.out.drewN nq);have hs7:(w6.drewN nq).heap.size=w6.heap.size:=rfl;have i0:(w6.drewN nq).cell? ⟨w5.heap.size,0,none⟩=_:=hI60;have i1:(w6.drewN nq).cell? ⟨w5.heap.size,1,none⟩=_:=hI61;clear hlk6 hlk0 hI60 hI61 c0 c1 c2 c3 c4 c5 f2 f3 f4;generalize w6.drewN nq=w7 at*;obtain⟨c0,c1,c2,c3,c4,c5,f2,f3,f4⟩:=HM7.out.cells;go_wp2;go_still_tail 5,(by kernel_rfl);change wpList _ _ _ _ _ (w7.drewN 1);have HS7:=qH (SetI.block (w':=w7.drewN 1) HM7.out.lates rfl);refine wpList_idput rfl (.tmp 47) (.tmp 48) _ rfl A.bl A.nl (z.late.map idOf) rfl HS7.out (by unfold maxLen;omega) e.src e.num rfl (may_id HMAY.out) rfl ?_;intro w8 hs8 hg8;have hg8':w7.grownBy w8 (some A.bl):=⟨hg8.os,hg8.tape,hg8.output,hg8.size,hg8.block⟩;have hsz8:=hg8'.size;have hbl8:=HM.out.lates.lt;have hbi7:=HM7.out.lt (.inl rfl:A.foot bi bi);have hbi8:w8.heap[bi]?=some (itkObj A):=(hg8'.block bi hbi7 (fun q=>HM7.out.il (by injection q))).trans HM7.out.blk;have hE8:EvIn w8 w.heap.size e:=ev_out (F:=fun b=>b=A.bl) (Keep.of_grown hg8' (fun k h=>by injection h with h;exact h.symm)) (by omega) (by omega) HE7.out;have hol8:OwnE w8 0 A.vl z.late:=HM7.out.late.keep fun b hb=>hg8'.block b (HM7.out.late.lt hb) (fun q=>(HM7.out.ev (HM7.out.late.typ hb)).2.2.2.2.1 (by injection q));obtain⟨B,cp,hvl,hcm⟩:=hol8.form;have HS8:=qH hs8;have HG8:=qH hg8';have HOL8:=qH hol8;have HBI8:=qH hbi8;have HK8:=qH (HK7.out.trans (Keep.of_grown (F:=F) hg8' (fun k h=>by injection h with h;exact HFO.out k (.inr (.inr (.inr (.inr (.inr (.inr (.inl h.symm))))))))) (fun _ _ h=>h));clear hs8 hg8 hg8' hol8 hbi8 i0 i1 c0 c1 c2 c3 c4 c5 f2 f3 f4;obtain⟨e0,e1,e2,e3,e4,e5,e6,e7⟩:=hE8;have hc3:w8.cell? ⟨bi,3,none⟩=some (.slice B z.late.length cp):=by rw[←hvl];exact(cell_of_row w8 bi 3 _ _ (0,0) HBI8.out).trans rfl
    have hbi8':bi<w8.heap.size:=by omega
    have hw8:w.heap.size<w8.heap.size:=by omega
    obtain⟨i0,hi0,hz0,hzs,hzb⟩:=info_parts ev_info;have hbB:Below w8.heap.size w8 (w8.alloc (evObj e)).drew:=((Below.refl _ _).alloc (Nat.le_refl _) _).drew;have hownW:OwnE (w8.alloc (evObj e)).drew 0 (.slice B z.late.length cp) z.late:=by have:=HOL8.out.keep (w':=(w8.alloc (evObj e)).drew) (fun b hb=>hbB.block b (HOL8.out.lt hb));rw[hvl]at this;exact this
    have hcel:Cel (w8.alloc (evObj e)).drew (w8.heap.size+1) 8 (some ⟨w8.heap.size,0,none⟩) 1 1 e.cells:=by have:=Cel.new (n:=1) (size:=8) w8 e.cells.toArray 74 (by unfold maxLen;omega) rfl;exact Cel.keep (w':=(w8.alloc (evObj e)).drew) this (fun _ _=>rfl)
    have hap:=fun ty=>run_app (P:=Tryz.prog) (w8.alloc (evObj e)).drew 23 ty 74 i0 _ 8 96 Tryz.underlying23 hi0 hz0 hzs hzb rfl (by decide) 0 _ z.late.length (evCells z.late) hownW (w8.heap.size+1) _ 1 1 e.cells hcel (cells_one e) (by have:=HO4.out.late;unfold maxLen;omega) (by have:=HO4.out.late;omega) (Nat.zero_le _);obtain⟨v9,w9,hr9,ho9,hg9,hb9⟩:=hap 23;obtain⟨B9,cp9,rfl⟩:=ownsRow_form ho9;clear hap;have nbi:(Value.slice B z.late.length cp).ownBlock≠some bi:=fun h=>by rw[←hvl]at h;exact(HM7.out.ev (HM7.out.late.typ h)).1 rfl
    have hg89:w8.grownBy w9 A.vl.ownBlock:=by rw[hvl];have:=(show w8.grownBy (w8.alloc (evObj e)).drew none from⟨hbB.os,hbB.tape,hbB.output,hbB.size,fun i hi _=>hbB.block i hi⟩);exact(this.but _).andThen hg9 (fun j hj=>.inr hj)
    have hbi9:w9.heap[bi]?=some (itkObj A):=(hg89.block bi hbi8' (by rw[hvl];exact Ne.symm nbi)).trans HBI8.out;have hc93:w9.cell? ⟨bi,3,none⟩=some (.slice B z.late.length cp):=by rw[←hvl];exact(cell_of_row w9 bi 3 _ _ (0,0) hbi9).trans rfl
    have hf93:w9.frozen? ⟨bi,3,none⟩=false:=frozen_of_row w9 bi 3 _ _ hbi9;have HOL9:=qH (show OwnE w9 0 (.slice B9 (z.late.length+1) cp9) (z.late++[e])by unfold OwnE;rw[evCells_one,List.length_append];exact ho9);have HBB9:=qH (show(Value.slice B9 (z.late.length+1) cp9).ownBlock=A.vl.ownBlock∨ ∃k,(Value.slice B9 (z.late.length+1) cp9).ownBlock=some k∧w8.heap.size≤k by rw[hvl];exact hb9.imp id (fun h=>⟨_,h,hbB.size⟩));have HG89:=qH hg89;have HCUT:=qH (show w9.setCell ⟨bi,3,none⟩ (.slice B9 (z.late.length+1) cp9)=w9.setCell ⟨bi,3,none⟩ (.slice B9 (z.late.length+1) cp9)from rfl);clear ho9 hg9 hb9 hg89 hbi9 nbi hcel hownW hbB hi0 hz0 hzs hzb;have HR9:=qH hr9;clear hr9;go_wp2;go_region_law(refine step_run_append rfl (.tmp 53) (.tmp 55) 23 rfl (.slice B z.late.length cp) (.slice (some ⟨w8.heap.size,0,none⟩) 1 1) (by simp[Act.eval]) (by simp[Act.eval]) HR9.out ?_);all_goals
     have HMF:=qH (HM7.out.setLate HS8.out HG8.out HG89.out HOL9.out HBB9.out);clear hc93 hf93 hc3 e0 e1 e2 e3 e4 e5 e6 e7;have hs9:=HG89.out.size;go_wp2;go_ret;refine⟨ret_int HV.out.symm,fun b=>F b∨(w.heap.size≤b∧b<(w9.setCell ⟨bi,3,none⟩ (.slice B9 (z.late.length+1) cp9)).heap.size),⟨_,by rw[HR2.out];exact HMF.out,by rw[HR2.out];exact HO4.out.later HMAY.out,by show A.nl+1≤_;omega,by show A.ng≤_;omega,fun b hb=>?_,fun b hb=>?_⟩,?_,fun b hb=>hb.imp id (fun h=>h.1)⟩
     ·have hfo:=HFO.out b;have hltb:=HMF.out.lt hb;rcases hb with rfl|rfl|rfl|hb|hb|hb|rfl|rfl;·exact .inl (hfo (.inl rfl))
      ·exact .inl (hfo (.inr (.inl rfl)))
      ·exact .inl (hfo (.inr (.inr (.inl rfl))))
      ·exact .inl (hfo (.inr (.inr (.inr (.inl hb)))))
      ·exact .inl (hfo (.inr (.inr (.inr (.inr (.inl hb))))))
      ·rcases HBB9.out with q|⟨k,q,hk⟩;·exact .inl (hfo (.inr (.inr (.inr (.inr (.inr (.inl (q▸hb))))))))
       ·right;have hb':(Value.slice B9 (z.late.length+1) cp9).ownBlock=some b:=hb;rw[q]at hb';injection hb' with hb';exact⟨by omega,hltb⟩
      ·exact .inl (hfo (.inr (.inr (.inr (.inr (.inr (.inr (.inl rfl))))))))
      ·exact .inl (hfo (.inr (.inr (.inr (.inr (.inr (.inr (.inr rfl))))))))
     ·rcases hb with hb|hb;·have:=HFL.out b hb;simp[World.setCell];omega
      ·exact hb.2
     ·exact(HK8.out.trans (Keep.of_grown (F:=F) HG89.out (fun k h=>HFO.out k (.inr (.inr (.inr (.inr (.inr (.inl h)))))))) (fun _ _ h=>h)).setCell (fun _=>HFO.out bi (.inl rfl)) _
   ·have HR2:=qH (show x.offer e now=z by rw[HRR.out,if_pos (of_decide_eq_true hin)]);rw[hin]at hlk6 hlk0;clear hin;go_quiet(fail);go_wp2;go_ret;exact⟨ret_int HV.out.symm,F,by rw[HR2.out];exact(HI6.out.keep (w':=w6.drewN nq) (Nat.le_refl _) (fun _ _=>rfl)).more (by omega),HK6.out.drewN _,fun b hb=>.inl hb⟩
  ·have HR:=qH (show x.offer e now=z.took e by rw[HOF2.out];rfl);have HV:=qH (show x.offered e now=0 by rw[HOV2.out];rfl);go_wp2_with fail;refine(take_any w4 F bi (N+1) z HI4.out (by omega) e hsm HMAY.out (by rw[HH4.out];exact HHAD.out)).mono ?_;rintro r w5⟨rfl,F5,hI5,hK5,hF5⟩;have HI5:=qH hI5;have HD:=qH (show Deeds w F bi (N+2) (x.offer e now) w5 from⟨F5,by rw[HR.out];exact hI5,HK4.out.trans hK5 (fun _ _ h=>h),fun b hb=>(hF5 b hb).imp id (fun h=>by omega)⟩);clear hI5 hK5 hF5 e0 e1 e2 e3 e4 e5 e6 e7;go_wp2;go_ret;exact⟨ret_int HV.out.symm,HD.out⟩
 ·have HR:=qH (show x.offer e now=y by rw[HOF.out,href];rfl);have HV:=qH (show x.offered e now=y.verdict e by rw[HOV.out,href];rfl);clear href;go_wp2;go_ret;refine⟨ret_int HV.out.symm,F,by rw[HR.out];exact HI2.out.more (by omega),HK2.out,fun b hb=>.inl hb⟩
def turnB(ts:List UInt8)(odd:Bool)(i:Nat):Bool:=decide (ts.length=0)||(decide ((ts.getD (i%ts.length) 0).toNat%3=2)||(decide ((ts.getD (i%ts.length) 0).toNat%3=1)==odd))
def pickL(p:Nat→Bool)(l:List Ev)(k:Nat):List Ev:=((List.range k).filter p).filterMap (l[·]?)
theorem pickL_succ(p:Nat→Bool)(l:List Ev)(k:Nat)(hk:k<l.length):pickL p l (k+1)=if p k then pickL p l k++[l[k]]else pickL p l k:=by unfold pickL;rw[List.range_succ,List.filter_append,List.filterMap_append];cases h:p k<;>simp[h,List.getElem?_eq_getElem hk]
theorem pickL_mem{p:Nat→Bool}{l:List Ev}{k:Nat}{e:Ev}:e∈pickL p l k↔ ∃i,i<k∧p i=true∧l[i]?=some e:=by
 unfold pickL;simp only[List.mem_filterMap,List.mem_filter,List.mem_range];constructor;·rintro⟨i,⟨h1,h2⟩,h3⟩;exact⟨i,h1,h2,h3⟩
 ·rintro⟨i,h1,h2,h3⟩;exact⟨i,⟨h1,h2⟩,h3⟩
theorem pickL_len(p:Nat→Bool)(l:List Ev)(k:Nat):(pickL p l k).length≤k:=by unfold pickL;refine Nat.le_trans (List.length_filterMap_le _ _) (Nat.le_trans (List.length_filter_le _ _) ?_);rw[List.length_range];exact Nat.le_refl _
def OffRel(w1:World)(F:Nat→Prop)(bi:Nat)(es:List Ev)(p:Nat→Bool)(i:Value)(wr:World):Prop:= ∃(k:Nat)(F':Nat→Prop),i=.int .i64 k∧k≤es.length∧ItkAt wr F' bi (2*k) (offsI (pickL p es k))∧Keep F w1 wr∧ ∀b,F' b→F b∨w1.heap.size≤b
def OffdPost(w:World)(N:Nat)(x:Itk)(e:Ending)(w':World):Prop:= ∃bi F,e=.returned (.pointer (some ⟨bi,0,none⟩))∧ItkAt w' F bi N x∧Below w.heap.size w w'∧ ∀b,F b→w.heap.size≤b
theorem offered_any(w:World)(A B:Option Addr)(n c m d:Nat)(es:List Ev)(ts:List UInt8)(h:Evs w w.heap.size A n c es)(hb:Byt w w.heap.size B m d ts)(hn:n≤60)(hm:m≤60)(odd:Bool)(hsm: ∀e∈es,e.small)(hmx:MaxAt w):Calls Tryz.prog 11 #[.slice A n c,.slice B m d,.bool odd] w (OffdPost w (2*n) (offsI (pickL (turnB ts odd) es n))):=by
 have HE:=qH h;have HBY:=qH hb;have HSM:=qH hsm;have HMX:=qH hmx;have HL:=qH h.len;have HML:=qH hb.len;have hml:=hmx.lt;clear h hb hsm hmx;go_enter Tryz.func11,Tryz.ntmps11;go_wp2_with fail;refine(itknew_any w 1073741824 0).mono ?_;rintro r w1⟨bi,F,rfl,hI,hb1,hF⟩;have HF:=qH hF;have HB1:=qH hb1;have hs1:=hb1.size;have HST:=qH (show OffRel w1 F bi es (turnB ts odd) (.int .i64 ((0:Nat):Int)) w1 from⟨0,F,rfl,Nat.zero_le _,hI,Keep.refl _ _,fun b hb=>.inl hb⟩);clear hI hb1 hF;go_wp2;go_loopw[13](fun i wr=>OffRel w1 F bi es (turnB ts odd) i wr)(fun i _=>n-(intOf i).toNat);case atStart=>exact HST.out
 case round=>
  obtain⟨k,F',rfl,hk,hit,hkp,hF'⟩:=hrel;have HIT:=qH hit;have HKP:=qH hkp;have HFF:=qH hF';have HBW:=qH (show Below w.heap.size w wr from HB1.out.trans (hkp.below hs1 (fun b hb hh=>by have:=HF.out b hh;omega)));have hsr:=hkp.size;have hkl:k≤n:=by have:=HL.out;omega
  clear hit hkp hF';by_cases hkn:k<n
  ·have hke:k<es.length:=by have:=HL.out;omega
   have t1:(k:Int)<n:=by omega
   obtain⟨b,o,rfl,_,hd⟩:=(show Evs wr w.heap.size A n c es from Cel.below HE.out HBW.out).ev k hke;have HTK:=qH (pickL_succ (turnB ts odd) es k hke);have HSE:=qH (HSM.out es[k] (List.getElem_mem hke));obtain⟨e0,e1,e2,e3,e4,e5,e6,e7⟩:=hd;generalize es[k]=e at*;have hba:Below wr.heap.size wr (wr.alloc (evObj e)):=(Below.refl _ _).alloc (Nat.le_refl _) _;have HBA:=qH hba;have HOF:=qH (offer_any (wr.alloc (evObj e)) F' bi (2*k) (offsI (pickL (turnB ts odd) es k)) (HIT.out.up hba) (by omega) e HSE.out 0 ((HMX.out.up HBW.out).up hba) (fun hh=>by
    rcases HFF.out _ hh with h1|h1;·have:=HF.out _ h1;omega
    ·omega));have hsa:(wr.alloc (evObj e)).heap.size=wr.heap.size+1:=by simp
   have HSA:=qH hsa;obtain⟨g0,g1,g2,g3,g4,g5,g6,g7⟩:=EvIn.new wr e;have HYES:=qH (show turnB ts odd k=true→ ∀w2,Deeds (wr.alloc (evObj e)) F' bi (2*k+2) ((offsI (pickL (turnB ts odd) es k)).offer e 0) w2→OffRel w1 F bi es (turnB ts odd) (.int .i64 ((k:Int)+1)) w2 from fun ht w2⟨F2,hI2,hk2,hF2⟩=>by
    refine⟨k+1,F2,by go_num,hke,?_,?_,?_⟩;·rw[HTK.out,if_pos ht,offsI_snoc];exact hI2
    ·exact(HKP.out.trans (Keep.of_below (F:=F) hba) (fun _ _ h=>h)).trans hk2 (fun b hb hr=>(HFF.out b hr).elim id fun h=>by omega)
    ·intro b hb;rcases hF2 b hb with h|h;·exact HFF.out b h
     ·right;omega);have HNO:=qH (show turnB ts odd k=false→OffRel w1 F bi es (turnB ts odd) (.int .i64 ((k:Int)+1)) (wr.alloc (evObj e))from fun ht=>by refine⟨k+1,F',by go_num,hke,?_,HKP.out.trans (Keep.of_below (F:=F) hba) (fun _ _ h=>h),HFF.out⟩;rw[HTK.out,if_neg (by rw[ht];decide)];exact(HIT.out.up hba).more (by omega));clear hba hsa HIT;by_cases hm0:m=0
   ·have HY:=qH (show turnB ts odd k=true from by unfold turnB;rw[HML.out,hm0];rfl);subst hm0;go_wp2_with fail;refine HOF.out.mono ?_;rintro r w2⟨rfl,hD⟩;have HRL:=qH (HYES.out HY.out w2 hD);clear hD HYES HNO HOF e0 e1 e2 e3 e4 e5 e6 e7 g0 g1 g2 g3 g4 g5 g6 g7;go_wp2;go_roundw;case rel=>first|exact HRL.out|((repeat apply Exists.intro);exact⟨HRL.out,rfl⟩)
    case measure=>simp[intOf];omega
   ·obtain⟨q,hq⟩: ∃q,q=k%m:=⟨_,rfl⟩;have hqm:q<m:=by rw[hq];exact Nat.mod_lt _ (by omega)
    have hqi:(k:Int)%(m:Int)=(q:Int):=by rw[hq];push_cast;rfl
    have hm1: ¬(m:Int)=0:=by omega
    have hmb:((m:Int)==0)=false:=by simpa using hm1
    obtain⟨b2,o2,rfl,_,hc2⟩:=(HBY.out.below HBW.out).cell (by have:=HML.out;omega);have hc3:=hc2 q (by have:=HML.out;omega);obtain⟨u,hu⟩: ∃u,u=(ts.getD q 0).toNat:=⟨_,rfl⟩;have hcell:wr.cell? ⟨b2,o2+q,none⟩=some (.int .u8 (u:Int)):=by rw[hu,List.getD_eq_getElem?_getD,List.getElem?_eq_getElem (by have:=HML.out;omega)];exact hc3
    have hcell2:(wr.alloc (evObj e)).cell? ⟨b2,o2+q,none⟩=some (.int .u8 (u:Int)):=(World.cell?_alloc_lt wr (evObj e) ⟨b2,o2+q,none⟩ (World.block_lt_of_cell? wr ⟨b2,o2+q,none⟩ hcell)).trans hcell;have hu8:u<256:=by rw[hu];exact(ts.getD q 0).toNat_lt
    have HTB:=qH (show turnB ts odd k=(decide (u%3=2)||(decide (u%3=1)==odd))from by unfold turnB;rw[HML.out,←hq,←hu];simp[hm0]);clear hc2 hc3 hu hq;by_cases t2:u%3=2
    ·have HY:=qH (show turnB ts odd k=true from by rw[HTB.out];simp[t2]);have t2i:(u:Int)%3=2:=by omega
     clear HTB;go_wp2_with fail;refine HOF.out.mono ?_;rintro r w2⟨rfl,hD⟩;have HRL:=qH (HYES.out HY.out w2 hD);clear hD HYES HNO HOF e0 e1 e2 e3 e4 e5 e6 e7 g0 g1 g2 g3 g4 g5 g6 g7 hcell hcell2;go_wp2;go_roundw;case rel=>first|exact HRL.out|((repeat apply Exists.intro);exact⟨HRL.out,rfl⟩)
     case measure=>simp[intOf];omega
    by_cases t1':u%3=1
    ·have t1i:(u:Int)%3=1:=by omega
     cases odd
     ·have HY:=qH (show turnB ts false k=false from by rw[HTB.out];simp[t1']);clear HTB;have HRL:=qH (HNO.out HY.out);clear HYES HNO HOF;go_wp2;go_roundw;case rel=>first|exact HRL.out|((repeat apply Exists.intro);exact⟨HRL.out,rfl⟩)
      case measure=>simp[intOf];omega
     ·have HY:=qH (show turnB ts true k=true from by rw[HTB.out];simp[t1']);clear HTB;go_wp2_with fail;refine HOF.out.mono ?_;rintro r w2⟨rfl,hD⟩;have HRL:=qH (HYES.out HY.out w2 hD);clear hD HYES HNO HOF e0 e1 e2 e3 e4 e5 e6 e7 g0 g1 g2 g3 g4 g5 g6 g7 hcell hcell2;go_wp2;go_roundw;case rel=>first|exact HRL.out|((repeat apply Exists.intro);exact⟨HRL.out,rfl⟩)
      case measure=>simp[intOf];omega
    ·have t2i: ¬(u:Int)%3=2:=by omega
     have t1i: ¬(u:Int)%3=1:=by omega
     have t2b:((u:Int)%3==2)=false:=by simpa using t2i
     have t1b:((u:Int)%3==1)=false:=by simpa using t1i
     cases odd
     ·have HY:=qH (show turnB ts false k=true from by rw[HTB.out];simp[t1']);clear HTB;go_wp2_with fail;refine HOF.out.mono ?_;rintro r w2⟨rfl,hD⟩;have HRL:=qH (HYES.out HY.out w2 hD);clear hD HYES HNO HOF e0 e1 e2 e3 e4 e5 e6 e7 g0 g1 g2 g3 g4 g5 g6 g7 hcell hcell2;go_wp2;go_roundw;case rel=>first|exact HRL.out|((repeat apply Exists.intro);exact⟨HRL.out,rfl⟩)
      case measure=>simp[intOf];omega
     ·have HY:=qH (show turnB ts true k=false from by rw[HTB.out];simp[t1',t2]);clear HTB;have HRL:=qH (HNO.out HY.out);clear HYES HNO HOF;go_wp2;go_roundw;case rel=>first|exact HRL.out|((repeat apply Exists.intro);exact⟨HRL.out,rfl⟩)
      case measure=>simp[intOf];omega
  ·obtain rfl:k=n:=by omega
   have HFIN:=qH (show OffdPost w (2*k) (offsI (pickL (turnB ts odd) es k)) (.returned (.pointer (some ⟨bi,0,none⟩))) wr from⟨bi,F',rfl,HIT.out,HBW.out,fun b hb=>by
    rcases HFF.out b hb with h1|h1;·exact HF.out b h1
    ·omega⟩);clear HIT;go_wp2;go_ret;exact HFIN.out
theorem mayB_smallW{e:Ev}(h:mayB e=true):e.small:=by have:=mayB_fit h;exact⟨by have:=this.src;omega,by have:=this.per;omega,by have:=this.item;omega,by have:=this.text;omega⟩
def missL(m:Had)(l:List Ev):List Ev:=l.filter fun e=>!hadB m e.src e.num
theorem missL_take(m:Had)(l:List Ev)(k:Nat)(hk:k<l.length):(missL m (l.take (k+1))).length=if hadB m l[k].src l[k].num then(missL m (l.take k)).length else(missL m (l.take k)).length+1:=by rw[List.take_add_one,List.getElem?_eq_getElem hk,Option.toList_some];unfold missL;rw[List.filter_append,List.length_append];cases h:hadB m l[k].src l[k].num<;>simp[h]
def MissRel(w3:World)(m:Had)(l:List Ev)(i n:Value)(wr:World):Prop:= ∃k:Nat,i=.int .i64 k∧k≤l.length∧n=.int .i64 ((missL m (l.take k)).length:Nat)∧Below w3.heap.size w3 wr
theorem twmiss_any(w:World)(F F':Nat→Prop)(bi bj N M:Nat)(x y:Itk)(h:ItkAt w F bi N x)(h':ItkAt w F' bj M y)(hN:N≤90000)(hM:M≤90000):Calls Tryz.prog 16 #[.pointer (some ⟨bi,0,none⟩),.pointer (some ⟨bj,0,none⟩)] w fun e w'=>e=.returned (.int .i64 ((missL x.had y.taken).length:Nat))∧Below w.heap.size w w':=by
 have HH:=qH (show∀W,Below w.heap.size w W→Calls Tryz.prog 41 #[.pointer (some ⟨bi,0,none⟩)] W (HadPost W x.had)from fun W hW=>ihad_any W F bi N x (h.up hW) hN);have HT:=qH (show∀W,Below w.heap.size w W→Calls Tryz.prog 15 #[.pointer (some ⟨bj,0,none⟩)] W (OwnPost W y.taken)from fun W hW=>itaken_any W F' bj M y (h'.up hW) (by omega));have HRW:=qH (show∀s,(hadRow x.had s).length≤1000000 from by obtain⟨_,_,hO,_⟩:=h;exact fun s=>Nat.le_trans (hO.rows s) (by omega));have HTL:=qH (show y.taken.length≤90000∧ ∀e∈y.taken,e.small from by obtain⟨_,_,hO,_⟩:=h';exact⟨Nat.le_trans hO.taken hM,fun e he=>mayB_smallW (hO.may e (.inl he))⟩);clear h h';go_enter Tryz.func16,Tryz.ntmps16;go_wp2_with fail;refine(hadnew_any w).mono ?_;rintro r w1⟨bs0,bm0,rfl,_,_,_,hb1⟩;have HB1:=qH hb1;clear hb1;go_wp2_with fail;refine(HH.out w1 HB1.out).mono ?_;rintro r w2⟨bs,bm,G,V,rfl,hd,hb2,_⟩;have HD:=qH hd;have HB2:=qH (HB1.out.trans (hb2.mono HB1.out.size));clear hd hb2 HB1;go_wp2_with fail;refine(HT.out w2 HB2.out).mono ?_;rintro r w3⟨v,rfl,ho,hb3⟩;obtain⟨A,c,rfl⟩:=ownsRow_form ho;have HE:=qH (show Evs w3 w3.heap.size A y.taken.length c y.taken from Cel.of_own ho);have HD3:=qH (HD.out.up hb3);have HB3:=qH (HB2.out.trans (hb3.mono HB2.out.size));have hlen:=HTL.out.1;have HST:=qH (show MissRel w3 x.had y.taken (.int .i64 ((0:Nat):Int)) (.int .i64 ((0:Nat):Int)) w3 from⟨0,rfl,Nat.zero_le _,rfl,Below.refl _ _⟩);clear ho hb3 HD HB2;go_wp2;go_loopw[19,6](fun i n wr=>MissRel w3 x.had y.taken i n wr)(fun i _ _=>y.taken.length-(intOf i).toNat);case atStart=>exact HST.out
 case round=>
  obtain⟨k,rfl,hk,rfl,hb⟩:=hrel;have HB:=qH hb;have hsr:=hb.size;have hml:(missL x.had (y.taken.take k)).length≤k:=by have h1:=List.length_filter_le (fun e=>!hadB x.had e.src e.num) (y.taken.take k);rw[List.length_take]at h1;unfold missL;omega
  by_cases hkm:k<y.taken.length
  ·have t1:(k:Int)<y.taken.length:=by omega
   obtain⟨b,o,rfl,hlt,hd⟩:=(show Evs wr w3.heap.size A y.taken.length c y.taken from Cel.below HE.out hb).ev k hkm;have HTK:=qH (missL_take x.had y.taken k hkm);have HSE:=qH (HTL.out.2 y.taken[k] (List.getElem_mem hkm));obtain⟨e0,e1,e2,e3,e4,e5,e6,e7⟩:=hd;generalize y.taken[k]=e at*;generalize(missL x.had (y.taken.take k)).length=q at*;have hba:Below wr.heap.size wr (wr.alloc (evObj e)):=(Below.refl _ _).alloc (Nat.le_refl _) _;have hd4:=(HD3.out.up (hb.mono (Nat.le_refl _))).up hba;have HHA:=qH (has_any (wr.alloc (evObj e)) G bs bm x.had V hd4 e.src HSE.out.1 (HRW.out e.src) e.num);have HBA:=qH (hb.trans (hba.mono hsr));obtain⟨g0,g1,g2,g3,g4,g5,g6,g7⟩:=EvIn.new wr e;clear hba hd4 hb;go_wp2_with fail;refine HHA.out.mono ?_;rintro r w5⟨rfl,hb5⟩;have HB5:=qH (HBA.out.trans (hb5.mono HBA.out.size));clear hb5 e0 e1 e2 e3 e4 e5 e6 e7 g0 g1 g2 g3 g4 g5 g6 g7 HHA;cases hh:hadB x.had e.src e.num
   ·have HT9:=qH (show(missL x.had (y.taken.take (k+1))).length=q+1 from by rw[HTK.out,hh];rfl);go_wp2;go_roundw;case rel=>exact⟨k+1,by go_num,hkm,by rw[HT9.out];go_num,HB5.out⟩
    case measure=>simp[intOf];omega
   ·have HT9:=qH (show(missL x.had (y.taken.take (k+1))).length=q from by rw[HTK.out,hh];rfl);go_wp2;go_roundw;case rel=>exact⟨k+1,by go_num,hkm,by rw[HT9.out],HB5.out⟩
    case measure=>simp[intOf];omega
  ·obtain rfl:k=y.taken.length:=by omega
   have HF:=qH (show Below w.heap.size w wr from HB3.out.trans (hb.mono HB3.out.size));rw[List.take_length];clear hb;go_wp2;go_ret;exact⟨rfl,HF.out⟩
theorem alike_of_ids{l:List Ev}(h:(l.map idOf).Nodup):AlikeP l:=fun a ha b hb h1 h2=>ids_inj h ha hb (by unfold idOf;rw[h1,h2])
theorem offs_play: ∀l:List Ev,PlayInv (offsI l)∧PtInv (offsI l):=fun l=>by
 have key: ∀(l:List Ev)(x:Itk),PlayInv x→PtInv x→PlayInv (l.foldl (fun x e=>x.offer e 0) x)∧PtInv (l.foldl (fun x e=>x.offer e 0) x):=fun l=>by induction l with|nil=>exact fun x h1 h2=>⟨h1,h2⟩|cons e l ih=>exact fun x h1 h2=>ih _ (h1.offer e 0) (h2.offer e 0)
 exact key l _ (PlayInv.new _ _) (PtInv.new _ _)
theorem clk_slack(c:Clk)(n:List UInt8)(a b:Int):(c.hear n a b).slack=c.slack∧(c.hear n a b).idle=c.idle:=by
 have ht:(c.tick b).slack=c.slack∧(c.tick b).idle=c.idle:=⟨(rise_four _).2.1,(rise_four _).2.2.1⟩;unfold Clk.hear;split;·exact⟨(rise_four _).2.1.trans ht.1,(rise_four _).2.2.1.trans ht.2⟩
 ·exact ht
theorem offs_si: ∀l:List Ev,(offsI l).clk.slack=1073741824∧(offsI l).clk.idle=0:=fun l=>by
 have hs: ∀(x:Itk)(e:Ev),(x.offer e 0).clk.slack=x.clk.slack∧(x.offer e 0).clk.idle=x.clk.idle:=fun x e=>by
  have ht:(x.tick 0).clk.slack=x.clk.slack∧(x.tick 0).clk.idle=x.clk.idle:=⟨(rise_four _).2.1,(rise_four _).2.2.1⟩;have hh:((x.tick 0).hear e 0).clk.slack=x.clk.slack∧((x.tick 0).hear e 0).clk.idle=x.clk.idle:=by have h:=clk_slack (x.tick 0).clk e.src e.at_ 0;exact⟨h.1.trans ht.1,h.2.trans ht.2⟩
  unfold Itk.offer;split;·exact ht
  ·split
   ·unfold Itk.took;split;·exact hh
    ·exact hh
   ·unfold Itk.lates;split;·exact hh
    ·exact hh
 have key: ∀(l:List Ev)(x:Itk),(l.foldl (fun x e=>x.offer e 0) x).clk.slack=x.clk.slack∧(l.foldl (fun x e=>x.offer e 0) x).clk.idle=x.clk.idle:=fun l=>by induction l with|nil=>exact fun x=>⟨rfl,rfl⟩|cons e l ih=>exact fun x=>⟨(ih _).1.trans (hs x e).1,(ih _).2.trans (hs x e).2⟩
 exact key l _
theorem turn_all(ts:List UInt8)(i:Nat):turnB ts false i=true∨turnB ts true i=true:=by
 unfold turnB;generalize(ts.getD (i%ts.length) 0).toNat=t;by_cases h:t%3=1;·right;simp[h]
 ·left;simp[h]
structure TpTw(es:List Ev)(x y:Itk):Prop where
 ids:(es.map idOf).Nodup
 px:PlayInv x
 py:PlayInv y
 tx:PtInv x
 ty:PtInv y
 gx:x.gone=[]
 gy:y.gone=[]
 mx: ∀e∈x.taken,e∈es
 my: ∀e∈y.taken,e∈es
 all: ∀e∈es,e∈x.taken∨e∈y.taken
theorem tptw{es:List Ev}{cc:Nat→Nat}(h:TlInv es cc)(hl:es.length≤1000)(ts:List UInt8):TpTw es (offsI (pickL (turnB ts false) es es.length)) (offsI (pickL (turnB ts true) es es.length)):=by
 have hin: ∀odd,∀e∈pickL (turnB ts odd) es es.length,e∈es:=fun odd e he=>by obtain⟨i,_,_,hi⟩:=pickL_mem.1 he;exact List.mem_of_getElem? hi
 have ho: ∀odd,OffInv (pickL (turnB ts odd) es es.length) (offsI (pickL (turnB ts odd) es es.length)):=fun odd=>offs_inv h.may h.low (alike_of_ids h.ids) _ (Nat.le_trans (pickL_len _ _ _) hl) (hin odd);have ht: ∀odd e,e∈(offsI (pickL (turnB ts odd) es es.length)).taken↔e∈pickL (turnB ts odd) es es.length:=fun odd e=>by rw[(ho odd).ord.taken e,(ho odd).gone];exact⟨fun h=>h.1,fun he=>⟨he,(h.may e (hin odd e he)).1,.inr (by simp)⟩⟩
 refine⟨h.ids,(offs_play _).1,(offs_play _).1,(offs_play _).2,(offs_play _).2,(ho false).gone,(ho true).gone,fun e he=>hin _ e ((ht _ e).1 he),fun e he=>hin _ e ((ht _ e).1 he),fun e he=>?_⟩;obtain⟨i,hi,rfl⟩:=List.getElem_of_mem he;rcases turn_all ts i with h1|h1;·exact .inl ((ht _ _).2 (pickL_mem.2 ⟨i,hi,h1,List.getElem?_eq_getElem hi⟩))
 ·exact .inr ((ht _ _).2 (pickL_mem.2 ⟨i,hi,h1,List.getElem?_eq_getElem hi⟩))
section
variable{bt:Ev→Ev→Bool}{es:List Ev}{x y m n q:Itk}
theorem TpTw.swap(h:TpTw es x y):TpTw es y x:=⟨h.ids,h.py,h.px,h.ty,h.tx,h.gy,h.gx,h.my,h.mx,fun e he=>(h.all e he).symm⟩
theorem TpTw.taken(h:TpTw es x y)(hm:MgI bt x y m){l:List Ev}(hs:SortedE l)(hp:l.Perm es):m.taken=l:=by
 have hi:(l.map idOf).Nodup:=(hp.map idOf).nodup_iff.2 h.ids;refine sorted_unique hm.tso hs hm.tids hi fun e=>?_;rw[hm.alike (alike_of_ids h.ids) h.mx h.my,hp.mem_iff];have hg:staysB m.gone e=true:=by unfold staysB;rw[hm.gone,h.gx,h.gy];simp
 exact⟨fun hh=>hh.1.elim (h.mx e) (h.my e),fun he=>⟨h.all e he,hg⟩⟩
theorem TpTw.comm(h:TpTw es x y)(hm:MgI bt x y m)(hn:MgI bt y x n):SameI m n:=tw_comm hm hn (alike_of_ids h.ids) h.mx h.my
theorem TpTw.again(h:TpTw es x y)(hm:MgI bt x y m)(hq:MgI bt m x q):SameI q m:=by
 have pm:=hm.play h.px h.py;refine tw_again hq pm (alike_of_ids h.ids) (hm.inL h.mx h.my) h.mx (fun e he hs=>?_) (fun p hp=>?_) (fun s k hk=>?_);·rw[hm.alike (alike_of_ids h.ids) h.mx h.my];exact⟨.inl he,hs⟩
 ·rw[h.gx]at hp;cases hp
 ·rw[hm.had,hk];rfl
theorem TpTw.miss(h:TpTw es x y)(hm:MgI bt x y m):missL m.had x.taken=[]∧missL m.had y.taken=[]:=by obtain⟨h1,h2⟩:=tw_missing hm h.px h.py;unfold missL;exact⟨List.filter_eq_nil_iff.2 fun e he=>by simp[h1 e he],List.filter_eq_nil_iff.2 fun e he=>by simp[h2 e he]⟩
end
end Go.Proofs.YtcmmclliabhnjaaGreatDoor
