/-
  Layer 6: a line of 4 numbers that is read (Decode$1).
-/
import Derived.Test.YtcmmclliabhnjaaGreatDoorWClkTold
import Derived.Deep.DeepCutAuto
set_option maxRecDepth 100000
set_option maxHeartbeats 16000000
namespace Go.Proofs.YtcmmclliabhnjaaGreatDoor
open Go.RowKit Go.Maps Go.Sort
theorem ckline4_any(w:World)(b1 b2:Nat)(l:List UInt8)(ok:Bool)(h1:w.heap[b1]?=some (stBox l))(h2:w.heap[b2]?=some (okBox ok))(hl:l.length≤100000000)(hm:MaxAt w)(he:ErrsAt w)(hel: ∀b,b=b1∨b=b2→b≠3∧b≠4):Calls Tryz.prog 162 #[.int .i64 4,.pointer (some ⟨b1,0,none⟩),.pointer (some ⟨b2,0,none⟩)] w (LnRPost w b1 b2 (lineD 4 l ok)):=by
 have hlt1:=heap_lt h1;have hlt2:=heap_lt h2;have hne:b1≠b2:=fun e=>by rw[e,h2]at h1;injection h1 with h1;injection h1 with _ h1;exact absurd h1 (by decide)
 have HM:=qH hm;have HE:=qH he;have HX1:=qH h1;have HX2:=qH h2;have HC:=qH (cut_any w l 10 (by omega) hm);have HD:=qH (show lineD 4 l ok=if(Lib.cut l [10]).2.2&&decide ((Lib.split (Lib.cut l [10]).1 [32]).length=4+1)then _ else _ from rfl);have hcl:(Lib.cut l [10]).1.length≤l.length:=by
  rcases cut_cases 10 l with h|⟨a,b,rfl,h⟩;·rw[cut_miss 10 l h];exact Nat.le_refl _
  ·rw[cut_hit 10 a b h];simp
 have hmk: ∀W:World,(Instr.makeSlice 127 (.int .i64 4) (.int .i64 4)).run Tryz.prog W=.ok (.slice (some ⟨W.heap.size,0,none⟩) 4 4) (W.alloc (.cells #[.int .i64 0,.int .i64 0,.int .i64 0,.int .i64 0] 3)):=fun _=>by kernel_rfl
 have c1:w.cell? ⟨b1,0,none⟩=some (.string ⟨l.toArray⟩):=(cell_of_row w b1 0 _ _ (0,0) h1).trans rfl;clear h1 h2 hm he;generalize lineD 4 l ok=D at*;generalize Lib.cut l [10]=C at*;obtain⟨s,b,f⟩:=C;dsimp only at HC HD hcl;go_enter Tryz.func162,Tryz.ntmps162;go_wp2_with fail;with_reducible refine HC.out.mono ?_
 rintro r w1⟨rfl,q,rfl⟩;have hb1:Below w.heap.size w (w.drewN q):=below_drewN (Below.refl _ _) q;have HB1:=qH hb1;have HM1:=qH (HM.out.up hb1);have HS:=qH (splits_any (w.drewN q) s 32 (by omega) HM1.out);clear c1 hb1;generalize w.drewN q=w1 at*;go_wp2_with fail;with_reducible refine HS.out.mono ?_
 rintro r w2⟨rfl,hw2⟩;have hb2:Below w1.heap.size w1 w2:=by rw[hw2];exact(Below.refl _ _).alloc (Nat.le_refl _) _
 have HCS:=qH (show w2.heap[w1.heap.size]?=some (.cells ((Lib.split s [32]).map encStr).toArray 9 (0,0))from by rw[hw2];exact heap_alloc_new w1 _);have HB2:=qH (HB1.out.trans (hb2.mono HB1.out.size));have hs1:=HB1.out.size;have hlt3:w1.heap.size<w2.heap.size:=heap_lt HCS.out;clear hw2 hb2 HS;have HWL:=qH (split_words 32 s.length s (Nat.le_refl _));have hw0:0<(Lib.split s [32]).length:=by rw[split_len];omega
 generalize Lib.split s [32]=ws at*;have hx2:w2.heap[b2]?=some (okBox ok):=(HB2.out.block b2 hlt2).trans HX2.out;have hx1:w2.heap[b1]?=some (stBox l):=(HB2.out.block b1 hlt1).trans HX1.out;have y1f:=frozen_of_row w2 b1 0 _ _ hx1;have y1:w2.cell? ⟨b1,0,none⟩=some (.string ⟨l.toArray⟩):=(cell_of_row w2 b1 0 _ _ (0,0) hx1).trans rfl;have y2:w2.cell? ⟨b2,0,none⟩=some (.bool ok):=(cell_of_row w2 b2 0 _ _ (0,0) hx2).trans rfl;have y2f:=frozen_of_row w2 b2 0 _ _ hx2;by_cases hbad:f=false∨ws.length≠5
 ·have HDD:=qH (show D=⟨[],List.replicate 4 0,l,false⟩from by rw[HD.out,if_neg];simp;intro hf;rcases hbad with h|h<;>simp_all);have HF:=qH (show∀z,LnRPost w b1 b2 D (.returned (.tuple #[.string ⟨#[]⟩,.slice (some ⟨w2.heap.size,0,none⟩) 4 4])) (((w2.setCell ⟨b2,0,none⟩ (.bool false)).alloc (.cells #[.int .i64 0,.int .i64 0,.int .i64 0,.int .i64 0] 3)).drewN z)from fun z=>by
   rw[HDD.out];have hk:Keep (fun b=>b=b1∨b=b2) w (((w2.setCell ⟨b2,0,none⟩ (.bool false)).alloc (.cells #[.int .i64 0,.int .i64 0,.int .i64 0,.int .i64 0] 3)).drewN z):=(((Keep.of_below HB2.out).setCell (p:=⟨b2,0,none⟩) (fun _=>.inr rfl) _).alloc _).drewN z;have hsz:(w2.setCell ⟨b2,0,none⟩ (.bool false)).heap.size=w2.heap.size:=by simp[World.setCell]
   have hs2:=HB2.out.size;refine⟨w2.heap.size,rfl,?_,?_,?_,hs2,hk⟩;·show((w2.setCell ⟨b2,0,none⟩ (.bool false)).alloc _).heap[b1]?=_;rw[Below.heap_alloc _ _ b1 (by omega),Below.heap_setCell _ _ _ _ hne];exact(HB2.out.block b1 hlt1).trans HX1.out
   ·show((w2.setCell ⟨b2,0,none⟩ (.bool false)).alloc _).heap[b2]?=_;rw[Below.heap_alloc _ _ b2 (by omega),heap_set_row ((HB2.out.block b2 hlt2).trans HX2.out)];rfl
   ·have:=heap_alloc_new (w2.setCell ⟨b2,0,none⟩ (.bool false)) (.cells #[.int .i64 0,.int .i64 0,.int .i64 0,.int .i64 0] 3);rw[hsz]at this;exact this);clear HD HDD hx1 hx2;have hcase:f=false∨(f=true∧((ws.length:Int)==5)=false):=by cases f with|false=>exact .inl rfl|true=>right;refine⟨rfl,?_⟩;rcases hbad with h|h;(·cases h);simp;omega
  clear hbad;rcases hcase with rfl|⟨rfl,t1⟩;all_goals go_wp2;go_region;all_goals go_wp2;go_ret2;exact HF.out 1
 ·have hf:f=true:=by cases f<;>simp_all
  have hwl:ws.length=5:=by simp_all
  subst hf;have hdd:D=⟨ws.headD [],(ws.drop 1).map atoiV,b,ok&&(ws.drop 1).all atoiB⟩:=by rw[HD.out,if_pos];simp[hwl]
  clear HD hbad;obtain⟨w0,vs,rfl⟩: ∃w0 vs,ws=w0::vs:=by cases ws with|nil=>simp at hwl|cons w0 vs=>exact⟨w0,vs,rfl⟩
  have hvl:vs.length=4:=by simpa using hwl
  simp only[List.headD_cons,List.drop_succ_cons,List.drop_zero]at hdd;have HDD:=qH hdd;have HVL:=qH hvl;have HW2:=qH (show∀v∈vs,v.length≤1000000000 from fun v hv=>by have:=HWL.out v (by simp[hv]);omega);have HW3:=qH (show Keep (fun b=>b=b1∨b=b2) w (((w2.setCell ⟨b1,0,none⟩ (.string ⟨b.toArray⟩))).alloc (.cells #[.int .i64 0,.int .i64 0,.int .i64 0,.int .i64 0] 3))from((Keep.of_below HB2.out).setCell (p:=⟨b1,0,none⟩) (fun _=>.inl rfl) _).alloc _);have hsz:(w2.setCell ⟨b1,0,none⟩ (.string ⟨b.toArray⟩)).heap.size=w2.heap.size:=by simp[World.setCell]
  have hs2:=HB2.out.size;have HA1:=qH (show((w2.setCell ⟨b1,0,none⟩ (.string ⟨b.toArray⟩)).alloc (.cells #[.int .i64 0,.int .i64 0,.int .i64 0,.int .i64 0] 3)).heap[b1]?=some (stBox b)from by rw[Below.heap_alloc _ _ b1 (by omega),heap_set_row hx1];rfl);have HA2:=qH (show((w2.setCell ⟨b1,0,none⟩ (.string ⟨b.toArray⟩)).alloc (.cells #[.int .i64 0,.int .i64 0,.int .i64 0,.int .i64 0] 3)).heap[b2]?=some (okBox ok)from by rw[Below.heap_alloc _ _ b2 (by omega),Below.heap_setCell _ _ _ _ (Ne.symm hne)];exact hx2);have HA3:=qH (show((w2.setCell ⟨b1,0,none⟩ (.string ⟨b.toArray⟩)).alloc (.cells #[.int .i64 0,.int .i64 0,.int .i64 0,.int .i64 0] 3)).heap[w2.heap.size]?=some (.cells #[.int .i64 0,.int .i64 0,.int .i64 0,.int .i64 0] 3)from by have:=heap_alloc_new (w2.setCell ⟨b1,0,none⟩ (.string ⟨b.toArray⟩)) (.cells #[.int .i64 0,.int .i64 0,.int .i64 0,.int .i64 0] 3);rw[hsz]at this;exact this);have HA4:=qH (show((w2.setCell ⟨b1,0,none⟩ (.string ⟨b.toArray⟩)).alloc (.cells #[.int .i64 0,.int .i64 0,.int .i64 0,.int .i64 0] 3)).heap[w1.heap.size]?=some (.cells ((w0::vs).map encStr).toArray 9 (0,0))from by rw[Below.heap_alloc _ _ w1.heap.size (by omega),Below.heap_setCell _ _ _ _ (show w1.heap.size≠b1 by omega)];exact HCS.out);clear hx1 hx2 hdd hsz HCS HWL hvl hw0;go_upto_region 8 with fail;clear y1 y1f y2 y2f hmk;generalize(w2.setCell ⟨b1,0,none⟩ (.string ⟨b.toArray⟩)).alloc (.cells #[.int .i64 0,.int .i64 0,.int .i64 0,.int .i64 0] 3)=w3 at*;have HST:=qH (show LnRel9 w3 b2 w2.heap.size 4 vs ok (.int .i64 ((0:Nat):Int)) w3 from⟨0,rfl,Nat.zero_le _,by simpa using HA2.out,HA3.out,Keep.refl _ _⟩);go_wp2;go_loopw[40](fun i wr=>LnRel9 w3 b2 w2.heap.size 4 vs ok i wr)(fun i _=>4-(intOf i).toNat);case atStart=>exact HST.out
  case round=>
   obtain⟨k,rfl,hk,hb2,hg,hkp⟩:=hrel;have HKP:=qH hkp;have HG:=qH hg;have HBB:=qH hb2;have hkn':k≤4:=by have:=HVL.out;omega
   have hg2:=heap_lt HA3.out;have hg1:=heap_lt HA4.out;have hs3:=hkp.size;clear HST;by_cases hkn:k<4
   ·have hkv:k<vs.length:=by rw[HVL.out];exact hkn
    have hcs:wr.cell? ⟨w1.heap.size,1+k,none⟩=some (.string ⟨(vs[k]).toArray⟩):=by have hblk:=(hkp.block w1.heap.size hg1 (fun e=>by rcases e with e|e<;>omega)).trans HA4.out;rw[cell_of_row wr _ (1+k) _ _ (0,0) hblk];simp[Nat.add_comm 1 k,hkv,encStr]
    have HTK:=qH (show vs.take (k+1)=vs.take k++[vs[k]]from by rw[List.take_add_one,List.getElem?_eq_getElem hkv];rfl);have HLR:=qH (ln_row vs 4 k hkv HVL.out);have hxl:=HW2.out vs[k] (List.getElem_mem hkv);have HEW:=qH (show ErrsAt wr from by
     obtain⟨⟨v,h1,h2⟩,u,h3,h4⟩:=HE.out;have hk2:=HW3.out.trans (HKP.out) (F:=fun b=>b=b1∨b=b2) (G:=fun b=>b=b2∨b=w2.heap.size) (fun b hb hg=>by
      rcases hg with hg|hg;·exact .inr hg
      ·omega);have hn:=fun b(hb:b=b1∨b=b2)=>hel b hb;exact⟨⟨v,(hk2.cell (World.block_lt_of_cell? _ _ h1) (fun hb=>(hn _ hb).1 rfl)).trans h1,h2⟩,u,(hk2.cell (World.block_lt_of_cell? _ _ h3) (fun hb=>(hn _ hb).2 rfl)).trans h3,h4⟩);clear hb2 hg hkp;generalize vs[k]=x at*;have t1:(k:Int)<4:=by omega
    go_wp2_with fail;with_reducible refine(atoi_any wr x hxl HEW.out).mono ?_
    rintro r w5⟨ev,rfl,hev,hb5⟩;have h2lt:=heap_lt HBB.out;have hglt:=heap_lt HG.out;have hB5:=(hb5.block b2 h2lt).trans HBB.out;have hG5:=(hb5.block w2.heap.size hglt).trans HG.out;have hHF:=qH (show∀c,c=(ok&&(vs.take (k+1)).all atoiB)→LnRel9 w3 b2 w2.heap.size 4 vs ok (.int .i64 ((k+1:Nat):Int)) ((w5.setCell ⟨b2,0,none⟩ (.bool c)).setCell ⟨w2.heap.size,k,none⟩ (.int .i64 (atoiV x)))from fun c hc=>by
     refine⟨k+1,rfl,by rw[HVL.out];omega,?_,?_,((HKP.out.trans (Keep.of_below (F:=fun _=>False) hb5) (fun _ _ h=>h.elim)).setCell (p:=⟨b2,0,none⟩) (fun _=>.inl rfl) _).setCell (p:=⟨w2.heap.size,k,none⟩) (fun _=>.inr rfl) _⟩;·rw[Below.heap_setCell _ _ _ _ (show b2≠w2.heap.size by omega),heap_set_row hB5,hc];rfl
     ·rw[heap_set_row (o:=k) (by rw[Below.heap_setCell _ _ _ _ (show w2.heap.size≠b2 by omega)];exact hG5),HLR.out]);have hBC:=qH (show(ok&&(vs.take (k+1)).all atoiB)=((ok&&(vs.take k).all atoiB)&&atoiB x)from by rw[HTK.out];simp[Bool.and_assoc]);have x2:w5.cell? ⟨b2,0,none⟩=some (.bool (ok&&(vs.take k).all atoiB)):=(cell_of_row w5 b2 0 _ _ (0,0) hB5).trans rfl;have x2f:=frozen_of_row w5 b2 0 _ _ hB5;obtain⟨cg,hcg⟩: ∃cg,w5.cell? ⟨w2.heap.size,k,none⟩=some cg:=by
     rw[cell_of_row w5 _ k _ _ (0,0) hG5];have:k<(((vs.take k).map atoiV++List.replicate (4-k) 0).map (Value.int .i64)).length:=by simp;omega
     exact⟨_,by rw[List.getElem?_toArray,List.getElem?_eq_getElem this]⟩
    have hcgf:=frozen_of_row w5 w2.heap.size k _ _ hG5;have hne2:b2≠w2.heap.size:=by omega
    have HAB:=qH (show atoiB x=(atoiE x&&decide (-1≤atoiV x)&&decide (atoiV x≤1099511627776))from rfl);generalize(ok&&(vs.take k).all atoiB)=B0 at*;generalize(ok&&(vs.take (k+1)).all atoiB)=B1 at*;generalize atoiV x=v at*;generalize atoiE x=E at*;generalize atoiB x=AB at*;clear hb5 hB5 hG5 hcs;cases B0
    ·have HR:=qH (hHF.out false (by rw[hBC.out];rfl));clear hev;go_wp2;go_roundw;case rel=>exact HR.out
     case measure=>simp[intOf];omega
    ·cases E
     ·simp only[Bool.false_eq_true,if_false]at hev;obtain⟨et,ep,rfl⟩:=hev;have HR:=qH (hHF.out false (by rw[hBC.out,HAB.out];rfl));go_wp2;go_roundw;case rel=>exact HR.out
      case measure=>simp[intOf];omega
     ·simp only[if_true]at hev;subst hev;by_cases hv1: -1≤v
      ·have HR:=qH (hHF.out (decide (v≤1099511627776)) (by rw[hBC.out,HAB.out];simp[hv1]));go_wp2;go_roundw;case rel=>exact HR.out
       case measure=>simp[intOf];omega
      ·have HR:=qH (hHF.out false (by rw[hBC.out,HAB.out];simp[hv1]));go_wp2;go_roundw;case rel=>exact HR.out
       case measure=>simp[intOf];omega
   ·have hkE:k=4:=by omega
    have t1: ¬(k:Int)<4:=by omega
    have hvs:vs.take k=vs:=List.take_of_length_le (by rw[HVL.out];omega);have hb0:wr.cell? ⟨w1.heap.size,0,none⟩=some (.string ⟨w0.toArray⟩):=by have hblk:=(hkp.block w1.heap.size hg1 (fun e=>by rcases e with e|e<;>omega)).trans HA4.out;rw[cell_of_row wr _ 0 _ _ (0,0) hblk];simp[encStr]
    have HR:=qH (show LnRPost w b1 b2 D (.returned (.tuple #[.string ⟨w0.toArray⟩,.slice (some ⟨w2.heap.size,0,none⟩) 4 4])) wr from by
     rw[HDD.out];have hb2':=HBB.out;have hg':=HG.out;rw[hvs]at hb2' hg';refine⟨w2.heap.size,by simp[HVL.out],?_,hb2',?_,hs2,HW3.out.trans HKP.out fun b hb hg=>?_⟩;·exact(hkp.block b1 (heap_lt HA1.out) (fun e=>by rcases e with e|e<;>omega)).trans HA1.out
     ·rw[hkE]at hg';simpa using hg'
     ·rcases hg with hg|hg;·exact .inr hg
      ·omega);clear hb2 hg hkp hkE hvs;go_wp2;go_ret2;exact HR.out
end Go.Proofs.YtcmmclliabhnjaaGreatDoor
