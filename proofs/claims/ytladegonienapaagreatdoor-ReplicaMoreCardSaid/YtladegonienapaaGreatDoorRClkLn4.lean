/-
  Layer 6: a line of 4 numbers that is read (Decode$1).
-/
import Derived.Test.YtladegonienapaaGreatDoorRClkDec1
import Derived.Deep.DeepCutAuto
set_option maxRecDepth 100000
set_option maxHeartbeats 16000000
namespace Go.Proofs.YtladegonienapaaGreatDoor
open Go.RowKit Go.Maps Go.Sort
theorem zB(w:World)(b1 b2:Nat)(l:List UInt8)(ok:Bool)(h1:w.heap[b1]?=some (iU l))(h2:w.heap[b2]?=some (iC ok))(hl:l.length≤100000000)(hm:aM w)(he:eQ w)(hel: ∀b,b=b1∨b=b2→b≠1∧b≠2):Calls Tryz.prog 130 #[.int .i64 4,.pointer (some ⟨b1,0,none⟩),.pointer (some ⟨b2,0,none⟩)] w (lZ w b1 b2 (ak 4 l ok)):=by
 have hlt1:=ax h1;have hlt2:=ax h2;have hne:b1≠b2:=fun e=>by rw[e,h2]at h1;injection h1 with h1;injection h1 with _ h1;exact absurd h1 (by decide)
 have HM:=qH hm;have HE:=qH he;have zQ:=qH h1;have Db:=qH h2;have HC:=qH (wZ w l 10 (by omega) hm);have HD:=qS (ak 4 l ok=if(Lib.cut l [10]).2.2&&decide ((Lib.split (Lib.cut l [10]).1 [32]).length=4+1)then _ else _) (rfl);have hcl:(Lib.cut l [10]).1.length≤l.length:=by
  rcases jG 10 l with h|⟨a,b,rfl,h⟩;·rw[oG 10 l h];exact Nat.le_refl _
  ·rw[lX 10 a b h];simp
 have hmk: ∀W:World,(Instr.makeSlice 55 (.int .i64 4) (.int .i64 4)).run Tryz.prog W=.ok (.slice (some ⟨W.heap.size,0,none⟩) 4 4) (W.alloc (.cells #[.int .i64 0,.int .i64 0,.int .i64 0,.int .i64 0] 3)):=fun _=>by kernel_rfl
 have c1:w.cell? ⟨b1,0,none⟩=some (.string ⟨l.toArray⟩):=(cell_of_row w b1 0 _ _ (0,0) h1).trans rfl;clear h1 h2 hm he;generalize ak 4 l ok=D at*;generalize Lib.cut l [10]=C at*;obtain⟨s,b,f⟩:=C;dsimp only at HC HD hcl;go_enter Tryz.func130,Tryz.ntmps130;go_wp2_with fail;with_reducible refine HC.o.mono ?_
 rintro r w1⟨rfl,q,rfl⟩;have hb1:Below w.heap.size w (w.drewN q):=below_drewN (Below.refl _ _) q;have HB1:=qH hb1;have lH:=qH (HM.o.up hb1);have HS:=qH (mH (w.drewN q) s 32 (by omega) lH.o);clear c1 hb1;generalize w.drewN q=w1 at*;go_wp2_with fail;with_reducible refine HS.o.mono ?_
 rintro r w2⟨rfl,hw2⟩;have hb2:Below w1.heap.size w1 w2:=by rw[hw2];exact(Below.refl _ _).alloc (Nat.le_refl _) _
 have kz:=qS (w2.heap[w1.heap.size]?=some (.cells ((Lib.split s [32]).map encStr).toArray 9 (0,0))) (by rw[hw2];exact heap_alloc_new w1 _);have HB2:=qH (HB1.o.trans (hb2.mono HB1.o.size));have hs1:=HB1.o.size;have hlt3:w1.heap.size<w2.heap.size:=ax kz.o;clear hw2 hb2 HS;have Pm:=qH (kI 32 s.length s (Nat.le_refl _));have hw0:0<(Lib.split s [32]).length:=by rw[oW];omega
 generalize Lib.split s [32]=ws at*;have hx2:w2.heap[b2]?=some (iC ok):=(HB2.o.block b2 hlt2).trans Db.o;have hx1:w2.heap[b1]?=some (iU l):=(HB2.o.block b1 hlt1).trans zQ.o;have LQ:=frozen_of_row w2 b1 0 _ _ hx1;have y1:w2.cell? ⟨b1,0,none⟩=some (.string ⟨l.toArray⟩):=(cell_of_row w2 b1 0 _ _ (0,0) hx1).trans rfl;have y2:w2.cell? ⟨b2,0,none⟩=some (.bool ok):=(cell_of_row w2 b2 0 _ _ (0,0) hx2).trans rfl;have NZ:=frozen_of_row w2 b2 0 _ _ hx2;by_cases hbad:f=false∨ws.length≠5
 ·have KE:=qS (D=⟨[],List.replicate 4 0,l,false⟩) (by rw[HD.o,if_neg];simp;intro hf;rcases hbad with h|h<;>simp_all);have HF:=qS (∀z,lZ w b1 b2 D (.returned (.tuple #[.string ⟨#[]⟩,.slice (some ⟨w2.heap.size,0,none⟩) 4 4])) (((w2.setCell ⟨b2,0,none⟩ (.bool false)).alloc (.cells #[.int .i64 0,.int .i64 0,.int .i64 0,.int .i64 0] 3)).drewN z)) (fun z=>by
   rw[KE.o];have hk:ai (fun b=>b=b1∨b=b2) w (((w2.setCell ⟨b2,0,none⟩ (.bool false)).alloc (.cells #[.int .i64 0,.int .i64 0,.int .i64 0,.int .i64 0] 3)).drewN z):=(((ai.of_below HB2.o).setCell (p:=⟨b2,0,none⟩) (fun _=>.inr rfl) _).alloc _).drewN z;have hsz:(w2.setCell ⟨b2,0,none⟩ (.bool false)).heap.size=w2.heap.size:=by simp[World.setCell]
   have hs2:=HB2.o.size;refine⟨w2.heap.size,rfl,?_,?_,?_,hs2,hk⟩;·show((w2.setCell ⟨b2,0,none⟩ (.bool false)).alloc _).heap[b1]?=_;rw[Below.heap_alloc _ _ b1 (by omega),Below.heap_setCell _ _ _ _ hne];exact(HB2.o.block b1 hlt1).trans zQ.o
   ·show((w2.setCell ⟨b2,0,none⟩ (.bool false)).alloc _).heap[b2]?=_;rw[Below.heap_alloc _ _ b2 (by omega),af ((HB2.o.block b2 hlt2).trans Db.o)];rfl
   ·have:=heap_alloc_new (w2.setCell ⟨b2,0,none⟩ (.bool false)) (.cells #[.int .i64 0,.int .i64 0,.int .i64 0,.int .i64 0] 3);rw[hsz]at this;exact this);clear HD KE hx1 hx2;have hcase:f=false∨(f=true∧((ws.length:Int)==5)=false):=by cases f with|false=>exact .inl rfl|true=>right;refine⟨rfl,?_⟩;rcases hbad with h|h;(·cases h);simp;omega
  clear hbad;rcases hcase with rfl|⟨rfl,t1⟩;all_goals go_wp2;go_region;all_goals go_wp2;go_ret2;exact HF.o 1
 ·have hf:f=true:=by cases f<;>simp_all
  have hwl:ws.length=5:=by simp_all
  subst hf;have hdd:D=⟨ws.headD [],(ws.drop 1).map dm,b,ok&&(ws.drop 1).all dz⟩:=by rw[HD.o,if_pos];simp[hwl]
  clear HD hbad;obtain⟨w0,vs,rfl⟩: ∃w0 vs,ws=w0::vs:=by cases ws with|nil=>simp at hwl|cons w0 vs=>exact⟨w0,vs,rfl⟩
  have hvl:vs.length=4:=by simpa using hwl
  simp only[List.headD_cons,List.drop_succ_cons,List.drop_zero]at hdd;have KE:=qH hdd;have EP:=qH hvl;have HW2:=qS (∀v∈vs,v.length≤1000000000) (fun v hv=>by have:=Pm.o v (by simp[hv]);omega);have HW3:=qS (ai (fun b=>b=b1∨b=b2) w (((w2.setCell ⟨b1,0,none⟩ (.string ⟨b.toArray⟩))).alloc (.cells #[.int .i64 0,.int .i64 0,.int .i64 0,.int .i64 0] 3))) (((ai.of_below HB2.o).setCell (p:=⟨b1,0,none⟩) (fun _=>.inl rfl) _).alloc _);have hsz:(w2.setCell ⟨b1,0,none⟩ (.string ⟨b.toArray⟩)).heap.size=w2.heap.size:=by simp[World.setCell]
  have hs2:=HB2.o.size;have HA1:=qS (((w2.setCell ⟨b1,0,none⟩ (.string ⟨b.toArray⟩)).alloc (.cells #[.int .i64 0,.int .i64 0,.int .i64 0,.int .i64 0] 3)).heap[b1]?=some (iU b)) (by rw[Below.heap_alloc _ _ b1 (by omega),af hx1];rfl);have HA2:=qS (((w2.setCell ⟨b1,0,none⟩ (.string ⟨b.toArray⟩)).alloc (.cells #[.int .i64 0,.int .i64 0,.int .i64 0,.int .i64 0] 3)).heap[b2]?=some (iC ok)) (by rw[Below.heap_alloc _ _ b2 (by omega),Below.heap_setCell _ _ _ _ (Ne.symm hne)];exact hx2);have Qs:=qS (((w2.setCell ⟨b1,0,none⟩ (.string ⟨b.toArray⟩)).alloc (.cells #[.int .i64 0,.int .i64 0,.int .i64 0,.int .i64 0] 3)).heap[w2.heap.size]?=some (.cells #[.int .i64 0,.int .i64 0,.int .i64 0,.int .i64 0] 3)) (by have:=heap_alloc_new (w2.setCell ⟨b1,0,none⟩ (.string ⟨b.toArray⟩)) (.cells #[.int .i64 0,.int .i64 0,.int .i64 0,.int .i64 0] 3);rw[hsz]at this;exact this);have Ny:=qS (((w2.setCell ⟨b1,0,none⟩ (.string ⟨b.toArray⟩)).alloc (.cells #[.int .i64 0,.int .i64 0,.int .i64 0,.int .i64 0] 3)).heap[w1.heap.size]?=some (.cells ((w0::vs).map encStr).toArray 9 (0,0))) (by rw[Below.heap_alloc _ _ w1.heap.size (by omega),Below.heap_setCell _ _ _ _ (show w1.heap.size≠b1 by omega)];exact kz.o);clear hx1 hx2 hdd hsz kz Pm hvl hw0;go_upto_region 8 with fail;clear y1 LQ y2 NZ hmk;generalize(w2.setCell ⟨b1,0,none⟩ (.string ⟨b.toArray⟩)).alloc (.cells #[.int .i64 0,.int .i64 0,.int .i64 0,.int .i64 0] 3)=w3 at*;have HST:=qS (p9 w3 b2 w2.heap.size 4 vs ok (.int .i64 ((0:Nat):Int)) w3) (⟨0,rfl,Nat.zero_le _,by simpa using HA2.o,Qs.o,ai.refl _ _⟩);go_wp2;go_loopw[40](fun i wr=>p9 w3 b2 w2.heap.size 4 vs ok i wr)(fun i _=>4-(intOf i).toNat);case atStart=>exact HST.o
  case round=>
   obtain⟨k,rfl,hk,hb2,hg,hkp⟩:=hrel;have qd:=qH hkp;have HG:=qH hg;have IM:=qH hb2;have hkn':k≤4:=by have:=EP.o;omega
   have hg2:=ax Qs.o;have hg1:=ax Ny.o;have hs3:=hkp.size;clear HST;by_cases hkn:k<4
   ·have JK:k<vs.length:=by rw[EP.o];exact hkn
    have hcs:wr.cell? ⟨w1.heap.size,1+k,none⟩=some (.string ⟨(vs[k]).toArray⟩):=by have hblk:=(hkp.block w1.heap.size hg1 (fun e=>by rcases e with e|e<;>omega)).trans Ny.o;rw[cell_of_row wr _ (1+k) _ _ (0,0) hblk];simp[Nat.add_comm 1 k,JK,encStr]
    have fH:=qS (vs.take (k+1)=vs.take k++[vs[k]]) (by rw[List.take_add_one,List.getElem?_eq_getElem JK];rfl);have SY:=qH (Gd vs 4 k JK EP.o);have hxl:=HW2.o vs[k] (List.getElem_mem JK);have Tn:=qS (eQ wr) (by
     obtain⟨⟨v,h1,h2⟩,u,h3,h4⟩:=HE.o;have hk2:=HW3.o.trans (qd.o) (F:=fun b=>b=b1∨b=b2) (G:=fun b=>b=b2∨b=w2.heap.size) (fun b hb hg=>by
      rcases hg with hg|hg;·exact .inr hg
      ·omega);have hn:=fun b(hb:b=b1∨b=b2)=>hel b hb;exact⟨⟨v,(hk2.cell (World.block_lt_of_cell? _ _ h1) (fun hb=>(hn _ hb).1 rfl)).trans h1,h2⟩,u,(hk2.cell (World.block_lt_of_cell? _ _ h3) (fun hb=>(hn _ hb).2 rfl)).trans h3,h4⟩);clear hb2 hg hkp;generalize vs[k]=x at*;have t1:(k:Int)<4:=by omega
    go_wp2_with fail;with_reducible refine(zG wr x hxl Tn.o).mono ?_
    rintro r w5⟨ev,rfl,hev,hb5⟩;have Mx:=ax IM.o;have Bh:=ax HG.o;have Ew:=(hb5.block b2 Mx).trans IM.o;have Fe:=(hb5.block w2.heap.size Bh).trans HG.o;have JO:=qS (∀c,c=(ok&&(vs.take (k+1)).all dz)→p9 w3 b2 w2.heap.size 4 vs ok (.int .i64 ((k+1:Nat):Int)) ((w5.setCell ⟨b2,0,none⟩ (.bool c)).setCell ⟨w2.heap.size,k,none⟩ (.int .i64 (dm x)))) (fun c hc=>by
     refine⟨k+1,rfl,by rw[EP.o];omega,?_,?_,((qd.o.trans (ai.of_below (F:=fun _=>False) hb5) (fun _ _ h=>h.elim)).setCell (p:=⟨b2,0,none⟩) (fun _=>.inl rfl) _).setCell (p:=⟨w2.heap.size,k,none⟩) (fun _=>.inr rfl) _⟩;·rw[Below.heap_setCell _ _ _ _ (show b2≠w2.heap.size by omega),af Ew,hc];rfl
     ·rw[af (o:=k) (by rw[Below.heap_setCell _ _ _ _ (show w2.heap.size≠b2 by omega)];exact Fe),SY.o]);have JP:=qS ((ok&&(vs.take (k+1)).all dz)=((ok&&(vs.take k).all dz)&&dz x)) (by rw[fH.o];simp[Bool.and_assoc]);have x2:w5.cell? ⟨b2,0,none⟩=some (.bool (ok&&(vs.take k).all dz)):=(cell_of_row w5 b2 0 _ _ (0,0) Ew).trans rfl;have Q5:=frozen_of_row w5 b2 0 _ _ Ew;obtain⟨cg,hcg⟩: ∃cg,w5.cell? ⟨w2.heap.size,k,none⟩=some cg:=by
     rw[cell_of_row w5 _ k _ _ (0,0) Fe];have:k<(((vs.take k).map dm++List.replicate (4-k) 0).map (Value.int .i64)).length:=by simp;omega
     exact⟨_,by rw[List.getElem?_toArray,List.getElem?_eq_getElem this]⟩
    have Rq:=frozen_of_row w5 w2.heap.size k _ _ Fe;have hne2:b2≠w2.heap.size:=by omega
    have Nw:=qS (dz x=(mr x&&decide (-1≤dm x)&&decide (dm x≤1099511627776))) (rfl);generalize(ok&&(vs.take k).all dz)=B0 at*;generalize(ok&&(vs.take (k+1)).all dz)=B1 at*;generalize dm x=v at*;generalize mr x=E at*;generalize dz x=AB at*;clear hb5 Ew Fe hcs;cases B0
    ·have HR:=qH (JO.out false (by rw[JP.out];rfl));clear hev;go_wp2;go_roundw;case rel=>exact HR.o
     case measure=>simp[intOf];omega
    ·cases E
     ·simp only[Bool.false_eq_true,if_false]at hev;obtain⟨et,ep,rfl⟩:=hev;have HR:=qH (JO.out false (by rw[JP.out,Nw.o];rfl));go_wp2;go_roundw;case rel=>exact HR.o
      case measure=>simp[intOf];omega
     ·simp only[if_true]at hev;subst hev;by_cases hv1: -1≤v
      ·have HR:=qH (JO.out (decide (v≤1099511627776)) (by rw[JP.out,Nw.o];simp[hv1]));go_wp2;go_roundw;case rel=>exact HR.o
       case measure=>simp[intOf];omega
      ·have HR:=qH (JO.out false (by rw[JP.out,Nw.o];simp[hv1]));go_wp2;go_roundw;case rel=>exact HR.o
       case measure=>simp[intOf];omega
   ·have Mr:k=4:=by omega
    have t1: ¬(k:Int)<4:=by omega
    have hvs:vs.take k=vs:=List.take_of_length_le (by rw[EP.o];omega);have hb0:wr.cell? ⟨w1.heap.size,0,none⟩=some (.string ⟨w0.toArray⟩):=by have hblk:=(hkp.block w1.heap.size hg1 (fun e=>by rcases e with e|e<;>omega)).trans Ny.o;rw[cell_of_row wr _ 0 _ _ (0,0) hblk];simp[encStr]
    have HR:=qS (lZ w b1 b2 D (.returned (.tuple #[.string ⟨w0.toArray⟩,.slice (some ⟨w2.heap.size,0,none⟩) 4 4])) wr) (by
     rw[KE.o];have hb2':=IM.o;have hg':=HG.o;rw[hvs]at hb2' hg';refine⟨w2.heap.size,by simp[EP.o],?_,hb2',?_,hs2,HW3.o.trans qd.o fun b hb hg=>?_⟩;·exact(hkp.block b1 (ax HA1.o) (fun e=>by rcases e with e|e<;>omega)).trans HA1.o
     ·rw[Mr]at hg';simpa using hg'
     ·rcases hg with hg|hg;·exact .inr hg
      ·omega);clear hb2 hg hkp Mr hvs;go_wp2;go_ret2;exact HR.o
end Go.Proofs.YtladegonienapaaGreatDoor
