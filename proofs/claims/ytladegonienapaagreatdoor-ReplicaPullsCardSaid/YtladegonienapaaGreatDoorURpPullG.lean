/-
  Layer 33: a replica reads a journal of which entries are erased.
-/
import Derived.Test.YtladegonienapaaGreatDoorURpPull
set_option maxRecDepth 100000
set_option maxHeartbeats 16000000
namespace Go.Proofs.YtladegonienapaaGreatDoor
open Go.RowKit Go.Maps Go.Sort Go.Shelf
theorem CE(w:World)(G F R:Nat→Prop)(bj bd bi N:Nat)(j:Jl)(x:aG)(hj:gT w G F bj bd j)(os:List (Option Ev))(hes:j.es=os)(hx:bN w R bi N x)(off m:Nat)(hom:off+m≤os.length)(hlen:os.length≤60)(hN:N+200<100000)(hmx:aW w)(qV: ¬R 0):Calls Tryz.prog 42 #[.pointer (some ⟨bj,0,none⟩),.int .i64 off,.int .i64 m,.func (.func 25) #[.pointer (some ⟨bi,0,none⟩)] #[]] w (iZ w R bi N x (bU ((os.drop off).take m))):=by
 have hcall: ∀(args:Array Value)(w:World),(callFunc 25 args).run Tryz.prog w=.ok (.enter 25 args) w:=fun args w=>by kernel_rfl
 obtain⟨evs,nZ⟩: ∃evs,evs=bU ((os.drop off).take m):=⟨_,rfl⟩;have hel:evs.length≤m:=by rw[nZ];have h1:=List.length_filterMap_le id ((os.drop off).take m);rw[List.length_take]at h1;unfold bU;omega
 have Q8:=qS (∃ats,Calls Tryz.prog 79 #[.pointer (some ⟨bj,0,none⟩),.int .i64 off,.int .i64 m] w (wB w evs ats 0)) (by
  have:=xw w G F bj bd j hj off m;have hl:j.es.length=os.length:=by rw[hes]
  have e1:j.pX off m=false:=by unfold Jl.pX;rw[hl];simp;omega
  have e2:j.uB off m=(os.drop off).take m:=by
   unfold Jl.uB;rw[hl,hes];have e3:(min (m:Int) ((os.length:Int)-(off:Int))).toNat=m:=by omega
   rw[e3,Int.toNat_natCast]
  unfold iq at this;rw[e1,e2,←nZ]at this;exact⟨_,this⟩);have sw:=qS (∀e∈evs,e.small) (fun e he=>jK (hj.1.may e (by rw[nZ]at he;obtain⟨o,ho,hoe⟩:=List.mem_filterMap.1 he;rw[hes];have:o=some e:=hoe;rw[←this];exact List.mem_of_mem_drop (List.mem_of_mem_take ho))));have HX:=qH hx;have kL:=qH hmx;have XA:=qH qV;have Nh: ∀b,R b→b<w.heap.size:=by obtain⟨A,_,_,_,_,_,h6⟩:=hx;exact h6
 have lX:=qH Nh;rw[←nZ];obtain⟨ats,hrd⟩:=Q8.o;have HR:=qH hrd;have hm60:m≤60:=by omega
 obtain⟨q,hq⟩: ∃q,q=evs.length:=⟨_,rfl⟩;have hqm:q≤m:=by omega
 have EM:=qH hq.symm;clear hj hes hx hmx qV nZ Q8 hrd Nh hel hq;go_enter Tryz.func42,Tryz.ntmps42;go_wp2_with fail;refine HR.o.mono ?_;rintro r w1⟨v1,v2,rfl,hv1,hv2,hb1⟩;obtain⟨B1,d1,hf1,_⟩:=hv1.form;subst hf1;have he1:gH w1 w1.heap.size B1 evs.length d1 evs:=ax.aQ hv1;rw[EM.o]at he1⊢;have sF:=qH he1;have HB1:=qH hb1;have hs1:=hb1.size;have HA1:=qS (∀b off,B1=some ⟨b,off,none⟩→ ¬R b) (fun b off e hR=>by
  have h1:=lX.o b hR;rcases hv1.2 with⟨e',_⟩|⟨g,cap,cur,e',hbg,_⟩;·injection e' with e1 e2;rw[e1]at e;cases e
  ·injection e' with e1 e2;rw[e]at e1;injection e1 with e1;injection e1 with e1;omega);have BU:=qS (zQ w1 R bi N x evs (.int .i64 0) w1) (⟨0,R,rfl,Nat.zero_le _,HX.o.up HB1.o,ah.refl _ _,fun b hb=>.inl hb⟩);clear hv1 hv2 he1 hb1;go_wp2;go_loopw[23](fun i W=>zQ w1 R bi N x evs i W)(fun i _=>q-(intOf i).toNat);case atStart=>exact BU.o
 case round=>
  obtain⟨k,R',rfl,hk,hit,hkp,hR'⟩:=hrel;have HIT:=qH hit;have lY:=qH hkp;have HRR:=qH hR';have yF:=hkp.size;have O7:k≤q:=by rw[←EM.o];exact hk
  clear hit hkp hR';by_cases hkn:k<q
  ·have hkl:k<evs.length:=by rw[EM.o];exact hkn
   have t1:(k:Int)<q:=by omega
   obtain⟨b,o,rfl,_,hd⟩:=(sF.o.kp33 HA1.o lY.o).ev k hkl;obtain⟨e0,e1,e2,e3,e4,e5,e6,e7⟩:=hd;have df:=qH (uW x evs k hkl);have uY:=qH (sw.o evs[k] (List.getElem_mem hkl));generalize evs[k]=e at*;have dQ:Below wr.heap.size wr (wr.alloc (au e)):=(Below.refl _ _).alloc (Nat.le_refl _) _;have qP:=qH (zP (wr.alloc (au e)) R' bi (N+2*k) (bE x (evs.take k)) (HIT.o.up dQ) (by omega) e uY.o (by have h1:aW w1:=kL.o.up HB1.o;exact(h1.out lY.o XA.o).up dQ));have UC:=qH (lY.o.trans (ah.of_below (F:=R) dQ) (fun _ _ h=>h));have hsa:(wr.alloc (au e)).heap.size=wr.heap.size+1:=by simp
   have Pg:=qH hsa;clear dQ hsa;go_wp2_with fail;refine qP.o.mono ?_;rintro r w2⟨rfl,R2,hI2,hk2,hR2⟩;have pU:=qS (zQ w1 R bi N x evs (.int .i64 ((k+1:Nat):Int)) w2) (⟨k+1,R2,rfl,hkl,by rw[df.o,show N+2*(k+1)=N+2*k+2 by omega];exact hI2,UC.o.trans hk2 (fun b hb hr=>(HRR.o b hr).elim id fun h=>by omega),fun b hb=>by
    rcases hR2 b hb with h|h;·exact HRR.o b h
    ·right;have:=Pg.o;omega⟩);clear hI2 hk2 hR2 e0 e1 e2 e3 e4 e5 e6 e7 qP UC;go_wp2;go_roundw;case rel=>exact pU.o
   case measure=>simp[intOf];omega
  ·have t1: ¬(k:Int)<q:=by omega
   have HF:=qS (iZ w R bi N x evs (.returned (.tuple #[])) wr) (⟨rfl,R',by have:=HIT.o;rw[List.take_of_length_le (by rw[EM.o];omega)]at this;rw[EM.o,show q=k by omega];exact this,(ah.of_below (F:=R) HB1.o).trans lY.o (fun _ _ h=>h),fun b hb=>(HRR.o b hb).imp id fun h=>by omega⟩);clear HIT;go_wp2;go_end0;exact HF.o
def oC(w:World)(G F R:Nat→Prop)(br bj bd bi N:Nat)(j:Jl)(x:aG)(off m:Nat)(os:List (Option Ev))(e:Ending)(w':World):Prop:=e=.returned (.int .i64 m)∧ ∃R',iQ w' G F R' br bj bd bi (N+2*m) j (bE x (bU ((os.drop off).take m))) (off+m)∧ah (fun b=>R b∨b=br) w w'∧ ∀b,R' b→R b∨w.heap.size≤b
theorem CG(w:World)(G F R:Nat→Prop)(br bj bd bi N:Nat)(j:Jl)(x:aG)(off:Nat)(h:iQ w G F R br bj bd bi N j x off)(os:List (Option Ev))(hes:j.es=os)(n:Int)(m:Nat)(hm:m=(min (max n 0) ((os.length:Int)-off)).toNat)(hoff:off≤os.length)(hlen:os.length≤60)(hN:N+200<100000)(hmx:aW w):Calls Tryz.prog 18 #[.pointer (some ⟨br,0,none⟩),.int .i64 n] w (oC w G F R br bj bd bi N j x off m os):=by
 have HH:=qH h;have kL:=qH hmx;have BL:=qH hes;have HW:=qS (IntKind.i64.wrap ((os.length:Int)-off)=(os.length:Int)-off) (IntWalk.i64_in _ (by omega));have HM:=qS (min (max n 0) ((os.length:Int)-off)=(m:Int)) (by omega);have hmo:off+m≤os.length:=by omega
 have Q8:=qS (∀W,Below w.heap.size w W→Calls Tryz.prog 42 #[.pointer (some ⟨bj,0,none⟩),.int .i64 off,.int .i64 m,.func (.func 25) #[.pointer (some ⟨bi,0,none⟩)] #[]] W (iZ W R bi N x (bU ((os.drop off).take m)))) (fun W hW=>CE W G F R bj bd bi N j x (HH.o.up hW).jl os hes (HH.o.up hW).it off m hmo hlen hN (kL.o.up hW) HH.o.ml);have EM:=qS ((bU ((os.drop off).take m)).length≤m) (by have h1:=List.length_filterMap_le id ((os.drop off).take m);rw[List.length_take]at h1;unfold bU;omega);obtain⟨c0,c1,c2⟩:=h.cells;have OM:=qS (j.es.length=os.length) (by rw[hes]);have Ca:=qS (Calls Tryz.prog 37 #[.pointer (some ⟨bj,0,none⟩)] (w.drewN 1) fun e w'=>e=.returned (.int .i64 j.es.length)∧w'=w.drewN 1) ((zC (w.drewN 1) G F bj bd j (HH.o.jl.up (below_drewN (Below.refl _ _) 1))).mono fun e w' he=>⟨he.1,he.2.symm⟩);rw[OM.o]at Ca;clear h hmx hes hm;go_enter Tryz.func18,Tryz.ntmps18;go_wp2;go_still_tail 13,(by kernel_rfl);still_call Ca.o;repeat still_step
 refine wpStill_nil ?_;change wpList _ _ _ _ _ (w.drewN 1);rw[HW.o,HM.o];have Cb:=qH (HH.o.up (below_drewN (Below.refl _ _) 1));have HB1:=qS (Below w.heap.size w (w.drewN 1)) (below_drewN (Below.refl _ _) 1);clear c0 c1 c2 Ca;generalize w.drewN 1=w1 at*;obtain⟨c0,c1,c2⟩:=Cb.o.cells;generalize(os.length:Int)-off=z0 at*;generalize IntKind.i64.wrap z0=z1 at*;go_wp2;go_still_tail 14,(by kernel_rfl);repeat still_step
 change wpList _ _ _ _ _ (w1.drewN 1);have mR:=qH (Cb.o.up (below_drewN (Below.refl _ _) 1));have HB2:=qS (Below w.heap.size w (w1.drewN 1)) (below_drewN HB1.o 1);clear c0 c1 c2 Cb HB1;generalize w1.drewN 1=w2 at*;go_wp2_with fail;refine(Q8.o w2 HB2.o).mono ?_;rintro r w3⟨rfl,R3,RN,hk3,O9⟩;have RN:=RN.more (show N+2*(bU ((os.drop off).take m)).length≤N+2*m from by have:=EM.o;omega);obtain⟨hr3,hk4⟩:=mR.o.read (o2:=off+m) RN hk3 O9 (kL.o.up HB2.o);have hs2:=HB2.o.size;have HP:=qS (oC w G F R br bj bd bi N j x off m os (.returned (.int .i64 m)) (w3.setCell ⟨br,2,none⟩ (.int .i64 ((off+m:Nat):Int)))) (⟨rfl,R3,hr3,(ah.of_below HB2.o).trans hk4 (fun _ _ h=>h),fun b hb=>(O9 b hb).imp id fun h=>by omega⟩);have hb3:w3.heap[br]?=some (zh bj bi off):=(hk3.block br mR.o.blt (fun h=>mR.o.nr (.inr (.inr h)))).trans mR.o.blk;have c2:w3.cell? ⟨br,2,none⟩=some (.int .i64 off):=(cell_of_row w3 br 2 _ _ (0,0) hb3).trans rfl;have f2:=frozen_of_row w3 br 2 _ _ hb3;have HW2:=qS (IntKind.i64.wrap ((off:Int)+(m:Int))=((off+m:Nat):Int)) (by rw[IntWalk.i64_in _ (by omega)];omega);clear RN hk3 O9 hr3 hk4 hb3;go_wp2;go_ret;exact HP.o
end Go.Proofs.YtladegonienapaaGreatDoor
