/-
  Layer 33, plain: of whoever is forgotten nothing counts, wherever it stood.
-/
import Derived.Test.YtladegonienapaaGreatDoorRGrPlain
import Derived.Test.YtladegonienapaaGreatDoorRRpLog
set_option maxRecDepth 100000
set_option maxHeartbeats 16000000
namespace Go.Proofs.YtladegonienapaaGreatDoor
open Go.RowKit Go.Maps Go.Sort
def av(y:az)(l:List Ev):az:=l.foldl az.admits y
theorem qN(y:az)(l:List Ev)(k:Nat)(hk:k<l.length):av y (l.take (k+1))=(av y (l.take k)).admits l[k]:=by unfold av;rw[List.take_add_one,List.getElem?_eq_getElem hk,Option.toList_some,List.foldl_append];rfl
theorem J7{l:List Ev}(ha:xN l)(hl:l.length≤1000): ∀k,k≤l.length→eB (l.take k) (av (az.new 0 0) (l.take k)):=by
 intro k;induction k with
  |zero=>intro _;exact eB.new _ _
  |succ k ih=>
   intro hk;rw[qN _ _ _ (by omega)];have e1:l.take (k+1)=l.take k++[l[k]]:=by rw[List.take_add_one,List.getElem?_eq_getElem (by omega),Option.toList_some]
   rw[e1];refine(ih (by omega)).admits (by rw[List.length_take];omega) ?_;rw[←e1];intro a ha' b hb;exact ha a (List.mem_of_mem_take ha') b (List.mem_of_mem_take hb)
def ql(a b:Ev):Bool:=(a.src==b.src)&&(a.num==b.num)
theorem Bp(w:World)(a b:Ev):Calls Tryz.prog 10 #[a.agg,b.agg] w (Says (ql a b) w):=by
 have hb1:Below w.heap.size w (w.alloc (aj a)):=(Below.refl _ _).alloc (Nat.le_refl _) _;have hb2:Below w.heap.size w ((w.alloc (aj a)).alloc (aj b)):=hb1.alloc hb1.size _;have hsa:(w.alloc (aj a)).heap.size=w.heap.size+1:=by simp
 have HX:=(dK.new w a).below ((Below.refl (w.alloc (aj a)).heap.size (w.alloc (aj a))).alloc (Nat.le_refl _) (aj b)) (by omega);have HY:dK ((w.alloc (aj a)).alloc (aj b)) (w.heap.size+1) b:=by rw[←hsa];exact dK.new _ b
 obtain⟨e0,e1,e2,e3,e4,e5,e6,e7⟩:=HX;obtain⟨f0,f1,f2,f3,f4,f5,f6,f7⟩:=HY;have HS:=qS (ql a b=((a.src==b.src)&&(a.num==b.num))) (rfl);clear hsa hb1;cases h1:a.src==b.src;·have HV:=qS (ql a b=false) (by rw[HS.o,h1];rfl);unfold Ev.agg;go_enter Tryz.func10,Tryz.ntmps10;go_wp2;go_ret;exact⟨aa HV.o.symm,hb2⟩
 ·have HV:=qS (ql a b=(a.num==b.num)) (by rw[HS.o,h1];rfl);unfold Ev.agg;go_enter Tryz.func10,Tryz.ntmps10;go_wp2;go_ret;exact⟨aa HV.o.symm,hb2⟩
theorem FM{a b:Ev}:ql a b=true↔aO a=aO b:=by unfold ql aO;simp only[Bool.and_eq_true,beq_iff_eq,Prod.mk.injEq]
theorem Jt(w:World)(bc bm:Nat)(c:bq)(hc:ay w bc bm c):Calls Tryz.prog 52 #[.pointer (some ⟨bc,0,none⟩)] w fun e w'=>e=.returned (.int .i64 c.now)∧w=w':=by obtain⟨c0,c1,c2,c3,c4,f2,f3⟩:=hc.cells;clear hc;go_enter Tryz.func52,Tryz.ntmps52;go_wp2;go_ret;exact⟨rfl,rfl⟩
theorem F7(w:World)(bc bm:Nat)(c:bq)(hc:ay w bc bm c):Calls Tryz.prog 52 #[.pointer (some ⟨bc,0,none⟩)] w fun e w'=>e=.returned (.int .i64 c.now)∧w'=w:=(Jt w bc bm c hc).mono fun _ _ h=>⟨h.1,h.2.symm⟩
theorem vN(w:World)(F:Nat→Prop)(bi N:Nat)(x:az)(h:aS w F bi N x)(hN:N+2<100000)(e:Ev)(hsm:e.small)(hmx:aM w):Calls Tryz.prog 25 #[.pointer (some ⟨bi,0,none⟩),e.agg] w (vT w F bi (N+2) (x.admits e) (x.lC e)):=by
 have HI0:=qH h;obtain⟨A,hM,hO,hnl,Bf,iF,nk⟩:=h;have HM:=qH hM;have HO:=qH hO;have Dl:=qH iF;have tZ:=qH nk;have dO:=qH hmx;have hlt:bi<w.heap.size:=hM.lt (.inl rfl);clear hM hO iF nk hmx;have Vm:=qS (x.admits e=if x.refuses e then x else(x.hear e x.aG.now).took e) (rfl);have Vk:=qS (x.lC e=if x.refuses e then x.verdict e else 0) (rfl);have nF: ¬F w.heap.size:=fun h=>by have:=tZ.o _ h;omega
 unfold Ev.agg;go_enter Tryz.func25,Tryz.ntmps25;have bQ:Below w.heap.size w (w.alloc (aj e)):=(Below.refl _ _).alloc (Nat.le_refl _) _;have hsA:(w.alloc (aj e)).heap.size=w.heap.size+1:=by simp
 have uM:=qH (dK.new w e);have HI1:=qH (HI0.o.up bQ);have lH:=qH (HM.o.up bQ);have M9:=qH (dO.o.up bQ);have EX:=qS (ai F w (w.alloc (aj e))) (ai.of_below (F:=F) bQ);obtain⟨e0,e1,e2,e3,e4,e5,e6,e7⟩:=uM.o;go_wp2_with fail;clear bQ;generalize w.alloc (aj e)=w1 at*;refine(yA w1 F bi N x HI1.o (by omega) e hsm M9.o).mono ?_;rintro r w2⟨rfl,hb2⟩;have HI2:=qH (HI1.o.up hb2);have xH:=qH (lH.o.up hb2);have Dj:=qH (EX.o.trans (ai.of_below (F:=F) hb2) (fun _ _ h=>h));have HE2:=qH (uM.o.below hb2 (by omega));have hs2:=hb2.size;clear e0 e1 e2 e3 e4 e5 e6 e7 hb2;cases Be:x.refuses e
 ·have Pz:=qH Be;have Q9:x.wrong e=false∧hadB x.had e.src e.num=false:=by unfold az.refuses at Be;simpa using Be
  have l9:=qS (aB e=true) (by have:=Q9.1;unfold az.wrong at this;simp only[Bool.or_eq_false_iff,Bool.not_eq_false']at this;exact this.1.1);have Qf:=qH Q9.2;clear Be Q9;obtain⟨c0,c1,c2,c3,c4,c5,f2,f3,f4⟩:=xH.o.cells;obtain⟨e0,e1,e2,e3,e4,e5,e6,e7⟩:=HE2.o;have Lm:=qS (Calls Tryz.prog 52 #[.pointer (some ⟨A.bc,0,none⟩)] (w2.drewN 1) fun e w'=>e=.returned (.int .i64 x.aG.now)∧w'=w2.drewN 1) (F7 _ A.bc A.bm x.aG (xH.o.up (below_drewN (Below.refl _ _) 1)).aG);go_wp2;go_still_tail 13,(by kernel_rfl);still_call Lm.o;repeat still_step
  refine wpStill_nil ?_;change wpList _ _ _ _ _ (w2.drewN 1);have hbq:Below w2.heap.size w2 (w2.drewN 1):=below_drewN (Below.refl _ _) 1;clear e0 e1 e2 e3 e4 e5 e6 e7 c0 c1 c2 c3 c4 c5 f2 f3 f4 Lm;have Fv:=qH (xH.o.up hbq);have EZ:=qH (HE2.o.below hbq (by omega));have Lu:=qH (Dj.o.trans (ai.of_below (F:=F) hbq) (fun _ _ h=>h));have hs3:=hbq.size;clear hbq;generalize w2.drewN 1=w3 at*;go_wp2_with fail;refine(Gw w3 A.bc A.bm x.aG Fv.o.aG e.src e.at_ x.aG.now (by have:=HO.o.src;omega)).mono ?_;rintro r w4⟨rfl,hc4,hk4⟩;have hok4:bU (N+1) (x.hear e x.aG.now):=HO.o.hear e x.aG.now;obtain⟨NJ,Wy,hK4⟩:=aS.rJ (N:=N) (M:=N+1) Fv.o hnl Bf (by omega) Dl.o (fun b hb=>by have:=tZ.o b hb;omega) hc4 hk4 hok4;have HI4:=qS (aS w4 F bi (N+1) (x.hear e x.aG.now)) (NJ);have IG:=qH (Lu.o.trans hK4 (fun _ _ h=>h));have I8:=qH (MC hK4 (by omega) nF EZ.o);have hs4:=hK4.size;have XT:=qS ((x.hear e x.aG.now).had=x.had) (rfl);have HR:=qS (x.admits e=(x.hear e x.aG.now).took e) (by rw[Vm.o,Pz.o];rfl);have HV:=qS (x.lC e=0) (by rw[Vk.o,Pz.o];rfl);clear hc4 hk4 NJ Wy hK4 hok4;generalize x.hear e x.aG.now=z at*;obtain⟨e0,e1,e2,e3,e4,e5,e6,e7⟩:=I8.o;go_wp2_with fail;refine(FB w4 F bi (N+1) z HI4.o (by omega) e hsm l9.o (by rw[XT.o];exact Qf.o)).mono ?_;rintro r w5⟨rfl,F5,Uv,Us,OW⟩;have HD:=qS (uj w F bi (N+2) (x.admits e) w5) (⟨F5,by rw[HR.o];exact Uv,IG.o.trans Us (fun _ _ h=>h),fun b hb=>(OW b hb).imp id (fun h=>by omega)⟩);clear Uv Us OW e0 e1 e2 e3 e4 e5 e6 e7;go_wp2;go_ret;exact⟨dB HV.o.symm,HD.o⟩
 ·have HR:=qS (x.admits e=x) (by rw[Vm.o,Be];rfl);have HV:=qS (x.lC e=x.verdict e) (by rw[Vk.o,Be];rfl);clear Be;go_wp2;go_ret;exact⟨dB HV.o.symm,F,by rw[HR.o];exact HI2.o.more (by omega),Dj.o,fun b hb=>.inl hb⟩
open Go.Shelf
theorem eD.kp33{w w':World}{G:Nat→Prop}{A:Option Addr}{n c:Nat}{es:List Ev}(h:eD w w.heap.size A n c es)(hA: ∀b off,A=some ⟨b,off,none⟩→ ¬G b)(hk:ai G w w'):eD w' w'.heap.size A n c es:=aI.nY h hA hk
theorem qp: ∀l:List Ev,mQ (l.map some)=l|[]=>rfl|e::l=>by have ih:=qp l;unfold mQ at ih⊢;simp only[List.map_cons,List.filterMap_cons,id_eq];rw[ih]
abbrev ym(bj bi:Nat)(off:Int):Obj:=.cells #[.pointer (some ⟨bj,0,none⟩),.pointer (some ⟨bi,0,none⟩),.int .i64 off] 72
def Ic(w1:World)(R:Nat→Prop)(bi N:Nat)(x:az)(evs:List Ev)(i:Value)(W:World):Prop:= ∃(k:Nat)(R':Nat→Prop),i=.int .i64 k∧k≤evs.length∧aS W R' bi (N+2*k) (av x (evs.take k))∧ai R w1 W∧ ∀b,R' b→R b∨w1.heap.size≤b
def nC(w:World)(R:Nat→Prop)(bi N:Nat)(x:az)(evs:List Ev)(e:Ending)(w':World):Prop:=e=.returned (.tuple #[])∧uj w R bi (N+2*evs.length) (av x evs) w'
theorem Ak(w:World)(G F R:Nat→Prop)(bj bd bi N:Nat)(j:Jl)(x:az)(hj:fo w G F bj bd j)(ds:List Ev)(hes:j.es=ds.map some)(hx:aS w R bi N x)(off m:Nat)(Yd:off+m≤ds.length)(hlen:ds.length≤60)(hN:N+200<100000)(hmx:aM w)(wQ: ¬R 0):Calls Tryz.prog 42 #[.pointer (some ⟨bj,0,none⟩),.int .i64 off,.int .i64 m,.func (.func 25) #[.pointer (some ⟨bi,0,none⟩)] #[]] w (nC w R bi N x ((ds.drop off).take m)):=by
 have hcall: ∀(args:Array Value)(w:World),(callFunc 25 args).run Tryz.prog w=.ok (.enter 25 args) w:=fun args w=>by kernel_rfl
 obtain⟨evs,sJ⟩: ∃evs,evs=(ds.drop off).take m:=⟨_,rfl⟩;have hel:evs.length=m:=by rw[sJ,List.length_take,List.length_drop];omega
 have QO:=qS (∃ats,Calls Tryz.prog 79 #[.pointer (some ⟨bj,0,none⟩),.int .i64 off,.int .i64 m] w (xB w evs ats 0)) (by
  have:=AZ w G F bj bd j hj off m;have hl:j.es.length=ds.length:=by rw[hes,List.length_map]
  have e1:j.qw off m=false:=by unfold Jl.qw;rw[hl];simp;omega
  have e2:j.uY off m=evs.map some:=by
   unfold Jl.uY;rw[hl,hes];have e3:(min (m:Int) ((ds.length:Int)-(off:Int))).toNat=m:=by omega
   rw[e3,Int.toNat_natCast,sJ,List.map_take,List.map_drop]
  unfold fV at this;rw[e1,e2,qp]at this;exact⟨_,this⟩);have xD:=qS (∀e∈evs,e.small) (fun e he=>jS (hj.1.may e (by rw[hes];exact List.mem_map.2 ⟨e,List.mem_of_mem_drop (List.mem_of_mem_take (sJ▸he)),rfl⟩)));have HX:=qH hx;have dO:=qH hmx;have Xz:=qH wQ;have OE: ∀b,R b→b<w.heap.size:=by obtain⟨A,_,_,_,_,_,h6⟩:=hx;exact h6
 have xE:=qH OE;rw[←sJ];obtain⟨ats,hrd⟩:=QO.o;have HR:=qH hrd;have hm60:m≤60:=by omega
 have Nk:=qH hel;clear hj hes hx hmx wQ sJ QO hrd OE hel;go_enter Tryz.func42,Tryz.ntmps42;go_wp2_with fail;refine HR.o.mono ?_;rintro r w1⟨v1,v2,rfl,hv1,hv2,hb1⟩;obtain⟨B1,d1,hf1,_⟩:=hv1.form;subst hf1;have he1:eD w1 w1.heap.size B1 evs.length d1 evs:=aI.bz hv1;rw[Nk.o]at he1⊢;have uM:=qH he1;have HB1:=qH hb1;have hs1:=hb1.size;have HA1:=qS (∀b off,B1=some ⟨b,off,none⟩→ ¬R b) (fun b off e hR=>by
  have h1:=xE.o b hR;rcases hv1.2 with⟨e',_⟩|⟨g,cap,cur,e',hbg,_⟩;·injection e' with e1 e2;rw[e1]at e;cases e
  ·injection e' with e1 e2;rw[e]at e1;injection e1 with e1;injection e1 with e1;omega);have Fg:=qS (Ic w1 R bi N x evs (.int .i64 0) w1) (⟨0,R,rfl,Nat.zero_le _,HX.o.up HB1.o,ai.refl _ _,fun b hb=>.inl hb⟩);clear hv1 hv2 he1 hb1;go_wp2;go_loopw[23](fun i W=>Ic w1 R bi N x evs i W)(fun i _=>m-(intOf i).toNat);case atStart=>exact Fg.o
 case round=>
  obtain⟨k,R',rfl,hk,hit,hkp,hR'⟩:=hrel;have HIT:=qH hit;have qd:=qH hkp;have HRR:=qH hR';have qX:=hkp.size;have Wl:k≤m:=by rw[←Nk.o];exact hk
  clear hit hkp hR';by_cases hkn:k<m
  ·have hkl:k<evs.length:=by rw[Nk.o];exact hkn
   have t1:(k:Int)<m:=by omega
   obtain⟨b,o,rfl,_,hd⟩:=(uM.o.kp33 HA1.o qd.o).ev k hkl;obtain⟨e0,e1,e2,e3,e4,e5,e6,e7⟩:=hd;have fH:=qH (qN x evs k hkl);have vW:=qH (xD.o evs[k] (List.getElem_mem hkl));generalize evs[k]=e at*;have di:Below wr.heap.size wr (wr.alloc (aj e)):=(Below.refl _ _).alloc (Nat.le_refl _) _;have xV:=qH (vN (wr.alloc (aj e)) R' bi (N+2*k) (av x (evs.take k)) (HIT.o.up di) (by omega) e vW.o (by have h1:aM w1:=dO.o.up HB1.o;exact(h1.out qd.o Xz.o).up di));have QT:=qH (qd.o.trans (ai.of_below (F:=R) di) (fun _ _ h=>h));have hsa:(wr.alloc (aj e)).heap.size=wr.heap.size+1:=by simp
   have Pv:=qH hsa;clear di hsa;go_wp2_with fail;refine xV.o.mono ?_;rintro r w2⟨rfl,R2,hI2,hk2,hR2⟩;have gI:=qS (Ic w1 R bi N x evs (.int .i64 ((k+1:Nat):Int)) w2) (⟨k+1,R2,rfl,hkl,by rw[fH.o,show N+2*(k+1)=N+2*k+2 by omega];exact hI2,QT.o.trans hk2 (fun b hb hr=>(HRR.o b hr).elim id fun h=>by omega),fun b hb=>by
    rcases hR2 b hb with h|h;·exact HRR.o b h
    ·right;have:=Pv.o;omega⟩);clear hI2 hk2 hR2 e0 e1 e2 e3 e4 e5 e6 e7 xV QT;go_wp2;go_roundw;case rel=>exact gI.o
   case measure=>simp[intOf];omega
  ·have t1: ¬(k:Int)<m:=by omega
   have HF:=qS (nC w R bi N x evs (.returned (.tuple #[])) wr) (⟨rfl,R',by have:=HIT.o;rw[List.take_of_length_le (by rw[Nk.o];omega)]at this;rw[Nk.o,show m=k by omega];exact this,(ai.of_below (F:=R) HB1.o).trans qd.o (fun _ _ h=>h),fun b hb=>(HRR.o b hb).imp id fun h=>by omega⟩);clear HIT;go_wp2;go_end0;exact HF.o
structure dD(w:World)(G F R:Nat→Prop)(br bj bd bi N:Nat)(j:Jl)(x:az)(off:Nat):Prop where
 jl:fo w G F bj bd j
 it:aS w R bi N x
 blk:w.heap[br]?=some (ym bj bi off)
 nr: ¬(G br∨F br∨R br)
 rj: ∀b,R b→ ¬(G b∨F b)
 ml: ¬R 0
theorem dD.keep{w w':World}{G F R:Nat→Prop}{br bj bd bi N:Nat}{j:Jl}{x:az}{off:Nat}(h:dD w G F R br bj bd bi N j x off)(hsz:w.heap.size≤w'.heap.size)(hk: ∀b,G b∨F b∨R b∨b=br→w'.heap[b]?=w.heap[b]?):dD w' G F R br bj bd bi N j x off:=⟨h.jl.keep hsz fun b hb=>hk b (hb.elim .inl fun h=>.inr (.inl h)),h.it.keep hsz fun b hb=>hk b (.inr (.inr (.inl hb))),(hk br (.inr (.inr (.inr rfl)))).trans h.blk,h.nr,h.rj,h.ml⟩
theorem dD.blt{w:World}{G F R:Nat→Prop}{br bj bd bi N:Nat}{j:Jl}{x:az}{off:Nat}(h:dD w G F R br bj bd bi N j x off):br<w.heap.size:=(Array.getElem?_eq_some_iff.1 h.blk).1
theorem dD.DT{w:World}{G F R:Nat→Prop}{br bj bd bi N:Nat}{j:Jl}{x:az}{off:Nat}(h:dD w G F R br bj bd bi N j x off): ∀b,R b→b<w.heap.size:=by obtain⟨A,_,_,_,_,_,h6⟩:=h.it;exact h6
theorem dD.up{w w':World}{G F R:Nat→Prop}{br bj bd bi N:Nat}{j:Jl}{x:az}{off:Nat}(h:dD w G F R br bj bd bi N j x off)(hb:RowKit.Below w.heap.size w w'):dD w' G F R br bj bd bi N j x off:=h.keep hb.size fun b hh=>hb.block b (by
 rcases hh with h1|h1|h1|h1;·exact h.jl.lt b (.inl h1)
 ·exact h.jl.lt b (.inr h1)
 ·exact h.DT b h1
 ·rw[h1];exact h.blt)
theorem dD.cells{w:World}{G F R:Nat→Prop}{br bj bd bi N:Nat}{j:Jl}{x:az}{off:Nat}(h:dD w G F R br bj bd bi N j x off):w.cell? ⟨br,0,none⟩=some (.pointer (some ⟨bj,0,none⟩))∧w.cell? ⟨br,1,none⟩=some (.pointer (some ⟨bi,0,none⟩))∧w.cell? ⟨br,2,none⟩=some (.int .i64 off):=by have key: ∀o,w.cell? ⟨br,o,none⟩=_:=fun o=>cell_of_row w br o _ _ (0,0) h.blk;exact⟨(key 0).trans rfl,(key 1).trans rfl,(key 2).trans rfl⟩
theorem dD.read{w w':World}{G F R R':Nat→Prop}{br bj bd bi N M:Nat}{j:Jl}{x y:az}{off o2:Nat}(h:dD w G F R br bj bd bi N j x off)(hi:aS w' R' bi M y)(hk:ai R w w')(hR: ∀b,R' b→R b∨w.heap.size≤b)(hmx:aM w):dD (w'.setCell ⟨br,2,none⟩ (.int .i64 o2)) G F R' br bj bd bi M j y o2∧ai (fun b=>R b∨b=br) w (w'.setCell ⟨br,2,none⟩ (.int .i64 o2)):=by
 have hrb: ¬R br:=fun hh=>h.nr (.inr (.inr hh));have hblk:w'.heap[br]?=some (ym bj bi off):=(hk.block br h.blt hrb).trans h.blk;have hs:=hk.size;have hss:(w'.setCell ⟨br,2,none⟩ (.int .i64 o2)).heap.size=w'.heap.size:=by simp[World.setCell]
 have hset: ∀b,b≠br→(w'.setCell ⟨br,2,none⟩ (.int .i64 o2)).heap[b]?=w'.heap[b]?:=fun b hb=>Below.heap_setCell _ _ _ _ hb;refine⟨⟨h.jl.keep (by omega) fun b hb=>?_,hi.keep (by omega) fun b hb=>hset b fun e=>?_,?_,fun hh=>?_,fun b hb hg=>?_,fun hh=>?_⟩,(hk.mono fun b _ hb=>.inl hb).setCell (fun _=>.inr rfl) _⟩;·rw[hset b (fun e=>h.nr (by rw[e]at hb;exact hb.elim .inl fun h=>.inr (.inl h)))];exact hk.block b (h.jl.lt b hb) (fun hr=>h.rj b hr hb)
 ·rw[e]at hb;rcases hR br hb with h1|h1;·exact hrb h1
  ·have:=h.blt;omega
 ·rw[af hblk];rfl
 ·rcases hh with h1|h1|h1;·exact h.nr (.inl h1)
  ·exact h.nr (.inr (.inl h1))
  ·rcases hR br h1 with h2|h2;·exact hrb h2
   ·have:=h.blt;omega
 ·rcases hR b hb with h1|h1;·exact h.rj b h1 hg
  ·have:=h.jl.lt b hg;omega
 ·rcases hR _ hh with h1|h1;·exact h.ml h1
  ·have:=hmx.lt;omega
def tQ(w:World)(G F R:Nat→Prop)(br bj bd bi N:Nat)(j:Jl)(x:az)(off m:Nat)(ds:List Ev)(e:Ending)(w':World):Prop:=e=.returned (.int .i64 m)∧ ∃R',dD w' G F R' br bj bd bi (N+2*m) j (av x ((ds.drop off).take m)) (off+m)∧ai (fun b=>R b∨b=br) w w'∧ ∀b,R' b→R b∨w.heap.size≤b
theorem bG(w:World)(G F R:Nat→Prop)(br bj bd bi N:Nat)(j:Jl)(x:az)(off:Nat)(h:dD w G F R br bj bd bi N j x off)(ds:List Ev)(hes:j.es=ds.map some)(n:Int)(m:Nat)(hm:m=(min (max n 0) ((ds.length:Int)-off)).toNat)(hoff:off≤ds.length)(hlen:ds.length≤60)(hN:N+200<100000)(hmx:aM w):Calls Tryz.prog 18 #[.pointer (some ⟨br,0,none⟩),.int .i64 n] w (tQ w G F R br bj bd bi N j x off m ds):=by
 have HH:=qH h;have dO:=qH hmx;have uw:=qH hes;have HW:=qS (IntKind.i64.wrap ((ds.length:Int)-off)=(ds.length:Int)-off) (IntWalk.i64_in _ (by omega));have HM:=qS (min (max n 0) ((ds.length:Int)-off)=(m:Int)) (by omega);have hmo:off+m≤ds.length:=by omega
 have QO:=qS (∀W,Below w.heap.size w W→Calls Tryz.prog 42 #[.pointer (some ⟨bj,0,none⟩),.int .i64 off,.int .i64 m,.func (.func 25) #[.pointer (some ⟨bi,0,none⟩)] #[]] W (nC W R bi N x ((ds.drop off).take m))) (fun W hW=>Ak W G F R bj bd bi N j x (HH.o.up hW).jl ds hes (HH.o.up hW).it off m hmo hlen hN (dO.o.up hW) HH.o.ml);have Nk:=qS (((ds.drop off).take m).length=m) (by rw[List.length_take,List.length_drop];omega);obtain⟨c0,c1,c2⟩:=h.cells;have NS:=qS (j.es.length=ds.length) (by rw[hes,List.length_map]);have xI:=qS (Calls Tryz.prog 37 #[.pointer (some ⟨bj,0,none⟩)] (w.drewN 1) fun e w'=>e=.returned (.int .i64 j.es.length)∧w'=w.drewN 1) ((pG (w.drewN 1) G F bj bd j (HH.o.jl.up (below_drewN (Below.refl _ _) 1))).mono fun e w' he=>⟨he.1,he.2.symm⟩);rw[NS.o]at xI;clear h hmx hes hm;go_enter Tryz.func18,Tryz.ntmps18;go_wp2;go_still_tail 13,(by kernel_rfl);still_call xI.o;repeat still_step
 refine wpStill_nil ?_;change wpList _ _ _ _ _ (w.drewN 1);rw[HW.o,HM.o];have qR:=qH (HH.o.up (below_drewN (Below.refl _ _) 1));have HB1:=qS (Below w.heap.size w (w.drewN 1)) (below_drewN (Below.refl _ _) 1);clear c0 c1 c2 xI;generalize w.drewN 1=w1 at*;obtain⟨c0,c1,c2⟩:=qR.o.cells;generalize(ds.length:Int)-off=z0 at*;generalize IntKind.i64.wrap z0=z1 at*;go_wp2;go_still_tail 14,(by kernel_rfl);repeat still_step
 change wpList _ _ _ _ _ (w1.drewN 1);have ky:=qH (qR.o.up (below_drewN (Below.refl _ _) 1));have HB2:=qS (Below w.heap.size w (w1.drewN 1)) (below_drewN HB1.o 1);clear c0 c1 c2 qR HB1;generalize w1.drewN 1=w2 at*;go_wp2_with fail;refine(QO.o w2 HB2.o).mono ?_;rintro r w3⟨rfl,R3,Mv,hk3,JN⟩;rw[Nk.o]at Mv;obtain⟨hr3,hk4⟩:=ky.o.read (o2:=off+m) Mv hk3 JN (dO.o.up HB2.o);have hs2:=HB2.o.size;have HP:=qS (tQ w G F R br bj bd bi N j x off m ds (.returned (.int .i64 m)) (w3.setCell ⟨br,2,none⟩ (.int .i64 ((off+m:Nat):Int)))) (⟨rfl,R3,hr3,(ai.of_below HB2.o).trans hk4 (fun _ _ h=>h),fun b hb=>(JN b hb).imp id fun h=>by omega⟩);have hb3:w3.heap[br]?=some (ym bj bi off):=(hk3.block br ky.o.blt (fun h=>ky.o.nr (.inr (.inr h)))).trans ky.o.blk;have c2:w3.cell? ⟨br,2,none⟩=some (.int .i64 off):=(cell_of_row w3 br 2 _ _ (0,0) hb3).trans rfl;have f2:=frozen_of_row w3 br 2 _ _ hb3;have HW2:=qS (IntKind.i64.wrap ((off:Int)+(m:Int))=((off+m:Nat):Int)) (by rw[IntWalk.i64_in _ (by omega)];omega);clear Mv hk3 JN hr3 hk4 hb3;go_wp2;go_ret;exact HP.o
def bX(p:List UInt8)(e:Ev):Bool:=(e.per !=p)||(e.kind==14)
theorem Ec{l:List Ev}(p q:List UInt8):nI (l.filter (bX p)) q↔nI l q:=by
 constructor;·rintro⟨f,h1,h2⟩;exact⟨f,(List.mem_filter.1 h1).1,h2⟩
 ·rintro⟨f,h1,h2,h3,h4⟩;exact⟨f,List.mem_filter.2 ⟨h1,by unfold bX;simp[h3]⟩,h2,h3,h4⟩
theorem xn{l:List Ev}(h:(l.map aO).Nodup):xN l:=fun a ha b hb h1 h2=>CG h ha hb (by unfold aO;rw[h1,h2])
theorem CU{l:List Ev}(hi:(l.map aO).Nodup)(hl:l.length≤1000):eB l (av (az.new 0 0) l):=by have:=J7 (xn hi) hl l.length (Nat.le_refl _);rw[List.take_length]at this;exact this
theorem wS{l:List Ev}{p:List UInt8}(hi:(l.map aO).Nodup)(hl:l.length≤1000)(hg:nI l p):(av (az.new 0 0) l).taken=(av (az.new 0 0) (l.filter (bX p))).taken∧ ∀q,q∈(av (az.new 0 0) l).gone↔q∈(av (az.new 0 0) (l.filter (bX p))).gone:=by
 have hi2:((l.filter (bX p)).map aO).Nodup:=(List.filter_sublist.map aO).nodup hi;have h1:=CU hi hl;have h2:=CU hi2 (Nat.le_trans (List.length_filter_le _ _) hl);have hgo: ∀q,q∈(av (az.new 0 0) l).gone↔q∈(av (az.new 0 0) (l.filter (bX p))).gone:=fun q=>by rw[h1.gone,h2.gone,Ec]
 refine⟨uz h1.sorted h2.sorted h1.ids h2.ids fun e=>?_,hgo⟩;rw[h1.taken,h2.taken,List.mem_filter];constructor
 ·rintro⟨a,b,c⟩;refine⟨⟨a,?_⟩,b,c.imp id fun hc hq=>hc ((hgo _).2 hq)⟩;unfold bX;rcases c with c|c;·simp[c]
  ·have:e.per≠p:=fun hp=>c (by rw[hp];exact(h1.gone p).2 hg);simp[this]
 ·rintro⟨⟨a,_⟩,b,c⟩;exact⟨a,b,c.imp id fun hc hq=>hc ((hgo _).1 hq)⟩
end Go.Proofs.YtladegonienapaaGreatDoor
