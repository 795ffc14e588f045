/-
  Layer 7, the document's: Has, rising.
-/
import Derived.Test.YtbejfgmdkmddnaaGreatDoorQRClk1
import Derived.StillTailTactics
import Derived.Deep.RegionLaw
import Derived.Test.YtbejfgmdkmddnaaGreatDoorQClkHear
import Derived.RegionTactic
import Derived.BigRegion
import Derived.Deep.DeepCutAuto
import Derived.Test.YtbejfgmdkmddnaaGreatDoorQPnM
set_option maxRecDepth 100000
set_option maxHeartbeats 16000000
namespace Go.Proofs.YtbejfgmdkmddnaaGreatDoor
open Go.RowKit Go.Maps Go.Sort
def tellI(c:Clk):Int:=match c.told with|none=> -2|some m=>if m< -2 then-2 else m
def IntPost(w:World)(n:Int)(e:Ending)(w':World):Prop:=e=.returned (.int .i64 n)∧Below w.heap.size w w'
structure RCells(w:World)(bc:Nat)(c:Clk)(v:Value):Prop where
 c0:w.cell? ⟨bc,0,none⟩=some (.int .i64 c.slack)
 c1:w.cell? ⟨bc,1,none⟩=some (.int .i64 c.idle)
 c2:w.cell? ⟨bc,2,none⟩=some (.int .i64 c.now)
 c3:w.cell? ⟨bc,3,none⟩=some (.int .i64 c.mark)
 c4:w.cell? ⟨bc,4,none⟩=some v
theorem RCells.of{w:World}{bc:Nat}{c:Clk}{v:Value}(h:w.heap[bc]?=some (rclkObj c v)):RCells w bc c v:=by have key: ∀o,w.cell? ⟨bc,o,none⟩=_:=fun o=>cell_of_row w bc o _ _ (0,0) h;exact⟨(key 0).trans rfl,(key 1).trans rfl,(key 2).trans rfl,(key 3).trans rfl,(key 4).trans rfl⟩
theorem RCells.below{w w':World}{B bc:Nat}{c:Clk}{v:Value}(h:RCells w bc c v)(hb:Below B w w')(hB:bc<B):RCells w' bc c v:=by have key: ∀o u,w.cell? ⟨bc,o,none⟩=some u→w'.cell? ⟨bc,o,none⟩=some u:=fun o u hu=>(hb.cell (p:=⟨bc,o,none⟩) hB).trans hu;exact⟨key _ _ h.c0,key _ _ h.c1,key _ _ h.c2,key _ _ h.c3,key _ _ h.c4⟩
def stepO(o:Option Int)(x:Int):Option Int:=match o with|none=>some x|some y=>some (if x<y then x else y)
theorem leastI_step(l:List Int)(x:Int):leastI (l++[x])=stepO (leastI l) x:=leastI_snoc l x
def actL(c:Clk)(l:Row (Int×Int)):List Int:=(l.filter fun p=>actB c.idle c.now p.2).map fun p=>p.2.1-c.slack-1
def TlRel(w:World)(c:Clk)(l a i:Value)(wr:World):Prop:= ∃(k:Nat)(o:Option Int),i=.int .i64 k∧k≤c.src.length∧l=.int .i64 (o.getD 0)∧a=.bool o.isSome∧leastI (actL c (c.src.take k))=o∧Below w.heap.size w wr
theorem actL_take(c:Clk)(k:Nat)(hk:k<c.src.length):actL c (c.src.take (k+1))=actL c (c.src.take k)++(if actB c.idle c.now c.src[k].2 then[c.src[k].2.1-c.slack-1]else[]):=by unfold actL;rw[List.take_add_one,List.getElem?_eq_getElem hk,Option.toList_some,List.filter_append,List.map_append];congr 1;simp only[List.filter_cons,List.filter_nil];split<;>simp
theorem rtell_any(w:World)(bc:Nat)(S:Nat→Prop)(N:Nat)(c:Clk)(h:RClk w bc S N c)(hN:N≤100000):Calls Tryz.prog 132 #[.pointer (some ⟨bc,0,none⟩)] w (IntPost w (tellI c)):=by
 obtain⟨A,n,cp,hblk,hsrc,hvw⟩:=h.view;have hok:=h.ok;obtain⟨hsl1,hsl2⟩:=hok.slack;obtain⟨hnw1,hnw2⟩:=hok.now;have HSRC:=qH hsrc;have HRC:=qH (RCells.of hblk);have HOK:=qH h.ok;have hlen:=h.len;have hnl:=hsrc.len;have HNL:=qH hnl;have hbclt:bc<w.heap.size:=(Array.getElem?_eq_some_iff.1 hblk).1;have HTE:=qH (show tellI c=match leastI (actL c c.src)with|none=> -2|some m=>if m< -2 then-2 else m from rfl);clear hblk hsrc h hok hvw;have hn1:n≤100000:=by omega
 obtain⟨c0,c1,c2,c3,c4⟩:=HRC.out;go_enter Tryz.func132,Tryz.ntmps132;clear hnl;go_wp2;go_loopw[3,4,5](fun l a i wr=>TlRel w c l a i wr)(fun _ _ i _=>n-(intOf i).toNat);case atStart=>exact⟨0,none,rfl,Nat.zero_le _,rfl,rfl,rfl,Below.refl _ _⟩
 case round=>
  obtain⟨k,o,rfl,hk,rfl,rfl,ho,hbel⟩:=hrel;have HO:=qH ho;clear ho;obtain⟨d0,d1,d2,d3,d4⟩:=HRC.out.below hbel hbclt;clear c0 c1 c2 c3 c4;by_cases hkn:k<n
  ·have hkl:k<c.src.length:=by rw[HNL.out];exact hkn
   obtain⟨b,off,rfl,hb,e0,e1,e2⟩:=HSRC.out.at_ k hkl;have e0':=(hbel.cell (p:=⟨b,off+k*3,none⟩) hb).trans e0;have e1':=(hbel.cell (p:=⟨b,off+k*3+1,none⟩) hb).trans e1;have e2':=(hbel.cell (p:=⟨b,off+k*3+2,none⟩) hb).trans e2;clear e0 e1 e2;obtain⟨_,hp1,hp2,hp3,hp4⟩:=HOK.out.src _ (List.getElem_mem hkl);have HTK:=qH (actL_take c k hkl);generalize c.src[k]=p at*;obtain⟨nm,pa,pl⟩:=p;simp only at*;have t1:(k:Int)<n:=by omega
   have w1:IntKind.i64.wrap (pa-c.slack)=pa-c.slack:=IntWalk.i64_in _ (by omega);have w2:IntKind.i64.wrap (pa-c.slack-1)=pa-c.slack-1:=IntWalk.i64_in _ (by omega);go_wp2;go_quiet(fail);have hbq:Below w.heap.size w (wr.drewN nq):=below_drewN hbel nq;have a1:(wr.drewN nq).cell? ⟨bc,1,none⟩=some (.int .i64 c.idle):=d1;have a2:(wr.drewN nq).cell? ⟨bc,2,none⟩=some (.int .i64 c.now):=d2;have a4:(wr.drewN nq).cell? ⟨bc,4,none⟩=some (.slice (some ⟨b,off,none⟩) n cp):=d4;have q0:(wr.drewN nq).cell? ⟨b,off+k*3,none⟩=_:=e0';have q1:(wr.drewN nq).cell? ⟨b,off+k*3+1,none⟩=_:=e1';have q2:(wr.drewN nq).cell? ⟨b,off+k*3+2,none⟩=_:=e2';clear d0 d1 d2 d3 d4 e0' e1' e2';generalize wr.drewN nq=w3 at*;go_wp2_with fail;refine(ract_any w3 bc c.idle c.now a1 a2 (nm,pa,pl) ⟨hnw1,hnw2⟩ ⟨hp3,hp4⟩).mono ?_;rintro r w4⟨rfl,hb4⟩;have hbw4:Below w.heap.size w w4:=hbq.trans (hb4.mono hbq.size);clear a1 a2 a4 q0 q1 q2 hb4 hbq;simp only;have HTK':=qH (show leastI (actL c (c.src.take (k+1)))=if actB c.idle c.now (pa,pl)then stepO o (pa-c.slack-1)else o by
    rw[HTK.out];split;·rw[leastI_step,HO.out]
    ·rw[List.append_nil,HO.out]);clear HTK HO;generalize actB c.idle c.now (pa,pl)=ab at*;generalize pa-c.slack-1=nn at*;cases ab
   ·have HR:=qH (show TlRel w c (.int .i64 (o.getD 0)) (.bool o.isSome) (.int .i64 ((k+1:Nat):Int)) w4 from⟨k+1,o,rfl,by omega,rfl,rfl,by rw[HTK'.out];rfl,hbw4⟩);clear HTK';go_wp2;go_roundw;case rel=>exact HR.out
    case measure=>simp[intOf];omega
   cases o with
    |none=>
     have HR:=qH (show TlRel w c (.int .i64 nn) (.bool true) (.int .i64 ((k+1:Nat):Int)) w4 from⟨k+1,some nn,rfl,by omega,rfl,rfl,by rw[HTK'.out];rfl,hbw4⟩);clear HTK';simp only[Option.getD_none,Option.isSome_none];go_wp2;go_roundw;case rel=>exact HR.out
     case measure=>simp[intOf];omega
    |some y=>
     simp only[Option.getD_some,Option.isSome_some];by_cases hny:nn<y
     ·have HR:=qH (show TlRel w c (.int .i64 nn) (.bool true) (.int .i64 ((k+1:Nat):Int)) w4 from⟨k+1,some nn,rfl,by omega,rfl,rfl,by rw[HTK'.out];simp[stepO,hny],hbw4⟩);clear HTK';go_wp2;go_roundw;case rel=>exact HR.out
      case measure=>simp[intOf];omega
     ·have HR:=qH (show TlRel w c (.int .i64 y) (.bool true) (.int .i64 ((k+1:Nat):Int)) w4 from⟨k+1,some y,rfl,by omega,rfl,rfl,by rw[HTK'.out];simp[stepO,hny],hbw4⟩);clear HTK';go_wp2;go_roundw;case rel=>exact HR.out
      case measure=>simp[intOf];omega
  ·have t1: ¬(k:Int)<n:=by omega
   have HO':=qH (show leastI (actL c c.src)=o by have:=HO.out;rw[List.take_of_length_le (by rw[HNL.out];omega)]at this;exact this);cases o with
    |none=>have HR:=qH (show tellI c= -2 by rw[HTE.out,HO'.out]);simp only[Option.getD_none,Option.isSome_none];go_wp2;go_ret;exact⟨ret_int HR.out.symm,hbel⟩
    |some y=>
     simp only[Option.getD_some,Option.isSome_some];by_cases hy:y< -2;·have HR:=qH (show tellI c= -2 by rw[HTE.out,HO'.out];simp[hy]);go_wp2;go_ret;exact⟨ret_int HR.out.symm,hbel⟩
     ·have HR:=qH (show tellI c=y by rw[HTE.out,HO'.out];simp[hy]);go_wp2;go_ret;exact⟨ret_int HR.out.symm,hbel⟩
theorem RClk.stay{w w':World}{bc N:Nat}{S F:Nat→Prop}{c:Clk}(h:RClk w bc S N c)(hk:Keep F w w')(hF: ∀b,F b→ ¬S b∧b≠bc):RClk w' bc S N c:=by obtain⟨⟨A,n,cp,hblk,hsrc,hvw⟩,hns,hlow,hok,hlen⟩:=h;have hlt:bc<w.heap.size:=(Array.getElem?_eq_some_iff.1 hblk).1;exact⟨⟨A,n,cp,(hk.block bc hlt (fun hf=>(hF _ hf).2 rfl)).trans hblk,Cel.stay hsrc hvw hk.size (fun b off hb hlt=>hk.cell (p:=⟨b,off,none⟩) hlt (fun hf=>(hF _ hf).1 hb)),hvw⟩,hns,fun b hb=>Nat.lt_of_lt_of_le (hlow b hb) hk.size,hok,hlen⟩
theorem RClk.wide{w:World}{bc N M:Nat}{S T:Nat→Prop}{c:Clk}(h:RClk w bc S N c)(hT: ∀b,S b→T b)(hn: ¬T bc)(hl: ∀b,T b→b<w.heap.size)(hM:N≤M):RClk w bc T M c:=by obtain⟨⟨A,n,cp,hblk,hsrc,hvw⟩,hns,hlow,hok,hlen⟩:=h;exact⟨⟨A,n,cp,hblk,hsrc,hvw.mono hT⟩,hn,hl,hok,by omega⟩
theorem RClk.lt{w:World}{bc N:Nat}{S:Nat→Prop}{c:Clk}(h:RClk w bc S N c):bc<w.heap.size:=by obtain⟨A,n,cp,hblk,_⟩:=h.view;exact(Array.getElem?_eq_some_iff.1 hblk).1
theorem RClk.put{w:World}{bc N:Nat}{S:Nat→Prop}{c c':Clk}(h:RClk w bc S N c)(o:Nat)(u:Value)(hc':ClkOk c')(hs:c'.src=c.src)(hset: ∀v,(#[Value.int .i64 c.slack,.int .i64 c.idle,.int .i64 c.now,.int .i64 c.mark,v]:Array Value).setIfInBounds o u= #[.int .i64 c'.slack,.int .i64 c'.idle,.int .i64 c'.now,.int .i64 c'.mark,v]):RClk (w.setCell ⟨bc,o,none⟩ u) bc S N c':=by
 obtain⟨⟨A,n,cp,hblk,hsrc,hvw⟩,hns,hlow,hok,hlen⟩:=h;refine⟨⟨A,n,cp,?_,?_,hvw⟩,hns,fun b hb=>by have:=hlow b hb;simpa[World.setCell]using this,hc',by rw[hs];exact hlen⟩;·have:=heap_setCell_same w bc o _ _ u hblk;rw[hset]at this;exact this
 ·rw[hs];exact Cel.stay hsrc hvw (by simp[World.setCell]) (fun b off hb _=>World.cell?_setCell_other w _ _ _ (fun e=>hns (by injection e with e1;rw[e1];exact hb)))
theorem rise_tell{c:Clk}(h:ClkOk c):c.rise={c with mark:=max c.mark (tellI c)}:=by have:=h.mark;unfold Clk.rise tellI;cases c.told with|none=>simp only;obtain⟨a1,a2,a3,a4,a5⟩:=c;simp only at*;congr 1;omega|some m=>simp only;congr 1;split<;>omega
def RTickPost(w:World)(bc N:Nat)(S:Nat→Prop)(c:Clk)(e:Ending)(w':World):Prop:=e=.returned (.int .i64 c.mark)∧RClk w' bc S N c∧Keep (·=bc) w w'
theorem rtick_any(w:World)(bc:Nat)(S:Nat→Prop)(N:Nat)(c:Clk)(h:RClk w bc S N c)(hN:N≤100000)(now:Int):Calls Tryz.prog 70 #[.pointer (some ⟨bc,0,none⟩),.int .i64 now] w (RTickPost w bc N S (c.tick now)):=by
 have HC:=qH h;obtain⟨A,n,cp,hblk,hsrc,hvw⟩:=h.view;obtain⟨c0,c1,c2,c3,c4⟩:=RCells.of hblk;have f2: ∀o,w.frozen? ⟨bc,o,none⟩=false:=fun o=>frozen_of_row w bc o _ _ hblk;have hbl:=boundI_lo now;have hbh:=boundI_hi now;have hn:=h.ok.now;have hok:=h.ok;have HT:=qH (show c.tick now=({c with now:=max c.now (boundI now)}:Clk).rise from rfl);have HOK2:=qH (show ClkOk ({c with now:=max c.now (boundI now)}:Clk)from⟨hok.slack,hok.idle,by show 0≤max c.now (boundI now)∧max c.now (boundI now)≤1099511627776;omega,hok.mark,hok.rising,fun p hp=>by obtain⟨q1,q2,q3,q4,q5⟩:=hok.src p hp;exact⟨q1,q2,q3,q4,by show p.2.2≤max c.now (boundI now);omega⟩⟩);clear hblk hsrc hvw h hok;go_enter Tryz.func70,Tryz.ntmps70;go_wp2;go_still_tail 10,(by kernel_rfl);still_call(held_any _ _);repeat still_step
 refine wpStill_nil ?_;change wpList _ _ _ _ _ (w.drewN 1);have HC1:=qH (show RClk (w.drewN 1) bc S N c from HC.out.stay ((Keep.refl (fun _=>False) w).drewN 1) (fun _ h=>h.elim));have HK:=qH (show Keep (·=bc) w (w.drewN 1)from(Keep.refl _ _).drewN 1);have d2:(w.drewN 1).cell? ⟨bc,2,none⟩=some (.int .i64 c.now):=c2;have d3:(w.drewN 1).frozen? ⟨bc,2,none⟩=false:=f2 2;generalize boundI now=nb at*;generalize w.drewN 1=w1 at*;clear c0 c1 c2 c3 c4 f2;go_upto_region 2 with fail;have HC2:=qH (HC1.out.put (c':={c with now:=max c.now nb}) 2 (.int .i64 (max c.now nb)) HOK2.out rfl (fun _=>rfl));have HK2:=qH (HK.out.setCell (p:=⟨bc,2,none⟩) (fun _=>rfl) (.int .i64 (max c.now nb)));clear HC1 HK d2 d3;generalize w1.setCell ⟨bc,2,none⟩ (Value.int IntKind.i64 (max c.now nb))=w2 at*;generalize({c with now:=max c.now nb}:Clk)=c2 at*;obtain⟨A,n,cp,hblk,hsrc,hvw⟩:=HC2.out.view;obtain⟨e0,e1,e2,e3,e4⟩:=RCells.of hblk;have g3:w2.frozen? ⟨bc,3,none⟩=false:=frozen_of_row w2 bc 3 _ _ hblk;have hlt2:=HC2.out.lt;have HRI:=qH (rise_tell HOK2.out);have HTB:=qH (show-1≤max c2.mark (tellI c2)∧max c2.mark (tellI c2)≤1099511627776 by have:=HOK2.out.rise.mark;rw[HRI.out]at this;exact this);have HOK3:=qH HOK2.out.rise;have HTL:=qH (show Calls Tryz.prog 132 #[.pointer (some ⟨bc,0,none⟩)] w2.drew (IntPost w2.drew (tellI c2))from rtell_any w2.drew bc S N c2 (HC2.out.stay ((Keep.refl (fun _=>False) w2).drewN 1) (fun _ h=>h.elim)) hN);clear hblk hsrc hvw HC HOK2 e0 e1 e2 e4;go_wp2;go_region_law((go_simp;go_at_call 132;refine HTL.out.mono ?_;rintro r w3⟨rfl,hb3⟩;have HB3:=qH hb3;have d3:w3.cell? ⟨bc,3,none⟩=some (.int .i64 c2.mark):=(hb3.cell (p:=⟨bc,3,none⟩) hlt2).trans e3;have k3:w3.frozen? ⟨bc,3,none⟩=false:=(hb3.frozen (p:=⟨bc,3,none⟩) hlt2).trans g3;clear hb3));all_goals
  have HC3:=qH (show RClk w3 bc S N c2 from HC2.out.stay (F:=fun _=>False) (((Keep.refl (fun _=>False) w2).drewN 1).trans (G:=fun _=>False) (Keep.of_below (w:=w2.drew) HB3.out) (fun _ _ h=>h)) (fun _ h=>h.elim));have HC4:=qH (show RClk (w3.setCell ⟨bc,3,none⟩ (.int .i64 (max c2.mark (tellI c2)))) bc S N (c.tick now)from by rw[HT.out,HRI.out];refine HC3.out.put 3 _ ?_ rfl (fun _=>rfl);rw[←HRI.out];exact HOK3.out);have HM:=qH (show(c.tick now).mark=max c2.mark (tellI c2)by rw[HT.out,HRI.out]);have HK4:=qH (show Keep (·=bc) w (w3.setCell ⟨bc,3,none⟩ (.int .i64 (max c2.mark (tellI c2))))from((HK2.out.drewN 1).trans (G:=fun _=>False) (Keep.of_below (w:=w2.drew) HB3.out) (fun _ _ h=>h.elim)).setCell (fun _=>rfl) _);clear HC3 HRI HT HC2 HTL HTB HOK3 HB3 HK2;generalize max c2.mark (tellI c2)=mm at*;have q3:(w3.setCell ⟨bc,3,none⟩ (.int .i64 mm)).cell? ⟨bc,3,none⟩=some (.int .i64 mm):=by obtain⟨A,n,cp,hblk,_⟩:=HC4.out.view;have h3:=(RCells.of hblk).c3;rw[HM.out]at h3;exact h3
  clear d3 k3 e3 g3;generalize w3.setCell ⟨bc,3,none⟩ (.int .i64 mm)=w4 at*;go_wp2;go_ret;exact⟨ret_int HM.out.symm,HC4.out,HK4.out⟩
def plcS(l:Row (Int×Int))(s:List UInt8):Nat:=(l.takeWhile fun p=>Op.bytesLess p.1 s).length
def atS(l:Row (Int×Int))(s:List UInt8):Bool:=(l[plcS l s]?).any fun p=>p.1==s
theorem plcS_of{l:Row (Int×Int)}{s:List UInt8}(k:Nat)(hk:k≤l.length)(h1: ∀i(h:i<l.length),i<k→Op.bytesLess l[i].1 s=true)(h2: ∀h:k<l.length,Op.bytesLess l[k].1 s=false):plcS l s=k:=by
 have e0:l=l.take k++l.drop k:=(List.take_append_drop k l).symm;unfold plcS;conv=>lhs;rw[e0]
 rw[List.takeWhile_append_of_pos (fun x hx=>by obtain⟨i,hi,rfl⟩:=List.getElem_of_mem hx;rw[List.length_take]at hi;rw[List.getElem_take];exact h1 i (by omega) (by omega))];have:(l.drop k).takeWhile (fun p=>Op.bytesLess p.1 s)=[]:=by
  rcases Nat.lt_or_ge k l.length with hlt|hge;·rw[List.drop_eq_getElem_cons hlt,List.takeWhile_cons_of_neg (by rw[h2 hlt];simp)]
  ·rw[List.drop_of_length_le hge];rfl
 rw[this];simp;omega
def PlcPost(w:World)(l:Row (Int×Int))(s:List UInt8)(e:Ending)(w':World):Prop:=e=.returned (.tuple #[.int .i64 (plcS l s),.bool (atS l s)])∧ ∃q,w'=w.drewN q
theorem rplc_any(w:World)(bc:Nat)(S:Nat→Prop)(N:Nat)(c:Clk)(h:RClk w bc S N c)(hN:N≤100000)(s:List UInt8):Calls Tryz.prog 178 #[.pointer (some ⟨bc,0,none⟩),.string ⟨s.toArray⟩] w (PlcPost w c.src s):=by
 obtain⟨A,n,cp,hblk,hsrc,hvw⟩:=h.view;obtain⟨c0,c1,c2,c3,c4⟩:=RCells.of hblk;have HSRC:=qH hsrc;have HNL:=qH hsrc.len;have hlen:=h.len;have hn1:n≤100000:=by have:=hsrc.len;omega
 clear hblk hsrc h hvw c0 c1 c2 c3;generalize c.src=l at*;clear hlen;go_enter Tryz.func178,Tryz.ntmps178;go_wp2;go_loop[6](fun i=> ∃k:Nat,i=.int .i64 k∧k≤n∧Hid (∀j(h:j<l.length),j<k→Op.bytesLess l[j].1 s=true))(fun i=>n-(intOf i).toNat);case atStart=>exact⟨0,rfl,Nat.zero_le _,fun j _ h=>by omega⟩
 case round=>
  obtain⟨k,rfl,hk,HK⟩:=hrel;by_cases hkn:k<n
  ·have hkl:k<l.length:=by rw[HNL.out];exact hkn
   obtain⟨b,off,rfl,hb,e0,e1,e2⟩:=HSRC.out.at_ k hkl;have t1:(k:Int)<n:=by omega
   cases hbl:Op.bytesLess l[k].1 s
   ·have HP:=qH (plcS_of k (by omega) HK.out (fun _=>hbl));have HA:=qH (show atS l s=(l[k].1==s)by unfold atS;rw[HP.out,List.getElem?_eq_getElem hkl];rfl);generalize l[k]=p at*;clear e1 e2;have HR:=qH (show∀q,PlcPost w l s (.returned (.tuple #[.int .i64 k,.bool (p.1==s)])) (w.drewN q)from fun q=>⟨by rw[HP.out,HA.out],q,rfl⟩);clear HA HP;cases hps:(p.1==s);·rw[hps]at HR;go_wp2;go_quiet(fail);go_wp2;go_ret2;exact HR.out _
    ·rw[hps]at HR;go_wp2;go_quiet(fail);go_wp2;go_ret2;exact HR.out _
   ·have HN:=qH (show∀j(h:j<l.length),j<k+1→Op.bytesLess l[j].1 s=true from fun j hj hlt=>by
     by_cases e:j=k;·subst e;exact hbl
     ·exact HK.out j hj (by omega));generalize l[k]=p at*;clear e1 e2;go_wp2;go_round;case rel=>exact⟨k+1,by go_num,by omega,HN.out⟩
    case measure=>simp[intOf];omega
  ·have t1: ¬(k:Int)<n:=by omega
   have HP:=qH (plcS_of (l:=l) (s:=s) k (by rw[HNL.out];omega) HK.out (fun h=>by rw[HNL.out]at h;omega));have HA:=qH (show atS l s=false by unfold atS;rw[HP.out,List.getElem?_eq_none (by rw[HNL.out];omega)];rfl);have HR:=qH (show∀q,PlcPost w l s (.returned (.tuple #[.int .i64 k,.bool false])) (w.drewN q)from fun q=>⟨by rw[HP.out,HA.out],q,rfl⟩);clear HA HP;go_wp2;go_quiet(fail);go_wp2;go_ret2;exact HR.out _
def numCells(l:List Int):List Value:=l.map fun n=>.int .i64 n
def IntsV(w:World)(S:Nat→Prop)(v:Value)(l:List Int):Prop:= ∃A c,v=.slice A l.length c∧Cel w w.heap.size 1 A l.length c (numCells l)∧VwIn S A l.length
abbrev HRow:=List UInt8×List Int×Value
def hadOne(q:HRow):List Value:=[.string ⟨q.1.toArray⟩,q.2.2]
def hadCells(R:List HRow):List Value:=R.flatMap hadOne
theorem hadCells_length(l:List HRow):(hadCells l).length=l.length*2:=by induction l with|nil=>rfl|cons p l ih=>simp only[hadCells,List.flatMap_cons,List.length_append,List.length_cons]at*;rw[ih];simp[hadOne];omega
theorem hadCells_get(l:List HRow)(k j:Nat)(hk:k<l.length)(hj:j<2):(hadCells l)[k*2+j]?=(hadOne l[k])[j]?:=by induction l generalizing k with|nil=>simp at hk|cons p l ih=>have hc:(hadOne p).length=2:=rfl;simp only[hadCells,List.flatMap_cons];cases k with|zero=>rw[Nat.zero_mul,Nat.zero_add,List.getElem?_append_left (by omega)];rfl|succ k=>rw[List.getElem?_append_right (by omega),hc,show(k+1)*2+j-2=k*2+j by omega];exact ih k (by simpa using hk)
structure Hads(w:World)(S:Nat→Prop)(A:Option Addr)(n c:Nat)(R:List HRow):Prop where
 cel:Cel w w.heap.size 2 A n c (hadCells R)
 row: ∀q∈R,IntsV w S q.2.2 q.2.1
 vw:VwIn S A n
theorem Hads.len{w:World}{S:Nat→Prop}{n c:Nat}{A:Option Addr}{R:List HRow}(h:Hads w S A n c R):R.length=n:=by have:=h.cel.len;rw[hadCells_length]at this;omega
theorem Hads.at_{w:World}{S:Nat→Prop}{n c:Nat}{A:Option Addr}{R:List HRow}(h:Hads w S A n c R)(k:Nat)(hk:k<R.length): ∃b off,A=some ⟨b,off,none⟩∧b<w.heap.size∧S b∧w.cell? ⟨b,off+k*2,none⟩=some (.string ⟨R[k].1.toArray⟩)∧w.cell? ⟨b,off+k*2+1,none⟩=some R[k].2.2:=by
 have hl:=h.len;obtain⟨b,off,e,hb,hc⟩:=h.cel.cell (by omega);have key: ∀j u,j<2→(hadOne R[k])[j]?=some u→w.cell? ⟨b,off+k*2+j,none⟩=some u:=fun j u hj hu=>by rw[Nat.add_assoc];exact hc _ u (by rw[hadCells_get R k j hk hj,hu])
 exact⟨b,off,e,hb,h.vw _ e (by omega),key 0 _ (by omega) rfl,key 1 _ (by omega) rfl⟩
theorem IntsV.at_{w:World}{S:Nat→Prop}{A:Option Addr}{n c:Nat}{l:List Int}(h:IntsV w S (.slice A n c) l)(k:Nat)(hk:k<l.length): ∃b off,A=some ⟨b,off,none⟩∧b<w.heap.size∧w.cell? ⟨b,off+k,none⟩=some (.int .i64 l[k]):=by obtain⟨A',c',e,hc,_⟩:=h;injection e with e1 e2 e3;subst e1 e2 e3;obtain⟨b,off,e,hb,hc⟩:=hc.cell (by omega);exact⟨b,off,e,hb,hc k _ (by unfold numCells;rw[List.getElem?_map,List.getElem?_eq_getElem hk];rfl)⟩
def idxH(R:List HRow)(s:List UInt8):Int:=match R.findIdx? (fun q=>q.1==s)with|some i=>i|none=> -1
theorem rat_any(w:World)(S:Nat→Prop)(A:Option Addr)(n c:Nat)(R:List HRow)(h:Hads w S A n c R)(hn:n≤100000)(s:List UInt8):Calls Tryz.prog 74 #[.slice A n c,.string ⟨s.toArray⟩] w fun e w'=>e=.returned (.int .i64 (idxH R s))∧w'=w:=by
 have HH:=qH h;clear h;have HL:=qH HH.out.len;go_enter Tryz.func74,Tryz.ntmps74;go_wp2;go_loop[5](fun i=> ∃k:Nat,i=.int .i64 k∧k≤n∧Hid (∀j(hj:j<R.length),j<k→(R[j].1==s)=false))(fun i=>n-(intOf i).toNat);case atStart=>exact⟨0,rfl,Nat.zero_le _,fun j _ h=>by omega⟩
 case round=>
  obtain⟨k,rfl,hk,HK⟩:=hrel;by_cases hkn:k<n
  ·have hkl:k<R.length:=by rw[HL.out];exact hkn
   obtain⟨b,off,rfl,hb,_,e0,e1⟩:=HH.out.at_ k hkl;have t1:(k:Int)<n:=by omega
   clear e1;cases hs:(R[k].1==s)
   ·have HN:=qH (show∀j(hj:j<R.length),j<k+1→(R[j].1==s)=false from fun j hj hlt=>by
     by_cases e:j=k;·subst e;exact hs
     ·exact HK.out j hj (by omega));generalize R[k].1=t at*;go_wp2;go_round;case rel=>exact⟨k+1,by go_num,by omega,HN.out⟩
    case measure=>simp[intOf];omega
   ·have HI:=qH (show idxH R s=k by unfold idxH;rw[List.findIdx?_eq_some_iff_getElem.2 ⟨hkl,hs,fun j hj=>by simpa using HK.out j (by omega) hj⟩]);generalize R[k].1=t at*;go_wp2;go_ret;exact⟨ret_int HI.out.symm,rfl⟩
  ·have t1: ¬(k:Int)<n:=by omega
   have HI:=qH (show idxH R s= -1 by unfold idxH;rw[List.findIdx?_eq_none_iff.2 (fun q hq=>by obtain⟨j,hj,rfl⟩:=List.getElem_of_mem hq;exact HK.out j hj (by have:=HL.out;omega))]);go_wp2;go_ret;exact⟨ret_int HI.out.symm,rfl⟩
def rowH(R:List HRow)(s:List UInt8):List Int:=((R.find? fun q=>q.1==s).map fun q=>q.2.1).getD []
theorem idx_case(R:List HRow)(s:List UInt8):(idxH R s= -1∧rowH R s=[])∨ ∃(k:Nat)(hk:k<R.length),idxH R s=k∧rowH R s=R[k].2.1:=by
 unfold idxH rowH;cases hf:R.findIdx? (fun q=>q.1==s)with
  |none=>
   left;have:=List.findIdx?_eq_none_iff.1 hf;have h2:R.find? (fun q=>q.1==s)=none:=List.find?_eq_none.2 fun q hq=>by rw[this q hq];simp
   rw[h2];exact⟨rfl,rfl⟩
  |some k=>right;obtain⟨hk,h1,h2⟩:=List.findIdx?_eq_some_iff_getElem.1 hf;refine⟨k,hk,rfl,?_⟩;have h3:R.find? (fun q=>q.1==s)=some R[k]:=List.find?_eq_some_iff_getElem.2 ⟨h1,k,hk,rfl,fun j hj=>by simpa using h2 j hj⟩;rw[h3];rfl
theorem rhas_any(w:World)(S:Nat→Prop)(A:Option Addr)(n c:Nat)(R:List HRow)(h:Hads w S A n c R)(hn:n≤100000)(s:List UInt8)(x:Int)(hrow: ∀q∈R,q.2.1.length≤100000):Calls Tryz.prog 30 #[.slice A n c,.string ⟨s.toArray⟩,.int .i64 x] w fun e w'=>e=.returned (.bool (decide (x∈rowH R s)))∧w'=w:=by
 have HH:=qH h;clear h;have HL:=qH HH.out.len;have HRW:=qH hrow;clear hrow;go_enter Tryz.func30,Tryz.ntmps30;go_wp2_with fail;refine(rat_any w S A n c R HH.out hn s).mono ?_;rintro r w1⟨rfl,hw⟩;rw[hw];clear hw;rcases idx_case R s with⟨hi,hr⟩|⟨k,hk,hi,hr⟩;·rw[hi];have HR:=qH hr;clear hi hr;go_wp2;go_ret;exact⟨ret_bool (by rw[HR.out];rfl),rfl⟩
 ·rw[hi];have HR:=qH hr;clear hi hr;have hkn:k<n:=by have:=HL.out;omega
  have hki:(k:Int)<n:=by omega
  obtain⟨b,off,rfl,hb,_,e0,e1⟩:=HH.out.at_ k hk;have hl9:=HRW.out _ (List.getElem_mem hk);have HIV:=qH (HH.out.row _ (List.getElem_mem hk));generalize R[k]=q at*;obtain⟨nm,l,v⟩:=q;simp only at*;obtain⟨A2,c2,hv,_,_⟩:=HIV.out;subst hv;clear e0;go_wp2;go_loop[8](fun i=> ∃j:Nat,i=.int .i64 j∧j≤l.length∧Hid (∀t(ht:t<l.length),t<j→(l[t]==x)=false))(fun i=>l.length-(intOf i).toNat);case atStart=>exact⟨0,rfl,Nat.zero_le _,fun j _ h=>by omega⟩
  case round=>
   obtain⟨j,rfl,hj,HJ⟩:=hrel;by_cases hjn:j<l.length
   ·obtain⟨b2,off2,rfl,hb2,e2⟩:=HIV.out.at_ j hjn;have t1:(j:Int)<l.length:=by omega
    cases hx:(l[j]==x)
    ·have HN:=qH (show∀t(ht:t<l.length),t<j+1→(l[t]==x)=false from fun t ht hlt=>by
      by_cases e:t=j;·subst e;exact hx
      ·exact HJ.out t ht (by omega));generalize l[j]=y at*;go_wp2;go_round;case rel=>exact⟨j+1,by go_num,by omega,HN.out⟩
     case measure=>simp[intOf];omega
    ·have HY:=qH (show decide (x∈rowH R s)=true by rw[HR.out];apply decide_eq_true;have:=List.getElem_mem hjn;rw[beq_iff_eq.1 hx]at this;exact this);generalize l[j]=y at*;go_wp2;go_ret;exact⟨ret_bool HY.out.symm,rfl⟩
   ·have t1: ¬(j:Int)<l.length:=by omega
    have HY:=qH (show decide (x∈rowH R s)=false by rw[HR.out];apply decide_eq_false;intro hc;obtain⟨t,ht,he⟩:=List.getElem_of_mem hc;have:=HJ.out t ht (by omega);rw[he]at this;simp at this);go_wp2;go_ret;exact⟨ret_bool HY.out.symm,rfl⟩
theorem int_info:(Tryz.prog.info? 3).map (fun i=>(i.zero,i.size,i.bytes))=some (some (.int .i64 0),1,8):=by kernel_rfl
def RsRel(w:World)(l:List Int)(x:Int)(v d i:Value)(wr:World):Prop:= ∃(k:Nat)(done:Bool)(out:List Int),i=.int .i64 k∧k≤l.length∧d=.bool done∧wr.ownsRow w.heap.size 3 1 v out.length (numCells out)∧Below w.heap.size w wr∧out.length≤k+1∧insN x l=out++(if done then l.drop k else insN x (l.drop k))∧(done=false→out.length≤k)
def RsPost(w:World)(l:List Int)(e:Ending)(w':World):Prop:= ∃v,e=.returned v∧w'.ownsRow w.heap.size 3 1 v l.length (numCells l)∧Below w.heap.size w w'
theorem rising_any(w:World)(S:Nat→Prop)(v:Value)(l:List Int)(h:IntsV w S v l)(hn:l.length≤100000)(x:Int):Calls Tryz.prog 214 #[v,.int .i64 x] w (RsPost w (insN x l)):=by
 have HH:=qH h;obtain⟨A,c,hv,_,_⟩:=h;subst hv;obtain⟨i0,hi,hz0,hz1,hz2⟩:=info_parts int_info;have HI:=qH hi;have HZ0:=qH hz0;have HZ1:=qH hz1;have HZ2:=qH hz2;clear hi hz0 hz1 hz2;have HAPP:=qH (show∀(out:List Int)(y:Int),numCells (out++[y])=numCells out++[.int .i64 y]from fun out y=>by simp[numCells]);go_enter Tryz.func214,Tryz.ntmps214;go_wp2;go_loopw[5,6,7](fun v d i wr=>RsRel w l x v d i wr)(fun _ _ i _=>l.length-(intOf i).toNat);case atStart=>exact⟨0,false,[],rfl,Nat.zero_le _,rfl,World.ownsRow_lit w #[] 0 (Nat.le_refl _) (by simp[maxLen]) rfl,(Below.refl _ _).alloc (Nat.le_refl _) _,by simp,by simp,by simp⟩
 case round=>
  obtain⟨k,done,out,rfl,hk,rfl,hown,hbel,hlen,hins,hdl⟩:=hrel;have HO:=qH hown;have HX:=qH hins;have HDL:=qH hdl;clear hown hins hdl;have hsz:=hbel.size;by_cases hkn:k<l.length
  ·obtain⟨b,off,rfl,hb,hc⟩:=HH.out.at_ k hkn;have hc':wr.cell? ⟨b,off+k,none⟩=some (.int .i64 l[k]):=(hbel.cell (p:=⟨b,off+k,none⟩) hb).trans hc;have HDR:=qH (show l.drop k=l[k]::l.drop (k+1)from List.drop_eq_getElem_cons hkn);generalize l[k]=y at*;have t1:(k:Int)<l.length:=by omega
   clear hc;cases done
   ·have hdl:=HDL.out rfl;by_cases hlt:x<y
    ·have HLT:=qH hlt;go_wp2_with(at_builtin;refine wpList_app (P:=Tryz.prog) rfl (.tmp 25) (.tmp 27) 128 rfl 3 i0 _ 1 8 Tryz.underlying128 HI.out HZ0.out HZ1.out HZ2.out rfl (by decide) w.heap.size _ out.length (numCells out) rfl ?c1 (wr.heap.size+1) _ _ _ [.int .i64 x] rfl ?c2 ?c3 ?c4 ?c5 ?c6 ?_);case c1=>exact World.ownsRow.alloc HO.out _
     case c2=>exact Cel.new wr #[.int .i64 x] _ (by unfold maxLen;omega) rfl
     case c3=>simp[Value.oneCell']
     case c4=>unfold maxLen;omega
     case c5=>omega
     case c6=>first|omega|(simp;omega)
     intro v2 w2 hown2 hg2 _;have hb2:Below w.heap.size w w2:=Below.grown (hbel.alloc hsz (.cells #[.int .i64 x] 3)) hg2 (by simp;omega) (fun j hj=>(HO.out.lt j hj).1);have hs2:=hb2.size;have hc2:w2.cell? ⟨b,off+k,none⟩=some (.int .i64 y):=(hb2.cell (p:=⟨b,off+k,none⟩) hb).trans ((hbel.cell (p:=⟨b,off+k,none⟩) hb).symm.trans hc');have HO2:=qH hown2;clear hown2 hg2 hlt hc';go_wp2_with(at_builtin;refine wpList_app (P:=Tryz.prog) rfl (.tmp 29) (.tmp 34) 128 rfl 3 i0 _ 1 8 Tryz.underlying128 HI.out HZ0.out HZ1.out HZ2.out rfl (by decide) w.heap.size _ (out.length+1) (numCells out++[.int .i64 x]) rfl ?c1 (w2.heap.size+1) _ _ _ [.int .i64 y] rfl ?c2 ?c3 ?c4 ?c5 ?c6 ?_);case c1=>exact World.ownsRow.alloc HO2.out _
     case c2=>exact Cel.new w2 #[.int .i64 y] _ (by unfold maxLen;omega) rfl
     case c3=>simp[Value.oneCell']
     case c4=>unfold maxLen;omega
     case c5=>omega
     case c6=>first|omega|(simp;omega)
     intro v3 w3 hown3 hg3 _;have hb3:Below w.heap.size w w3:=Below.grown (hb2.alloc hs2 (.cells #[.int .i64 y] 3)) hg3 (by simp;omega) (fun j hj=>(HO2.out.lt j hj).1);have HR:=qH (show RsRel w l x v3 (.bool true) (.int .i64 ((k+1:Nat):Int)) w3 from⟨k+1,true,out++[x]++[y],rfl,by omega,rfl,by rw[HAPP.out,HAPP.out,show(out++[x]++[y]).length=out.length+1+1 by simp,List.append_assoc];exact hown3,hb3,by simp;omega,by rw[HX.out,HDR.out];simp[insN,HLT.out],by simp⟩);clear hown3 hg3 hc2 hb3;go_wp2;go_roundw;case rel=>exact HR.out
     case measure=>simp[intOf];omega
    ·have HLT:=qH hlt;go_wp2_with(at_builtin;refine wpList_app (P:=Tryz.prog) rfl (.tmp 29) (.tmp 34) 128 rfl 3 i0 _ 1 8 Tryz.underlying128 HI.out HZ0.out HZ1.out HZ2.out rfl (by decide) w.heap.size _ out.length (numCells out) rfl ?c1 (wr.heap.size+1) _ _ _ [.int .i64 y] rfl ?c2 ?c3 ?c4 ?c5 ?c6 ?_);case c1=>exact World.ownsRow.alloc HO.out _
     case c2=>exact Cel.new wr #[.int .i64 y] _ (by unfold maxLen;omega) rfl
     case c3=>simp[Value.oneCell']
     case c4=>unfold maxLen;omega
     case c5=>omega
     case c6=>first|omega|(simp;omega)
     intro v3 w3 hown3 hg3 _;have hb3:Below w.heap.size w w3:=Below.grown (hbel.alloc hsz (.cells #[.int .i64 y] 3)) hg3 (by simp;omega) (fun j hj=>(HO.out.lt j hj).1);have HR:=qH (show RsRel w l x v3 (.bool false) (.int .i64 ((k+1:Nat):Int)) w3 from⟨k+1,false,out++[y],rfl,by omega,rfl,by rw[HAPP.out,show(out++[y]).length=out.length+1 by simp];exact hown3,hb3,by simp;omega,by rw[HX.out,HDR.out];have hnl: ¬x<y:=(by have:=HLT.out;omega);simp[insN,hnl],by simp;omega⟩);clear hown3 hg3 hb3 hlt hc';go_wp2;go_roundw;case rel=>exact HR.out
     case measure=>simp[intOf];omega
   ·go_wp2_with(at_builtin;refine wpList_app (P:=Tryz.prog) rfl (.tmp 29) (.tmp 34) 128 rfl 3 i0 _ 1 8 Tryz.underlying128 HI.out HZ0.out HZ1.out HZ2.out rfl (by decide) w.heap.size _ out.length (numCells out) rfl ?c1 (wr.heap.size+1) _ _ _ [.int .i64 y] rfl ?c2 ?c3 ?c4 ?c5 ?c6 ?_);case c1=>exact World.ownsRow.alloc HO.out _
    case c2=>exact Cel.new wr #[.int .i64 y] _ (by unfold maxLen;omega) rfl
    case c3=>simp[Value.oneCell']
    case c4=>unfold maxLen;omega
    case c5=>omega
    case c6=>first|omega|(simp;omega)
    intro v3 w3 hown3 hg3 _;have hb3:Below w.heap.size w w3:=Below.grown (hbel.alloc hsz (.cells #[.int .i64 y] 3)) hg3 (by simp;omega) (fun j hj=>(HO.out.lt j hj).1);have HR:=qH (show RsRel w l x v3 (.bool true) (.int .i64 ((k+1:Nat):Int)) w3 from⟨k+1,true,out++[y],rfl,by omega,rfl,by rw[HAPP.out,show(out++[y]).length=out.length+1 by simp];exact hown3,hb3,by simp;omega,by rw[HX.out,HDR.out];simp,by simp⟩);clear hown3 hg3 hb3 hc';go_wp2;go_roundw;case rel=>exact HR.out
    case measure=>simp[intOf];omega
  ·have HDR:=qH (show l.drop k=[]from List.drop_eq_nil_iff.2 (by omega));have t1: ¬(k:Int)<l.length:=by omega
   cases done
   ·have hdl:=HDL.out rfl;go_wp2_with(at_builtin;refine wpList_app (P:=Tryz.prog) rfl (.tmp 38) (.tmp 40) 128 rfl 3 i0 _ 1 8 Tryz.underlying128 HI.out HZ0.out HZ1.out HZ2.out rfl (by decide) w.heap.size _ out.length (numCells out) rfl ?c1 (wr.heap.size+1) _ _ _ [.int .i64 x] rfl ?c2 ?c3 ?c4 ?c5 ?c6 ?_);case c1=>exact World.ownsRow.alloc HO.out _
    case c2=>exact Cel.new wr #[.int .i64 x] _ (by unfold maxLen;omega) rfl
    case c3=>simp[Value.oneCell']
    case c4=>unfold maxLen;omega
    case c5=>omega
    case c6=>first|omega|(simp;omega)
    intro v3 w3 hown3 hg3 _;have hb3:Below w.heap.size w w3:=Below.grown (hbel.alloc hsz (.cells #[.int .i64 x] 3)) hg3 (by simp;omega) (fun j hj=>(HO.out.lt j hj).1);have HR:=qH (show RsPost w (insN x l) (.returned v3) w3 from⟨v3,rfl,by rw[HX.out,HDR.out];simp only[Bool.false_eq_true,if_false,insN];rw[HAPP.out,show(out++[x]).length=out.length+1 by simp];exact hown3,hb3⟩);clear hown3 hg3 hb3;go_wp2;go_ret;exact HR.out
   ·have HR:=qH (show RsPost w (insN x l) (.returned u5) wr from⟨u5,rfl,by rw[HX.out,HDR.out];simp only[if_true,List.append_nil];exact HO.out,hbel⟩);go_wp2;go_ret;exact HR.out
end Go.Proofs.YtbejfgmdkmddnaaGreatDoor
