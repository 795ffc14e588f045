/-
  Layer 6: Mark.
-/
import Derived.Test.YtcmmclliabhnjaaGreatDoorWClkTold
import Derived.RegionTactic
import Derived.Laws.RangeAny
import Derived.Shelf.GgClosure.StringsIndexFuncTop
set_option maxRecDepth 100000
set_option maxHeartbeats 16000000
namespace Go.Proofs.YtcmmclliabhnjaaGreatDoor
open Go.RowKit Go.Maps Go.Sort
theorem ClockAt.setMark{w:World}{bc bm:Nat}{c:Clk}(h:ClockAt w bc bm c)(m:Int)(hm: -1≤m∧m≤1099511627776):ClockAt (w.setCell ⟨bc,3,none⟩ (.int .i64 m)) bc bm {c with mark:=m}:=⟨heap_set_row h.blk,h.map.block (Below.heap_setCell _ _ _ _ (Ne.symm h.ne)),⟨h.ok.slack,h.ok.idle,h.ok.now,hm,h.ok.rising,h.ok.src⟩⟩
theorem ClockAt.setNow{w:World}{bc bm:Nat}{c:Clk}(h:ClockAt w bc bm c)(n:Int)(hn:c.now≤n∧n≤1099511627776):ClockAt (w.setCell ⟨bc,2,none⟩ (.int .i64 n)) bc bm {c with now:=n}:=⟨heap_set_row h.blk,h.map.block (Below.heap_setCell _ _ _ _ (Ne.symm h.ne)),⟨h.ok.slack,h.ok.idle,by have:=h.ok.now;exact⟨by show 0≤n;omega,hn.2⟩,h.ok.mark,h.ok.rising,fun p hp=>by have:=h.ok.src p hp;exact⟨this.1,this.2.1,this.2.2.1,this.2.2.2.1,by show p.2.2≤n;omega⟩⟩⟩
def RisePost(w:World)(bc bm:Nat)(c:Clk)(e:Ending)(w':World):Prop:=e=.returned (.tuple #[])∧ClockAt w' bc bm c∧Keep (·=bc) w w'
theorem rise_any(w:World)(bc bm:Nat)(c:Clk)(hc:ClockAt w bc bm c):Calls Tryz.prog 144 #[.pointer (some ⟨bc,0,none⟩)] w (RisePost w bc bm c.rise):=by have HC:=qH hc;clear hc;go_enter Tryz.func144,Tryz.ntmps144;go_wp2_with fail;refine(told_any w bc bm c HC.out).mono ?_;rintro e w1⟨rfl,hb1⟩;have HC1:=qH (HC.out.up hb1);obtain⟨c0,c1,c2,c3,c4,f2,f3⟩:=HC1.out.cells;cases ht:c.told with|none=>have HT:=qH (show c.rise=c by unfold Clk.rise;rw[ht]);have HK:=qH (show Keep (·=bc) w w1 from Keep.of_below hb1);clear ht hb1;simp only[Option.getD_none,Option.isSome_none];go_wp2;go_end0;exact⟨rfl,by rw[HT.out];exact HC1.out,HK.out⟩|some m=>have HT:=qH (show c.rise={c with mark:=max c.mark m}by unfold Clk.rise;rw[ht]);have hmb:=HC.out.ok.told ht;have hmk:=HC.out.ok.mark;have HK:=qH (show Keep (·=bc) w w1 from Keep.of_below hb1);clear ht hb1;simp only[Option.getD_some,Option.isSome_some];go_wp2;go_end0;exact⟨rfl,by rw[HT.out];exact HC1.out.setMark _ (by omega),HK.out.setCell (fun _=>rfl) _⟩
def TickPost(w:World)(bc bm:Nat)(c:Clk)(e:Ending)(w':World):Prop:=e=.returned (.int .i64 c.mark)∧ClockAt w' bc bm c∧Keep (·=bc) w w'
theorem bound_same(w:World)(n:Int):Calls Tryz.prog 143 #[.int .i64 n] w fun e w'=>e=.returned (.int .i64 (boundI n))∧w'=w:=(bound_any w n).mono fun _ _ h=>⟨h.1,h.2.symm⟩
theorem tick_any(w:World)(bc bm:Nat)(c:Clk)(hc:ClockAt w bc bm c)(now:Int):Calls Tryz.prog 82 #[.pointer (some ⟨bc,0,none⟩),.int .i64 now] w (TickPost w bc bm (c.tick now)):=by
 have HC:=qH hc;obtain⟨c0,c1,c2,c3,c4,f2,f3⟩:=hc.cells;have hbl:=boundI_lo now;have hbh:=boundI_hi now;have hn:=hc.ok.now;clear hc;go_enter Tryz.func82,Tryz.ntmps82;go_wp2;go_still_tail 10,(by kernel_rfl);still_call(bound_same _ _);repeat still_step
 refine wpStill_nil ?_;change wpList _ _ _ _ _ (w.drewN 1);have HC1:=qH (show ClockAt (w.drewN 1) bc bm c from HC.out.keep rfl rfl);have HT:=qH (show c.tick now=({c with now:=max c.now (boundI now)}:Clk).rise from rfl);have HK:=qH (show Keep (·=bc) w (w.drewN 1)from(Keep.refl _ _).drewN 1);have d2:(w.drewN 1).cell? ⟨bc,2,none⟩=some (.int .i64 c.now):=c2;have d3:(w.drewN 1).frozen? ⟨bc,2,none⟩=false:=f2;generalize boundI now=nb at*;generalize w.drewN 1=w1 at*;clear c0 c1 c2 c3 c4 f2 f3;go_wp2_with fail;have hc2:=HC1.out.setNow (max c.now nb) (by omega);refine(rise_any _ bc bm _ hc2).mono ?_;rintro e w2⟨rfl,hcr,hk2⟩;rw[←HT.out]at hcr;obtain⟨e0,e1,e2,e3,e4,g2,g3⟩:=hcr.cells;have HCR:=qH hcr;have HK2:=qH ((HK.out.setCell (p:=⟨bc,2,none⟩) (fun _=>rfl) (.int .i64 (max c.now nb))).trans hk2 (fun _ _ h=>h));clear hcr hk2 hc2 d2 d3;go_wp2;go_ret;exact⟨rfl,HCR.out,HK2.out⟩
def oddR(r:Nat):Bool:=!((decide (97≤r)&&decide (r≤122))||(decide (48≤r)&&decide (r≤57))||decide (r=45))
theorem name1_any(w:World)(r:Nat):Calls Tryz.prog 191 #[.int .i32 r] w fun e w'=>e=.returned (.bool (oddR r))∧ ∃q,w'=w.drewN q:=by
 have key: ∀a b:Bool,oddR r=a→Calls Tryz.prog 191 #[.int .i32 r] w (fun e w'=>e=.returned (.bool a)∧w=w')→Calls Tryz.prog 191 #[.int .i32 r] w fun e w'=>e=.returned (.bool (oddR r))∧ ∃q,w'=w.drewN q:=fun a _ h hc=>by rw[h];exact hc.mono fun _ _ h=>⟨h.1,0,h.2.symm⟩
 by_cases h1:97≤r
 ·have d1:decide (97≤(r:Int))=true:=decide_eq_true (by omega);by_cases h2:r≤122;·have d2:decide ((r:Int)≤122)=true:=decide_eq_true (by omega);refine key false false (by unfold oddR;simp[h1,h2]) ?_;go_enter Tryz.func191,Tryz.ntmps191;go_wp2;go_ret;exact⟨rfl,rfl⟩
  ·have d2:decide ((r:Int)≤122)=false:=decide_eq_false (by omega);have d3:decide (48≤(r:Int))=true:=decide_eq_true (by omega);have d4:decide ((r:Int)≤57)=false:=decide_eq_false (by omega);have d5:((r:Int)==45)=false:=by simp;omega
   refine key true false (by unfold oddR;simp;omega) ?_;go_enter Tryz.func191,Tryz.ntmps191;go_wp2;go_ret;exact⟨rfl,rfl⟩
 ·have d1:decide (97≤(r:Int))=false:=decide_eq_false (by omega);by_cases h3:48≤r
  ·have d3:decide (48≤(r:Int))=true:=decide_eq_true (by omega);by_cases h4:r≤57;·have d4:decide ((r:Int)≤57)=true:=decide_eq_true (by omega);refine key false false (by unfold oddR;simp;omega) ?_;go_enter Tryz.func191,Tryz.ntmps191;go_wp2;go_ret;exact⟨rfl,rfl⟩
   ·have d4:decide ((r:Int)≤57)=false:=decide_eq_false (by omega);have d5:((r:Int)==45)=false:=by simp;omega
    refine key true false (by unfold oddR;simp;omega) ?_;go_enter Tryz.func191,Tryz.ntmps191;go_wp2;go_ret;exact⟨rfl,rfl⟩
  ·have d3:decide (48≤(r:Int))=false:=decide_eq_false (by omega);by_cases h5:r=45
   ·have d5:((r:Int)==45)=true:=by simp;omega
    refine key false false (by unfold oddR;simp;omega) ?_;clear h5;go_enter Tryz.func191,Tryz.ntmps191;go_wp2;go_ret;exact⟨rfl,rfl⟩
   ·have d5:((r:Int)==45)=false:=by simp;omega
    refine key true false (by unfold oddR;simp;omega) ?_;go_enter Tryz.func191,Tryz.ntmps191;go_wp2;go_ret;exact⟨rfl,rfl⟩
theorem idx_name(s:ByteArray): ∀(f pos:Nat),s.size≤pos+f→(Lib.idxFuncFrom oddR true s f pos= -1↔ ∀j(h:j<s.size),pos≤j→nameC s[j]=true)
 |0,pos,h=>by simp only[Lib.idxFuncFrom,true_iff];intro j hj hp;omega
 |f+1,pos,h=>by
  unfold Lib.idxFuncFrom;by_cases hlt:pos<s.size
  ·rw[if_pos hlt];by_cases ha:s[pos].toNat<128
   ·have hd:=decode_ascii s pos hlt ha;rw[hd];simp only;have hodd:oddR s[pos].toNat=!nameC s[pos]:=by unfold oddR nameC;rfl
    rw[hodd];cases hc:nameC s[pos]
    ·simp only[Bool.not_false,if_true];constructor;·intro h';omega
     ·intro h';have:=h' pos hlt (Nat.le_refl _);rw[hc]at this;cases this
    ·simp only[Bool.not_true,Bool.false_eq_true,if_false];rw[idx_name s f (pos+1) (by omega)];constructor
     ·intro h' j hj hp;by_cases e:j=pos;·subst e;exact hc
      ·exact h' j hj (by omega)
     ·intro h' j hj hp;exact h' j hj (by omega)
   ·have hd:=(decode_high s pos hlt (by omega)).1;have hodd:oddR (Utf8.decode s pos).1=true:=by unfold oddR;simp;omega
    rw[if_pos hodd];constructor;·intro h';omega
    ·intro h';have:=h' pos hlt (Nat.le_refl _);unfold nameC at this;simp at this;omega
  ·rw[if_neg hlt];simp only[true_iff];intro j hj hp;omega
theorem idx_nameB(l:List UInt8)(h1:1≤l.length)(h2:l.length≤24):decide (Lib.idxFunc oddR true ⟨l.toArray⟩<0)=nameB l:=by
 have key:=idx_name ⟨l.toArray⟩ (ByteArray.size ⟨l.toArray⟩) 0 (by omega);have hr:=Lib.idxFunc_range oddR true ⟨l.toArray⟩;have hs:(⟨l.toArray⟩:ByteArray).size=l.length:=by simp[ByteArray.size]
 by_cases hn:nameB l=true
 ·rw[hn];refine decide_eq_true ?_;have:Lib.idxFunc oddR true ⟨l.toArray⟩= -1:=key.2 fun j hj _=>by unfold nameB at hn;simp only[Bool.and_eq_true,List.all_eq_true]at hn;exact hn.2 l[j] (List.getElem_mem (by omega))
  omega
 ·rw[Bool.not_eq_true]at hn;rw[hn];refine decide_eq_false fun hlt=>?_;have h':Lib.idxFunc oddR true ⟨l.toArray⟩= -1:=by omega
  have:=key.1 h';rw[nameB_good h1 h2 (fun j hj=>this j (by omega) (Nat.zero_le _))]at hn;cases hn
theorem cname_any(w:World)(l:List UInt8):Calls Tryz.prog 146 #[.string ⟨l.toArray⟩] w (Says (nameB l) w):=by
 by_cases h0:l.length<1;·have HN:=qH (nameB_short (.inl h0));go_enter Tryz.func146,Tryz.ntmps146;go_wp2;go_ret;exact⟨ret_bool HN.out.symm,Below.refl _ _⟩
 by_cases h24:24<l.length;·have HN:=qH (nameB_short (.inr h24));go_enter Tryz.func146,Tryz.ntmps146;go_wp2;go_ret;exact⟨ret_bool HN.out.symm,Below.refl _ _⟩
 have d0:decide ((l.length:Int)<1)=false:=decide_eq_false (by omega);have d1:decide (24<(l.length:Int))=false:=decide_eq_false (by omega);have HN:=qH (idx_nameB l (by omega) (by omega));have hr:=Lib.idxFunc_range oddR true ⟨l.toArray⟩;go_enter Tryz.func146,Tryz.ntmps146;go_wp2_with fail;refine(Tryz.strings_IndexFunc 191 #[] (fun _ _=>by kernel_rfl) oddR ⟨l.toArray⟩ w (fun W x _=>name1_any W x)).mono ?_;rintro e w1⟨rfl,hb⟩;generalize Lib.idxFunc oddR true ⟨l.toArray⟩=i at*;clear hr;go_wp2;go_ret;exact⟨ret_bool HN.out,hb⟩
def HearPost(w:World)(bc bm:Nat)(c:Clk)(ok:Bool)(e:Ending)(w':World):Prop:=e=.returned (.bool ok)∧ClockAt w' bc bm c∧Keep (fun b=>b=bc∨b=bm) w w'
theorem zeroSrc(w:World):(zeroValue 214).run Tryz.prog w=.ok (.agg #[.int .i64 0,.int .i64 0]) w:=by kernel_rfl
theorem look_src{w:World}{bc bm:Nat}{c:Clk}(h:ClockAt w bc bm c)(l:List UInt8)(hl:l.length≤24):(Instr.lookup 210 (.map (some bm)) (.string ⟨l.toArray⟩) false).run Tryz.prog w=.ok (.agg #[.int .i64 ((getB c.src l).getD (0,0)).1,.int .i64 ((getB c.src l).getD (0,0)).2]) w:=by rw[h.map.look l (by unfold maxLen;omega) _ _ Tryz.underlying210 _ (zeroSrc w)];unfold srcRow;rw[getB_map];cases getB c.src l<;>rfl
theorem hear_any(w:World)(bc bm:Nat)(c:Clk)(hc:ClockAt w bc bm c)(l:List UInt8)(at_ now:Int)(hsz:c.src.length<1000000):Calls Tryz.prog 84 #[.pointer (some ⟨bc,0,none⟩),.string ⟨l.toArray⟩,.int .i64 at_,.int .i64 now] w (HearPost w bc bm (c.hear l at_ now) ((c.tick now).hears l at_)):=by
 have HC:=qH hc;clear hc;go_enter Tryz.func84,Tryz.ntmps84;go_wp2_with fail;refine(tick_any w bc bm c HC.out now).mono ?_;rintro e w1⟨rfl,hc1,hk1⟩;have HE:=qH (show c.hear l at_ now=if(c.tick now).hears l at_ then(c.tick now).heard l at_ else c.tick now from rfl);have hsz1:(c.tick now).src.length<1000000:=by unfold Clk.tick;rw[rise_src];exact hsz
 generalize c.hear l at_ now=R at*;generalize c.tick now=d at*;have HC1:=qH hc1;have HK1:=qH hk1;clear hc1 hk1;go_wp2_with fail;refine(cname_any w1 l).mono ?_;rintro e w2⟨rfl,hb2⟩;have HC2:=qH (HC1.out.up hb2);have HK2:=qH (show Keep (fun b=>b=bc∨b=bm) w w2 from(HK1.out.mono (F:=fun b=>b=bc∨b=bm) (fun _ _ h=>.inl h)).trans (Keep.of_below (F:=fun _=>False) hb2) (fun _ _ h=>h.elim));obtain⟨c0,c1,c2,c3,c4,f2,f3⟩:=HC2.out.cells;have HS:=qH (show d.hears l at_=(nameB l&&decide (0≤at_)&&decide (at_≤1099511627776)&&decide (d.mark<at_))from rfl);clear hb2;cases hnm:nameB l;·have HF:=qH (show d.hears l at_=false by rw[HS.out,hnm];rfl);have HR:=qH (show R=d by rw[HE.out,HF.out];rfl);clear hnm;go_wp2;go_ret;exact⟨ret_bool HF.out.symm,by rw[HR.out];exact HC2.out,HK2.out⟩
 by_cases h1:at_<0;·have HF:=qH (show d.hears l at_=false by rw[HS.out,decide_eq_false (show¬0≤at_ by omega)];simp);have HR:=qH (show R=d by rw[HE.out,HF.out];rfl);clear hnm;go_wp2;go_ret;exact⟨ret_bool HF.out.symm,by rw[HR.out];exact HC2.out,HK2.out⟩
 by_cases h2:1099511627776<at_;·have HF:=qH (show d.hears l at_=false by rw[HS.out,decide_eq_false (show¬at_≤1099511627776 by omega)];simp);have HR:=qH (show R=d by rw[HE.out,HF.out];rfl);clear hnm;go_wp2;go_ret;exact⟨ret_bool HF.out.symm,by rw[HR.out];exact HC2.out,HK2.out⟩
 by_cases h3:at_≤d.mark;·have HF:=qH (show d.hears l at_=false by rw[HS.out,decide_eq_false (show¬d.mark<at_ by omega)];simp);have HR:=qH (show R=d by rw[HE.out,HF.out];rfl);clear hnm;go_wp2;go_ret;exact⟨ret_bool HF.out.symm,by rw[HR.out];exact HC2.out,HK2.out⟩
 have HT:=qH (show d.hears l at_=true by rw[HS.out,hnm,decide_eq_true (show 0≤at_ by omega),decide_eq_true (show at_≤1099511627776 by omega),decide_eq_true (show d.mark<at_ by omega)];rfl);have HR:=qH (show R=d.heard l at_ by rw[HE.out,HT.out];rfl);have hl24:l.length≤24:=by unfold nameB at hnm;simp at hnm;omega
 have hlk:=look_src HC2.out l hl24;have hblt:=HC2.out.lt;have hdn:=HC2.out.ok.now;have hga:0≤((getB d.src l).getD (0,0)).1∧((getB d.src l).getD (0,0)).1≤1099511627776:=by cases hg:getB d.src l with|none=>simp|some q=>have:=HC2.out.ok.src _ (getB_mem hg);simp only at this;simp only[Option.getD_some];omega
 have HH:=qH (show d.heard l at_=({d with src:=putB l (max ((getB d.src l).getD (0,0)).1 at_,d.now) d.src}:Clk).rise from rfl);have HOK:=qH (HC2.out.ok.said HT.out);generalize(getB d.src l).getD (0,0)=q at*;obtain⟨qa,qh⟩:=q;simp only at hlk hga HH HOK;clear hnm HE HS;go_wp2;go_region;go_wp2;have hbA:Below w2.heap.size w2 (w2.alloc (Obj.cells #[Value.int IntKind.i64 (max qa at_),Value.int IntKind.i64 d.now] 214)).drew:=((Below.refl _ _).alloc (Nat.le_refl _) _).drew;have hA0:(w2.alloc (Obj.cells #[Value.int IntKind.i64 (max qa at_),Value.int IntKind.i64 d.now] 214)).drew.cell? ⟨w2.heap.size,0,none⟩=some (.int .i64 (max qa at_)):=(cell_of_row _ w2.heap.size 0 _ _ (0,0) (heap_alloc_new w2 _));have hA1:(w2.alloc (Obj.cells #[Value.int IntKind.i64 (max qa at_),Value.int IntKind.i64 d.now] 214)).drew.cell? ⟨w2.heap.size,1,none⟩=some (.int .i64 d.now):=(cell_of_row _ w2.heap.size 1 _ _ (0,0) (heap_alloc_new w2 _));have HC3:=qH (HC2.out.up hbA);have HK3:=qH (HK2.out.trans (Keep.of_below (F:=fun _=>False) hbA) (fun _ _ h=>h.elim));generalize(w2.alloc (Obj.cells #[Value.int IntKind.i64 (max qa at_),Value.int IntKind.i64 d.now] 214)).drew=w3 at*;clear c0 c1 c2 c3 c4 f2 f3 hlk hbA;obtain⟨c0,c1,c2,c3,c4,f2,f3⟩:=HC3.out.cells;generalize hqx:max qa at_=qx at*;have HQX:=qH hqx;clear hqx;go_still_tail 6,(by kernel_rfl);change wpList _ _ _ _ _ (w3.drewN 1);have hM:=HC3.out.map;have HM:=qH (show MapS (w3.drewN 1) bm (srcRow d.src)from hM);clear hM;refine wpList_mapS_put rfl (.tmp 51) (.tmp 52) (.tmp 53) 210 214 rfl Tryz.underlying210 bm (srcRow d.src) rfl HM.out (by unfold maxLen srcRow;simp;omega) l rfl (by unfold maxLen;omega) _ rfl ?_;intro w4 hm4 hg4;have HC4:=qH (show ClockAt w4 bc bm {d with src:=putB l (qx,d.now) d.src}from by have hrow:putB l (Value.agg #[Value.int IntKind.i64 qx,Value.int IntKind.i64 d.now]) (srcRow d.src)=srcRow (putB l (qx,d.now) d.src):=(putB_map encSrc l (qx,d.now) d.src).symm;refine⟨(hg4.block bc HC3.out.lt (fun h=>HC3.out.ne (by injection h))).trans HC3.out.blk,?_,HOK.out⟩;rw[←hrow];exact hm4);have HK4:=qH ((HK3.out.drewN 1).trans (Keep.of_grown (F:=fun b=>b=bc∨b=bm) hg4 (fun k hk=>by injection hk with hk;exact .inr hk.symm)) (fun _ _ h=>h));clear hm4 hg4 c0 c1 c2 c3 c4 f2 f3 hA0 hA1 hblt;go_wp2_with fail;refine(rise_any w4 bc bm _ HC4.out).mono ?_;rintro e w5⟨rfl,hc5,hk5⟩;have HC5:=qH (show ClockAt w5 bc bm R from by rw[HR.out,HH.out];exact hc5);have HK5:=qH (HK4.out.trans hk5 (fun _ _ h=>.inl h));clear hc5 hk5;go_wp2;go_ret;exact⟨ret_bool HT.out.symm,HC5.out,HK5.out⟩
def ClkNewPost(w:World)(c:Clk)(e:Ending)(w':World):Prop:= ∃bc bm,e=.returned (.pointer (some ⟨bc,0,none⟩))∧ClockAt w' bc bm c∧w.heap.size≤bc∧w.heap.size≤bm∧Below w.heap.size w w'
theorem clknew_any(w:World)(slack idle:Int):Calls Tryz.prog 81 #[.int .i64 slack,.int .i64 idle] w (ClkNewPost w (Clk.new slack idle)):=by
 have HN:=qH (show Clk.new slack idle=⟨boundI slack,boundI idle,0,-1,[]⟩from rfl);have hmm:= @run_makeMap Tryz.prog;go_enter Tryz.func81,Tryz.ntmps81;go_wp2_with fail;refine(bound_any w slack).mono ?_;rintro e w1⟨rfl,rfl⟩;go_wp2_with fail;refine(bound_any w idle).mono ?_;rintro e w1⟨rfl,rfl⟩;go_wp2;go_ret;refine⟨w.heap.size+1,w.heap.size,rfl,⟨?_,?_,ClkOk.new slack idle⟩,by omega,Nat.le_refl _,((Below.refl _ _).alloc (Nat.le_refl _) _).alloc (by simp) _⟩;·rw[HN.out];have:=heap_alloc_new (w.alloc (.map #[] 0)) (clkObj ⟨boundI slack,boundI idle,0,-1,[]⟩ w.heap.size);simpa using this
 ·rw[HN.out];exact(MapS.made w).block (Below.heap_alloc _ _ _ (by simp))
theorem now_any(w:World)(bc bm:Nat)(c:Clk)(hc:ClockAt w bc bm c):Calls Tryz.prog 91 #[.pointer (some ⟨bc,0,none⟩)] w fun e w'=>e=.returned (.int .i64 c.now)∧w=w':=by obtain⟨c0,c1,c2,c3,c4,f2,f3⟩:=hc.cells;clear hc;go_enter Tryz.func91,Tryz.ntmps91;go_wp2;go_ret;exact⟨rfl,rfl⟩
theorem mark_any(w:World)(bc bm:Nat)(c:Clk)(hc:ClockAt w bc bm c):Calls Tryz.prog 105 #[.pointer (some ⟨bc,0,none⟩)] w fun e w'=>e=.returned (.int .i64 c.mark)∧w=w':=by obtain⟨c0,c1,c2,c3,c4,f2,f3⟩:=hc.cells;clear hc;go_enter Tryz.func105,Tryz.ntmps105;go_wp2;go_ret;exact⟨rfl,rfl⟩
end Go.Proofs.YtcmmclliabhnjaaGreatDoor
