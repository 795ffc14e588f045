/-
  Layer 6: rise, Tick.
-/
import Derived.Test.YtajihpcdplpcdaaGreatDoorTRowK
import Derived.Test.YtajihpcdplpcdaaGreatDoorTEvForget
import Derived.Test.YtajihpcdplpcdaaGreatDoorTShelf
import Derived.StillTailTactics
import Derived.IntWalk
import Derived.RegionTactic
set_option maxRecDepth 100000
set_option maxHeartbeats 16000000
namespace Go.Proofs.YtajihpcdplpcdaaGreatDoor
open Go.RowKit Go.Maps Go.Sort
def boundI(n:Int):Int:=min (max n 0) 1099511627776
theorem boundI_lo(n:Int):0≤boundI n:=by unfold boundI;omega
theorem boundI_hi(n:Int):boundI n≤1099511627776:=by unfold boundI;omega
def leastI:List Int→Option Int|[]=>none|x::r=>match leastI r with|none=>some x|some y=>some (if x≤y then x else y)
theorem leastI_none{l:List Int}:leastI l=none↔l=[]:=by cases l with|nil=>simp[leastI]|cons x r=>simp only[leastI];split<;>simp
theorem leastI_some{l:List Int}{m:Int}:leastI l=some m↔m∈l∧ ∀x∈l,m≤x:=by
 induction l generalizing m with
  |nil=>simp[leastI]
  |cons x r ih=>
   simp only[leastI];cases hr:leastI r with
    |none=>
     have:=leastI_none.1 hr;subst this;simp;constructor;·rintro rfl;exact⟨rfl,Int.le_refl _⟩
     ·exact fun h=>h.1.symm
    |some y=>
     obtain⟨h1,h2⟩:=ih.1 hr;simp only[Option.some.injEq,List.mem_cons];constructor
     ·rintro rfl;split
      ·refine⟨.inl rfl,fun z hz=>?_⟩;rcases hz with rfl|hz;·exact Int.le_refl _
       ·have:=h2 z hz;omega
      ·refine⟨.inr h1,fun z hz=>?_⟩;rcases hz with rfl|hz;·omega
       ·exact h2 z hz
     ·rintro⟨h3,h4⟩;have a1:=h4 x (.inl rfl);have a2:=h4 y (.inr h1);rcases h3 with rfl|h3;·rw[if_pos a2]
      ·have:=h2 m h3;split<;>omega
structure Clk where
 slack:Int
 idle:Int
 now:Int
 mark:Int
 src:Row (Int×Int)
def actB(idle now:Int)(s:Int×Int):Bool:=decide (idle=0)||decide (now-s.2≤idle)
def Clk.told(c:Clk):Option Int:=leastI ((c.src.filter fun p=>actB c.idle c.now p.2).map fun p=>p.2.1-c.slack-1)
def Clk.rise(c:Clk):Clk:=match c.told with|none=>c|some m=>{c with mark:=max c.mark m}
def Clk.tick(c:Clk)(now:Int):Clk:=({c with now:=max c.now (boundI now)}:Clk).rise
def Clk.hears(c:Clk)(name:List UInt8)(at_:Int):Bool:=nameB name&&decide (0≤at_)&&decide (at_≤1099511627776)&&decide (c.mark<at_)
def Clk.heard(c:Clk)(name:List UInt8)(at_:Int):Clk:=({c with src:=putB name (max ((getB c.src name).getD (0,0)).1 at_,c.now) c.src}:Clk).rise
def Clk.hear(c:Clk)(name:List UInt8)(at_ now:Int):Clk:=if(c.tick now).hears name at_ then(c.tick now).heard name at_ else c.tick now
def Clk.new(slack idle:Int):Clk:=⟨boundI slack,boundI idle,0,-1,[]⟩
structure ClkOk(c:Clk):Prop where
 slack:0≤c.slack∧c.slack≤1099511627776
 idle:0≤c.idle∧c.idle≤1099511627776
 now:0≤c.now∧c.now≤1099511627776
 mark: -1≤c.mark∧c.mark≤1099511627776
 rising:RowUp c.src
 src: ∀p∈c.src,nameB p.1=true∧0≤p.2.1∧p.2.1≤1099511627776∧0≤p.2.2∧p.2.2≤c.now
theorem told_some{c:Clk}{m:Int}:c.told=some m↔(∃p∈c.src,actB c.idle c.now p.2=true∧m=p.2.1-c.slack-1)∧ ∀p∈c.src,actB c.idle c.now p.2=true→m≤p.2.1-c.slack-1:=by
 unfold Clk.told;rw[leastI_some];simp only[List.mem_map,List.mem_filter];constructor;·rintro⟨⟨p,⟨h1,h2⟩,rfl⟩,h3⟩;exact⟨⟨p,h1,h2,rfl⟩,fun q hq ha=>h3 _ ⟨q,⟨hq,ha⟩,rfl⟩⟩
 ·rintro⟨⟨p,h1,h2,rfl⟩,h3⟩;refine⟨⟨p,⟨h1,h2⟩,rfl⟩,?_⟩;rintro _⟨q,⟨hq,ha⟩,rfl⟩;exact h3 q hq ha
theorem told_none{c:Clk}:c.told=none↔ ∀p∈c.src,actB c.idle c.now p.2=false:=by
 unfold Clk.told;rw[leastI_none];simp only[List.map_eq_nil_iff,List.filter_eq_nil_iff];constructor;·intro h p hp;simpa using h p hp
 ·intro h p hp;simp[h p hp]
theorem ClkOk.told{c:Clk}(h:ClkOk c){m:Int}(ht:c.told=some m): -1099511627777≤m∧m≤1099511627776:=by obtain⟨⟨p,hp,_,rfl⟩,_⟩:=told_some.1 ht;have:=h.src p hp;have:=h.slack;omega
theorem ClkOk.said{c:Clk}(h:ClkOk c){name:List UInt8}{at_:Int}(hh:c.hears name at_=true):ClkOk {c with src:=putB name (max ((getB c.src name).getD (0,0)).1 at_,c.now) c.src}:=by
 unfold Clk.hears at hh;simp only[Bool.and_eq_true,decide_eq_true_eq]at hh;obtain⟨⟨⟨h1,h2⟩,h3⟩,h4⟩:=hh;have hn:=h.now;refine⟨h.slack,h.idle,h.now,h.mark,putB_rising h.rising _ _,fun p hp=>?_⟩;rcases putB_mem.1 hp with rfl|⟨hp,_⟩;·refine⟨h1,?_⟩;cases hg:getB c.src name with|none=>simp only[Option.getD_none];omega|some q=>have:=h.src _ (getB_mem hg);simp only[Option.getD_some]at*;omega
 ·exact h.src p hp
theorem tick_len(c:Clk)(now:Int):(c.tick now).src.length=c.src.length:=by unfold Clk.tick Clk.rise;split<;>rfl
theorem hear_len(c:Clk)(name:List UInt8)(at_ now:Int):(c.hear name at_ now).src.length≤c.src.length+1:=by
 unfold Clk.hear;split
 ·have:((c.tick now).heard name at_).src=putB name (max ((getB (c.tick now).src name).getD (0,0)).1 at_,(c.tick now).now) (c.tick now).src:=by unfold Clk.heard Clk.rise;split<;>rfl
  rw[this];have:=putB_length_le (c.tick now).src name (max ((getB (c.tick now).src name).getD (0,0)).1 at_,(c.tick now).now);rw[tick_len]at this;exact this
 ·rw[tick_len];omega
theorem ClkOk.new(slack idle:Int):ClkOk (Clk.new slack idle):=⟨⟨boundI_lo _,boundI_hi _⟩,⟨boundI_lo _,boundI_hi _⟩,by simp[Clk.new],by simp[Clk.new],by simp[Clk.new,RowUp],fun p hp=>by simp[Clk.new]at hp⟩
theorem rise_rise(c:Clk):c.rise.rise=c.rise:=by unfold Clk.rise;cases ht:c.told with|none=>simp only[ht]|some m=>simp only;have:({c with mark:=max c.mark m}:Clk).told=some m:=ht;rw[this];simp only;congr 1;omega
theorem rise_now(c:Clk):c.rise.now=c.now:=by unfold Clk.rise;split<;>rfl
theorem rise_src(c:Clk):c.rise.src=c.src:=by unfold Clk.rise;split<;>rfl
def encSrc(s:Int×Int):Value:=.agg #[.int .i64 s.1,.int .i64 s.2]
def srcRow(m:Row (Int×Int)):Row Value:=m.map fun p=>(p.1,encSrc p.2)
abbrev clkObj(c:Clk)(bm:Nat):Obj:=.cells #[.int .i64 c.slack,.int .i64 c.idle,.int .i64 c.now,.int .i64 c.mark,.map (some bm)] 155
structure ClockAt(w:World)(bc bm:Nat)(c:Clk):Prop where
 blk:w.heap[bc]?=some (clkObj c bm)
 map:MapS w bm (srcRow c.src)
 ok:ClkOk c
structure ClockCells(w:World)(bc bm:Nat)(c:Clk):Prop where
 c0:w.cell? ⟨bc,0,none⟩=some (.int .i64 c.slack)
 c1:w.cell? ⟨bc,1,none⟩=some (.int .i64 c.idle)
 c2:w.cell? ⟨bc,2,none⟩=some (.int .i64 c.now)
 c3:w.cell? ⟨bc,3,none⟩=some (.int .i64 c.mark)
 c4:w.cell? ⟨bc,4,none⟩=some (.map (some bm))
 f2:w.frozen? ⟨bc,2,none⟩=false
 f3:w.frozen? ⟨bc,3,none⟩=false
theorem ClockAt.cells{w:World}{bc bm:Nat}{c:Clk}(h:ClockAt w bc bm c):ClockCells w bc bm c:=by have key: ∀o,w.cell? ⟨bc,o,none⟩=_:=fun o=>cell_of_row w bc o _ _ (0,0) h.blk;exact⟨(key 0).trans rfl,(key 1).trans rfl,(key 2).trans rfl,(key 3).trans rfl,(key 4).trans rfl,frozen_of_row w bc 2 _ _ h.blk,frozen_of_row w bc 3 _ _ h.blk⟩
theorem ClockAt.keep{w w':World}{bc bm:Nat}{c:Clk}(h:ClockAt w bc bm c)(h1:w'.heap[bc]?=w.heap[bc]?)(h2:w'.heap[bm]?=w.heap[bm]?):ClockAt w' bc bm c:=⟨h1.trans h.blk,h.map.block h2,h.ok⟩
theorem ClockAt.lt{w:World}{bc bm:Nat}{c:Clk}(h:ClockAt w bc bm c):bc<w.heap.size:=heap_lt h.blk
theorem ClockAt.up{w w':World}{bc bm:Nat}{c:Clk}(h:ClockAt w bc bm c)(hb:Below w.heap.size w w'):ClockAt w' bc bm c:=h.keep (hb.block _ h.lt) (hb.block _ h.map.lt)
theorem ClockAt.ne{w:World}{bc bm:Nat}{c:Clk}(h:ClockAt w bc bm c):bc≠bm:=by rintro rfl;obtain⟨es,cl,h1⟩:=h.map.isMap;rw[h.blk]at h1;cases h1
theorem bound_any(w:World)(n:Int):Calls Tryz.prog 79 #[.int .i64 n] w fun e w'=>e=.returned (.int .i64 (boundI n))∧w=w':=by go_enter Tryz.func79,Tryz.ntmps79;go_wp2;go_ret;exact⟨rfl,rfl⟩
theorem active_any(w:World)(bc bm:Nat)(c:Clk)(hc:ClockAt w bc bm c)(a h:Int)(h1:0≤h∧h≤1099511627776):Calls Tryz.prog 136 #[.pointer (some ⟨bc,0,none⟩),.agg #[.int .i64 a,.int .i64 h]] w (Says (actB c.idle c.now (a,h)) w):=by
 obtain⟨o1,o2,o3,o4,_,_⟩:=hc.ok;have hlt:=hc.lt;obtain⟨c0,c1,c2,c3,c4,f2,f3⟩:=hc.cells;have HA:=qH (show actB c.idle c.now (a,h)=(decide (c.idle=0)||decide (c.now-h≤c.idle))from rfl);clear hc;generalize c.idle=idle at*;generalize c.now=now at*;generalize c.slack=slack at*;generalize c.mark=mark at*;by_cases h0:idle=0
 ·have b0:(idle==0)=true:=by simpa using h0
  have HB:=qH (show actB idle now (a,h)=true by rw[HA.out];simp[h0]);clear h0;go_enter Tryz.func136,Tryz.ntmps136;go_wp2;go_quiet(fail);go_wp2;go_ret;exact⟨ret_bool HB.out.symm,below_drewN ((Below.refl _ _).alloc (Nat.le_refl _) _) _⟩
 ·have b0:(idle==0)=false:=by simpa using h0
  have HB:=qH (show actB idle now (a,h)=decide (now-h≤idle)by rw[HA.out];simp[h0]);clear h0;go_enter Tryz.func136,Tryz.ntmps136;go_wp2;go_quiet(fail);go_wp2;go_ret;exact⟨ret_bool HB.out.symm,below_drewN ((Below.refl _ _).alloc (Nat.le_refl _) _) _⟩
theorem srcRow_get{m:Row (Int×Int)}{k:List UInt8}{v:Value}(h:getB (srcRow m) k=some v): ∃s,getB m k=some s∧v=encSrc s:=by unfold srcRow at h;rw[getB_map]at h;cases hg:getB m k with|none=>rw[hg]at h;cases h|some s=>rw[hg]at h;exact⟨s,rfl,by simpa using h.symm⟩
def ToldSt(c:Clk)(todo:List UInt8→Bool):Option Int→Prop|none=> ∀p∈c.src,todo p.1=false→actB c.idle c.now p.2=false|some m=>(∃p∈c.src,todo p.1=false∧actB c.idle c.now p.2=true∧m=p.2.1-c.slack-1)∧ ∀p∈c.src,todo p.1=false→actB c.idle c.now p.2=true→m≤p.2.1-c.slack-1
theorem ToldSt.done{c:Clk}{todo:List UInt8→Bool}{o:Option Int}(h:ToldSt c todo o)(ht: ∀k,todo k=false):c.told=o:=by cases o with|none=>exact told_none.2 fun p hp=>h p hp (ht _)|some m=>obtain⟨⟨p,hp,_,h2,h3⟩,h4⟩:=h;exact told_some.2 ⟨⟨p,hp,h2,h3⟩,fun q hq=>h4 q hq (ht _)⟩
theorem ToldSt.skip{c:Clk}{todo:List UInt8→Bool}{o:Option Int}(hr:RowUp c.src)(h:ToldSt c todo o){k:List UInt8}{s:Int×Int}(hk:(k,s)∈c.src)(ha:actB c.idle c.now s=false):ToldSt c (fun x=>todo x&&!(x==k)) o:=by
 have key: ∀p∈c.src,(todo p.1&&!(p.1==k))=false→todo p.1=false∨p=(k,s):=fun p hp hf=>by
  by_cases e:p.1=k;·exact .inr (hr.key hp hk e)
  ·left;simpa[e]using hf
 cases o with
  |none=>
   intro p hp hf;rcases key p hp hf with h'|rfl;·exact h p hp h'
   ·exact ha
  |some m=>
   obtain⟨⟨p,hp,h1,h2,h3⟩,h4⟩:=h;refine⟨⟨p,hp,by simp[h1],h2,h3⟩,fun q hq hf hq2=>?_⟩;rcases key q hq hf with h'|rfl;·exact h4 q hq h' hq2
   ·rw[ha]at hq2;cases hq2
theorem ToldSt.take{c:Clk}{todo:List UInt8→Bool}{o:Option Int}(hr:RowUp c.src)(h:ToldSt c todo o){k:List UInt8}{s:Int×Int}(hk:(k,s)∈c.src)(ha:actB c.idle c.now s=true){m:Int}(hm:(o=none∧m=s.1-c.slack-1)∨(∃q,o=some q∧m=if s.1-c.slack-1<q then s.1-c.slack-1 else q)):ToldSt c (fun x=>todo x&&!(x==k)) (some m):=by
 have key: ∀p∈c.src,(todo p.1&&!(p.1==k))=false→todo p.1=false∨p=(k,s):=fun p hp hf=>by
  by_cases e:p.1=k;·exact .inr (hr.key hp hk e)
  ·left;simpa[e]using hf
 rcases hm with⟨rfl,rfl⟩|⟨q,rfl,rfl⟩
 ·refine⟨⟨(k,s),hk,by simp,ha,rfl⟩,fun p hp hf hp2=>?_⟩;rcases key p hp hf with h'|rfl;·rw[h p hp h']at hp2;cases hp2
  ·exact Int.le_refl _
 ·obtain⟨⟨p,hp,h1,h2,h3⟩,h4⟩:=h;split
  ·rename_i hlt;refine⟨⟨(k,s),hk,by simp,ha,rfl⟩,fun p hp hf hp2=>?_⟩;rcases key p hp hf with h'|rfl;·have:=h4 p hp h' hp2;omega
   ·exact Int.le_refl _
  ·rename_i hlt;refine⟨⟨p,hp,by simp[h1],h2,h3⟩,fun x hx hf hx2=>?_⟩;rcases key x hx hf with h'|rfl;·exact h4 x hx h' hx2
   ·show q≤s.1-c.slack-1;omega
def ToldPost(c:Clk)(w:World)(e:Ending)(w':World):Prop:=e=.returned (.tuple #[.int .i64 (c.told.getD 0),.bool c.told.isSome])∧Below w.heap.size w w'
def ToldRel(w:World)(bm r:Nat)(c:Clk)(l a:Value)(wr:World):Prop:= ∃todo cnt,MapR wr bm r (srcRow c.src) todo cnt∧Below w.heap.size w wr∧ ∃o:Option Int,l=.int .i64 (o.getD 0)∧a=.bool o.isSome∧ToldSt c todo o
theorem told_any(w:World)(bc bm:Nat)(c:Clk)(hc:ClockAt w bc bm c):Calls Tryz.prog 98 #[.pointer (some ⟨bc,0,none⟩)] w (ToldPost c w):=by
 have HC:=qH hc;obtain⟨c0,c1,c2,c3,c4,f2,f3⟩:=hc.cells;have HM:=qH hc.map;have hlt:=hc.lt;have hmlt:=hc.map.lt;clear hc;go_enter Tryz.func98,Tryz.ntmps98;go_wp2_with(at_range;refine wpList_range_S _ rfl _ 153 160 rfl Tryz.underlying153 bm (srcRow c.src) rfl HM.out ?_;intro w0 hrg0 hg0 hs0);go_frame;clear c0 c1 c2 c3 c4 f2 f3;have hb0:Below w.heap.size w w0:=⟨hg0.os,hg0.tape,hg0.output,hg0.size,fun k hk=>hg0.block k hk (by simp)⟩;clear hg0;go_loopw[4,5](fun l a wr=>ToldRel w bm w.heap.size c l a wr)(fun _ _ wr=>wr.rangeLeft bm w.heap.size);case atStart=>refine⟨_,_,hrg0,hb0,none,rfl,rfl,fun p hp hf=>?_⟩;simp only[srcRow]at hf;rw[getB_map,getB_of_mem HC.out.ok.rising hp]at hf;cases hf
 case round=>
  obtain⟨todo,cnt,hrg,hbel,o,rfl,rfl,hst⟩:=hrel;have HST:=qH hst;have HRG:=qH hrg;have hsz0:=hbel.size;clear hst hrg hrg0;go_wp2_with(at_next;refine wpList_next_S _ rfl _ rfl bm w.heap.size (srcRow c.src) todo cnt rfl HRG.out ?_ ?_);·intro hdone;have HT:=qH (HST.out.done hdone);clear hdone;go_wp2;go_ret2;exact⟨by rw[HT.out];rfl,hbel⟩
  ·intro k v w1 cnt1 htk hget hkl hrg1 hlt1 hgr hsz1 hen;obtain⟨⟨a,h⟩,hs,rfl⟩:=srcRow_get hget;have hmem:=getB_mem hs;have hso:=HC.out.ok.src _ hmem;have hco:=HC.out.ok.slack;have hcn:=HC.out.ok.now;simp only at hso;have hb1:Below w.heap.size w w1:=hbel.grown hgr hsz0 (fun k hk=>by injection hk with hk;omega);have HLT:=qH hlt1;have HR1:=qH hrg1;have HME:=qH hmem;have HB1:=qH hb1;have HSZ1:=qH hsz1;clear htk hget hs hmem hgr hlt1 hrg1 hbel hsz1;unfold encSrc at*;simp only at*;go_wp2_with fail;have hbA:Below w.heap.size w (w1.alloc (.cells #[.int .i64 a,.int .i64 h] 160)):=HB1.out.alloc (by have:=HB1.out.size;omega) _;have hcA:ClockAt (w1.alloc (.cells #[.int .i64 a,.int .i64 h] 160)) bc bm c:=HC.out.up hbA;refine(active_any _ bc bm c hcA a h (by omega)).mono ?_;rintro e w2⟨rfl,hb2⟩;have hbw2:Below w.heap.size w w2:=hbA.trans (hb2.mono hbA.size);have hs2:=hb2.size;simp at hs2;have HR2:=qH (HR1.out.up (w':=w2) (((Below.refl _ _).alloc (Nat.le_refl _) _).trans (hb2.mono (by simp))));have HME2:=qH (show w2.rangeLeft bm w.heap.size<wr.rangeLeft bm w.heap.size by rw[HR2.out.left_eq,HRG.out.left_eq];exact HLT.out);obtain⟨c0,c1,c2,c3,c4,f2,f3⟩:=(hcA.up hb2).cells;have g0:w2.cell? ⟨w1.heap.size,0,none⟩=some (.int .i64 a):=(hb2.cell (p:=⟨w1.heap.size,0,none⟩) (by simp)).trans (cell_of_row _ w1.heap.size 0 _ _ (0,0) (heap_alloc_new w1 _));have g1:w2.cell? ⟨w1.heap.size,1,none⟩=some (.int .i64 h):=(hb2.cell (p:=⟨w1.heap.size,1,none⟩) (by simp)).trans (cell_of_row _ w1.heap.size 1 _ _ (0,0) (heap_alloc_new w1 _));clear hb2 hcA hbA hen;cases hact:actB c.idle c.now (a,h)
   ·have HT:=qH (HST.out.skip HC.out.ok.rising HME.out hact);clear hact;go_wp2;go_roundw;case rel=>exact⟨_,_,HR2.out,hbw2,o,rfl,rfl,HT.out⟩
    case measure=>exact HME2.out
   ·have HT:=qH (fun m hm=>HST.out.take HC.out.ok.rising HME.out hact (m:=m) hm);clear hact;have e1:IntKind.i64.wrap (a-c.slack)=a-c.slack:=IntWalk.i64_in _ (by omega);have e2:IntKind.i64.wrap (a-c.slack-1)=a-c.slack-1:=IntWalk.i64_in _ (by omega);go_wp2;go_quiet(fail);clear e1 e2;have HR3:=qH (show MapR (w2.drewN nq) bm w.heap.size (srcRow c.src) _ cnt1 from HR2.out);have hbw3:Below w.heap.size w (w2.drewN nq):=below_drewN hbw2 nq;have HME3:=qH (show(w2.drewN nq).rangeLeft bm w.heap.size<wr.rangeLeft bm w.heap.size from HME2.out);cases o with
     |none=>
      have HT0:=qH (HT.out _ (.inl ⟨rfl,rfl⟩));simp only[Option.getD_none,Option.isSome_none];go_wp2;go_roundw;case rel=>exact⟨_,_,HR3.out,hbw3,some (a-c.slack-1),rfl,rfl,HT0.out⟩
      case measure=>exact HME3.out
     |some m=>
      simp only[Option.getD_some,Option.isSome_some];by_cases hlt2:a-c.slack-1<m
      ·have HT0:=qH (HT.out _ (.inr ⟨m,rfl,(if_pos hlt2).symm⟩));go_wp2;go_roundw;case rel=>exact⟨_,_,HR3.out,hbw3,some (a-c.slack-1),rfl,rfl,HT0.out⟩
       case measure=>exact HME3.out
      ·have HT0:=qH (HT.out _ (.inr ⟨m,rfl,(if_neg hlt2).symm⟩));go_wp2;go_roundw;case rel=>exact⟨_,_,HR3.out,hbw3,some m,rfl,rfl,HT0.out⟩
       case measure=>exact HME3.out
theorem ClockAt.setMark{w:World}{bc bm:Nat}{c:Clk}(h:ClockAt w bc bm c)(m:Int)(hm: -1≤m∧m≤1099511627776):ClockAt (w.setCell ⟨bc,3,none⟩ (.int .i64 m)) bc bm {c with mark:=m}:=⟨heap_set_row h.blk,h.map.block (Below.heap_setCell _ _ _ _ (Ne.symm h.ne)),⟨h.ok.slack,h.ok.idle,h.ok.now,hm,h.ok.rising,h.ok.src⟩⟩
theorem ClockAt.setNow{w:World}{bc bm:Nat}{c:Clk}(h:ClockAt w bc bm c)(n:Int)(hn:c.now≤n∧n≤1099511627776):ClockAt (w.setCell ⟨bc,2,none⟩ (.int .i64 n)) bc bm {c with now:=n}:=⟨heap_set_row h.blk,h.map.block (Below.heap_setCell _ _ _ _ (Ne.symm h.ne)),⟨h.ok.slack,h.ok.idle,by have:=h.ok.now;exact⟨by show 0≤n;omega,hn.2⟩,h.ok.mark,h.ok.rising,fun p hp=>by have:=h.ok.src p hp;exact⟨this.1,this.2.1,this.2.2.1,this.2.2.2.1,by show p.2.2≤n;omega⟩⟩⟩
def RisePost(w:World)(bc bm:Nat)(c:Clk)(e:Ending)(w':World):Prop:=e=.returned (.tuple #[])∧ClockAt w' bc bm c∧Keep (·=bc) w w'
theorem rise_any(w:World)(bc bm:Nat)(c:Clk)(hc:ClockAt w bc bm c):Calls Tryz.prog 83 #[.pointer (some ⟨bc,0,none⟩)] w (RisePost w bc bm c.rise):=by have HC:=qH hc;clear hc;go_enter Tryz.func83,Tryz.ntmps83;go_wp2_with fail;refine(told_any w bc bm c HC.out).mono ?_;rintro e w1⟨rfl,hb1⟩;have HC1:=qH (HC.out.up hb1);obtain⟨c0,c1,c2,c3,c4,f2,f3⟩:=HC1.out.cells;cases ht:c.told with|none=>have HT:=qH (show c.rise=c by unfold Clk.rise;rw[ht]);have HK:=qH (show Keep (·=bc) w w1 from Keep.of_below hb1);clear ht hb1;simp only[Option.getD_none,Option.isSome_none];go_wp2;go_end0;exact⟨rfl,by rw[HT.out];exact HC1.out,HK.out⟩|some m=>have HT:=qH (show c.rise={c with mark:=max c.mark m}by unfold Clk.rise;rw[ht]);have hmb:=HC.out.ok.told ht;have hmk:=HC.out.ok.mark;have HK:=qH (show Keep (·=bc) w w1 from Keep.of_below hb1);clear ht hb1;simp only[Option.getD_some,Option.isSome_some];go_wp2;go_end0;exact⟨rfl,by rw[HT.out];exact HC1.out.setMark _ (by omega),HK.out.setCell (fun _=>rfl) _⟩
def TickPost(w:World)(bc bm:Nat)(c:Clk)(e:Ending)(w':World):Prop:=e=.returned (.int .i64 c.mark)∧ClockAt w' bc bm c∧Keep (·=bc) w w'
theorem bound_same(w:World)(n:Int):Calls Tryz.prog 79 #[.int .i64 n] w fun e w'=>e=.returned (.int .i64 (boundI n))∧w'=w:=(bound_any w n).mono fun _ _ h=>⟨h.1,h.2.symm⟩
theorem tick_any(w:World)(bc bm:Nat)(c:Clk)(hc:ClockAt w bc bm c)(now:Int):Calls Tryz.prog 81 #[.pointer (some ⟨bc,0,none⟩),.int .i64 now] w (TickPost w bc bm (c.tick now)):=by
 have HC:=qH hc;obtain⟨c0,c1,c2,c3,c4,f2,f3⟩:=hc.cells;have hbl:=boundI_lo now;have hbh:=boundI_hi now;have hn:=hc.ok.now;clear hc;go_enter Tryz.func81,Tryz.ntmps81;go_wp2;go_still_tail 10,(by kernel_rfl);still_call(bound_same _ _);repeat still_step
 refine wpStill_nil ?_;change wpList _ _ _ _ _ (w.drewN 1);have HC1:=qH (show ClockAt (w.drewN 1) bc bm c from HC.out.keep rfl rfl);have HT:=qH (show c.tick now=({c with now:=max c.now (boundI now)}:Clk).rise from rfl);have HK:=qH (show Keep (·=bc) w (w.drewN 1)from(Keep.refl _ _).drewN 1);have d2:(w.drewN 1).cell? ⟨bc,2,none⟩=some (.int .i64 c.now):=c2;have d3:(w.drewN 1).frozen? ⟨bc,2,none⟩=false:=f2;generalize boundI now=nb at*;generalize w.drewN 1=w1 at*;clear c0 c1 c2 c3 c4 f2 f3;go_wp2_with fail;have hc2:=HC1.out.setNow (max c.now nb) (by omega);refine(rise_any _ bc bm _ hc2).mono ?_;rintro e w2⟨rfl,hcr,hk2⟩;rw[←HT.out]at hcr;obtain⟨e0,e1,e2,e3,e4,g2,g3⟩:=hcr.cells;have HCR:=qH hcr;have HK2:=qH ((HK.out.setCell (p:=⟨bc,2,none⟩) (fun _=>rfl) (.int .i64 (max c.now nb))).trans hk2 (fun _ _ h=>h));clear hcr hk2 hc2 d2 d3;go_wp2;go_ret;exact⟨rfl,HCR.out,HK2.out⟩
end Go.Proofs.YtajihpcdplpcdaaGreatDoor
