/-
  Layer 6: a line that is read (Decode$1): what it leaves.
-/
import Derived.Test.YtcmmclliabhnjaaGreatDoorWEvForget
import Derived.Test.YtcmmclliabhnjaaGreatDoorWShelf
import Derived.StillTailTactics
import Derived.Test.YtcmmclliabhnjaaGreatDoorWPtClk
import Derived.Test.YtcmmclliabhnjaaGreatDoorWTwCc
import Derived.Lib.AtoiErrMem
import Derived.IntWalk
import Derived.Test.YtcmmclliabhnjaaGreatDoorWPnM
import Derived.Test.YtcmmclliabhnjaaGreatDoorWMapL
import Derived.Lib.OthersKept
set_option maxRecDepth 100000
set_option maxHeartbeats 16000000
namespace Go.Proofs.YtcmmclliabhnjaaGreatDoor
open Go.RowKit Go.Maps Go.Sort
def encSrc(s:Int×Int):Value:=.agg #[.int .i64 s.1,.int .i64 s.2]
def srcRow(m:Row (Int×Int)):Row Value:=m.map fun p=>(p.1,encSrc p.2)
abbrev clkObj(c:Clk)(bm:Nat):Obj:=.cells #[.int .i64 c.slack,.int .i64 c.idle,.int .i64 c.now,.int .i64 c.mark,.map (some bm)] 212
structure ClockAt(w:World)(bc bm:Nat)(c:Clk):Prop where
 blk:w.heap[bc]?=some (clkObj c bm)
 map:MapS w bm (srcRow c.src)
 ok:ClkOk c
structure ClockCells(w:World)(bc bm:Nat)(c:Clk):Prop where
 c0:w.cell? ⟨bc,0,none⟩=some (.int .i64 c.slack)
 c1:w.cell? ⟨bc,1,none⟩=some (.int .i64 c.idle)
 c2:w.cell? ⟨bc,2,none⟩=some (.int .i64 c.now)
 c3:w.cell? ⟨bc,3,none⟩=some (.int .i64 c.mark)
 c4:w.cell? ⟨bc,4,none⟩=some (.map (some bm))
 f2:w.frozen? ⟨bc,2,none⟩=false
 f3:w.frozen? ⟨bc,3,none⟩=false
theorem ClockAt.cells{w:World}{bc bm:Nat}{c:Clk}(h:ClockAt w bc bm c):ClockCells w bc bm c:=by have key: ∀o,w.cell? ⟨bc,o,none⟩=_:=fun o=>cell_of_row w bc o _ _ (0,0) h.blk;exact⟨(key 0).trans rfl,(key 1).trans rfl,(key 2).trans rfl,(key 3).trans rfl,(key 4).trans rfl,frozen_of_row w bc 2 _ _ h.blk,frozen_of_row w bc 3 _ _ h.blk⟩
theorem ClockAt.keep{w w':World}{bc bm:Nat}{c:Clk}(h:ClockAt w bc bm c)(h1:w'.heap[bc]?=w.heap[bc]?)(h2:w'.heap[bm]?=w.heap[bm]?):ClockAt w' bc bm c:=⟨h1.trans h.blk,h.map.block h2,h.ok⟩
theorem ClockAt.lt{w:World}{bc bm:Nat}{c:Clk}(h:ClockAt w bc bm c):bc<w.heap.size:=heap_lt h.blk
theorem ClockAt.up{w w':World}{bc bm:Nat}{c:Clk}(h:ClockAt w bc bm c)(hb:Below w.heap.size w w'):ClockAt w' bc bm c:=h.keep (hb.block _ h.lt) (hb.block _ h.map.lt)
theorem ClockAt.ne{w:World}{bc bm:Nat}{c:Clk}(h:ClockAt w bc bm c):bc≠bm:=by rintro rfl;obtain⟨es,cl,h1⟩:=h.map.isMap;rw[h.blk]at h1;cases h1
theorem bound_any(w:World)(n:Int):Calls Tryz.prog 143 #[.int .i64 n] w fun e w'=>e=.returned (.int .i64 (boundI n))∧w=w':=by go_enter Tryz.func143,Tryz.ntmps143;go_wp2;go_ret;exact⟨rfl,rfl⟩
theorem active_any(w:World)(bc bm:Nat)(c:Clk)(hc:ClockAt w bc bm c)(a h:Int)(h1:0≤h∧h≤1099511627776):Calls Tryz.prog 205 #[.pointer (some ⟨bc,0,none⟩),.agg #[.int .i64 a,.int .i64 h]] w (Says (actB c.idle c.now (a,h)) w):=by
 obtain⟨o1,o2,o3,o4,_,_⟩:=hc.ok;have hlt:=hc.lt;obtain⟨c0,c1,c2,c3,c4,f2,f3⟩:=hc.cells;have HA:=qH (show actB c.idle c.now (a,h)=(decide (c.idle=0)||decide (c.now-h≤c.idle))from rfl);clear hc;generalize c.idle=idle at*;generalize c.now=now at*;generalize c.slack=slack at*;generalize c.mark=mark at*;by_cases h0:idle=0
 ·have b0:(idle==0)=true:=by simpa using h0
  have HB:=qH (show actB idle now (a,h)=true by rw[HA.out];simp[h0]);clear h0;go_enter Tryz.func205,Tryz.ntmps205;go_wp2;go_quiet(fail);go_wp2;go_ret;exact⟨ret_bool HB.out.symm,below_drewN ((Below.refl _ _).alloc (Nat.le_refl _) _) _⟩
 ·have b0:(idle==0)=false:=by simpa using h0
  have HB:=qH (show actB idle now (a,h)=decide (now-h≤idle)by rw[HA.out];simp[h0]);clear h0;go_enter Tryz.func205,Tryz.ntmps205;go_wp2;go_quiet(fail);go_wp2;go_ret;exact⟨ret_bool HB.out.symm,below_drewN ((Below.refl _ _).alloc (Nat.le_refl _) _) _⟩
open Go.Shelf
theorem cut_any(w:World)(l:List UInt8)(c:UInt8)(hl:l.length≤1000000000)(hm:MaxAt w):Calls Tryz.prog 140 #[.string ⟨l.toArray⟩,.string ⟨#[c]⟩] w fun e w'=>e=.returned (.tuple #[.string ⟨(Lib.cut l [c]).1.toArray⟩,.string ⟨(Lib.cut l [c]).2.1.toArray⟩,.bool (Lib.cut l [c]).2.2])∧ ∃n,w'=w.drewN n:=by obtain⟨m,hm⟩:=hm;have:=Tryz.strings_Cut ⟨l.toArray⟩ ⟨#[c]⟩ m w (by show l.toArray.size<_;simp;omega) hm;simpa using this
theorem splitB_map(s sep:List UInt8):(Lib.splitB ⟨sep.toArray⟩ 0 (Lib.countB ⟨s.toArray⟩ ⟨sep.toArray⟩) ⟨s.toArray⟩).map Value.string=(Lib.split s sep).map encStr:=by
 have h:=Lib.splitB_data ⟨sep.toArray⟩ 0 (Lib.countB ⟨s.toArray⟩ ⟨sep.toArray⟩) ⟨s.toArray⟩;have h2:Lib.split s sep=Lib.splitK sep 0 (Lib.countB ⟨s.toArray⟩ ⟨sep.toArray⟩) s:=rfl;rw[h2];have h3:(⟨s.toArray⟩:ByteArray).data.toList=s:=by simp
 have h4:(⟨sep.toArray⟩:ByteArray).data.toList=sep:=by simp
 rw[h3,h4]at h;rw[←h,List.map_map];refine List.map_congr_left fun b _=>?_;show Value.string b=encStr b.data.toList;unfold encStr;simp
theorem split_len(s:List UInt8)(c:UInt8):(Lib.split s [c]).length=Lib.countB ⟨s.toArray⟩ ⟨#[c]⟩+1:=by have h:=Lib.splitB_all ⟨#[c]⟩ (Nat.le_refl _) 0 _ ⟨s.toArray⟩ rfl;have h2:=congrArg List.length (splitB_map s [c]);simp only[List.length_map]at h2;rw[←h2,←h]
theorem splits_any(w:World)(l:List UInt8)(c:UInt8)(hl:l.length≤1000000000)(hm:MaxAt w):Calls Tryz.prog 141 #[.string ⟨l.toArray⟩,.string ⟨#[c]⟩] w fun e w'=>e=.returned (.slice (some ⟨w.heap.size,0,none⟩) (Lib.split l [c]).length (Lib.split l [c]).length)∧w'=w.alloc (.cells ((Lib.split l [c]).map encStr).toArray 9):=by obtain⟨m,hm⟩:=hm;have:=Tryz.strings_Split ⟨l.toArray⟩ ⟨#[c]⟩ m w (by show l.toArray.size<_;simp;omega) hm (Nat.le_refl _);rw[←split_len]at this;rw[←splitB_map l [c]];exact this
def ErrsAt(w:World):Prop:=(∃v,w.cell? ⟨3,0,none⟩=some v∧(v=.nilIface∨ ∃t p,v=.iface t p))∧ ∃v,w.cell? ⟨4,0,none⟩=some v∧(v=.nilIface∨ ∃t p,v=.iface t p)
theorem ErrsAt.up{w w':World}(h:ErrsAt w)(hb:Below w.heap.size w w'):ErrsAt w':=by obtain⟨⟨v,h1,h2⟩,u,h3,h4⟩:=h;exact⟨⟨v,(hb.cell (World.block_lt_of_cell? _ _ h1)).trans h1,h2⟩,u,(hb.cell (World.block_lt_of_cell? _ _ h3)).trans h3,h4⟩
def AtPost(w:World)(l:List UInt8)(e:Ending)(w':World):Prop:= ∃ev,e=.returned (.tuple #[.int .i64 (atoiV l),ev])∧(if atoiE l then ev=.nilIface else∃t p,ev=.iface t p)∧Below w.heap.size w w'
theorem atoi_any(w:World)(l:List UInt8)(hl:l.length≤1000000000)(hv:ErrsAt w):Calls Tryz.prog 142 #[.string ⟨l.toArray⟩] w (AtPost w l):=by
 have hz:(⟨l.toArray⟩:ByteArray).size=l.length:=by simp[ByteArray.size]
 have hd:(⟨l.toArray⟩:ByteArray).data.toList=l:=by simp
 obtain⟨⟨v,h1,h2⟩,u,h3,h4⟩:=hv;cases ha:Lib.atoiAll l with
  |ok n=>
   refine(Tryz.strconv_Atoi_ok ⟨l.toArray⟩ (by rw[hz];omega) n (by rw[hd];exact ha) w).mono ?_;rintro e w'⟨rfl,hw⟩;refine⟨.nilIface,by unfold atoiV;rw[ha],by unfold atoiE;rw[ha];rfl,?_⟩;rcases hw with rfl|⟨t,rfl⟩;·exact Below.refl _ _
   ·exact Lib.bytesWorld_below w _ t
  |range=>refine(Tryz.strconv_Atoi_range ⟨l.toArray⟩ (by rw[hz];omega) (by rw[hd];exact ha) u w h3 h4).mono ?_;rintro e w'⟨N,rfl,_,_,hb⟩;refine⟨_,by unfold atoiV;rw[ha,hd],?_,hb⟩;unfold atoiE;rw[ha];exact⟨_,_,rfl⟩
  |_=>refine(Tryz.strconv_Atoi_syntax ⟨l.toArray⟩ (by rw[hz];omega) (by rw[hd];exact ha) v w h1 h2).mono ?_;rintro e w'⟨N,rfl,_,_,hb⟩;refine⟨_,by unfold atoiV;rw[ha],?_,hb⟩;unfold atoiE;rw[ha];exact⟨_,_,rfl⟩
theorem atoi_num(w:World)(n:Int)(h0: -9223372036854775808≤n)(h1:n≤9223372036854775807):Calls Tryz.prog 142 #[.string ⟨(Lib.itoa n).toArray⟩] w fun e w'=>e=.returned (.tuple #[.int .i64 n,.nilIface])∧Below w.heap.size w w':=by
 have hz:(⟨(Lib.itoa n).toArray⟩:ByteArray).size=(Lib.itoa n).length:=by simp[ByteArray.size]
 have hl:=Lib.itoa_length_le n h0 h1;refine(Tryz.strconv_Atoi_ok ⟨(Lib.itoa n).toArray⟩ (by rw[hz];omega) n (by simpa using atoi_itoa n h0 h1) w).mono ?_;rintro e w'⟨rfl,hw⟩;refine⟨rfl,?_⟩;rcases hw with rfl|⟨t,rfl⟩;·exact Below.refl _ _
 ·exact Lib.bytesWorld_below w _ t
theorem srcRow_get{m:Row (Int×Int)}{k:List UInt8}{v:Value}(h:getB (srcRow m) k=some v): ∃s,getB m k=some s∧v=encSrc s:=by unfold srcRow at h;rw[getB_map]at h;cases hg:getB m k with|none=>rw[hg]at h;cases h|some s=>rw[hg]at h;exact⟨s,rfl,by simpa using h.symm⟩
def ToldSt(c:Clk)(todo:List UInt8→Bool):Option Int→Prop|none=> ∀p∈c.src,todo p.1=false→actB c.idle c.now p.2=false|some m=>(∃p∈c.src,todo p.1=false∧actB c.idle c.now p.2=true∧m=p.2.1-c.slack-1)∧ ∀p∈c.src,todo p.1=false→actB c.idle c.now p.2=true→m≤p.2.1-c.slack-1
theorem ToldSt.done{c:Clk}{todo:List UInt8→Bool}{o:Option Int}(h:ToldSt c todo o)(ht: ∀k,todo k=false):c.told=o:=by cases o with|none=>exact told_none.2 fun p hp=>h p hp (ht _)|some m=>obtain⟨⟨p,hp,_,h2,h3⟩,h4⟩:=h;exact told_some.2 ⟨⟨p,hp,h2,h3⟩,fun q hq=>h4 q hq (ht _)⟩
theorem ToldSt.skip{c:Clk}{todo:List UInt8→Bool}{o:Option Int}(hr:RowUp c.src)(h:ToldSt c todo o){k:List UInt8}{s:Int×Int}(hk:(k,s)∈c.src)(ha:actB c.idle c.now s=false):ToldSt c (fun x=>todo x&&!(x==k)) o:=by
 have key: ∀p∈c.src,(todo p.1&&!(p.1==k))=false→todo p.1=false∨p=(k,s):=fun p hp hf=>by
  by_cases e:p.1=k;·exact .inr (hr.key hp hk e)
  ·left;simpa[e]using hf
 cases o with
  |none=>
   intro p hp hf;rcases key p hp hf with h'|rfl;·exact h p hp h'
   ·exact ha
  |some m=>
   obtain⟨⟨p,hp,h1,h2,h3⟩,h4⟩:=h;refine⟨⟨p,hp,by simp[h1],h2,h3⟩,fun q hq hf hq2=>?_⟩;rcases key q hq hf with h'|rfl;·exact h4 q hq h' hq2
   ·rw[ha]at hq2;cases hq2
theorem ToldSt.take{c:Clk}{todo:List UInt8→Bool}{o:Option Int}(hr:RowUp c.src)(h:ToldSt c todo o){k:List UInt8}{s:Int×Int}(hk:(k,s)∈c.src)(ha:actB c.idle c.now s=true){m:Int}(hm:(o=none∧m=s.1-c.slack-1)∨(∃q,o=some q∧m=if s.1-c.slack-1<q then s.1-c.slack-1 else q)):ToldSt c (fun x=>todo x&&!(x==k)) (some m):=by
 have key: ∀p∈c.src,(todo p.1&&!(p.1==k))=false→todo p.1=false∨p=(k,s):=fun p hp hf=>by
  by_cases e:p.1=k;·exact .inr (hr.key hp hk e)
  ·left;simpa[e]using hf
 rcases hm with⟨rfl,rfl⟩|⟨q,rfl,rfl⟩
 ·refine⟨⟨(k,s),hk,by simp,ha,rfl⟩,fun p hp hf hp2=>?_⟩;rcases key p hp hf with h'|rfl;·rw[h p hp h']at hp2;cases hp2
  ·exact Int.le_refl _
 ·obtain⟨⟨p,hp,h1,h2,h3⟩,h4⟩:=h;split
  ·rename_i hlt;refine⟨⟨(k,s),hk,by simp,ha,rfl⟩,fun p hp hf hp2=>?_⟩;rcases key p hp hf with h'|rfl;·have:=h4 p hp h' hp2;omega
   ·exact Int.le_refl _
  ·rename_i hlt;refine⟨⟨p,hp,by simp[h1],h2,h3⟩,fun x hx hf hx2=>?_⟩;rcases key x hx hf with h'|rfl;·exact h4 x hx h' hx2
   ·show q≤s.1-c.slack-1;omega
def ToldPost(c:Clk)(w:World)(e:Ending)(w':World):Prop:=e=.returned (.tuple #[.int .i64 (c.told.getD 0),.bool c.told.isSome])∧Below w.heap.size w w'
def ToldRel(w:World)(bm r:Nat)(c:Clk)(l a:Value)(wr:World):Prop:= ∃todo cnt,MapR wr bm r (srcRow c.src) todo cnt∧Below w.heap.size w wr∧ ∃o:Option Int,l=.int .i64 (o.getD 0)∧a=.bool o.isSome∧ToldSt c todo o
theorem told_any(w:World)(bc bm:Nat)(c:Clk)(hc:ClockAt w bc bm c):Calls Tryz.prog 163 #[.pointer (some ⟨bc,0,none⟩)] w (ToldPost c w):=by
 have HC:=qH hc;obtain⟨c0,c1,c2,c3,c4,f2,f3⟩:=hc.cells;have HM:=qH hc.map;have hlt:=hc.lt;have hmlt:=hc.map.lt;clear hc;go_enter Tryz.func163,Tryz.ntmps163;go_wp2_with(at_range;refine wpList_range_S _ rfl _ 210 214 rfl Tryz.underlying210 bm (srcRow c.src) rfl HM.out ?_;intro w0 hrg0 hg0 hs0);go_frame;clear c0 c1 c2 c3 c4 f2 f3;have hb0:Below w.heap.size w w0:=⟨hg0.os,hg0.tape,hg0.output,hg0.size,fun k hk=>hg0.block k hk (by simp)⟩;clear hg0;go_loopw[4,5](fun l a wr=>ToldRel w bm w.heap.size c l a wr)(fun _ _ wr=>wr.rangeLeft bm w.heap.size);case atStart=>refine⟨_,_,hrg0,hb0,none,rfl,rfl,fun p hp hf=>?_⟩;simp only[srcRow]at hf;rw[getB_map,getB_of_mem HC.out.ok.rising hp]at hf;cases hf
 case round=>
  obtain⟨todo,cnt,hrg,hbel,o,rfl,rfl,hst⟩:=hrel;have HST:=qH hst;have HRG:=qH hrg;have hsz0:=hbel.size;clear hst hrg hrg0;go_wp2_with(at_next;refine wpList_next_S _ rfl _ rfl bm w.heap.size (srcRow c.src) todo cnt rfl HRG.out ?_ ?_);·intro hdone;have HT:=qH (HST.out.done hdone);clear hdone;go_wp2;go_ret2;exact⟨by rw[HT.out];rfl,hbel⟩
  ·intro k v w1 cnt1 htk hget hkl hrg1 hlt1 hgr hsz1 hen;obtain⟨⟨a,h⟩,hs,rfl⟩:=srcRow_get hget;have hmem:=getB_mem hs;have hso:=HC.out.ok.src _ hmem;have hco:=HC.out.ok.slack;have hcn:=HC.out.ok.now;simp only at hso;have hb1:Below w.heap.size w w1:=hbel.grown hgr hsz0 (fun k hk=>by injection hk with hk;omega);have HLT:=qH hlt1;have HR1:=qH hrg1;have HME:=qH hmem;have HB1:=qH hb1;have HSZ1:=qH hsz1;clear htk hget hs hmem hgr hlt1 hrg1 hbel hsz1;unfold encSrc at*;simp only at*;go_wp2_with fail;have hbA:Below w.heap.size w (w1.alloc (.cells #[.int .i64 a,.int .i64 h] 214)):=HB1.out.alloc (by have:=HB1.out.size;omega) _;have hcA:ClockAt (w1.alloc (.cells #[.int .i64 a,.int .i64 h] 214)) bc bm c:=HC.out.up hbA;refine(active_any _ bc bm c hcA a h (by omega)).mono ?_;rintro e w2⟨rfl,hb2⟩;have hbw2:Below w.heap.size w w2:=hbA.trans (hb2.mono hbA.size);have hs2:=hb2.size;simp at hs2;have HR2:=qH (HR1.out.up (w':=w2) (((Below.refl _ _).alloc (Nat.le_refl _) _).trans (hb2.mono (by simp))));have HME2:=qH (show w2.rangeLeft bm w.heap.size<wr.rangeLeft bm w.heap.size by rw[HR2.out.left_eq,HRG.out.left_eq];exact HLT.out);obtain⟨c0,c1,c2,c3,c4,f2,f3⟩:=(hcA.up hb2).cells;have g0:w2.cell? ⟨w1.heap.size,0,none⟩=some (.int .i64 a):=(hb2.cell (p:=⟨w1.heap.size,0,none⟩) (by simp)).trans (cell_of_row _ w1.heap.size 0 _ _ (0,0) (heap_alloc_new w1 _));have g1:w2.cell? ⟨w1.heap.size,1,none⟩=some (.int .i64 h):=(hb2.cell (p:=⟨w1.heap.size,1,none⟩) (by simp)).trans (cell_of_row _ w1.heap.size 1 _ _ (0,0) (heap_alloc_new w1 _));clear hb2 hcA hbA hen;cases hact:actB c.idle c.now (a,h)
   ·have HT:=qH (HST.out.skip HC.out.ok.rising HME.out hact);clear hact;go_wp2;go_roundw;case rel=>exact⟨_,_,HR2.out,hbw2,o,rfl,rfl,HT.out⟩
    case measure=>exact HME2.out
   ·have HT:=qH (fun m hm=>HST.out.take HC.out.ok.rising HME.out hact (m:=m) hm);clear hact;have e1:IntKind.i64.wrap (a-c.slack)=a-c.slack:=IntWalk.i64_in _ (by omega);have e2:IntKind.i64.wrap (a-c.slack-1)=a-c.slack-1:=IntWalk.i64_in _ (by omega);go_wp2;go_quiet(fail);clear e1 e2;have HR3:=qH (show MapR (w2.drewN nq) bm w.heap.size (srcRow c.src) _ cnt1 from HR2.out);have hbw3:Below w.heap.size w (w2.drewN nq):=below_drewN hbw2 nq;have HME3:=qH (show(w2.drewN nq).rangeLeft bm w.heap.size<wr.rangeLeft bm w.heap.size from HME2.out);cases o with
     |none=>
      have HT0:=qH (HT.out _ (.inl ⟨rfl,rfl⟩));simp only[Option.getD_none,Option.isSome_none];go_wp2;go_roundw;case rel=>exact⟨_,_,HR3.out,hbw3,some (a-c.slack-1),rfl,rfl,HT0.out⟩
      case measure=>exact HME3.out
     |some m=>
      simp only[Option.getD_some,Option.isSome_some];by_cases hlt2:a-c.slack-1<m
      ·have HT0:=qH (HT.out _ (.inr ⟨m,rfl,(if_pos hlt2).symm⟩));go_wp2;go_roundw;case rel=>exact⟨_,_,HR3.out,hbw3,some (a-c.slack-1),rfl,rfl,HT0.out⟩
       case measure=>exact HME3.out
      ·have HT0:=qH (HT.out _ (.inr ⟨m,rfl,(if_neg hlt2).symm⟩));go_wp2;go_roundw;case rel=>exact⟨_,_,HR3.out,hbw3,some m,rfl,rfl,HT0.out⟩
       case measure=>exact HME3.out
theorem byt_str{w:World}{B n c:Nat}{A:Option Addr}{l:List UInt8}(h:Byt w B A n c l): ∀W,Below B w W→(convert 22 9 (.slice A n c)).run Tryz.prog W=.ok (.string ⟨l.toArray⟩) W:=fun _ hW=>(h.below hW).str (P:=Tryz.prog) 22 5 9 Tryz.underlying22 Tryz.underlying5 Tryz.underlying9
def TmPost(w:World)(a b:Int)(e:Ending)(w':World):Prop:=e=.returned (.tuple #[.int .i64 a,.int .i64 b])∧Below w.heap.size w w'
theorem terms_any(w:World)(A:Option Addr)(n k:Nat)(c:Clk)(hc:ClkOk c)(h:Byt w w.heap.size A n k (encC c))(hn:n≤100000000)(hm:MaxAt w):Calls Tryz.prog 79 #[.slice A n k] w (TmPost w c.slack c.idle):=by
 have h1:=hc.slack;have h2:=hc.idle;have h3:=hc.now;have h4:=hc.mark;have hlen:=h.len;have HCV:=qH (byt_str h w (Below.refl _ _));have hcut:Lib.cut (encC c) [10]=([99,108,111,99,107]++numsB [c.slack,c.idle,c.now,c.mark],srcB c.src,true):=by
  have:encC c=([99,108,111,99,107]++numsB [c.slack,c.idle,c.now,c.mark])++10::srcB c.src:=by unfold encC lineB;simp
  rw[this];exact cut_hit 10 _ _ fun hm=>(List.mem_append.1 hm).elim (by decide) (numsB_no 10 (by decide) (by decide) (by decide) _)
 have hsp:=words_nums [c.slack,c.idle,c.now,c.mark] [99,108,111,99,107] (by decide);have hnl:=numsB_len [c.slack,c.idle,c.now,c.mark] (by intro v hv;simp at hv;rcases hv with rfl|rfl|rfl|rfl<;>omega);have HC:=qH (cut_any w (encC c) 10 (by omega) hm);rw[hcut]at HC;have HM:=qH hm;have HLL:=qH (show([99,108,111,99,107]++numsB [c.slack,c.idle,c.now,c.mark]).length≤1000 from by simp at hnl⊢;omega);have HSP:=qH hsp;clear hcut hsp hnl h hm;generalize[99,108,111,99,107]++numsB [c.slack,c.idle,c.now,c.mark]=L at*;generalize encC c=b at*;have hcv:=HCV.out;go_enter Tryz.func79,Tryz.ntmps79;go_wp2_with fail;with_reducible refine HC.out.mono ?_
 rintro r w1⟨rfl,q,rfl⟩;have HB1:=qH (show Below w.heap.size w (w.drewN q)from below_drewN (Below.refl _ _) q);have HM1:=qH (HM.out.up HB1.out);have HS:=qH (splits_any (w.drewN q) L 32 (by have:=HLL.out;omega) HM1.out);clear hcv;generalize w.drewN q=w1 at*;rw[HSP.out]at HS;go_wp2_with fail;with_reducible refine HS.out.mono ?_
 rintro r w2⟨rfl,hw2⟩;have hcs:w2.heap[w1.heap.size]?=some (.cells #[.string ⟨#[99,108,111,99,107]⟩,.string ⟨(Lib.itoa c.slack).toArray⟩,.string ⟨(Lib.itoa c.idle).toArray⟩,.string ⟨(Lib.itoa c.now).toArray⟩,.string ⟨(Lib.itoa c.mark).toArray⟩] 9 (0,0)):=by rw[hw2];exact heap_alloc_new w1 _
 have hb2:Below w1.heap.size w1 w2:=by rw[hw2];exact(Below.refl _ _).alloc (Nat.le_refl _) _
 have hlt2:w1.heap.size<w2.heap.size:=(Array.getElem?_eq_some_iff.1 hcs).1;have HCS:=qH hcs;have HB2:=qH (HB1.out.trans (hb2.mono HB1.out.size));have x1:w2.cell? ⟨w1.heap.size,1,none⟩=some (.string ⟨(Lib.itoa c.slack).toArray⟩):=(cell_of_row w2 _ 1 _ _ (0,0) hcs).trans rfl;clear hw2 hcs hb2 HS;go_wp2_with fail;with_reducible refine(atoi_num w2 c.slack (by omega) (by omega)).mono ?_
 rintro r w3⟨rfl,hb3⟩;have hb3':w3.heap[w1.heap.size]?=_:=(hb3.block _ hlt2).trans HCS.out;have x2:w3.cell? ⟨w1.heap.size,2,none⟩=some (.string ⟨(Lib.itoa c.idle).toArray⟩):=(cell_of_row w3 _ 2 _ _ (0,0) hb3').trans rfl;have HB3:=qH (HB2.out.trans (hb3.mono HB2.out.size));clear hb3 hb3' x1;go_wp2_with fail;with_reducible refine(atoi_num w3 c.idle (by omega) (by omega)).mono ?_
 rintro r w4⟨rfl,hb4⟩;have HB4:=qH (HB3.out.trans (hb4.mono HB3.out.size));clear hb4 x2;go_wp2;go_ret2;exact⟨rfl,HB4.out⟩
abbrev stBox(l:List UInt8):Obj:=.cells #[.string ⟨l.toArray⟩] 9
abbrev okBox(b:Bool):Obj:=.cells #[.bool b] 4
def LnRPost(w:World)(b1 b2:Nat)(d:LnD)(e:Ending)(w':World):Prop:= ∃g,e=.returned (.tuple #[.string ⟨d.word.toArray⟩,.slice (some ⟨g,0,none⟩) d.nums.length d.nums.length])∧w'.heap[b1]?=some (stBox d.rest)∧w'.heap[b2]?=some (okBox d.ok)∧w'.heap[g]?=some (.cells (d.nums.map (Value.int .i64)).toArray 3 (0,0))∧w.heap.size≤g∧Keep (fun b=>b=b1∨b=b2) w w'
def LnRel9(w:World)(b2 g n:Nat)(ws:List (List UInt8))(ok:Bool)(i:Value)(W:World):Prop:= ∃k:Nat,i=.int .i64 k∧k≤ws.length∧W.heap[b2]?=some (okBox (ok&&(ws.take k).all atoiB))∧W.heap[g]?=some (.cells (((ws.take k).map atoiV++List.replicate (n-k) 0).map (Value.int .i64)).toArray 3 (0,0))∧Keep (fun b=>b=b2∨b=g) w W
theorem ln_row(ws:List (List UInt8))(n k:Nat)(hk:k<ws.length)(hn:ws.length=n):((((ws.take k).map atoiV++List.replicate (n-k) 0).map (Value.int .i64)).toArray).setIfInBounds k (.int .i64 (atoiV ws[k]))=(((ws.take (k+1)).map atoiV++List.replicate (n-(k+1)) 0).map (Value.int .i64)).toArray:=by
 rw[List.setIfInBounds_toArray];congr 1;have hl:((ws.take k).map atoiV).length=k:=by simp;omega
 obtain⟨m,hm⟩: ∃m,n-k=m+1:=⟨n-k-1,by omega⟩;have hm2:n-(k+1)=m:=by omega
 rw[hm,hm2,List.replicate_succ,List.take_add_one,List.getElem?_eq_getElem hk];simp only[List.map_append,List.map_cons,Option.toList_some,List.map_nil,List.append_assoc,List.cons_append,List.nil_append];rw[List.set_append_right _ _ (by simp;omega)];simp only[List.length_map,List.length_take];rw[show k-min k ws.length=0 by omega];rfl
end Go.Proofs.YtcmmclliabhnjaaGreatDoor
