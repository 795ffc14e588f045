/-
  Layer 6: Hear, New.
-/
import Derived.Test.YtladegonienapaaGreatDoorRClkDec1
import Derived.IntWalk
import Derived.RegionTactic
import Derived.Laws.RangeAny
set_option maxRecDepth 100000
set_option maxHeartbeats 16000000
namespace Go.Proofs.YtladegonienapaaGreatDoor
open Go.RowKit Go.Maps Go.Sort
theorem Af{m:Row (Int×Int)}{k:List UInt8}{v:Value}(h:aA (bJ m) k=some v): ∃s,aA m k=some s∧v=sW s:=by unfold bJ at h;rw[sP]at h;cases hg:aA m k with|none=>rw[hg]at h;cases h|some s=>rw[hg]at h;exact⟨s,rfl,by simpa using h.symm⟩
def jZ(c:bq)(todo:List UInt8→Bool):Option Int→Prop|none=> ∀p∈c.src,todo p.1=false→oJ c.idle c.now p.2=false|some m=>(∃p∈c.src,todo p.1=false∧oJ c.idle c.now p.2=true∧m=p.2.1-c.ag-1)∧ ∀p∈c.src,todo p.1=false→oJ c.idle c.now p.2=true→m≤p.2.1-c.ag-1
theorem jZ.done{c:bq}{todo:List UInt8→Bool}{o:Option Int}(h:jZ c todo o)(ht: ∀k,todo k=false):c.told=o:=by cases o with|none=>exact told_none.2 fun p hp=>h p hp (ht _)|some m=>obtain⟨⟨p,hp,_,h2,h3⟩,h4⟩:=h;exact uQ.2 ⟨⟨p,hp,h2,h3⟩,fun q hq=>h4 q hq (ht _)⟩
theorem jZ.skip{c:bq}{todo:List UInt8→Bool}{o:Option Int}(hr:bM c.src)(h:jZ c todo o){k:List UInt8}{s:Int×Int}(hk:(k,s)∈c.src)(ha:oJ c.idle c.now s=false):jZ c (fun x=>todo x&&!(x==k)) o:=by
 have key: ∀p∈c.src,(todo p.1&&!(p.1==k))=false→todo p.1=false∨p=(k,s):=fun p hp hf=>by
  by_cases e:p.1=k;·exact .inr (hr.key hp hk e)
  ·left;simpa[e]using hf
 cases o with
  |none=>
   intro p hp hf;rcases key p hp hf with h'|rfl;·exact h p hp h'
   ·exact ha
  |some m=>
   obtain⟨⟨p,hp,h1,h2,h3⟩,h4⟩:=h;refine⟨⟨p,hp,by simp[h1],h2,h3⟩,fun q hq hf hq2=>?_⟩;rcases key q hq hf with h'|rfl;·exact h4 q hq h' hq2
   ·rw[ha]at hq2;cases hq2
theorem jZ.take{c:bq}{todo:List UInt8→Bool}{o:Option Int}(hr:bM c.src)(h:jZ c todo o){k:List UInt8}{s:Int×Int}(hk:(k,s)∈c.src)(ha:oJ c.idle c.now s=true){m:Int}(hm:(o=none∧m=s.1-c.ag-1)∨(∃q,o=some q∧m=if s.1-c.ag-1<q then s.1-c.ag-1 else q)):jZ c (fun x=>todo x&&!(x==k)) (some m):=by
 have key: ∀p∈c.src,(todo p.1&&!(p.1==k))=false→todo p.1=false∨p=(k,s):=fun p hp hf=>by
  by_cases e:p.1=k;·exact .inr (hr.key hp hk e)
  ·left;simpa[e]using hf
 rcases hm with⟨rfl,rfl⟩|⟨q,rfl,rfl⟩
 ·refine⟨⟨(k,s),hk,by simp,ha,rfl⟩,fun p hp hf hp2=>?_⟩;rcases key p hp hf with h'|rfl;·rw[h p hp h']at hp2;cases hp2
  ·exact Int.le_refl _
 ·obtain⟨⟨p,hp,h1,h2,h3⟩,h4⟩:=h;split
  ·rename_i hlt;refine⟨⟨(k,s),hk,by simp,ha,rfl⟩,fun p hp hf hp2=>?_⟩;rcases key p hp hf with h'|rfl;·have:=h4 p hp h' hp2;omega
   ·exact Int.le_refl _
  ·rename_i hlt;refine⟨⟨p,hp,by simp[h1],h2,h3⟩,fun x hx hf hx2=>?_⟩;rcases key x hx hf with h'|rfl;·exact h4 x hx h' hx2
   ·show q≤s.1-c.ag-1;omega
def Hy(c:bq)(w:World)(e:Ending)(w':World):Prop:=e=.returned (.tuple #[.int .i64 (c.told.getD 0),.bool c.told.isSome])∧Below w.heap.size w w'
def J9(w:World)(bm r:Nat)(c:bq)(l a:Value)(wr:World):Prop:= ∃todo cnt,lF wr bm r (bJ c.src) todo cnt∧Below w.heap.size w wr∧ ∃o:Option Int,l=.int .i64 (o.getD 0)∧a=.bool o.isSome∧jZ c todo o
theorem xY(w:World)(bc bm:Nat)(c:bq)(hc:ay w bc bm c):Calls Tryz.prog 133 #[.pointer (some ⟨bc,0,none⟩)] w (Hy c w):=by
 have HC:=qH hc;obtain⟨c0,c1,c2,c3,c4,f2,f3⟩:=hc.cells;have HM:=qH hc.map;have hlt:=hc.lt;have Rj:=hc.map.lt;clear hc;go_enter Tryz.func133,Tryz.ntmps133;go_wp2_with(at_range;refine kE _ rfl _ 154 159 rfl Tryz.underlying154 bm (bJ c.src) rfl HM.o ?_;intro w0 hrg0 hg0 hs0);go_frame;clear c0 c1 c2 c3 c4 f2 f3;have hb0:Below w.heap.size w w0:=⟨hg0.os,hg0.tape,hg0.output,hg0.size,fun k hk=>hg0.block k hk (by simp)⟩;clear hg0;go_loopw[4,5](fun l a wr=>J9 w bm w.heap.size c l a wr)(fun _ _ wr=>wr.rangeLeft bm w.heap.size);case atStart=>refine⟨_,_,hrg0,hb0,none,rfl,rfl,fun p hp hf=>?_⟩;simp only[bJ]at hf;rw[sP,dY HC.o.ok.rising hp]at hf;cases hf
 case round=>
  obtain⟨todo,cnt,hrg,hbel,o,rfl,rfl,hst⟩:=hrel;have HST:=qH hst;have mD:=qH hrg;have hsz0:=hbel.size;clear hst hrg hrg0;go_wp2_with(at_next;refine mi _ rfl _ rfl bm w.heap.size (bJ c.src) todo cnt rfl mD.o ?_ ?_);·intro hdone;have HT:=qH (HST.o.done hdone);clear hdone;go_wp2;go_ret2;exact⟨by rw[HT.o];rfl,hbel⟩
  ·intro k v w1 cnt1 htk hget hkl hrg1 hlt1 hgr hsz1 hen;obtain⟨⟨a,h⟩,hs,rfl⟩:=Af hget;have hmem:=ah hs;have hso:=HC.o.ok.src _ hmem;have hco:=HC.o.ok.ag;have hcn:=HC.o.ok.now;simp only at hso;have hb1:Below w.heap.size w w1:=hbel.grown hgr hsz0 (fun k hk=>by injection hk with hk;omega);have tY:=qH hlt1;have HR1:=qH hrg1;have QQ:=qH hmem;have HB1:=qH hb1;have Sq:=qH hsz1;clear htk hget hs hmem hgr hlt1 hrg1 hbel hsz1;unfold sW at*;simp only at*;go_wp2_with fail;have bQ:Below w.heap.size w (w1.alloc (.cells #[.int .i64 a,.int .i64 h] 159)):=HB1.o.alloc (by have:=HB1.o.size;omega) _;have hcA:ay (w1.alloc (.cells #[.int .i64 a,.int .i64 h] 159)) bc bm c:=HC.o.up bQ;refine(BK _ bc bm c hcA a h (by omega)).mono ?_;rintro e w2⟨rfl,hb2⟩;have hbw2:Below w.heap.size w w2:=bQ.trans (hb2.mono bQ.size);have hs2:=hb2.size;simp at hs2;have HR2:=qH (HR1.o.up (w':=w2) (((Below.refl _ _).alloc (Nat.le_refl _) _).trans (hb2.mono (by simp))));have PY:=qS (w2.rangeLeft bm w.heap.size<wr.rangeLeft bm w.heap.size) (by rw[HR2.o.left_eq,mD.o.left_eq];exact tY.o);obtain⟨c0,c1,c2,c3,c4,f2,f3⟩:=(hcA.up hb2).cells;have g0:w2.cell? ⟨w1.heap.size,0,none⟩=some (.int .i64 a):=(hb2.cell (p:=⟨w1.heap.size,0,none⟩) (by simp)).trans (cell_of_row _ w1.heap.size 0 _ _ (0,0) (heap_alloc_new w1 _));have g1:w2.cell? ⟨w1.heap.size,1,none⟩=some (.int .i64 h):=(hb2.cell (p:=⟨w1.heap.size,1,none⟩) (by simp)).trans (cell_of_row _ w1.heap.size 1 _ _ (0,0) (heap_alloc_new w1 _));clear hb2 hcA bQ hen;cases hact:oJ c.idle c.now (a,h)
   ·have HT:=qH (HST.o.skip HC.o.ok.rising QQ.o hact);clear hact;go_wp2;go_roundw;case rel=>exact⟨_,_,HR2.o,hbw2,o,rfl,rfl,HT.o⟩
    case measure=>exact PY.o
   ·have HT:=qH (fun m hm=>HST.o.take HC.o.ok.rising QQ.o hact (m:=m) hm);clear hact;have e1:IntKind.i64.wrap (a-c.ag)=a-c.ag:=IntWalk.i64_in _ (by omega);have e2:IntKind.i64.wrap (a-c.ag-1)=a-c.ag-1:=IntWalk.i64_in _ (by omega);go_wp2;go_quiet(fail);clear e1 e2;have HR3:=qS (lF (w2.drewN nq) bm w.heap.size (bJ c.src) _ cnt1) (HR2.o);have hbw3:Below w.heap.size w (w2.drewN nq):=below_drewN hbw2 nq;have Na:=qS ((w2.drewN nq).rangeLeft bm w.heap.size<wr.rangeLeft bm w.heap.size) (PY.o);cases o with
     |none=>
      have HT0:=qH (HT.o _ (.inl ⟨rfl,rfl⟩));simp only[Option.getD_none,Option.isSome_none];go_wp2;go_roundw;case rel=>exact⟨_,_,HR3.o,hbw3,some (a-c.ag-1),rfl,rfl,HT0.o⟩
      case measure=>exact Na.o
     |some m=>
      simp only[Option.getD_some,Option.isSome_some];by_cases hlt2:a-c.ag-1<m
      ·have HT0:=qH (HT.o _ (.inr ⟨m,rfl,(if_pos hlt2).symm⟩));go_wp2;go_roundw;case rel=>exact⟨_,_,HR3.o,hbw3,some (a-c.ag-1),rfl,rfl,HT0.o⟩
       case measure=>exact Na.o
      ·have HT0:=qH (HT.o _ (.inr ⟨m,rfl,(if_neg hlt2).symm⟩));go_wp2;go_roundw;case rel=>exact⟨_,_,HR3.o,hbw3,some m,rfl,rfl,HT0.o⟩
       case measure=>exact Na.o
theorem ay.Ji{w:World}{bc bm:Nat}{c:bq}(h:ay w bc bm c)(m:Int)(hm: -1≤m∧m≤1099511627776):ay (w.setCell ⟨bc,3,none⟩ (.int .i64 m)) bc bm {c with mark:=m}:=⟨af h.blk,h.map.block (Below.heap_setCell _ _ _ _ (Ne.symm h.ne)),⟨h.ok.ag,h.ok.idle,h.ok.now,hm,h.ok.rising,h.ok.src⟩⟩
theorem ay.LW{w:World}{bc bm:Nat}{c:bq}(h:ay w bc bm c)(n:Int)(hn:c.now≤n∧n≤1099511627776):ay (w.setCell ⟨bc,2,none⟩ (.int .i64 n)) bc bm {c with now:=n}:=⟨af h.blk,h.map.block (Below.heap_setCell _ _ _ _ (Ne.symm h.ne)),⟨h.ok.ag,h.ok.idle,by have:=h.ok.now;exact⟨by show 0≤n;omega,hn.2⟩,h.ok.mark,h.ok.rising,fun p hp=>by have:=h.ok.src p hp;exact⟨this.1,this.2.1,this.2.2.1,this.2.2.2.1,by show p.2.2≤n;omega⟩⟩⟩
def Ih(w:World)(bc bm:Nat)(c:bq)(e:Ending)(w':World):Prop:=e=.returned (.tuple #[])∧ay w' bc bm c∧ai (·=bc) w w'
theorem yo(w:World)(bc bm:Nat)(c:bq)(hc:ay w bc bm c):Calls Tryz.prog 95 #[.pointer (some ⟨bc,0,none⟩)] w (Ih w bc bm c.rise):=by have HC:=qH hc;clear hc;go_enter Tryz.func95,Tryz.ntmps95;go_wp2_with fail;refine(xY w bc bm c HC.o).mono ?_;rintro e w1⟨rfl,hb1⟩;have oO:=qH (HC.o.up hb1);obtain⟨c0,c1,c2,c3,c4,f2,f3⟩:=oO.o.cells;cases ht:c.told with|none=>have HT:=qS (c.rise=c) (by unfold bq.rise;rw[ht]);have HK:=qS (ai (·=bc) w w1) (ai.of_below hb1);clear ht hb1;simp only[Option.getD_none,Option.isSome_none];go_wp2;go_end0;exact⟨rfl,by rw[HT.o];exact oO.o,HK.o⟩|some m=>have HT:=qS (c.rise={c with mark:=max c.mark m}) (by unfold bq.rise;rw[ht]);have hmb:=HC.o.ok.told ht;have hmk:=HC.o.ok.mark;have HK:=qS (ai (·=bc) w w1) (ai.of_below hb1);clear ht hb1;simp only[Option.getD_some,Option.isSome_some];go_wp2;go_end0;exact⟨rfl,by rw[HT.o];exact oO.o.Ji _ (by omega),HK.o.setCell (fun _=>rfl) _⟩
def Hz(w:World)(bc bm:Nat)(c:bq)(e:Ending)(w':World):Prop:=e=.returned (.int .i64 c.mark)∧ay w' bc bm c∧ai (·=bc) w w'
theorem BG(w:World)(n:Int):Calls Tryz.prog 102 #[.int .i64 n] w fun e w'=>e=.returned (.int .i64 (ed n))∧w'=w:=(pR w n).mono fun _ _ h=>⟨h.1,h.2.symm⟩
theorem xZ(w:World)(bc bm:Nat)(c:bq)(hc:ay w bc bm c)(now:Int):Calls Tryz.prog 54 #[.pointer (some ⟨bc,0,none⟩),.int .i64 now] w (Hz w bc bm (c.tick now)):=by
 have HC:=qH hc;obtain⟨c0,c1,c2,c3,c4,f2,f3⟩:=hc.cells;have hbl:=pU now;have Ry:=pV now;have hn:=hc.ok.now;clear hc;go_enter Tryz.func54,Tryz.ntmps54;go_wp2;go_still_tail 10,(by kernel_rfl);still_call(BG _ _);repeat still_step
 refine wpStill_nil ?_;change wpList _ _ _ _ _ (w.drewN 1);have oO:=qS (ay (w.drewN 1) bc bm c) (HC.o.keep rfl rfl);have HT:=qS (c.tick now=({c with now:=max c.now (ed now)}:bq).rise) (rfl);have HK:=qS (ai (·=bc) w (w.drewN 1)) ((ai.refl _ _).drewN 1);have d2:(w.drewN 1).cell? ⟨bc,2,none⟩=some (.int .i64 c.now):=c2;have d3:(w.drewN 1).frozen? ⟨bc,2,none⟩=false:=f2;generalize ed now=nb at*;generalize w.drewN 1=w1 at*;clear c0 c1 c2 c3 c4 f2 f3;go_wp2_with fail;have hc2:=oO.o.LW (max c.now nb) (by omega);refine(yo _ bc bm _ hc2).mono ?_;rintro e w2⟨rfl,hcr,hk2⟩;rw[←HT.o]at hcr;obtain⟨e0,e1,e2,e3,e4,g2,g3⟩:=hcr.cells;have NW:=qH hcr;have Dj:=qH ((HK.o.setCell (p:=⟨bc,2,none⟩) (fun _=>rfl) (.int .i64 (max c.now nb))).trans hk2 (fun _ _ h=>h));clear hcr hk2 hc2 d2 d3;go_wp2;go_ret;exact⟨rfl,NW.o,Dj.o⟩
theorem yO(w:World)(bc bm:Nat)(c:bq)(hc:ay w bc bm c):Calls Tryz.prog 49 #[.pointer (some ⟨bc,0,none⟩)] w fun e w'=>e=.returned (.int .i64 c.mark)∧w=w':=by obtain⟨c0,c1,c2,c3,c4,f2,f3⟩:=hc.cells;clear hc;go_enter Tryz.func49,Tryz.ntmps49;go_wp2;go_ret;exact⟨rfl,rfl⟩
def jo(r:Nat):Bool:=!((decide (97≤r)&&decide (r≤122))||(decide (48≤r)&&decide (r≤57))||decide (r=45))
theorem Ea(w:World)(r:Nat):Calls Tryz.prog 146 #[.int .i32 r] w fun e w'=>e=.returned (.bool (jo r))∧ ∃q,w'=w.drewN q:=by
 have key: ∀a b:Bool,jo r=a→Calls Tryz.prog 146 #[.int .i32 r] w (fun e w'=>e=.returned (.bool a)∧w=w')→Calls Tryz.prog 146 #[.int .i32 r] w fun e w'=>e=.returned (.bool (jo r))∧ ∃q,w'=w.drewN q:=fun a _ h hc=>by rw[h];exact hc.mono fun _ _ h=>⟨h.1,0,h.2.symm⟩
 by_cases h1:97≤r
 ·have d1:decide (97≤(r:Int))=true:=decide_eq_true (by omega);by_cases h2:r≤122;·have d2:decide ((r:Int)≤122)=true:=decide_eq_true (by omega);refine key false false (by unfold jo;simp[h1,h2]) ?_;go_enter Tryz.func146,Tryz.ntmps146;go_wp2;go_ret;exact⟨rfl,rfl⟩
  ·have d2:decide ((r:Int)≤122)=false:=decide_eq_false (by omega);have d3:decide (48≤(r:Int))=true:=decide_eq_true (by omega);have d4:decide ((r:Int)≤57)=false:=decide_eq_false (by omega);have d5:((r:Int)==45)=false:=by simp;omega
   refine key true false (by unfold jo;simp;omega) ?_;go_enter Tryz.func146,Tryz.ntmps146;go_wp2;go_ret;exact⟨rfl,rfl⟩
 ·have d1:decide (97≤(r:Int))=false:=decide_eq_false (by omega);by_cases h3:48≤r
  ·have d3:decide (48≤(r:Int))=true:=decide_eq_true (by omega);by_cases h4:r≤57;·have d4:decide ((r:Int)≤57)=true:=decide_eq_true (by omega);refine key false false (by unfold jo;simp;omega) ?_;go_enter Tryz.func146,Tryz.ntmps146;go_wp2;go_ret;exact⟨rfl,rfl⟩
   ·have d4:decide ((r:Int)≤57)=false:=decide_eq_false (by omega);have d5:((r:Int)==45)=false:=by simp;omega
    refine key true false (by unfold jo;simp;omega) ?_;go_enter Tryz.func146,Tryz.ntmps146;go_wp2;go_ret;exact⟨rfl,rfl⟩
  ·have d3:decide (48≤(r:Int))=false:=decide_eq_false (by omega);by_cases h5:r=45
   ·have d5:((r:Int)==45)=true:=by simp;omega
    refine key false false (by unfold jo;simp;omega) ?_;clear h5;go_enter Tryz.func146,Tryz.ntmps146;go_wp2;go_ret;exact⟨rfl,rfl⟩
   ·have d5:((r:Int)==45)=false:=by simp;omega
    refine key true false (by unfold jo;simp;omega) ?_;go_enter Tryz.func146,Tryz.ntmps146;go_wp2;go_ret;exact⟨rfl,rfl⟩
theorem zh(s:ByteArray): ∀(f pos:Nat),s.size≤pos+f→(Lib.idxFuncFrom jo true s f pos= -1↔ ∀j(h:j<s.size),pos≤j→eU s[j]=true)
 |0,pos,h=>by simp only[Lib.idxFuncFrom,true_iff];intro j hj hp;omega
 |f+1,pos,h=>by
  unfold Lib.idxFuncFrom;by_cases hlt:pos<s.size
  ·rw[if_pos hlt];by_cases ha:s[pos].toNat<128
   ·have hd:=decode_ascii s pos hlt ha;rw[hd];simp only;have hodd:jo s[pos].toNat=!eU s[pos]:=by unfold jo eU;rfl
    rw[hodd];cases hc:eU s[pos]
    ·simp only[Bool.not_false,if_true];constructor;·intro h';omega
     ·intro h';have:=h' pos hlt (Nat.le_refl _);rw[hc]at this;cases this
    ·simp only[Bool.not_true,Bool.false_eq_true,if_false];rw[zh s f (pos+1) (by omega)];constructor
     ·intro h' j hj hp;by_cases e:j=pos;·subst e;exact hc
      ·exact h' j hj (by omega)
     ·intro h' j hj hp;exact h' j hj (by omega)
   ·have hd:=(decode_high s pos hlt (by omega)).1;have hodd:jo (Utf8.decode s pos).1=true:=by unfold jo;simp;omega
    rw[if_pos hodd];constructor;·intro h';omega
    ·intro h';have:=h' pos hlt (Nat.le_refl _);unfold eU at this;simp at this;omega
  ·rw[if_neg hlt];simp only[true_iff];intro j hj hp;omega
theorem Ep(l:List UInt8)(h1:1≤l.length)(h2:l.length≤24):decide (Lib.idxFunc jo true ⟨l.toArray⟩<0)=ae l:=by
 have key:=zh ⟨l.toArray⟩ (ByteArray.size ⟨l.toArray⟩) 0 (by omega);have hr:=Lib.idxFunc_range jo true ⟨l.toArray⟩;have hs:(⟨l.toArray⟩:ByteArray).size=l.length:=by simp[ByteArray.size]
 by_cases hn:ae l=true
 ·rw[hn];refine decide_eq_true ?_;have:Lib.idxFunc jo true ⟨l.toArray⟩= -1:=key.2 fun j hj _=>by unfold ae at hn;simp only[Bool.and_eq_true,List.all_eq_true]at hn;exact hn.2 l[j] (List.getElem_mem (by omega))
  omega
 ·rw[Bool.not_eq_true]at hn;rw[hn];refine decide_eq_false fun hlt=>?_;have h':Lib.idxFunc jo true ⟨l.toArray⟩= -1:=by omega
  have:=key.1 h';rw[mV h1 h2 (fun j hj=>this j (by omega) (Nat.zero_le _))]at hn;cases hn
theorem jH(w:World)(l:List UInt8):Calls Tryz.prog 94 #[.string ⟨l.toArray⟩] w (Says (ae l) w):=by
 by_cases h0:l.length<1;·have HN:=qH (dX (.inl h0));go_enter Tryz.func94,Tryz.ntmps94;go_wp2;go_ret;exact⟨aa HN.o.symm,Below.refl _ _⟩
 by_cases h24:24<l.length;·have HN:=qH (dX (.inr h24));go_enter Tryz.func94,Tryz.ntmps94;go_wp2;go_ret;exact⟨aa HN.o.symm,Below.refl _ _⟩
 have d0:decide ((l.length:Int)<1)=false:=decide_eq_false (by omega);have d1:decide (24<(l.length:Int))=false:=decide_eq_false (by omega);have HN:=qH (Ep l (by omega) (by omega));have hr:=Lib.idxFunc_range jo true ⟨l.toArray⟩;go_enter Tryz.func94,Tryz.ntmps94;go_wp2_with fail;refine(Tryz.strings_IndexFunc 146 #[] (fun _ _=>by kernel_rfl) jo ⟨l.toArray⟩ w (fun W x _=>Ea W x)).mono ?_;rintro e w1⟨rfl,hb⟩;generalize Lib.idxFunc jo true ⟨l.toArray⟩=i at*;clear hr;go_wp2;go_ret;exact⟨aa HN.o,hb⟩
def Io(w:World)(bc bm:Nat)(c:bq)(ok:Bool)(e:Ending)(w':World):Prop:=e=.returned (.bool ok)∧ay w' bc bm c∧ai (fun b=>b=bc∨b=bm) w w'
theorem Jb(w:World):(zeroValue 159).run Tryz.prog w=.ok (.agg #[.int .i64 0,.int .i64 0]) w:=by kernel_rfl
theorem yT{w:World}{bc bm:Nat}{c:bq}(h:ay w bc bm c)(l:List UInt8)(hl:l.length≤24):(Instr.lookup 154 (.map (some bm)) (.string ⟨l.toArray⟩) false).run Tryz.prog w=.ok (.agg #[.int .i64 ((aA c.src l).getD (0,0)).1,.int .i64 ((aA c.src l).getD (0,0)).2]) w:=by rw[h.map.look l (by unfold maxLen;omega) _ _ Tryz.underlying154 _ (Jb w)];unfold bJ;rw[sP];cases aA c.src l<;>rfl
theorem Gw(w:World)(bc bm:Nat)(c:bq)(hc:ay w bc bm c)(l:List UInt8)(at_ now:Int)(hsz:c.src.length<1000000):Calls Tryz.prog 51 #[.pointer (some ⟨bc,0,none⟩),.string ⟨l.toArray⟩,.int .i64 at_,.int .i64 now] w (Io w bc bm (c.hear l at_ now) ((c.tick now).hears l at_)):=by
 have HC:=qH hc;clear hc;go_enter Tryz.func51,Tryz.ntmps51;go_wp2_with fail;refine(xZ w bc bm c HC.o now).mono ?_;rintro e w1⟨rfl,hc1,hk1⟩;have HE:=qS (c.hear l at_ now=if(c.tick now).hears l at_ then(c.tick now).heard l at_ else c.tick now) (rfl);have hsz1:(c.tick now).src.length<1000000:=by unfold bq.tick;rw[FQ];exact hsz
 generalize c.hear l at_ now=R at*;generalize c.tick now=d at*;have oO:=qH hc1;have EX:=qH hk1;clear hc1 hk1;go_wp2_with fail;refine(jH w1 l).mono ?_;rintro e w2⟨rfl,hb2⟩;have mf:=qH (oO.o.up hb2);have Dj:=qS (ai (fun b=>b=bc∨b=bm) w w2) ((EX.o.mono (F:=fun b=>b=bc∨b=bm) (fun _ _ h=>.inl h)).trans (ai.of_below (F:=fun _=>False) hb2) (fun _ _ h=>h.elim));obtain⟨c0,c1,c2,c3,c4,f2,f3⟩:=mf.o.cells;have HS:=qS (d.hears l at_=(ae l&&decide (0≤at_)&&decide (at_≤1099511627776)&&decide (d.mark<at_))) (rfl);clear hb2;cases hnm:ae l;·have HF:=qS (d.hears l at_=false) (by rw[HS.o,hnm];rfl);have HR:=qS (R=d) (by rw[HE.o,HF.o];rfl);clear hnm;go_wp2;go_ret;exact⟨aa HF.o.symm,by rw[HR.o];exact mf.o,Dj.o⟩
 by_cases h1:at_<0;·have HF:=qS (d.hears l at_=false) (by rw[HS.o,decide_eq_false (show¬0≤at_ by omega)];simp);have HR:=qS (R=d) (by rw[HE.o,HF.o];rfl);clear hnm;go_wp2;go_ret;exact⟨aa HF.o.symm,by rw[HR.o];exact mf.o,Dj.o⟩
 by_cases h2:1099511627776<at_;·have HF:=qS (d.hears l at_=false) (by rw[HS.o,decide_eq_false (show¬at_≤1099511627776 by omega)];simp);have HR:=qS (R=d) (by rw[HE.o,HF.o];rfl);clear hnm;go_wp2;go_ret;exact⟨aa HF.o.symm,by rw[HR.o];exact mf.o,Dj.o⟩
 by_cases h3:at_≤d.mark;·have HF:=qS (d.hears l at_=false) (by rw[HS.o,decide_eq_false (show¬d.mark<at_ by omega)];simp);have HR:=qS (R=d) (by rw[HE.o,HF.o];rfl);clear hnm;go_wp2;go_ret;exact⟨aa HF.o.symm,by rw[HR.o];exact mf.o,Dj.o⟩
 have HT:=qS (d.hears l at_=true) (by rw[HS.o,hnm,decide_eq_true (show 0≤at_ by omega),decide_eq_true (show at_≤1099511627776 by omega),decide_eq_true (show d.mark<at_ by omega)];rfl);have HR:=qS (R=d.heard l at_) (by rw[HE.o,HT.o];rfl);have hl24:l.length≤24:=by unfold ae at hnm;simp at hnm;omega
 have hlk:=yT mf.o l hl24;have hblt:=mf.o.lt;have hdn:=mf.o.ok.now;have hga:0≤((aA d.src l).getD (0,0)).1∧((aA d.src l).getD (0,0)).1≤1099511627776:=by cases hg:aA d.src l with|none=>simp|some q=>have:=mf.o.ok.src _ (ah hg);simp only at this;simp only[Option.getD_some];omega
 have HH:=qS (d.heard l at_=({d with src:=aR l (max ((aA d.src l).getD (0,0)).1 at_,d.now) d.src}:bq).rise) (rfl);have uJ:=qH (mf.o.ok.said HT.o);generalize(aA d.src l).getD (0,0)=q at*;obtain⟨qa,qh⟩:=q;simp only at hlk hga HH uJ;clear hnm HE HS;go_wp2;go_region;go_wp2;have bQ:Below w2.heap.size w2 (w2.alloc (Obj.cells #[Value.int IntKind.i64 (max qa at_),Value.int IntKind.i64 d.now] 159)).drew:=((Below.refl _ _).alloc (Nat.le_refl _) _).drew;have zY:(w2.alloc (Obj.cells #[Value.int IntKind.i64 (max qa at_),Value.int IntKind.i64 d.now] 159)).drew.cell? ⟨w2.heap.size,0,none⟩=some (.int .i64 (max qa at_)):=(cell_of_row _ w2.heap.size 0 _ _ (0,0) (heap_alloc_new w2 _));have hA1:(w2.alloc (Obj.cells #[Value.int IntKind.i64 (max qa at_),Value.int IntKind.i64 d.now] 159)).drew.cell? ⟨w2.heap.size,1,none⟩=some (.int .i64 d.now):=(cell_of_row _ w2.heap.size 1 _ _ (0,0) (heap_alloc_new w2 _));have xW:=qH (mf.o.up bQ);have Lu:=qH (Dj.o.trans (ai.of_below (F:=fun _=>False) bQ) (fun _ _ h=>h.elim));generalize(w2.alloc (Obj.cells #[Value.int IntKind.i64 (max qa at_),Value.int IntKind.i64 d.now] 159)).drew=w3 at*;clear c0 c1 c2 c3 c4 f2 f3 hlk bQ;obtain⟨c0,c1,c2,c3,c4,f2,f3⟩:=xW.o.cells;generalize T9:max qa at_=qx at*;have Yo:=qH T9;clear T9;go_still_tail 6,(by kernel_rfl);change wpList _ _ _ _ _ (w3.drewN 1);have hM:=xW.o.map;have HM:=qS (bW (w3.drewN 1) bm (bJ d.src)) (hM);clear hM;refine aH rfl (.tmp 51) (.tmp 52) (.tmp 53) 154 159 rfl Tryz.underlying154 bm (bJ d.src) rfl HM.o (by unfold maxLen bJ;simp;omega) l rfl (by unfold maxLen;omega) _ rfl ?_;intro w4 hm4 hg4;have E5:=qS (ay w4 bc bm {d with src:=aR l (qx,d.now) d.src}) (by have hrow:aR l (Value.agg #[Value.int IntKind.i64 qx,Value.int IntKind.i64 d.now]) (bJ d.src)=bJ (aR l (qx,d.now) d.src):=(yC sW l (qx,d.now) d.src).symm;refine⟨(hg4.block bc xW.o.lt (fun h=>xW.o.ne (by injection h))).trans xW.o.blk,?_,uJ.o⟩;rw[←hrow];exact hm4);have IG:=qH ((Lu.o.drewN 1).trans (ai.dW (F:=fun b=>b=bc∨b=bm) hg4 (fun k hk=>by injection hk with hk;exact .inr hk.symm)) (fun _ _ h=>h));clear hm4 hg4 c0 c1 c2 c3 c4 f2 f3 zY hA1 hblt;go_wp2_with fail;refine(yo w4 bc bm _ E5.o).mono ?_;rintro e w5⟨rfl,hc5,hk5⟩;have KH:=qS (ay w5 bc bm R) (by rw[HR.o,HH.o];exact hc5);have Lt:=qH (IG.o.trans hk5 (fun _ _ h=>.inl h));clear hc5 hk5;go_wp2;go_ret;exact⟨aa HT.o.symm,KH.o,Lt.o⟩
def Ci(w:World)(c:bq)(e:Ending)(w':World):Prop:= ∃bc bm,e=.returned (.pointer (some ⟨bc,0,none⟩))∧ay w' bc bm c∧w.heap.size≤bc∧w.heap.size≤bm∧Below w.heap.size w w'
theorem BD(w:World)(ag idle:Int):Calls Tryz.prog 77 #[.int .i64 ag,.int .i64 idle] w (Ci w (bq.new ag idle)):=by
 have HN:=qS (bq.new ag idle=⟨ed ag,ed idle,0,-1,[]⟩) (rfl);have hmm:= @run_makeMap Tryz.prog;go_enter Tryz.func77,Tryz.ntmps77;go_wp2_with fail;refine(pR w ag).mono ?_;rintro e w1⟨rfl,rfl⟩;go_wp2_with fail;refine(pR w idle).mono ?_;rintro e w1⟨rfl,rfl⟩;go_wp2;go_ret;refine⟨w.heap.size+1,w.heap.size,rfl,⟨?_,?_,fP.new ag idle⟩,by omega,Nat.le_refl _,((Below.refl _ _).alloc (Nat.le_refl _) _).alloc (by simp) _⟩;·rw[HN.o];have:=heap_alloc_new (w.alloc (.map #[] 0)) (xc ⟨ed ag,ed idle,0,-1,[]⟩ w.heap.size);simpa using this
 ·rw[HN.o];exact(bW.made w).block (Below.heap_alloc _ _ _ (by simp))
end Go.Proofs.YtladegonienapaaGreatDoor
