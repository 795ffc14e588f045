/-
  Layer 6: Hear, New.
-/
import Derived.Test.YtbejfgmdkmddnaaGreatDoorVClkLn2
import Derived.IntWalk
import Derived.RegionTactic
import Derived.Laws.RangeAny
set_option maxRecDepth 100000
set_option maxHeartbeats 16000000
namespace Go.Proofs.YtbejfgmdkmddnaaGreatDoor
open Go.RowKit Go.Maps Go.Sort
theorem GY{m:Row (Int×Int)}{k:List UInt8}{v:Value}(h:bO (dU m) k=some v): ∃s,bO m k=some s∧v=za s:=by unfold dU at h;rw[tQ]at h;cases hg:bO m k with|none=>rw[hg]at h;cases h|some s=>rw[hg]at h;exact⟨s,rfl,by simpa using h.symm⟩
def nY(c:aZ)(todo:List UInt8→Bool):Option Int→Prop|none=> ∀p∈c.src,todo p.1=false→lU c.idle c.now p.2=false|some m=>(∃p∈c.src,todo p.1=false∧lU c.idle c.now p.2=true∧m=p.2.1-c.aa-1)∧ ∀p∈c.src,todo p.1=false→lU c.idle c.now p.2=true→m≤p.2.1-c.aa-1
theorem nY.done{c:aZ}{todo:List UInt8→Bool}{o:Option Int}(h:nY c todo o)(ht: ∀k,todo k=false):c.told=o:=by cases o with|none=>exact told_none.2 fun p hp=>h p hp (ht _)|some m=>obtain⟨⟨p,hp,_,h2,h3⟩,h4⟩:=h;exact Au.2 ⟨⟨p,hp,h2,h3⟩,fun q hq=>h4 q hq (ht _)⟩
theorem nY.skip{c:aZ}{todo:List UInt8→Bool}{o:Option Int}(hr:fT c.src)(h:nY c todo o){k:List UInt8}{s:Int×Int}(hk:(k,s)∈c.src)(ha:lU c.idle c.now s=false):nY c (fun x=>todo x&&!(x==k)) o:=by
 have key: ∀p∈c.src,(todo p.1&&!(p.1==k))=false→todo p.1=false∨p=(k,s):=fun p hp hf=>by
  by_cases e:p.1=k;·exact .inr (hr.key hp hk e)
  ·left;simpa[e]using hf
 cases o with
  |none=>
   intro p hp hf;rcases key p hp hf with h'|rfl;·exact h p hp h'
   ·exact ha
  |some m=>
   obtain⟨⟨p,hp,h1,h2,h3⟩,h4⟩:=h;refine⟨⟨p,hp,by simp[h1],h2,h3⟩,fun q hq hf hq2=>?_⟩;rcases key q hq hf with h'|rfl;·exact h4 q hq h' hq2
   ·rw[ha]at hq2;cases hq2
theorem nY.take{c:aZ}{todo:List UInt8→Bool}{o:Option Int}(hr:fT c.src)(h:nY c todo o){k:List UInt8}{s:Int×Int}(hk:(k,s)∈c.src)(ha:lU c.idle c.now s=true){m:Int}(hm:(o=none∧m=s.1-c.aa-1)∨(∃q,o=some q∧m=if s.1-c.aa-1<q then s.1-c.aa-1 else q)):nY c (fun x=>todo x&&!(x==k)) (some m):=by
 have key: ∀p∈c.src,(todo p.1&&!(p.1==k))=false→todo p.1=false∨p=(k,s):=fun p hp hf=>by
  by_cases e:p.1=k;·exact .inr (hr.key hp hk e)
  ·left;simpa[e]using hf
 rcases hm with⟨rfl,rfl⟩|⟨q,rfl,rfl⟩
 ·refine⟨⟨(k,s),hk,by simp,ha,rfl⟩,fun p hp hf hp2=>?_⟩;rcases key p hp hf with h'|rfl;·rw[h p hp h']at hp2;cases hp2
  ·exact Int.le_refl _
 ·obtain⟨⟨p,hp,h1,h2,h3⟩,h4⟩:=h;split
  ·rename_i hlt;refine⟨⟨(k,s),hk,by simp,ha,rfl⟩,fun p hp hf hp2=>?_⟩;rcases key p hp hf with h'|rfl;·have:=h4 p hp h' hp2;omega
   ·exact Int.le_refl _
  ·rename_i hlt;refine⟨⟨p,hp,by simp[h1],h2,h3⟩,fun x hx hf hx2=>?_⟩;rcases key x hx hf with h'|rfl;·exact h4 x hx h' hx2
   ·show q≤s.1-c.aa-1;omega
def P7(c:aZ)(w:World)(e:Ending)(w':World):Prop:=e=.returned (.tuple #[.int .i64 (c.told.getD 0),.bool c.told.isSome])∧Below w.heap.size w w'
def Te(w:World)(bm r:Nat)(c:aZ)(l a:Value)(wr:World):Prop:= ∃todo cnt,p8 wr bm r (dU c.src) todo cnt∧Below w.heap.size w wr∧ ∃o:Option Int,l=.int .i64 (o.getD 0)∧a=.bool o.isSome∧nY c todo o
theorem DX(w:World)(bc bm:Nat)(c:aZ)(hc:aH w bc bm c):Calls Tryz.prog 118 #[.pointer (some ⟨bc,0,none⟩)] w (P7 c w):=by
 have HC:=qH hc;obtain⟨c0,c1,c2,c3,c4,f2,f3⟩:=hc.cells;have HM:=qH hc.map;have hlt:=hc.lt;have X6:=hc.map.lt;clear hc;go_enter Tryz.func118,Tryz.ntmps118;go_wp2_with(at_range;refine oO _ rfl _ 134 142 rfl Tryz.underlying134 bm (dU c.src) rfl HM.o ?_;intro w0 hrg0 hg0 hs0);go_frame;clear c0 c1 c2 c3 c4 f2 f3;have hb0:Below w.heap.size w w0:=⟨hg0.os,hg0.tape,hg0.output,hg0.size,fun k hk=>hg0.block k hk (by simp)⟩;clear hg0;go_loopw[4,5](fun l a wr=>Te w bm w.heap.size c l a wr)(fun _ _ wr=>wr.rangeLeft bm w.heap.size);case atStart=>refine⟨_,_,hrg0,hb0,none,rfl,rfl,fun p hp hf=>?_⟩;simp only[dU]at hf;rw[tQ,gN HC.o.ok.rising hp]at hf;cases hf
 case round=>
  obtain⟨todo,cnt,hrg,hbel,o,rfl,rfl,hst⟩:=hrel;have HST:=qH hst;have qU:=qH hrg;have hsz0:=hbel.size;clear hst hrg hrg0;go_wp2_with(at_next;refine qO _ rfl _ rfl bm w.heap.size (dU c.src) todo cnt rfl qU.o ?_ ?_);·intro hdone;have HT:=qH (HST.o.done hdone);clear hdone;go_wp2;go_ret2;exact⟨by rw[HT.o];rfl,hbel⟩
  ·intro k v w1 cnt1 htk hget hkl hrg1 hlt1 hgr hsz1 hen;obtain⟨⟨a,h⟩,hs,rfl⟩:=GY hget;have hmem:=gP hs;have hso:=HC.o.ok.src _ hmem;have hco:=HC.o.ok.aa;have hcn:=HC.o.ok.now;simp only at hso;have hb1:Below w.heap.size w w1:=hbel.grown hgr hsz0 (fun k hk=>by injection hk with hk;omega);have kE:=qH hlt1;have HR1:=qH hrg1;have Ws:=qH hmem;have HB1:=qH hb1;have aaP:=qH hsz1;clear htk hget hs hmem hgr hlt1 hrg1 hbel hsz1;unfold za at*;simp only at*;go_wp2_with fail;have bJ:Below w.heap.size w (w1.alloc (.cells #[.int .i64 a,.int .i64 h] 142)):=HB1.o.alloc (by have:=HB1.o.size;omega) _;have hcA:aH (w1.alloc (.cells #[.int .i64 a,.int .i64 h] 142)) bc bm c:=HC.o.up bJ;refine(I9 _ bc bm c hcA a h (by omega)).mono ?_;rintro e w2⟨rfl,hb2⟩;have hbw2:Below w.heap.size w w2:=bJ.trans (hb2.mono bJ.size);have hs2:=hb2.size;simp at hs2;have HR2:=qH (HR1.o.up (w':=w2) (((Below.refl _ _).alloc (Nat.le_refl _) _).trans (hb2.mono (by simp))));have Zy:=qS (w2.rangeLeft bm w.heap.size<wr.rangeLeft bm w.heap.size) (by rw[HR2.o.left_eq,qU.o.left_eq];exact kE.o);obtain⟨c0,c1,c2,c3,c4,f2,f3⟩:=(hcA.up hb2).cells;have g0:w2.cell? ⟨w1.heap.size,0,none⟩=some (.int .i64 a):=(hb2.cell (p:=⟨w1.heap.size,0,none⟩) (by simp)).trans (cell_of_row _ w1.heap.size 0 _ _ (0,0) (heap_alloc_new w1 _));have g1:w2.cell? ⟨w1.heap.size,1,none⟩=some (.int .i64 h):=(hb2.cell (p:=⟨w1.heap.size,1,none⟩) (by simp)).trans (cell_of_row _ w1.heap.size 1 _ _ (0,0) (heap_alloc_new w1 _));clear hb2 hcA bJ hen;cases hact:lU c.idle c.now (a,h)
   ·have HT:=qH (HST.o.skip HC.o.ok.rising Ws.o hact);clear hact;go_wp2;go_roundw;case rel=>exact⟨_,_,HR2.o,hbw2,o,rfl,rfl,HT.o⟩
    case measure=>exact Zy.o
   ·have HT:=qH (fun m hm=>HST.o.take HC.o.ok.rising Ws.o hact (m:=m) hm);clear hact;have e1:IntKind.i64.wrap (a-c.aa)=a-c.aa:=IntWalk.i64_in _ (by omega);have e2:IntKind.i64.wrap (a-c.aa-1)=a-c.aa-1:=IntWalk.i64_in _ (by omega);go_wp2;go_quiet(fail);clear e1 e2;have HR3:=qS (p8 (w2.drewN nq) bm w.heap.size (dU c.src) _ cnt1) (HR2.o);have hbw3:Below w.heap.size w (w2.drewN nq):=below_drewN hbw2 nq;have Wq:=qS ((w2.drewN nq).rangeLeft bm w.heap.size<wr.rangeLeft bm w.heap.size) (Zy.o);cases o with
     |none=>
      have HT0:=qH (HT.o _ (.inl ⟨rfl,rfl⟩));simp only[Option.getD_none,Option.isSome_none];go_wp2;go_roundw;case rel=>exact⟨_,_,HR3.o,hbw3,some (a-c.aa-1),rfl,rfl,HT0.o⟩
      case measure=>exact Wq.o
     |some m=>
      simp only[Option.getD_some,Option.isSome_some];by_cases hlt2:a-c.aa-1<m
      ·have HT0:=qH (HT.o _ (.inr ⟨m,rfl,(if_pos hlt2).symm⟩));go_wp2;go_roundw;case rel=>exact⟨_,_,HR3.o,hbw3,some (a-c.aa-1),rfl,rfl,HT0.o⟩
       case measure=>exact Wq.o
      ·have HT0:=qH (HT.o _ (.inr ⟨m,rfl,(if_neg hlt2).symm⟩));go_wp2;go_roundw;case rel=>exact⟨_,_,HR3.o,hbw3,some m,rfl,rfl,HT0.o⟩
       case measure=>exact Wq.o
theorem aH.RB{w:World}{bc bm:Nat}{c:aZ}(h:aH w bc bm c)(m:Int)(hm: -1≤m∧m≤1099511627776):aH (w.setCell ⟨bc,3,none⟩ (.int .i64 m)) bc bm {c with mark:=m}:=⟨af h.blk,h.map.block (Below.heap_setCell _ _ _ _ (Ne.symm h.ne)),⟨h.ok.aa,h.ok.idle,h.ok.now,hm,h.ok.rising,h.ok.src⟩⟩
theorem aH.U9{w:World}{bc bm:Nat}{c:aZ}(h:aH w bc bm c)(n:Int)(hn:c.now≤n∧n≤1099511627776):aH (w.setCell ⟨bc,2,none⟩ (.int .i64 n)) bc bm {c with now:=n}:=⟨af h.blk,h.map.block (Below.heap_setCell _ _ _ _ (Ne.symm h.ne)),⟨h.ok.aa,h.ok.idle,by have:=h.ok.now;exact⟨by show 0≤n;omega,hn.2⟩,h.ok.mark,h.ok.rising,fun p hp=>by have:=h.ok.src p hp;exact⟨this.1,this.2.1,this.2.2.1,this.2.2.2.1,by show p.2.2≤n;omega⟩⟩⟩
def Qj(w:World)(bc bm:Nat)(c:aZ)(e:Ending)(w':World):Prop:=e=.returned (.tuple #[])∧aH w' bc bm c∧ak (·=bc) w w'
theorem Ew(w:World)(bc bm:Nat)(c:aZ)(hc:aH w bc bm c):Calls Tryz.prog 84 #[.pointer (some ⟨bc,0,none⟩)] w (Qj w bc bm c.rise):=by have HC:=qH hc;clear hc;go_enter Tryz.func84,Tryz.ntmps84;go_wp2_with fail;refine(DX w bc bm c HC.o).mono ?_;rintro e w1⟨rfl,hb1⟩;have jG:=qH (HC.o.up hb1);obtain⟨c0,c1,c2,c3,c4,f2,f3⟩:=jG.o.cells;cases ht:c.told with|none=>have HT:=qS (c.rise=c) (by unfold aZ.rise;rw[ht]);have HK:=qS (ak (·=bc) w w1) (ak.of_below hb1);clear ht hb1;simp only[Option.getD_none,Option.isSome_none];go_wp2;go_end0;exact⟨rfl,by rw[HT.o];exact jG.o,HK.o⟩|some m=>have HT:=qS (c.rise={c with mark:=max c.mark m}) (by unfold aZ.rise;rw[ht]);have hmb:=HC.o.ok.told ht;have hmk:=HC.o.ok.mark;have HK:=qS (ak (·=bc) w w1) (ak.of_below hb1);clear ht hb1;simp only[Option.getD_some,Option.isSome_some];go_wp2;go_end0;exact⟨rfl,by rw[HT.o];exact jG.o.RB _ (by omega),HK.o.setCell (fun _=>rfl) _⟩
def P8(w:World)(bc bm:Nat)(c:aZ)(e:Ending)(w':World):Prop:=e=.returned (.int .i64 c.mark)∧aH w' bc bm c∧ak (·=bc) w w'
theorem I7(w:World)(n:Int):Calls Tryz.prog 80 #[.int .i64 n] w fun e w'=>e=.returned (.int .i64 (df n))∧w'=w:=(vH w n).mono fun _ _ h=>⟨h.1,h.2.symm⟩
theorem xR(w:World)(bc bm:Nat)(c:aZ)(hc:aH w bc bm c)(now:Int):Calls Tryz.prog 46 #[.pointer (some ⟨bc,0,none⟩),.int .i64 now] w (P8 w bc bm (c.tick now)):=by
 have HC:=qH hc;obtain⟨c0,c1,c2,c3,c4,f2,f3⟩:=hc.cells;have hbl:=qw now;have hbh:=qy now;have hn:=hc.ok.now;clear hc;go_enter Tryz.func46,Tryz.ntmps46;go_wp2;go_still_tail 10,(by kernel_rfl);still_call(I7 _ _);repeat still_step
 refine wpStill_nil ?_;change wpList _ _ _ _ _ (w.drewN 1);have jG:=qS (aH (w.drewN 1) bc bm c) (HC.o.keep rfl rfl);have HT:=qS (c.tick now=({c with now:=max c.now (df now)}:aZ).rise) (rfl);have HK:=qS (ak (·=bc) w (w.drewN 1)) ((ak.refl _ _).drewN 1);have d2:(w.drewN 1).cell? ⟨bc,2,none⟩=some (.int .i64 c.now):=c2;have d3:(w.drewN 1).frozen? ⟨bc,2,none⟩=false:=f2;generalize df now=nb at*;generalize w.drewN 1=w1 at*;clear c0 c1 c2 c3 c4 f2 f3;go_wp2_with fail;have hc2:=jG.o.U9 (max c.now nb) (by omega);refine(Ew _ bc bm _ hc2).mono ?_;rintro e w2⟨rfl,hcr,hk2⟩;rw[←HT.o]at hcr;obtain⟨e0,e1,e2,e3,e4,g2,g3⟩:=hcr.cells;have XE:=qH hcr;have qW:=qH ((HK.o.setCell (p:=⟨bc,2,none⟩) (fun _=>rfl) (.int .i64 (max c.now nb))).trans hk2 (fun _ _ h=>h));clear hcr hk2 hc2 d2 d3;go_wp2;go_ret;exact⟨rfl,XE.o,qW.o⟩
theorem EX(w:World)(bc bm:Nat)(c:aZ)(hc:aH w bc bm c):Calls Tryz.prog 115 #[.pointer (some ⟨bc,0,none⟩)] w fun e w'=>e=.returned (.int .i64 c.mark)∧w=w':=by obtain⟨c0,c1,c2,c3,c4,f2,f3⟩:=hc.cells;clear hc;go_enter Tryz.func115,Tryz.ntmps115;go_wp2;go_ret;exact⟨rfl,rfl⟩
def mH(r:Nat):Bool:=!((decide (97≤r)&&decide (r≤122))||(decide (48≤r)&&decide (r≤57))||decide (r=45))
theorem LW(w:World)(r:Nat):Calls Tryz.prog 144 #[.int .i32 r] w fun e w'=>e=.returned (.bool (mH r))∧ ∃q,w'=w.drewN q:=by
 have key: ∀a b:Bool,mH r=a→Calls Tryz.prog 144 #[.int .i32 r] w (fun e w'=>e=.returned (.bool a)∧w=w')→Calls Tryz.prog 144 #[.int .i32 r] w fun e w'=>e=.returned (.bool (mH r))∧ ∃q,w'=w.drewN q:=fun a _ h hc=>by rw[h];exact hc.mono fun _ _ h=>⟨h.1,0,h.2.symm⟩
 by_cases h1:97≤r
 ·have d1:decide (97≤(r:Int))=true:=decide_eq_true (by omega);by_cases h2:r≤122;·have d2:decide ((r:Int)≤122)=true:=decide_eq_true (by omega);refine key false false (by unfold mH;simp[h1,h2]) ?_;go_enter Tryz.func144,Tryz.ntmps144;go_wp2;go_ret;exact⟨rfl,rfl⟩
  ·have d2:decide ((r:Int)≤122)=false:=decide_eq_false (by omega);have d3:decide (48≤(r:Int))=true:=decide_eq_true (by omega);have d4:decide ((r:Int)≤57)=false:=decide_eq_false (by omega);have d5:((r:Int)==45)=false:=by simp;omega
   refine key true false (by unfold mH;simp;omega) ?_;go_enter Tryz.func144,Tryz.ntmps144;go_wp2;go_ret;exact⟨rfl,rfl⟩
 ·have d1:decide (97≤(r:Int))=false:=decide_eq_false (by omega);by_cases h3:48≤r
  ·have d3:decide (48≤(r:Int))=true:=decide_eq_true (by omega);by_cases h4:r≤57;·have d4:decide ((r:Int)≤57)=true:=decide_eq_true (by omega);refine key false false (by unfold mH;simp;omega) ?_;go_enter Tryz.func144,Tryz.ntmps144;go_wp2;go_ret;exact⟨rfl,rfl⟩
   ·have d4:decide ((r:Int)≤57)=false:=decide_eq_false (by omega);have d5:((r:Int)==45)=false:=by simp;omega
    refine key true false (by unfold mH;simp;omega) ?_;go_enter Tryz.func144,Tryz.ntmps144;go_wp2;go_ret;exact⟨rfl,rfl⟩
  ·have d3:decide (48≤(r:Int))=false:=decide_eq_false (by omega);by_cases h5:r=45
   ·have d5:((r:Int)==45)=true:=by simp;omega
    refine key false false (by unfold mH;simp;omega) ?_;clear h5;go_enter Tryz.func144,Tryz.ntmps144;go_wp2;go_ret;exact⟨rfl,rfl⟩
   ·have d5:((r:Int)==45)=false:=by simp;omega
    refine key true false (by unfold mH;simp;omega) ?_;go_enter Tryz.func144,Tryz.ntmps144;go_wp2;go_ret;exact⟨rfl,rfl⟩
theorem Fz(s:ByteArray): ∀(f pos:Nat),s.size≤pos+f→(Lib.idxFuncFrom mH true s f pos= -1↔ ∀j(h:j<s.size),pos≤j→eG s[j]=true)
 |0,pos,h=>by simp only[Lib.idxFuncFrom,true_iff];intro j hj hp;omega
 |f+1,pos,h=>by
  unfold Lib.idxFuncFrom;by_cases hlt:pos<s.size
  ·rw[if_pos hlt];by_cases ha:s[pos].toNat<128
   ·have hd:=decode_ascii s pos hlt ha;rw[hd];simp only;have hodd:mH s[pos].toNat=!eG s[pos]:=by unfold mH eG;rfl
    rw[hodd];cases hc:eG s[pos]
    ·simp only[Bool.not_false,if_true];constructor;·intro h';omega
     ·intro h';have:=h' pos hlt (Nat.le_refl _);rw[hc]at this;cases this
    ·simp only[Bool.not_true,Bool.false_eq_true,if_false];rw[Fz s f (pos+1) (by omega)];constructor
     ·intro h' j hj hp;by_cases e:j=pos;·subst e;exact hc
      ·exact h' j hj (by omega)
     ·intro h' j hj hp;exact h' j hj (by omega)
   ·have hd:=(decode_high s pos hlt (by omega)).1;have hodd:mH (Utf8.decode s pos).1=true:=by unfold mH;simp;omega
    rw[if_pos hodd];constructor;·intro h';omega
    ·intro h';have:=h' pos hlt (Nat.le_refl _);unfold eG at this;simp at this;omega
  ·rw[if_neg hlt];simp only[true_iff];intro j hj hp;omega
theorem Mm(l:List UInt8)(h1:1≤l.length)(h2:l.length≤24):decide (Lib.idxFunc mH true ⟨l.toArray⟩<0)=ag l:=by
 have key:=Fz ⟨l.toArray⟩ (ByteArray.size ⟨l.toArray⟩) 0 (by omega);have hr:=Lib.idxFunc_range mH true ⟨l.toArray⟩;have hs:(⟨l.toArray⟩:ByteArray).size=l.length:=by simp[ByteArray.size]
 by_cases hn:ag l=true
 ·rw[hn];refine decide_eq_true ?_;have:Lib.idxFunc mH true ⟨l.toArray⟩= -1:=key.2 fun j hj _=>by unfold ag at hn;simp only[Bool.and_eq_true,List.all_eq_true]at hn;exact hn.2 l[j] (List.getElem_mem (by omega))
  omega
 ·rw[Bool.not_eq_true]at hn;rw[hn];refine decide_eq_false fun hlt=>?_;have h':Lib.idxFunc mH true ⟨l.toArray⟩= -1:=by omega
  have:=key.1 h';rw[kW h1 h2 (fun j hj=>this j (by omega) (Nat.zero_le _))]at hn;cases hn
theorem nC(w:World)(l:List UInt8):Calls Tryz.prog 83 #[.string ⟨l.toArray⟩] w (Says (ag l) w):=by
 by_cases h0:l.length<1;·have HN:=qH (dN (.inl h0));go_enter Tryz.func83,Tryz.ntmps83;go_wp2;go_ret;exact⟨ae HN.o.symm,Below.refl _ _⟩
 by_cases h24:24<l.length;·have HN:=qH (dN (.inr h24));go_enter Tryz.func83,Tryz.ntmps83;go_wp2;go_ret;exact⟨ae HN.o.symm,Below.refl _ _⟩
 have d0:decide ((l.length:Int)<1)=false:=decide_eq_false (by omega);have d1:decide (24<(l.length:Int))=false:=decide_eq_false (by omega);have HN:=qH (Mm l (by omega) (by omega));have hr:=Lib.idxFunc_range mH true ⟨l.toArray⟩;go_enter Tryz.func83,Tryz.ntmps83;go_wp2_with fail;refine(Tryz.strings_IndexFunc 144 #[] (fun _ _=>by kernel_rfl) mH ⟨l.toArray⟩ w (fun W x _=>LW W x)).mono ?_;rintro e w1⟨rfl,hb⟩;generalize Lib.idxFunc mH true ⟨l.toArray⟩=i at*;clear hr;go_wp2;go_ret;exact⟨ae HN.o,hb⟩
def Qr(w:World)(bc bm:Nat)(c:aZ)(ok:Bool)(e:Ending)(w':World):Prop:=e=.returned (.bool ok)∧aH w' bc bm c∧ak (fun b=>b=bc∨b=bm) w w'
theorem Rs(w:World):(zeroValue 142).run Tryz.prog w=.ok (.agg #[.int .i64 0,.int .i64 0]) w:=by kernel_rfl
theorem E8{w:World}{bc bm:Nat}{c:aZ}(h:aH w bc bm c)(l:List UInt8)(hl:l.length≤24):(Instr.lookup 134 (.map (some bm)) (.string ⟨l.toArray⟩) false).run Tryz.prog w=.ok (.agg #[.int .i64 ((bO c.src l).getD (0,0)).1,.int .i64 ((bO c.src l).getD (0,0)).2]) w:=by rw[h.map.look l (by unfold maxLen;omega) _ _ Tryz.underlying134 _ (Rs w)];unfold dU;rw[tQ];cases bO c.src l<;>rfl
theorem FJ(w:World)(bc bm:Nat)(c:aZ)(hc:aH w bc bm c)(l:List UInt8)(at_ now:Int)(hsz:c.src.length<1000000):Calls Tryz.prog 37 #[.pointer (some ⟨bc,0,none⟩),.string ⟨l.toArray⟩,.int .i64 at_,.int .i64 now] w (Qr w bc bm (c.hear l at_ now) ((c.tick now).hears l at_)):=by
 have HC:=qH hc;clear hc;go_enter Tryz.func37,Tryz.ntmps37;go_wp2_with fail;refine(xR w bc bm c HC.o now).mono ?_;rintro e w1⟨rfl,hc1,hk1⟩;have HE:=qS (c.hear l at_ now=if(c.tick now).hears l at_ then(c.tick now).heard l at_ else c.tick now) (rfl);have hsz1:(c.tick now).src.length<1000000:=by unfold aZ.tick;rw[N9];exact hsz
 generalize c.hear l at_ now=R at*;generalize c.tick now=d at*;have jG:=qH hc1;have zJ:=qH hk1;clear hc1 hk1;go_wp2_with fail;refine(nC w1 l).mono ?_;rintro e w2⟨rfl,hb2⟩;have dS:=qH (jG.o.up hb2);have qW:=qS (ak (fun b=>b=bc∨b=bm) w w2) ((zJ.o.mono (F:=fun b=>b=bc∨b=bm) (fun _ _ h=>.inl h)).trans (ak.of_below (F:=fun _=>False) hb2) (fun _ _ h=>h.elim));obtain⟨c0,c1,c2,c3,c4,f2,f3⟩:=dS.o.cells;have HS:=qS (d.hears l at_=(ag l&&decide (0≤at_)&&decide (at_≤1099511627776)&&decide (d.mark<at_))) (rfl);clear hb2;cases hnm:ag l;·have HF:=qS (d.hears l at_=false) (by rw[HS.o,hnm];rfl);have HR:=qS (R=d) (by rw[HE.o,HF.o];rfl);clear hnm;go_wp2;go_ret;exact⟨ae HF.o.symm,by rw[HR.o];exact dS.o,qW.o⟩
 by_cases h1:at_<0;·have HF:=qS (d.hears l at_=false) (by rw[HS.o,decide_eq_false (show¬0≤at_ by omega)];simp);have HR:=qS (R=d) (by rw[HE.o,HF.o];rfl);clear hnm;go_wp2;go_ret;exact⟨ae HF.o.symm,by rw[HR.o];exact dS.o,qW.o⟩
 by_cases h2:1099511627776<at_;·have HF:=qS (d.hears l at_=false) (by rw[HS.o,decide_eq_false (show¬at_≤1099511627776 by omega)];simp);have HR:=qS (R=d) (by rw[HE.o,HF.o];rfl);clear hnm;go_wp2;go_ret;exact⟨ae HF.o.symm,by rw[HR.o];exact dS.o,qW.o⟩
 by_cases h3:at_≤d.mark;·have HF:=qS (d.hears l at_=false) (by rw[HS.o,decide_eq_false (show¬d.mark<at_ by omega)];simp);have HR:=qS (R=d) (by rw[HE.o,HF.o];rfl);clear hnm;go_wp2;go_ret;exact⟨ae HF.o.symm,by rw[HR.o];exact dS.o,qW.o⟩
 have HT:=qS (d.hears l at_=true) (by rw[HS.o,hnm,decide_eq_true (show 0≤at_ by omega),decide_eq_true (show at_≤1099511627776 by omega),decide_eq_true (show d.mark<at_ by omega)];rfl);have HR:=qS (R=d.heard l at_) (by rw[HE.o,HT.o];rfl);have hl24:l.length≤24:=by unfold ag at hnm;simp at hnm;omega
 have hlk:=E8 dS.o l hl24;have hblt:=dS.o.lt;have hdn:=dS.o.ok.now;have hga:0≤((bO d.src l).getD (0,0)).1∧((bO d.src l).getD (0,0)).1≤1099511627776:=by cases hg:bO d.src l with|none=>simp|some q=>have:=dS.o.ok.src _ (gP hg);simp only at this;simp only[Option.getD_some];omega
 have HH:=qS (d.heard l at_=({d with src:=bL l (max ((bO d.src l).getD (0,0)).1 at_,d.now) d.src}:aZ).rise) (rfl);have jU:=qH (dS.o.ok.said HT.o);generalize(bO d.src l).getD (0,0)=q at*;obtain⟨qa,qh⟩:=q;simp only at hlk hga HH jU;clear hnm HE HS;go_wp2;go_region;go_wp2;have bJ:Below w2.heap.size w2 (w2.alloc (Obj.cells #[Value.int IntKind.i64 (max qa at_),Value.int IntKind.i64 d.now] 142)).drew:=((Below.refl _ _).alloc (Nat.le_refl _) _).drew;have MB:(w2.alloc (Obj.cells #[Value.int IntKind.i64 (max qa at_),Value.int IntKind.i64 d.now] 142)).drew.cell? ⟨w2.heap.size,0,none⟩=some (.int .i64 (max qa at_)):=(cell_of_row _ w2.heap.size 0 _ _ (0,0) (heap_alloc_new w2 _));have hA1:(w2.alloc (Obj.cells #[Value.int IntKind.i64 (max qa at_),Value.int IntKind.i64 d.now] 142)).drew.cell? ⟨w2.heap.size,1,none⟩=some (.int .i64 d.now):=(cell_of_row _ w2.heap.size 1 _ _ (0,0) (heap_alloc_new w2 _));have om:=qH (dS.o.up bJ);have BR:=qH (qW.o.trans (ak.of_below (F:=fun _=>False) bJ) (fun _ _ h=>h.elim));generalize(w2.alloc (Obj.cells #[Value.int IntKind.i64 (max qa at_),Value.int IntKind.i64 d.now] 142)).drew=w3 at*;clear c0 c1 c2 c3 c4 f2 f3 hlk bJ;obtain⟨c0,c1,c2,c3,c4,f2,f3⟩:=om.o.cells;generalize hqx:max qa at_=qx at*;have HQX:=qH hqx;clear hqx;go_still_tail 6,(by kernel_rfl);change wpList _ _ _ _ _ (w3.drewN 1);have hM:=om.o.map;have HM:=qS (gH (w3.drewN 1) bm (dU d.src)) (hM);clear hM;refine bD rfl (.tmp 51) (.tmp 52) (.tmp 53) 134 142 rfl Tryz.underlying134 bm (dU d.src) rfl HM.o (by unfold maxLen dU;simp;omega) l rfl (by unfold maxLen;omega) _ rfl ?_;intro w4 hm4 hg4;have DF:=qS (aH w4 bc bm {d with src:=bL l (qx,d.now) d.src}) (by have hrow:bL l (Value.agg #[Value.int IntKind.i64 qx,Value.int IntKind.i64 d.now]) (dU d.src)=dU (bL l (qx,d.now) d.src):=(EH za l (qx,d.now) d.src).symm;refine⟨(hg4.block bc om.o.lt (fun h=>om.o.ne (by injection h))).trans om.o.blk,?_,jU.o⟩;rw[←hrow];exact hm4);have xN:=qH ((BR.o.drewN 1).trans (ak.eF (F:=fun b=>b=bc∨b=bm) hg4 (fun k hk=>by injection hk with hk;exact .inr hk.symm)) (fun _ _ h=>h));clear hm4 hg4 c0 c1 c2 c3 c4 f2 f3 MB hA1 hblt;go_wp2_with fail;refine(Ew w4 bc bm _ DF.o).mono ?_;rintro e w5⟨rfl,hc5,hk5⟩;have DD:=qS (aH w5 bc bm R) (by rw[HR.o,HH.o];exact hc5);have xM:=qH (xN.o.trans hk5 (fun _ _ h=>.inl h));clear hc5 hk5;go_wp2;go_ret;exact⟨ae HT.o.symm,DD.o,xM.o⟩
def JL(w:World)(c:aZ)(e:Ending)(w':World):Prop:= ∃bc bm,e=.returned (.pointer (some ⟨bc,0,none⟩))∧aH w' bc bm c∧w.heap.size≤bc∧w.heap.size≤bm∧Below w.heap.size w w'
theorem I4(w:World)(aa idle:Int):Calls Tryz.prog 34 #[.int .i64 aa,.int .i64 idle] w (JL w (aZ.new aa idle)):=by
 have HN:=qS (aZ.new aa idle=⟨df aa,df idle,0,-1,[]⟩) (rfl);have hmm:= @run_makeMap Tryz.prog;go_enter Tryz.func34,Tryz.ntmps34;go_wp2_with fail;refine(vH w aa).mono ?_;rintro e w1⟨rfl,rfl⟩;go_wp2_with fail;refine(vH w idle).mono ?_;rintro e w1⟨rfl,rfl⟩;go_wp2;go_ret;refine⟨w.heap.size+1,w.heap.size,rfl,⟨?_,?_,fD.new aa idle⟩,by omega,Nat.le_refl _,((Below.refl _ _).alloc (Nat.le_refl _) _).alloc (by simp) _⟩;·rw[HN.o];have:=heap_alloc_new (w.alloc (.map #[] 0)) (CS ⟨df aa,df idle,0,-1,[]⟩ w.heap.size);simpa using this
 ·rw[HN.o];exact(gH.made w).block (Below.heap_alloc _ _ _ (by simp))
end Go.Proofs.YtbejfgmdkmddnaaGreatDoor
