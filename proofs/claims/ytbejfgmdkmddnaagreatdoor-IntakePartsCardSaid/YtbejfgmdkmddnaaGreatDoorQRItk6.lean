/-
  Layer 8, the document's: what a store leaves; take.
-/
import Derived.Test.YtbejfgmdkmddnaaGreatDoorQRItk3
import Derived.RegionTactic
import Derived.BigRegion
set_option maxRecDepth 100000
set_option maxHeartbeats 16000000
namespace Go.Proofs.YtbejfgmdkmddnaaGreatDoor
open Go.RowKit Go.Maps Go.Sort
theorem row_find(R:List HRow)(m:Had)(h:keysH R=m.map (fun p=>(p.1,nums p.2)))(s:List UInt8):rowH R s=nums (hadRow m s):=by
 have h1:rowH R s=(getB (keysH R) s).getD []:=by unfold rowH getB keysH;rw[List.find?_map];simp only[Option.map_map,Function.comp_def]
 rw[h1,h];have h2:=getB_map nums m s;rw[h2];unfold hadRow;cases getB m s<;>rfl
theorem had_dec{R:List HRow}{m:Had}(hok:HadOk m)(h:keysH R=m.map (fun p=>(p.1,nums p.2)))(s:List UInt8)(n:Int):decide (n∈rowH R s)=hadB m s n:=by rw[row_find R m h s];unfold hadB;rw[Bool.eq_iff_iff,decide_eq_true_iff,nums_mem (hok.row s)]
structure ICells(w:World)(bm bc:Nat)(vh vt vl vg:Value):Prop where
 c0:w.cell? ⟨bm,0,none⟩=some (.pointer (some ⟨bc,0,none⟩))
 c1:w.cell? ⟨bm,1,none⟩=some vh
 c2:w.cell? ⟨bm,2,none⟩=some vt
 c3:w.cell? ⟨bm,3,none⟩=some vl
 c4:w.cell? ⟨bm,4,none⟩=some vg
theorem ICells.of{w:World}{bm bc:Nat}{vh vt vl vg:Value}(h:w.heap[bm]?=some (ritkObj bc vh vt vl vg)):ICells w bm bc vh vt vl vg:=by have key: ∀o,w.cell? ⟨bm,o,none⟩=_:=fun o=>cell_of_row w bm o _ _ (0,0) h;exact⟨(key 0).trans rfl,(key 1).trans rfl,(key 2).trans rfl,(key 3).trans rfl,(key 4).trans rfl⟩
theorem ICells.below{w w':World}{B bm bc:Nat}{vh vt vl vg:Value}(h:ICells w bm bc vh vt vl vg)(hb:Below B w w')(hB:bm<B):ICells w' bm bc vh vt vl vg:=by have key: ∀o u,w.cell? ⟨bm,o,none⟩=some u→w'.cell? ⟨bm,o,none⟩=some u:=fun o u hu=>(hb.cell (p:=⟨bm,o,none⟩) hB).trans hu;exact⟨key _ _ h.c0,key _ _ h.c1,key _ _ h.c2,key _ _ h.c3,key _ _ h.c4⟩
theorem rwrong_any(w:World)(bm bc:Nat)(S:Nat→Prop)(N:Nat)(x:Itk)(h:RItk w bm bc S N x)(hN:N≤80000)(e:Ev)(hs:e.small):Calls Tryz.prog 127 #[.pointer (some ⟨bm,0,none⟩),e.agg] w (IntPost w (x.verdict e)):=by
 have HH:=qH h;obtain⟨vh,vt,vl,vg,hblk,hparts⟩:=h.blk;have hbm:bm<w.heap.size:=(Array.getElem?_eq_some_iff.1 hblk).1;have HIC:=qH (ICells.of hblk);have HP:=qH hparts;have HS:=qH hs;have HVD:=qH (show x.verdict e=if(!mayB e||(decide (e.per∈x.gone)&&(e.kind !=14))||decide (1048576≤x.taken.length))then 3 else if hadB x.had e.src e.num then 1 else 0 from rfl);have htl:=h.tl;have HOK:=qH h.ok;clear h hblk hparts hs;obtain⟨At,ct,hvt,_,_⟩:=HP.out.taken;obtain⟨Ag,cg,gs,hvg,hgs,_,hri,hgl⟩:=HP.out.gone;obtain⟨Ah,ch,R,hvh,hrh,hkey,hrl,hrows⟩:=HP.out.had;have HGS:=qH hgs;have HRH:=qH hrh;clear hgs hrh;subst hvt hvg hvh;have hb1:Below w.heap.size w (w.alloc (evObj e)):=(Below.refl _ _).alloc (Nat.le_refl _) _;have HE1:=qH (EvIn.new w e);have HC1:=qH (HIC.out.below hb1 hbm);have hs1:(w.alloc (evObj e)).heap.size=w.heap.size+1:=by simp
 have HGI:=qH (show decide (e.per∈gs)=decide (e.per∈x.gone)by rw[decide_eq_decide];exact hri.2 _);have HKEY:=qH hkey;have HROWS:=qH hrows;clear hkey hrows hri;unfold Ev.agg;go_enter Tryz.func127,Tryz.ntmps127;obtain⟨e0,e1,e2,e3,e4,e5,e6,e7⟩:=HE1.out;obtain⟨c0,c1,c2,c3,c4⟩:=HC1.out;go_wp2;generalize w.alloc (evObj e)=w1 at*;have HMAY2:=qH (show∀W,Calls Tryz.prog 31 #[e.agg] W (Says (mayB e) W)from fun W=>rmay_any W e HS.out);unfold Ev.agg at HMAY2;have HSS:=qH (show∀W,Below w1.heap.size w1 W→(fun wx=>wx.cell? ⟨w.heap.size,0,none⟩=some (.string ⟨e.src.toArray⟩)∧wx.cell? ⟨w.heap.size,1,none⟩=some (.int .i64 e.num)∧wx.cell? ⟨w.heap.size,2,none⟩=some (.int .i64 e.at_)∧wx.cell? ⟨w.heap.size,3,none⟩=some (.int .i64 e.kind)∧wx.cell? ⟨w.heap.size,4,none⟩=some (.string ⟨e.per.toArray⟩)∧wx.cell? ⟨w.heap.size,5,none⟩=some (.string ⟨e.item.toArray⟩)∧wx.cell? ⟨w.heap.size,6,none⟩=some (.int .i64 e.val)∧wx.cell? ⟨w.heap.size,7,none⟩=some (.string ⟨e.text.toArray⟩)∧wx.cell? ⟨bm,2,none⟩=some (.slice At x.taken.length ct)∧wx.cell? ⟨bm,4,none⟩=some (.slice Ag gs.length cg)) W from fun W hW=>by obtain⟨q0,q1,q2,q3,q4,q5,q6,q7⟩:=HE1.out.below hW (by omega);obtain⟨d0,d1,d2,d3,d4⟩:=HC1.out.below hW (by omega);exact⟨q0,q1,q2,q3,q4,q5,q6,q7,d2,d4⟩);have HS1:=qH hs1;clear hs1;generalize hmb:mayB e=mb at*;cases mb
 ·have HV:=qH (show x.verdict e=3 by rw[HVD.out];rfl);clear hmb;refine wp_region_quiet (C:=fun wx=>Below w1.heap.size w1 wx) (by kernel_rfl) (by kernel_rfl) (below_drew (Below.refl _ _)) ?_;simp only;repeat
   (first|go_big_quiet_skip|(go_big_quiet_want;go_big_quiet_op;go_big_quiet_on)|
     (refine wpQuiet_step (fun K hK=>?_);go_simp;first|(refine hK _ ?_;clear hK K)|
       (apply Exists.intro;refine⟨fun wx hx=>?_,hK _ ?_⟩;·(obtain⟨q0,q1,q2,q3,q4,q5,q6,q7,d2,d4⟩:=HSS.out wx hx;go_simp;first|done|rfl|exact⟨rfl,rfl⟩|(refine(HMAY2.out wx).mono ?_;rintro r w2⟨hr,hb2⟩;exact⟨hr,hx.trans (hb2.mono hx.size)⟩))
        clear hK K)))
  refine wpQuiet_nil ?_;intro w2 hb2;have hbw2:Below w.heap.size w w2:=hb1.trans (hb2.mono (by have:=HS1.out;omega));clear e0 e1 e2 e3 e4 e5 e6 e7 c0 c1 c2 c3 c4;go_wp2;go_ret;exact⟨ret_int HV.out.symm,hbw2⟩
 ·have HIN2:=qH (show∀W,Below w1.heap.size w1 W→Calls Tryz.prog 176 #[.slice Ag gs.length cg,.string ⟨e.per.toArray⟩] W fun r w'=>r=.returned (.bool (decide (e.per∈x.gone)))∧w'=W from fun W hW=>by rw[←HGI.out];exact(rin08_any W W.heap.size Ag gs.length cg gs (Cel.more (Cel.below HGS.out (hb1.trans (hW.mono (by have:=HS1.out;omega)))) (by have:=HS1.out;have:=hW.size;omega)) (by omega) e.per).mono fun _ _ h=>⟨h.1,h.2.symm⟩);have HVD2:=qH (show x.verdict e=if(decide (e.per∈x.gone)&&(e.kind !=14))then 3 else if hadB x.had e.src e.num then 1 else 0 by rw[HVD.out,decide_eq_false (show¬1048576≤x.taken.length by omega)];simp);have hl1:decide (1048576≤(x.taken.length:Int))=false:=decide_eq_false (by omega);have hl2:decide (1048576≤x.taken.length)=false:=decide_eq_false (by omega);clear hmb HVD;generalize decide (e.per∈x.gone)=gb at*;cases gb
  ·have HV:=qH (show x.verdict e=if hadB x.had e.src e.num then 1 else 0 by rw[HVD2.out];rfl);clear HVD2;refine wp_region_quiet (C:=fun wx=>Below w1.heap.size w1 wx) (by kernel_rfl) (by kernel_rfl) (below_drew (Below.refl _ _)) ?_;simp only;repeat
    (first|go_big_quiet_skip|(go_big_quiet_want;go_big_quiet_op;go_big_quiet_on)|
      (refine wpQuiet_step (fun K hK=>?_);go_simp;first|(refine hK _ ?_;clear hK K)|
        (apply Exists.intro;refine⟨fun wx hx=>?_,hK _ ?_⟩;·(obtain⟨q0,q1,q2,q3,q4,q5,q6,q7,d2,d4⟩:=HSS.out wx hx;go_simp;first|done|rfl|exact⟨rfl,rfl⟩|(refine(HMAY2.out wx).mono ?_;rintro r w2⟨hr,hb2⟩;exact⟨hr,hx.trans (hb2.mono hx.size)⟩)|(refine(HIN2.out wx hx).mono ?_;rintro r w2⟨hr,hw2⟩;exact⟨hr,by rw[hw2];exact hx⟩))
         clear hK K)))
   refine wpQuiet_nil ?_;intro w2 hb2;have hbw2:Below w.heap.size w w2:=hb1.trans (hb2.mono (by have:=HS1.out;omega));clear e0 e1 e2 e3 e4 e5 e6 e7 c0 c1 c2 c3 c4;obtain⟨g0,g1,g2,g3,g4,g5,g6,g7⟩:=HE1.out.below hb2 (by have:=HS1.out;omega);obtain⟨d0,d1,d2,d3,d4⟩:=HC1.out.below hb2 (by have:=HS1.out;omega);have HHAS:=qH (show∀q,Calls Tryz.prog 30 #[.slice Ah R.length ch,.string ⟨e.src.toArray⟩,.int .i64 e.num] (w2.drewN q) fun r w'=>r=.returned (.bool (hadB x.had e.src e.num))∧w'=w2.drewN q from fun q=>by rw[←had_dec HOK.out HKEY.out];exact rhas_any (w2.drewN q) S Ah R.length ch R (HRH.out.stay (F:=fun _=>False) (Keep.of_below (below_drewN hbw2 q)) (fun _ h=>h.elim)) (by omega) e.src e.num (fun q hq=>by have:=HROWS.out q hq;omega));generalize hadB x.had e.src e.num=hb at*;clear HE1 HC1;cases hb;·go_wp2;go_quiet((go_at_call 30;exact Calls.quiet_of_same (HHAS.out _)));go_wp2;go_ret;exact⟨ret_int (by rw[HV.out];rfl),below_drewN hbw2 _⟩
   ·go_wp2;go_quiet((go_at_call 30;exact Calls.quiet_of_same (HHAS.out _)));go_wp2;go_ret;exact⟨ret_int (by rw[HV.out];rfl),below_drewN hbw2 _⟩
  ·cases hk14:(e.kind !=14)
   ·have HV:=qH (show x.verdict e=if hadB x.had e.src e.num then 1 else 0 by rw[HVD2.out,hk14];rfl);clear HVD2;refine wp_region_quiet (C:=fun wx=>Below w1.heap.size w1 wx) (by kernel_rfl) (by kernel_rfl) (below_drew (Below.refl _ _)) ?_;simp only;repeat
     (first|go_big_quiet_skip|(go_big_quiet_want;go_big_quiet_op;go_big_quiet_on)|
       (refine wpQuiet_step (fun K hK=>?_);go_simp;first|(refine hK _ ?_;clear hK K)|
         (apply Exists.intro;refine⟨fun wx hx=>?_,hK _ ?_⟩;·(obtain⟨q0,q1,q2,q3,q4,q5,q6,q7,d2,d4⟩:=HSS.out wx hx;go_simp;first|done|rfl|exact⟨rfl,rfl⟩|(refine(HMAY2.out wx).mono ?_;rintro r w2⟨hr,hb2⟩;exact⟨hr,hx.trans (hb2.mono hx.size)⟩)|(refine(HIN2.out wx hx).mono ?_;rintro r w2⟨hr,hw2⟩;exact⟨hr,by rw[hw2];exact hx⟩))
          clear hK K)))
    refine wpQuiet_nil ?_;intro w2 hb2;have hbw2:Below w.heap.size w w2:=hb1.trans (hb2.mono (by have:=HS1.out;omega));clear e0 e1 e2 e3 e4 e5 e6 e7 c0 c1 c2 c3 c4;obtain⟨g0,g1,g2,g3,g4,g5,g6,g7⟩:=HE1.out.below hb2 (by have:=HS1.out;omega);obtain⟨d0,d1,d2,d3,d4⟩:=HC1.out.below hb2 (by have:=HS1.out;omega);have HHAS:=qH (show∀q,Calls Tryz.prog 30 #[.slice Ah R.length ch,.string ⟨e.src.toArray⟩,.int .i64 e.num] (w2.drewN q) fun r w'=>r=.returned (.bool (hadB x.had e.src e.num))∧w'=w2.drewN q from fun q=>by rw[←had_dec HOK.out HKEY.out];exact rhas_any (w2.drewN q) S Ah R.length ch R (HRH.out.stay (F:=fun _=>False) (Keep.of_below (below_drewN hbw2 q)) (fun _ h=>h.elim)) (by omega) e.src e.num (fun q hq=>by have:=HROWS.out q hq;omega));generalize hadB x.had e.src e.num=hb at*;clear HE1 HC1;cases hb;·go_wp2;go_quiet((go_at_call 30;exact Calls.quiet_of_same (HHAS.out _)));go_wp2;go_ret;exact⟨ret_int (by rw[HV.out];rfl),below_drewN hbw2 _⟩
    ·go_wp2;go_quiet((go_at_call 30;exact Calls.quiet_of_same (HHAS.out _)));go_wp2;go_ret;exact⟨ret_int (by rw[HV.out];rfl),below_drewN hbw2 _⟩
   ·have HV:=qH (show x.verdict e=3 by rw[HVD2.out,hk14];rfl);clear HVD2;refine wp_region_quiet (C:=fun wx=>Below w1.heap.size w1 wx) (by kernel_rfl) (by kernel_rfl) (below_drew (Below.refl _ _)) ?_;simp only;repeat
     (first|go_big_quiet_skip|(go_big_quiet_want;go_big_quiet_op;go_big_quiet_on)|
       (refine wpQuiet_step (fun K hK=>?_);go_simp;first|(refine hK _ ?_;clear hK K)|
         (apply Exists.intro;refine⟨fun wx hx=>?_,hK _ ?_⟩;·(obtain⟨q0,q1,q2,q3,q4,q5,q6,q7,d2,d4⟩:=HSS.out wx hx;go_simp;first|done|rfl|exact⟨rfl,rfl⟩|(refine(HMAY2.out wx).mono ?_;rintro r w2⟨hr,hb2⟩;exact⟨hr,hx.trans (hb2.mono hx.size)⟩)|(refine(HIN2.out wx hx).mono ?_;rintro r w2⟨hr,hw2⟩;exact⟨hr,by rw[hw2];exact hx⟩))
          clear hK K)))
    refine wpQuiet_nil ?_;intro w2 hb2;have hbw2:Below w.heap.size w w2:=hb1.trans (hb2.mono (by have:=HS1.out;omega));clear e0 e1 e2 e3 e4 e5 e6 e7 c0 c1 c2 c3 c4;go_wp2;go_ret;exact⟨ret_int HV.out.symm,hbw2⟩
theorem Hads.wide{w:World}{S T:Nat→Prop}{A:Option Addr}{n c:Nat}{R:List HRow}(h:Hads w S A n c R)(hT: ∀b,S b→T b):Hads w T A n c R:=⟨h.cel,fun q hq=>(h.row q hq).wide hT,h.vw.mono hT⟩
theorem RParts.wide{w:World}{S T:Nat→Prop}{N M:Nat}{x:Itk}{vh vt vl vg:Value}(h:RParts w S N x vh vt vl vg)(hT: ∀b,S b→T b)(hM:N≤M):RParts w T M x vh vt vl vg:=by
 refine⟨?_,?_,?_,?_⟩;·obtain⟨A,c,R,h1,h2,h3,h4,h5⟩:=h.had;exact⟨A,c,R,h1,h2.wide hT,h3,Nat.le_trans h4 hM,fun q hq=>Nat.le_trans (h5 q hq) hM⟩
 ·obtain⟨A,c,h1,h2,h3⟩:=h.taken;exact⟨A,c,h1,h2,h3.mono hT⟩
 ·obtain⟨A,c,h1,h2,h3⟩:=h.late;exact⟨A,c,h1,h2,h3.mono hT⟩
 ·obtain⟨A,c,gs,h1,h2,h3,h4,h5⟩:=h.gone;exact⟨A,c,gs,h1,h2,h3.mono hT,h4,Nat.le_trans h5 hM⟩
theorem RItk.wide{w:World}{bm bc N M:Nat}{S T:Nat→Prop}{x:Itk}(h:RItk w bm bc S N x)(hT: ∀b,S b→T b)(h1: ¬T bm)(h2: ¬T bc)(hl: ∀b,T b→b<w.heap.size)(hM:N≤M):RItk w bm bc T M x:=by obtain⟨vh,vt,vl,vg,hb,hp⟩:=h.blk;exact⟨⟨vh,vt,vl,vg,hb,hp.wide hT hM⟩,h.clk.wide hT h2 hl hM,h1,h.ne,h.ok,Nat.le_trans h.tl hM,Nat.le_trans h.ll hM⟩
theorem RItk.lt{w:World}{bm bc N:Nat}{S:Nat→Prop}{x:Itk}(h:RItk w bm bc S N x):bm<w.heap.size:=by obtain⟨vh,vt,vl,vg,hb,hp⟩:=h.blk;exact(Array.getElem?_eq_some_iff.1 hb).1
abbrev Newer(S:Nat→Prop)(w w':World):Nat→Prop:=fun b=>S b∨(w.heap.size≤b∧b<w'.heap.size)
theorem RItk.newer{w w':World}{bm bc N M:Nat}{S:Nat→Prop}{x:Itk}(h:RItk w bm bc S N x)(hb:Below w.heap.size w w')(hM:N≤M):RItk w' bm bc (Newer S w w') M x:=by
 have hl:=h.lt;have hc:=h.clk.lt;have hz:=hb.size;refine(h.up hb).wide (fun b h=>.inl h) ?_ ?_ ?_ hM
 ·rintro(h'|h');·exact h.ns h'
  ·omega
 ·rintro(h'|h');·exact h.clk.ns h'
  ·omega
 ·rintro b(h'|h');·have:=h.clk.low b h';omega
  ·exact h'.2
theorem Evs.at_stay{w w':World}{T F:Nat→Prop}{A:Option Addr}{n c:Nat}{es:List Ev}(h:Evs w w.heap.size A n c es)(hv:VwIn T A n)(hk:Keep F w w')(hF: ∀b,F b→ ¬T b):Evs w' w'.heap.size A n c es:=Cel.stay h hv hk.size (fun b off hb hlt=>hk.cell (p:=⟨b,off,none⟩) hlt (fun hf=>hF _ hf hb))
theorem Strs.at_stay{w w':World}{T F:Nat→Prop}{A:Option Addr}{n c:Nat}{ss:List (List UInt8)}(h:Strs w w.heap.size A n c ss)(hv:VwIn T A n)(hk:Keep F w w')(hF: ∀b,F b→ ¬T b):Strs w' w'.heap.size A n c ss:=Cel.stay h hv hk.size (fun b off hb hlt=>hk.cell (p:=⟨b,off,none⟩) hlt (fun hf=>hF _ hf hb))
section
variable{w:World}{bm bc N:Nat}{T:Nat→Prop}{x:Itk}
theorem keepSet(w:World)(bm o:Nat)(v:Value):Keep (·=bm) w (w.setCell ⟨bm,o,none⟩ v):=(Keep.refl (fun b=>b=bm) w).setCell (p:=⟨bm,o,none⟩) (fun _=>rfl) v
theorem RItk.hadSet(h:RItk w bm bc T N x){A:Option Addr}{c:Nat}{R:List HRow}{m:Had}(hh:Hads w T A R.length c R)(hk:keysH R=m.map fun p=>(p.1,nums p.2))(hl:R.length≤N)(hr: ∀q∈R,q.2.1.length≤N)(hok:HadOk m):RItk (w.setCell ⟨bm,1,none⟩ (.slice A R.length c)) bm bc T N {x with had:=m}:=by
 obtain⟨vh,vt,vl,vg,hb,hp⟩:=h.blk;have hK:=keepSet w bm 1 (.slice A R.length c);have hF: ∀b,b=bm→ ¬T b:=fun b e=>by subst e;exact h.ns
 have hp':=hp.stay hK hF;exact⟨⟨.slice A R.length c,vt,vl,vg,heap_set_row hb,⟨⟨A,c,R,rfl,hh.stay hK hF,hk,hl,hr⟩,hp'.taken,hp'.late,hp'.gone⟩⟩,h.clk.stay hK (fun b e=>⟨hF b e,by rw[e];exact h.ne⟩),h.ns,h.ne,hok,h.tl,h.ll⟩
theorem RItk.takenSet(h:RItk w bm bc T N x){A:Option Addr}{c:Nat}{es:List Ev}(hh:Evs w w.heap.size A es.length c es)(hv:VwIn T A es.length)(hl:es.length≤N):RItk (w.setCell ⟨bm,2,none⟩ (.slice A es.length c)) bm bc T N {x with taken:=es}:=by
 obtain⟨vh,vt,vl,vg,hb,hp⟩:=h.blk;have hK:=keepSet w bm 2 (.slice A es.length c);have hF: ∀b,b=bm→ ¬T b:=fun b e=>by subst e;exact h.ns
 have hp':=hp.stay hK hF;exact⟨⟨vh,.slice A es.length c,vl,vg,heap_set_row hb,⟨hp'.had,⟨A,c,rfl,hh.at_stay hv hK hF,hv⟩,hp'.late,hp'.gone⟩⟩,h.clk.stay hK (fun b e=>⟨hF b e,by rw[e];exact h.ne⟩),h.ns,h.ne,h.ok,hl,h.ll⟩
theorem RItk.lateSet(h:RItk w bm bc T N x){A:Option Addr}{c:Nat}{es:List Ev}(hh:Evs w w.heap.size A es.length c es)(hv:VwIn T A es.length)(hl:es.length≤N):RItk (w.setCell ⟨bm,3,none⟩ (.slice A es.length c)) bm bc T N {x with late:=es}:=by
 obtain⟨vh,vt,vl,vg,hb,hp⟩:=h.blk;have hK:=keepSet w bm 3 (.slice A es.length c);have hF: ∀b,b=bm→ ¬T b:=fun b e=>by subst e;exact h.ns
 have hp':=hp.stay hK hF;exact⟨⟨vh,vt,.slice A es.length c,vg,heap_set_row hb,⟨hp'.had,hp'.taken,⟨A,c,rfl,hh.at_stay hv hK hF,hv⟩,hp'.gone⟩⟩,h.clk.stay hK (fun b e=>⟨hF b e,by rw[e];exact h.ne⟩),h.ns,h.ne,h.ok,h.tl,hl⟩
theorem RItk.goneSet(h:RItk w bm bc T N x){A:Option Addr}{c:Nat}{gs g:List (List UInt8)}(hh:Strs w w.heap.size A gs.length c gs)(hv:VwIn T A gs.length)(hr:Rising gs g)(hl:gs.length≤N):RItk (w.setCell ⟨bm,4,none⟩ (.slice A gs.length c)) bm bc T N {x with gone:=g}:=by
 obtain⟨vh,vt,vl,vg,hb,hp⟩:=h.blk;have hK:=keepSet w bm 4 (.slice A gs.length c);have hF: ∀b,b=bm→ ¬T b:=fun b e=>by subst e;exact h.ns
 have hp':=hp.stay hK hF;exact⟨⟨vh,vt,vl,.slice A gs.length c,heap_set_row hb,⟨hp'.had,hp'.taken,hp'.late,⟨A,c,gs,rfl,hh.at_stay hv hK hF,hv,hr,hl⟩⟩⟩,h.clk.stay hK (fun b e=>⟨hF b e,by rw[e];exact h.ne⟩),h.ns,h.ne,h.ok,h.tl,h.ll⟩
theorem RItk.cells(h:RItk w bm bc T N x): ∃vh vt vl vg,ICells w bm bc vh vt vl vg∧RParts w T N x vh vt vl vg∧(∀o,w.frozen? ⟨bm,o,none⟩=false):=by obtain⟨vh,vt,vl,vg,hb,hp⟩:=h.blk;exact⟨vh,vt,vl,vg,ICells.of hb,hp,fun o=>frozen_of_row w bm o _ _ hb⟩
end
def RDeeds(w:World)(bm bc N:Nat)(S:Nat→Prop)(x:Itk)(w':World):Prop:= ∃S',RItk w' bm bc S' N x∧Keep (fun b=>b=bm∨b=bc) w w'∧ ∀q,S' q→S q∨w.heap.size≤q
/-!### plain -/
theorem putB_mapF{α β:Type}(f:α→β)(m:Row α)(k:List UInt8)(v:α):(putB k v m).map (fun p=>(p.1,f p.2))=putB k (f v) (m.map fun p=>(p.1,f p.2)):=by unfold putB;rw[insB_mapK (fun p=>f p.2)];congr 1;rw[List.filter_map];rfl
theorem keys_put{R R':List HRow}{m:Had}(hok:HadOk m)(h:keysH R=m.map fun p=>(p.1,nums p.2)){s:List UInt8}{n:Int}(hp:putsB m s n=true)(h':keysH R'=putB s (insN n (rowH R s)) (keysH R)):keysH R'=(putH m s n).map fun p=>(p.1,nums p.2):=by unfold putsB at hp;simp only[Bool.and_eq_true,decide_eq_true_eq,Bool.not_eq_true']at hp;rw[h',row_find R m h s,h];unfold putH;rw[putB_mapF,nums_put (hok.row s) hp.2 hp.1.1.2 hp.1.2]
theorem rows_put{R R':List HRow}{s:List UInt8}{v:List Int}{N:Nat}(h':keysH R'=putB s v (keysH R))(hR: ∀q∈R,q.2.1.length≤N)(hv:v.length≤N): ∀q∈R',q.2.1.length≤N:=fun q hq=>by
 have hm:(q.1,q.2.1)∈keysH R':=List.mem_map.2 ⟨q,hq,rfl⟩;rw[h']at hm;rcases putB_mem.1 hm with e|⟨hm,_⟩;·injection e with _ e;rw[e];exact hv
 ·obtain⟨q',hq',e⟩:=List.mem_map.1 hm;injection e with _ e;rw[←e];exact hR q' hq'
theorem rowH_len{R:List HRow}{N:Nat}(hR: ∀q∈R,q.2.1.length≤N)(s:List UInt8):(rowH R s).length≤N:=by unfold rowH;cases hf:R.find? fun q=>q.1==s with|none=>simp|some q=>exact hR q (List.mem_of_find?_eq_some hf)
theorem had_up{R:List HRow}{m:Had}(hok:HadOk m)(h:keysH R=m.map fun p=>(p.1,nums p.2)):RowUp (keysH R):=by rw[h];exact List.Pairwise.map _ (fun _ _ h=>h) hok.up
theorem lt_of_not{a s:List UInt8}(h1: ¬a<s)(h2:a≠s):s<a:=by
 rcases bb_total h2 with h|h;·rw[←blbb2,bytesLess_eq]at h;exact absurd (of_decide_eq_true h) h1
 ·rw[←blbb2,bytesLess_eq]at h;exact of_decide_eq_true h
theorem drop_up{s:List UInt8}: ∀{l:List (List UInt8)},l.Pairwise (·< ·)→s∉l→ ∀y∈l.dropWhile (fun x=>Op.bytesLess x s),s<y
 |[],_,_,y,hy=>by simp at hy
 |a::t,h,hn,y,hy=>by
  obtain⟨h1,h2⟩:=List.pairwise_cons.1 h;have hna:a≠s:=fun e=>hn (by simp[e]);by_cases ha:Op.bytesLess a s=true;·rw[List.dropWhile_cons_of_pos (p:=fun x=>Op.bytesLess x s) ha]at hy;exact drop_up h2 (fun h'=>hn (by simp[h'])) y hy
  ·rw[List.dropWhile_cons_of_neg (p:=fun x=>Op.bytesLess x s) ha]at hy;have hsa:s<a:=lt_of_not (fun h'=>ha (by rw[bytesLess_eq];exact decide_eq_true h')) hna;rcases List.mem_cons.1 hy with rfl|hy;·exact hsa
   ·exact List.lt_trans hsa (h1 y hy)
theorem putT_rising{gs g:List (List UInt8)}(h:Rising gs g)(s:List UInt8):Rising (putT gs s) (s::g):=by
 unfold putT;by_cases hin:s∈gs
 ·rw[if_pos hin];refine⟨h.1,fun y=>?_⟩;rw[h.2 y,List.mem_cons];constructor;·exact fun h'=>.inr h'
  ·rintro(rfl|h');·exact(h.2 _).1 hin
   ·exact h'
 ·rw[if_neg hin];have h0:gs.takeWhile (fun x=>Op.bytesLess x s)++gs.dropWhile (fun x=>Op.bytesLess x s)=gs:=List.takeWhile_append_dropWhile;have hd:=drop_up h.1 hin;have hp:=h.1;rw[←h0]at hp;obtain⟨u1,u2,u3⟩:=List.pairwise_append.1 hp;have ht: ∀a∈gs.takeWhile (fun x=>Op.bytesLess x s),a<s:=fun a ha=>by have:=List.all_eq_true.1 List.all_takeWhile a ha;rw[bytesLess_eq]at this;exact of_decide_eq_true this
  refine⟨List.pairwise_append.2 ⟨u1,List.pairwise_cons.2 ⟨hd,u2⟩,fun a ha b hb=>?_⟩,fun y=>?_⟩
  ·rcases List.mem_cons.1 hb with rfl|hb;·exact ht a ha
   ·exact u3 a ha b hb
  ·have hm:y∈gs↔y∈g:=h.2 y;rw[←h0]at hm;simp only[List.mem_append,List.mem_cons]at hm⊢;rw[←hm];constructor;·rintro(h|h|h)<;>simp[h]
   ·rintro(h|h|h)<;>simp[h]
theorem putT_len(gs:List (List UInt8))(s:List UInt8):(putT gs s).length≤gs.length+1:=by
 unfold putT;split;·omega
 ·have h0:gs.takeWhile (fun x=>Op.bytesLess x s)++gs.dropWhile (fun x=>Op.bytesLess x s)=gs:=List.takeWhile_append_dropWhile;have:=congrArg List.length h0;simp only[List.length_append,List.length_cons]at*;omega
end Go.Proofs.YtbejfgmdkmddnaaGreatDoor
