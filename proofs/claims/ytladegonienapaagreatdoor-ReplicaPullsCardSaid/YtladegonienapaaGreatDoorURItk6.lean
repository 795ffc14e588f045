/-
  Layer 8, the document's: what a store leaves; take.
-/
import Derived.Test.YtladegonienapaaGreatDoorURItk3
set_option maxRecDepth 100000
set_option maxHeartbeats 16000000
namespace Go.Proofs.YtladegonienapaaGreatDoor
open Go.RowKit Go.Maps Go.Sort
theorem CK(R:List fG)(m:eB)(h:bA R=m.map (fun p=>(p.1,nums p.2)))(s:List UInt8):kI R s=nums (aM m s):=by
 have h1:kI R s=(aC (bA R) s).getD []:=by unfold kI aC bA;rw[List.find?_map];simp only[Option.map_map,Function.comp_def]
 rw[h1,h];have h2:=rJ nums m s;rw[h2];unfold aM;cases aC m s<;>rfl
theorem Be{R:List fG}{m:eB}(hok:dm m)(h:bA R=m.map (fun p=>(p.1,nums p.2)))(s:List UInt8)(n:Int):decide (n∈kI R s)=hadB m s n:=by rw[CK R m h s];unfold hadB;rw[Bool.eq_iff_iff,decide_eq_true_iff,jW (hok.row s)]
structure lH(w:World)(bm bc:Nat)(vh vt vl vg:Value):Prop where
 c0:w.cell? ⟨bm,0,none⟩=some (.pointer (some ⟨bc,0,none⟩))
 c1:w.cell? ⟨bm,1,none⟩=some vh
 c2:w.cell? ⟨bm,2,none⟩=some vt
 c3:w.cell? ⟨bm,3,none⟩=some vl
 c4:w.cell? ⟨bm,4,none⟩=some vg
theorem lH.of{w:World}{bm bc:Nat}{vh vt vl vg:Value}(h:w.heap[bm]?=some (vO bc vh vt vl vg)):lH w bm bc vh vt vl vg:=by have key: ∀o,w.cell? ⟨bm,o,none⟩=_:=fun o=>cell_of_row w bm o _ _ (0,0) h;exact⟨(key 0).trans rfl,(key 1).trans rfl,(key 2).trans rfl,(key 3).trans rfl,(key 4).trans rfl⟩
theorem lH.below{w w':World}{B bm bc:Nat}{vh vt vl vg:Value}(h:lH w bm bc vh vt vl vg)(hb:Below B w w')(hB:bm<B):lH w' bm bc vh vt vl vg:=by have key: ∀o u,w.cell? ⟨bm,o,none⟩=some u→w'.cell? ⟨bm,o,none⟩=some u:=fun o u hu=>(hb.cell (p:=⟨bm,o,none⟩) hB).trans hu;exact⟨key _ _ h.c0,key _ _ h.c1,key _ _ h.c2,key _ _ h.c3,key _ _ h.c4⟩
theorem Fh(w:World)(bm bc:Nat)(S:Nat→Prop)(N:Nat)(x:aG)(h:dH w bm bc S N x)(hN:N≤80000)(e:Ev)(hs:e.small):Calls Tryz.prog 106 #[.pointer (some ⟨bm,0,none⟩),e.agg] w (wC w (x.verdict e)):=by
 have HH:=qH h;obtain⟨vh,vt,vl,vg,hblk,hparts⟩:=h.blk;have yI:bm<w.heap.size:=(Array.getElem?_eq_some_iff.1 hblk).1;have HIC:=qH (lH.of hblk);have HP:=qH hparts;have HS:=qH hs;have ZQ:=qS (x.verdict e=if(!aK e||(decide (e.per∈x.gone)&&(e.kind !=14))||decide (1048576≤x.taken.length))then 3 else if hadB x.had e.src e.num then 1 else 0) (rfl);have htl:=h.tl;have mQ:=qH h.ok;clear h hblk hparts hs;obtain⟨At,ct,uP,_,_⟩:=HP.o.taken;obtain⟨Ag,cg,gs,Yl,hgs,_,VJ,hgl⟩:=HP.o.gone;obtain⟨Ah,ch,R,hvh,hrh,hkey,hrl,hrows⟩:=HP.o.had;have OQ:=qH hgs;have HRH:=qH hrh;clear hgs hrh;subst uP Yl hvh;have hb1:Below w.heap.size w (w.alloc (au e)):=(Below.refl _ _).alloc (Nat.le_refl _) _;have sF:=qH (eD.new w e);have kD:=qH (HIC.o.below hb1 yI);have hs1:(w.alloc (au e)).heap.size=w.heap.size+1:=by simp
 have HGI:=qS (decide (e.per∈gs)=decide (e.per∈x.gone)) (by rw[decide_eq_decide];exact VJ.2 _);have HKEY:=qH hkey;have I8:=qH hrows;clear hkey hrows VJ;unfold Ev.agg;go_enter Tryz.func106,Tryz.ntmps106;obtain⟨e0,e1,e2,e3,e4,e5,e6,e7⟩:=sF.o;obtain⟨c0,c1,c2,c3,c4⟩:=kD.o;go_wp2;generalize w.alloc (au e)=w1 at*;have EK:=qS (∀W,Calls Tryz.prog 65 #[e.agg] W (Says (aK e) W)) (fun W=>CL W e HS.o);unfold Ev.agg at EK;have di:=qS (∀W,Below w1.heap.size w1 W→(fun wx=>wx.cell? ⟨w.heap.size,0,none⟩=some (.string ⟨e.src.toArray⟩)∧wx.cell? ⟨w.heap.size,1,none⟩=some (.int .i64 e.num)∧wx.cell? ⟨w.heap.size,2,none⟩=some (.int .i64 e.at_)∧wx.cell? ⟨w.heap.size,3,none⟩=some (.int .i64 e.kind)∧wx.cell? ⟨w.heap.size,4,none⟩=some (.string ⟨e.per.toArray⟩)∧wx.cell? ⟨w.heap.size,5,none⟩=some (.string ⟨e.item.toArray⟩)∧wx.cell? ⟨w.heap.size,6,none⟩=some (.int .i64 e.val)∧wx.cell? ⟨w.heap.size,7,none⟩=some (.string ⟨e.text.toArray⟩)∧wx.cell? ⟨bm,2,none⟩=some (.slice At x.taken.length ct)∧wx.cell? ⟨bm,4,none⟩=some (.slice Ag gs.length cg)) W) (fun W hW=>by obtain⟨q0,q1,q2,q3,q4,q5,q6,q7⟩:=sF.o.below hW (by omega);obtain⟨d0,d1,d2,d3,d4⟩:=kD.o.below hW (by omega);exact⟨q0,q1,q2,q3,q4,q5,q6,q7,d2,d4⟩);have oI:=qH hs1;clear hs1;generalize hmb:aK e=mb at*;cases mb
 ·have HV:=qS (x.verdict e=3) (by rw[ZQ.o];rfl);clear hmb;refine wp_region_quiet (C:=fun wx=>Below w1.heap.size w1 wx) (by kernel_rfl) (by kernel_rfl) (aA (Below.refl _ _)) ?_;simp only;repeat
   (first|go_big_quiet_skip|(go_big_quiet_want;go_big_quiet_op;go_big_quiet_on)|
     (refine wpQuiet_step (fun K hK=>?_);go_simp;first|(refine hK _ ?_;clear hK K)|
       (apply Exists.intro;refine⟨fun wx hx=>?_,hK _ ?_⟩;·(obtain⟨q0,q1,q2,q3,q4,q5,q6,q7,d2,d4⟩:=di.o wx hx;go_simp;first|done|rfl|exact⟨rfl,rfl⟩|(refine(EK.o wx).mono ?_;rintro r w2⟨hr,hb2⟩;exact⟨hr,hx.trans (hb2.mono hx.size)⟩))
        clear hK K)))
  refine wpQuiet_nil ?_;intro w2 hb2;have hbw2:Below w.heap.size w w2:=hb1.trans (hb2.mono (by have:=oI.o;omega));clear e0 e1 e2 e3 e4 e5 e6 e7 c0 c1 c2 c3 c4;go_wp2;go_ret;exact⟨aY HV.o.symm,hbw2⟩
 ·have UE:=qS (∀W,Below w1.heap.size w1 W→Calls Tryz.prog 156 #[.slice Ag gs.length cg,.string ⟨e.per.toArray⟩] W fun r w'=>r=.returned (.bool (decide (e.per∈x.gone)))∧w'=W) (fun W hW=>by rw[←HGI.o];exact(zm W W.heap.size Ag gs.length cg gs (ax.more (ax.below OQ.o (hb1.trans (hW.mono (by have:=oI.o;omega)))) (by have:=oI.o;have:=hW.size;omega)) (by omega) e.per).mono fun _ _ h=>⟨h.1,h.2.symm⟩);have K7:=qS (x.verdict e=if(decide (e.per∈x.gone)&&(e.kind !=14))then 3 else if hadB x.had e.src e.num then 1 else 0) (by rw[ZQ.o,decide_eq_false (show¬1048576≤x.taken.length by omega)];simp);have hl1:decide (1048576≤(x.taken.length:Int))=false:=decide_eq_false (by omega);have hl2:decide (1048576≤x.taken.length)=false:=decide_eq_false (by omega);clear hmb ZQ;generalize decide (e.per∈x.gone)=gb at*;cases gb
  ·have HV:=qS (x.verdict e=if hadB x.had e.src e.num then 1 else 0) (by rw[K7.o];rfl);clear K7;refine wp_region_quiet (C:=fun wx=>Below w1.heap.size w1 wx) (by kernel_rfl) (by kernel_rfl) (aA (Below.refl _ _)) ?_;simp only;repeat
    (first|go_big_quiet_skip|(go_big_quiet_want;go_big_quiet_op;go_big_quiet_on)|
      (refine wpQuiet_step (fun K hK=>?_);go_simp;first|(refine hK _ ?_;clear hK K)|
        (apply Exists.intro;refine⟨fun wx hx=>?_,hK _ ?_⟩;·(obtain⟨q0,q1,q2,q3,q4,q5,q6,q7,d2,d4⟩:=di.o wx hx;go_simp;first|done|rfl|exact⟨rfl,rfl⟩|(refine(EK.o wx).mono ?_;rintro r w2⟨hr,hb2⟩;exact⟨hr,hx.trans (hb2.mono hx.size)⟩)|(refine(UE.o wx hx).mono ?_;rintro r w2⟨hr,hw2⟩;exact⟨hr,by rw[hw2];exact hx⟩))
         clear hK K)))
   refine wpQuiet_nil ?_;intro w2 hb2;have hbw2:Below w.heap.size w w2:=hb1.trans (hb2.mono (by have:=oI.o;omega));clear e0 e1 e2 e3 e4 e5 e6 e7 c0 c1 c2 c3 c4;obtain⟨g0,g1,g2,g3,g4,g5,g6,g7⟩:=sF.o.below hb2 (by have:=oI.o;omega);obtain⟨d0,d1,d2,d3,d4⟩:=kD.o.below hb2 (by have:=oI.o;omega);have Hl:=qS (∀q,Calls Tryz.prog 157 #[.slice Ah R.length ch,.string ⟨e.src.toArray⟩,.int .i64 e.num] (w2.drewN q) fun r w'=>r=.returned (.bool (hadB x.had e.src e.num))∧w'=w2.drewN q) (fun q=>by rw[←Be mQ.o HKEY.o];exact wY (w2.drewN q) S Ah R.length ch R (HRH.o.stay (F:=fun _=>False) (ah.of_below (below_drewN hbw2 q)) (fun _ h=>h.elim)) (by omega) e.src e.num (fun q hq=>by have:=I8.o q hq;omega));generalize hadB x.had e.src e.num=hb at*;clear sF kD;cases hb;·go_wp2;go_quiet((go_at_call 157;exact Calls.quiet_of_same (Hl.o _)));go_wp2;go_ret;exact⟨aY (by rw[HV.o];rfl),below_drewN hbw2 _⟩
   ·go_wp2;go_quiet((go_at_call 157;exact Calls.quiet_of_same (Hl.o _)));go_wp2;go_ret;exact⟨aY (by rw[HV.o];rfl),below_drewN hbw2 _⟩
  ·cases hk14:(e.kind !=14)
   ·have HV:=qS (x.verdict e=if hadB x.had e.src e.num then 1 else 0) (by rw[K7.o,hk14];rfl);clear K7;refine wp_region_quiet (C:=fun wx=>Below w1.heap.size w1 wx) (by kernel_rfl) (by kernel_rfl) (aA (Below.refl _ _)) ?_;simp only;repeat
     (first|go_big_quiet_skip|(go_big_quiet_want;go_big_quiet_op;go_big_quiet_on)|
       (refine wpQuiet_step (fun K hK=>?_);go_simp;first|(refine hK _ ?_;clear hK K)|
         (apply Exists.intro;refine⟨fun wx hx=>?_,hK _ ?_⟩;·(obtain⟨q0,q1,q2,q3,q4,q5,q6,q7,d2,d4⟩:=di.o wx hx;go_simp;first|done|rfl|exact⟨rfl,rfl⟩|(refine(EK.o wx).mono ?_;rintro r w2⟨hr,hb2⟩;exact⟨hr,hx.trans (hb2.mono hx.size)⟩)|(refine(UE.o wx hx).mono ?_;rintro r w2⟨hr,hw2⟩;exact⟨hr,by rw[hw2];exact hx⟩))
          clear hK K)))
    refine wpQuiet_nil ?_;intro w2 hb2;have hbw2:Below w.heap.size w w2:=hb1.trans (hb2.mono (by have:=oI.o;omega));clear e0 e1 e2 e3 e4 e5 e6 e7 c0 c1 c2 c3 c4;obtain⟨g0,g1,g2,g3,g4,g5,g6,g7⟩:=sF.o.below hb2 (by have:=oI.o;omega);obtain⟨d0,d1,d2,d3,d4⟩:=kD.o.below hb2 (by have:=oI.o;omega);have Hl:=qS (∀q,Calls Tryz.prog 157 #[.slice Ah R.length ch,.string ⟨e.src.toArray⟩,.int .i64 e.num] (w2.drewN q) fun r w'=>r=.returned (.bool (hadB x.had e.src e.num))∧w'=w2.drewN q) (fun q=>by rw[←Be mQ.o HKEY.o];exact wY (w2.drewN q) S Ah R.length ch R (HRH.o.stay (F:=fun _=>False) (ah.of_below (below_drewN hbw2 q)) (fun _ h=>h.elim)) (by omega) e.src e.num (fun q hq=>by have:=I8.o q hq;omega));generalize hadB x.had e.src e.num=hb at*;clear sF kD;cases hb;·go_wp2;go_quiet((go_at_call 157;exact Calls.quiet_of_same (Hl.o _)));go_wp2;go_ret;exact⟨aY (by rw[HV.o];rfl),below_drewN hbw2 _⟩
    ·go_wp2;go_quiet((go_at_call 157;exact Calls.quiet_of_same (Hl.o _)));go_wp2;go_ret;exact⟨aY (by rw[HV.o];rfl),below_drewN hbw2 _⟩
   ·have HV:=qS (x.verdict e=3) (by rw[K7.o,hk14];rfl);clear K7;refine wp_region_quiet (C:=fun wx=>Below w1.heap.size w1 wx) (by kernel_rfl) (by kernel_rfl) (aA (Below.refl _ _)) ?_;simp only;repeat
     (first|go_big_quiet_skip|(go_big_quiet_want;go_big_quiet_op;go_big_quiet_on)|
       (refine wpQuiet_step (fun K hK=>?_);go_simp;first|(refine hK _ ?_;clear hK K)|
         (apply Exists.intro;refine⟨fun wx hx=>?_,hK _ ?_⟩;·(obtain⟨q0,q1,q2,q3,q4,q5,q6,q7,d2,d4⟩:=di.o wx hx;go_simp;first|done|rfl|exact⟨rfl,rfl⟩|(refine(EK.o wx).mono ?_;rintro r w2⟨hr,hb2⟩;exact⟨hr,hx.trans (hb2.mono hx.size)⟩)|(refine(UE.o wx hx).mono ?_;rintro r w2⟨hr,hw2⟩;exact⟨hr,by rw[hw2];exact hx⟩))
          clear hK K)))
    refine wpQuiet_nil ?_;intro w2 hb2;have hbw2:Below w.heap.size w w2:=hb1.trans (hb2.mono (by have:=oI.o;omega));clear e0 e1 e2 e3 e4 e5 e6 e7 c0 c1 c2 c3 c4;go_wp2;go_ret;exact⟨aY HV.o.symm,hbw2⟩
theorem oH.wide{w:World}{S T:Nat→Prop}{A:Option Addr}{n c:Nat}{R:List fG}(h:oH w S A n c R)(hT: ∀b,S b→T b):oH w T A n c R:=⟨h.YA,fun q hq=>(h.row q hq).wide hT,h.vw.mono hT⟩
theorem oD.wide{w:World}{S T:Nat→Prop}{N M:Nat}{x:aG}{vh vt vl vg:Value}(h:oD w S N x vh vt vl vg)(hT: ∀b,S b→T b)(hM:N≤M):oD w T M x vh vt vl vg:=by
 refine⟨?_,?_,?_,?_⟩;·obtain⟨A,c,R,h1,h2,h3,h4,h5⟩:=h.had;exact⟨A,c,R,h1,h2.wide hT,h3,Nat.le_trans h4 hM,fun q hq=>Nat.le_trans (h5 q hq) hM⟩
 ·obtain⟨A,c,h1,h2,h3⟩:=h.taken;exact⟨A,c,h1,h2,h3.mono hT⟩
 ·obtain⟨A,c,h1,h2,h3⟩:=h.late;exact⟨A,c,h1,h2,h3.mono hT⟩
 ·obtain⟨A,c,gs,h1,h2,h3,h4,h5⟩:=h.gone;exact⟨A,c,gs,h1,h2,h3.mono hT,h4,Nat.le_trans h5 hM⟩
theorem dH.wide{w:World}{bm bc N M:Nat}{S T:Nat→Prop}{x:aG}(h:dH w bm bc S N x)(hT: ∀b,S b→T b)(h1: ¬T bm)(h2: ¬T bc)(hl: ∀b,T b→b<w.heap.size)(hM:N≤M):dH w bm bc T M x:=by obtain⟨vh,vt,vl,vg,hb,hp⟩:=h.blk;exact⟨⟨vh,vt,vl,vg,hb,hp.wide hT hM⟩,h.aI.wide hT h2 hl hM,h1,h.ne,h.ok,Nat.le_trans h.tl hM,Nat.le_trans h.ll hM⟩
theorem dH.lt{w:World}{bm bc N:Nat}{S:Nat→Prop}{x:aG}(h:dH w bm bc S N x):bm<w.heap.size:=by obtain⟨vh,vt,vl,vg,hb,hp⟩:=h.blk;exact(Array.getElem?_eq_some_iff.1 hb).1
abbrev I4(S:Nat→Prop)(w w':World):Nat→Prop:=fun b=>S b∨(w.heap.size≤b∧b<w'.heap.size)
theorem dH.newer{w w':World}{bm bc N M:Nat}{S:Nat→Prop}{x:aG}(h:dH w bm bc S N x)(hb:Below w.heap.size w w')(hM:N≤M):dH w' bm bc (I4 S w w') M x:=by
 have hl:=h.lt;have hc:=h.aI.lt;have hz:=hb.size;refine(h.up hb).wide (fun b h=>.inl h) ?_ ?_ ?_ hM
 ·rintro(h'|h');·exact h.ns h'
  ·omega
 ·rintro(h'|h');·exact h.aI.ns h'
  ·omega
 ·rintro b(h'|h');·have:=h.aI.low b h';omega
  ·exact h'.2
theorem gH.vY{w w':World}{T F:Nat→Prop}{A:Option Addr}{n c:Nat}{es:List Ev}(h:gH w w.heap.size A n c es)(hv:j4 T A n)(hk:ah F w w')(hF: ∀b,F b→ ¬T b):gH w' w'.heap.size A n c es:=ax.stay h hv hk.size (fun b off hb hlt=>hk.cell (p:=⟨b,off,none⟩) hlt (fun hf=>hF _ hf hb))
theorem Strs.vY{w w':World}{T F:Nat→Prop}{A:Option Addr}{n c:Nat}{ss:List (List UInt8)}(h:Strs w w.heap.size A n c ss)(hv:j4 T A n)(hk:ah F w w')(hF: ∀b,F b→ ¬T b):Strs w' w'.heap.size A n c ss:=ax.stay h hv hk.size (fun b off hb hlt=>hk.cell (p:=⟨b,off,none⟩) hlt (fun hf=>hF _ hf hb))
section
variable{w:World}{bm bc N:Nat}{T:Nat→Prop}{x:aG}
theorem jf(w:World)(bm o:Nat)(v:Value):ah (·=bm) w (w.setCell ⟨bm,o,none⟩ v):=(ah.refl (fun b=>b=bm) w).setCell (p:=⟨bm,o,none⟩) (fun _=>rfl) v
theorem dH.TG(h:dH w bm bc T N x){A:Option Addr}{c:Nat}{R:List fG}{m:eB}(hh:oH w T A R.length c R)(hk:bA R=m.map fun p=>(p.1,nums p.2))(hl:R.length≤N)(hr: ∀q∈R,q.2.1.length≤N)(hok:dm m):dH (w.setCell ⟨bm,1,none⟩ (.slice A R.length c)) bm bc T N {x with had:=m}:=by
 obtain⟨vh,vt,vl,vg,hb,hp⟩:=h.blk;have hK:=jf w bm 1 (.slice A R.length c);have hF: ∀b,b=bm→ ¬T b:=fun b e=>by subst e;exact h.ns
 have hp':=hp.stay hK hF;exact⟨⟨.slice A R.length c,vt,vl,vg,ae hb,⟨⟨A,c,R,rfl,hh.stay hK hF,hk,hl,hr⟩,hp'.taken,hp'.late,hp'.gone⟩⟩,h.aI.stay hK (fun b e=>⟨hF b e,by rw[e];exact h.ne⟩),h.ns,h.ne,hok,h.tl,h.ll⟩
theorem dH.Ck(h:dH w bm bc T N x){A:Option Addr}{c:Nat}{es:List Ev}(hh:gH w w.heap.size A es.length c es)(hv:j4 T A es.length)(hl:es.length≤N):dH (w.setCell ⟨bm,2,none⟩ (.slice A es.length c)) bm bc T N {x with taken:=es}:=by
 obtain⟨vh,vt,vl,vg,hb,hp⟩:=h.blk;have hK:=jf w bm 2 (.slice A es.length c);have hF: ∀b,b=bm→ ¬T b:=fun b e=>by subst e;exact h.ns
 have hp':=hp.stay hK hF;exact⟨⟨vh,.slice A es.length c,vl,vg,ae hb,⟨hp'.had,⟨A,c,rfl,hh.vY hv hK hF,hv⟩,hp'.late,hp'.gone⟩⟩,h.aI.stay hK (fun b e=>⟨hF b e,by rw[e];exact h.ne⟩),h.ns,h.ne,h.ok,hl,h.ll⟩
theorem dH.Qf(h:dH w bm bc T N x){A:Option Addr}{c:Nat}{es:List Ev}(hh:gH w w.heap.size A es.length c es)(hv:j4 T A es.length)(hl:es.length≤N):dH (w.setCell ⟨bm,3,none⟩ (.slice A es.length c)) bm bc T N {x with late:=es}:=by
 obtain⟨vh,vt,vl,vg,hb,hp⟩:=h.blk;have hK:=jf w bm 3 (.slice A es.length c);have hF: ∀b,b=bm→ ¬T b:=fun b e=>by subst e;exact h.ns
 have hp':=hp.stay hK hF;exact⟨⟨vh,vt,.slice A es.length c,vg,ae hb,⟨hp'.had,hp'.taken,⟨A,c,rfl,hh.vY hv hK hF,hv⟩,hp'.gone⟩⟩,h.aI.stay hK (fun b e=>⟨hF b e,by rw[e];exact h.ne⟩),h.ns,h.ne,h.ok,h.tl,hl⟩
theorem dH.Qz(h:dH w bm bc T N x){A:Option Addr}{c:Nat}{gs g:List (List UInt8)}(hh:Strs w w.heap.size A gs.length c gs)(hv:j4 T A gs.length)(hr:iK gs g)(hl:gs.length≤N):dH (w.setCell ⟨bm,4,none⟩ (.slice A gs.length c)) bm bc T N {x with gone:=g}:=by
 obtain⟨vh,vt,vl,vg,hb,hp⟩:=h.blk;have hK:=jf w bm 4 (.slice A gs.length c);have hF: ∀b,b=bm→ ¬T b:=fun b e=>by subst e;exact h.ns
 have hp':=hp.stay hK hF;exact⟨⟨vh,vt,vl,.slice A gs.length c,ae hb,⟨hp'.had,hp'.taken,hp'.late,⟨A,c,gs,rfl,hh.vY hv hK hF,hv,hr,hl⟩⟩⟩,h.aI.stay hK (fun b e=>⟨hF b e,by rw[e];exact h.ne⟩),h.ns,h.ne,h.ok,h.tl,h.ll⟩
theorem dH.cells(h:dH w bm bc T N x): ∃vh vt vl vg,lH w bm bc vh vt vl vg∧oD w T N x vh vt vl vg∧(∀o,w.frozen? ⟨bm,o,none⟩=false):=by obtain⟨vh,vt,vl,vg,hb,hp⟩:=h.blk;exact⟨vh,vt,vl,vg,lH.of hb,hp,fun o=>frozen_of_row w bm o _ _ hb⟩
end
def ja(w:World)(bm bc N:Nat)(S:Nat→Prop)(x:aG)(w':World):Prop:= ∃S',dH w' bm bc S' N x∧ah (fun b=>b=bm∨b=bc) w w'∧ ∀q,S' q→S q∨w.heap.size≤q
/-!### plain -/
theorem JX{α β:Type}(f:α→β)(m:Row α)(k:List UInt8)(v:α):(aL k v m).map (fun p=>(p.1,f p.2))=aL k (f v) (m.map fun p=>(p.1,f p.2)):=by unfold aL;rw[tC (fun p=>f p.2)];congr 1;rw[List.filter_map];rfl
theorem MO{R R':List fG}{m:eB}(hok:dm m)(h:bA R=m.map fun p=>(p.1,nums p.2)){s:List UInt8}{n:Int}(hp:nO m s n=true)(h':bA R'=aL s (eT n (kI R s)) (bA R)):bA R'=(nk m s n).map fun p=>(p.1,nums p.2):=by unfold nO at hp;simp only[Bool.and_eq_true,decide_eq_true_eq,Bool.not_eq_true']at hp;rw[h',CK R m h s,h];unfold nk;rw[JX,Mx (hok.row s) hp.2 hp.1.1.2 hp.1.2]
theorem Md{R R':List fG}{s:List UInt8}{v:List Int}{N:Nat}(h':bA R'=aL s v (bA R))(hR: ∀q∈R,q.2.1.length≤N)(hv:v.length≤N): ∀q∈R',q.2.1.length≤N:=fun q hq=>by
 have hm:(q.1,q.2.1)∈bA R':=List.mem_map.2 ⟨q,hq,rfl⟩;rw[h']at hm;rcases aJ.1 hm with e|⟨hm,_⟩;·injection e with _ e;rw[e];exact hv
 ·obtain⟨q',hq',e⟩:=List.mem_map.1 hm;injection e with _ e;rw[←e];exact hR q' hq'
theorem Me{R:List fG}{N:Nat}(hR: ∀q∈R,q.2.1.length≤N)(s:List UInt8):(kI R s).length≤N:=by unfold kI;cases hf:R.find? fun q=>q.1==s with|none=>simp|some q=>exact hR q (List.mem_of_find?_eq_some hf)
theorem TF{R:List fG}{m:eB}(hok:dm m)(h:bA R=m.map fun p=>(p.1,nums p.2)):bP (bA R):=by rw[h];exact List.Pairwise.map _ (fun _ _ h=>h) hok.up
theorem J4{a s:List UInt8}(h1: ¬a<s)(h2:a≠s):s<a:=by
 rcases jv h2 with h|h;·rw[←blbb2,bytesLess_eq]at h;exact absurd (of_decide_eq_true h) h1
 ·rw[←blbb2,bytesLess_eq]at h;exact of_decide_eq_true h
theorem IE{s:List UInt8}: ∀{l:List (List UInt8)},l.Pairwise (·< ·)→s∉l→ ∀y∈l.dropWhile (fun x=>Op.bytesLess x s),s<y
 |[],_,_,y,hy=>by simp at hy
 |a::t,h,hn,y,hy=>by
  obtain⟨h1,h2⟩:=List.pairwise_cons.1 h;have hna:a≠s:=fun e=>hn (by simp[e]);by_cases ha:Op.bytesLess a s=true;·rw[List.dropWhile_cons_of_pos (p:=fun x=>Op.bytesLess x s) ha]at hy;exact IE h2 (fun h'=>hn (by simp[h'])) y hy
  ·rw[List.dropWhile_cons_of_neg (p:=fun x=>Op.bytesLess x s) ha]at hy;have hsa:s<a:=J4 (fun h'=>ha (by rw[bytesLess_eq];exact decide_eq_true h')) hna;rcases List.mem_cons.1 hy with rfl|hy;·exact hsa
   ·exact List.lt_trans hsa (h1 y hy)
theorem Db{gs g:List (List UInt8)}(h:iK gs g)(s:List UInt8):iK (qz gs s) (s::g):=by
 unfold qz;by_cases hin:s∈gs
 ·rw[if_pos hin];refine⟨h.1,fun y=>?_⟩;rw[h.2 y,List.mem_cons];constructor;·exact fun h'=>.inr h'
  ·rintro(rfl|h');·exact(h.2 _).1 hin
   ·exact h'
 ·rw[if_neg hin];have h0:gs.takeWhile (fun x=>Op.bytesLess x s)++gs.dropWhile (fun x=>Op.bytesLess x s)=gs:=List.takeWhile_append_dropWhile;have hd:=IE h.1 hin;have hp:=h.1;rw[←h0]at hp;obtain⟨u1,u2,u3⟩:=List.pairwise_append.1 hp;have ht: ∀a∈gs.takeWhile (fun x=>Op.bytesLess x s),a<s:=fun a ha=>by have:=List.all_eq_true.1 List.all_takeWhile a ha;rw[bytesLess_eq]at this;exact of_decide_eq_true this
  refine⟨List.pairwise_append.2 ⟨u1,List.pairwise_cons.2 ⟨hd,u2⟩,fun a ha b hb=>?_⟩,fun y=>?_⟩
  ·rcases List.mem_cons.1 hb with rfl|hb;·exact ht a ha
   ·exact u3 a ha b hb
  ·have hm:y∈gs↔y∈g:=h.2 y;rw[←h0]at hm;simp only[List.mem_append,List.mem_cons]at hm⊢;rw[←hm];constructor;·rintro(h|h|h)<;>simp[h]
   ·rintro(h|h|h)<;>simp[h]
theorem Ml(gs:List (List UInt8))(s:List UInt8):(qz gs s).length≤gs.length+1:=by
 unfold qz;split;·omega
 ·have h0:gs.takeWhile (fun x=>Op.bytesLess x s)++gs.dropWhile (fun x=>Op.bytesLess x s)=gs:=List.takeWhile_append_dropWhile;have:=congrArg List.length h0;simp only[List.length_append,List.length_cons]at*;omega
end Go.Proofs.YtladegonienapaaGreatDoor
