/-
  Layer 5: Rewrite's closure: which entries go.
-/
import Derived.Test.YtladegonienapaaGreatDoorUOpenEvs
import Derived.Test.YtladegonienapaaGreatDoorUJlRw
set_option maxRecDepth 100000
set_option maxHeartbeats 16000000
namespace Go.Proofs.YtladegonienapaaGreatDoor
open Go.RowKit Go.Maps Go.Sort
structure ve(F:Nat)(rc fo:Array Value)(kb:Ev→Bool)(I:List Ev→(Nat→Prop)→World→Prop):Prop where
 enter: ∀(args:Array Value)(w:World),(callFunc F args).run Tryz.prog w=.ok (.enter F args) w
 ask: ∀(W:World)(aq:List Ev)(H:Nat→Prop)(e:Ev),aq.length≤1000→I aq H W→aK e=true→Calls Tryz.prog F (rc.push e.agg++fo) W fun r W'=>r=.returned (.bool (kb e))∧ ∃H',I (aq++[e]) H' W'∧(∀b,H' b→H b∨W.heap.size≤b)∧ah H W W'
 keep: ∀aq H W W',I aq H W→W.heap.size≤W'.heap.size→(∀b,H b→W'.heap[b]?=W.heap[b]?)→I aq H W'
 lt: ∀aq H W,I aq H W→ ∀b,H b→b<W.heap.size
structure Rw(I:List Ev→(Nat→Prop)→World→Prop)(fv:Value)(G F H:Nat→Prop)(bj bd bt:Nat)(v:Value)(j:Jl)(aq:List Ev)(W:World):Prop where
 jl:gN W G F bj bd v j
 i:I aq H W
 c:W.cell? ⟨bt,0,none⟩=some fv
 mx:aW W
 hg: ∀b,H b→ ¬(G b∨F b)
 tg: ¬(G bt∨F bt∨H bt)
 ml: ¬(G 0∨F 0∨H 0)
section
variable{I:List Ev→(Nat→Prop)→World→Prop}{fv:Value}{kb:Ev→Bool}{f:Nat}{rc fo:Array Value}{G F H:Nat→Prop}{bj bd bt:Nat}{v:Value}{j:Jl}{aq:List Ev}{W W':World}
theorem Rw.blt(h:Rw I fv G F H bj bd bt v j aq W):bt<W.heap.size:=World.block_lt_of_cell? W ⟨bt,0,none⟩ h.c
theorem Rw.up(hk:ve f rc fo kb I)(h:Rw I fv G F H bj bd bt v j aq W)(hb:Below W.heap.size W W'):Rw I fv G F H bj bd bt v j aq W':=⟨h.jl.up hb,hk.keep _ _ _ _ h.i hb.size fun b hh=>hb.block b (hk.lt _ _ _ h.i b hh),(hb.cell (p:=⟨bt,0,none⟩) h.blt).trans h.c,h.mx.up hb,h.hg,h.tg,h.ml⟩
theorem aW.kp{F:Nat→Prop}{w w':World}(h:aW w)(hk:ah F w w')(hn: ¬F 0):aW w':=by obtain⟨m,hm⟩:=h;exact⟨m,(hk.cell (p:=⟨0,0,none⟩) (aW.lt ⟨m,hm⟩) hn).trans hm⟩
theorem Rw.asked{H':Nat→Prop}{aq':List Ev}(h:Rw I fv G F H bj bd bt v j aq W)(hi:I aq' H' W')(hH: ∀b,H' b→H b∨W.heap.size≤b)(hk:ah H W W'):Rw I fv G F H' bj bd bt v j aq' W':=by
 have hjl: ∀b,G b∨F b→b<W.heap.size:=fun b hb=>hb.elim (h.jl.dk.lt b) (h.jl.lt b);refine⟨h.jl.keep hk.size fun b hb=>hk.block b (hjl b hb) (fun hh=>h.hg b hh hb),hi,(hk.cell (p:=⟨bt,0,none⟩) h.blt (fun hh=>h.tg (.inr (.inr hh)))).trans h.c,h.mx.kp hk (fun hh=>h.ml (.inr (.inr hh))),fun b hb hg=>?_,fun hb=>?_,fun hb=>?_⟩
 ·rcases hH b hb with hh|hh;·exact h.hg b hh hg
  ·have:=hjl b hg;omega
 ·rcases hb with hb|hb|hb;·exact h.tg (.inl hb)
  ·exact h.tg (.inr (.inl hb))
  ·rcases hH _ hb with hh|hh;·exact h.tg (.inr (.inr hh))
   ·have:=h.blt;omega
 ·rcases hb with hb|hb|hb;·exact h.ml (.inl hb)
  ·exact h.ml (.inr (.inl hb))
  ·rcases hH _ hb with hh|hh;·exact h.ml (.inr (.inr hh))
   ·have:=h.mx.lt;omega
def yw(I:List Ev→(Nat→Prop)→World→Prop)(fv:Value)(G F H:Nat→Prop)(bj bd bt:Nat)(v:Value)(j:Jl)(aq:List Ev)(W:World)(b:Bool)(r:Ending)(W':World):Prop:=r=.returned (.bool b)∧ ∃H',Rw I fv G F H' bj bd bt v j aq W'∧(∀b,H' b→H b∨W.heap.size≤b)∧ah H W W'
theorem Nl(hk:ve f rc fo kb I)(Yt:fv=.func (.func f) rc fo)(h:Rw I fv G F H bj bd bt v j aq W)(haq:aq.length≤1000)(x:Option Ev)(hx: ∀e,x=some e→aK e=true):Calls Tryz.prog 57 #[xO x,.pointer (some ⟨bt,0,none⟩)] W (yw I fv G F H bj bd bt v j (aq++x.toList) W (jY kb x)):=by
 have hb0:Below W.heap.size W (W.alloc (bR x)):=(Below.refl _ _).alloc (Nat.le_refl _) _;have HB0:=qH hb0;have h1:=h.up hk hb0;have H1:=qH h1;obtain⟨f0,f1,f2,f3,f4,f5,f6,f7,f8⟩:=lD.new W x;have ct:=h1.c;rw[Yt]at ct;have hcall:=hk.enter;have HAS:=qH hk.ask;have SG:=qH haq;have HX:=qH hx;have HH:=qH h;have hagg: ∀e:Ev,e.agg=.agg #[.string ⟨e.src.toArray⟩,.int .i64 e.num,.int .i64 e.at_,.int .i64 e.kind,.string ⟨e.per.toArray⟩,.string ⟨e.item.toArray⟩,.int .i64 e.val,.string ⟨e.text.toArray⟩]:=fun _=>rfl;have HAG:=qH hagg;have hsz:W.heap.size≤(W.alloc (bR x)).heap.size:=HB0.o.size;clear h h1 hx hb0 hk hagg haq;go_enter Tryz.func57,Tryz.ntmps57;go_upto_region 1 with fail;generalize W.alloc (bR x)=w1 at*;cases x with
  |none=>have HR:=qS (yw I fv G F H bj bd bt v j (aq++(none:Option Ev).toList) W (jY kb none) (.returned (.bool false)) w1) (⟨rfl,H,by rw[Option.toList_none,List.append_nil];exact H1.o,fun _ h=>.inl h,ah.of_below HB0.o⟩);simp only[Option.isNone_none]at f8;clear f0 f1 f2 f3 f4 f5 f6 f7;go_wp2;go_ret;exact HR.o
  |some e=>
   simp only[dw,Option.getD_some,Option.isNone_some]at f0 f1 f2 f3 f4 f5 f6 f7 f8;have HC:=qH (HAS.o w1 aq H e SG.o H1.o.i (HX.o e rfl));rw[HAG.o]at HC;have jA:=qS (∀W' H',I (aq++[e]) H' W'→(∀b,H' b→H b∨w1.heap.size≤b)→ah H w1 W'→yw I fv G F H bj bd bt v j (aq++(some e).toList) W (jY kb (some e)) (.returned (.bool (!kb e))) W') (fun W' H' hi hH hkp=>by refine⟨rfl,H',H1.o.asked hi hH hkp,fun b hb=>(hH b hb).imp id (fun h=>by omega),(ah.of_below HB0.o).trans hkp (fun _ _ h=>h)⟩);go_wp2_with fail;with_reducible refine HC.o.mono ?_
   rintro r w2⟨rfl,H',hi,hH,hkp⟩;have HR:=qH (jA.o w2 H' hi hH hkp);clear hi hH hkp f0 f1 f2 f3 f4 f5 f6 f7 f8 ct hcall;generalize kb e=q at*;go_wp2;go_ret;exact HR.o
end
end Go.Proofs.YtladegonienapaaGreatDoor
