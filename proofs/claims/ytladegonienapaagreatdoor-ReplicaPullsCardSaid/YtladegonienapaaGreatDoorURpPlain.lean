/-
  Layer 33, plain: of whoever is forgotten nothing counts, wherever it stood.
-/
import Derived.Test.YtladegonienapaaGreatDoorUItkOff0
import Derived.WalkSpells
set_option maxRecDepth 100000
set_option maxHeartbeats 16000000
namespace Go.Proofs.YtladegonienapaaGreatDoor
open Go.RowKit Go.Maps Go.Sort
theorem nQ{x:aG}{e:Ev}(h:x.refuses e=false):aK e=true∧(e.per∈x.gone→e.kind=14)∧hadB x.had e.src e.num=false:=by
 unfold aG.refuses aG.wrong at h;simp only[Bool.or_eq_false_iff,Bool.not_eq_false',Bool.and_eq_false_iff,decide_eq_false_iff_not]at h;refine⟨h.1.1.1,fun hg=>?_,h.2⟩;rcases h.1.1.2 with h'|h';·exact absurd hg h'
 ·simpa using h'
theorem fw.congr{w:World}{b n:Nat}{ks ks':List (List UInt8)}(h:fw w b n ks)(hk: ∀x,x∈ks↔x∈ks'):fw w b n ks':=by
 obtain⟨D,h1,h2,h3⟩:=h;refine⟨D,h1,h2,fun k=>?_⟩;have:decide (k∈ks')=decide (k∈ks):=by simp[hk]
 rw[this];exact h3 k
structure qO(P:Ev→Prop)(x:aG):Prop where
 taken: ∀e∈x.taken,P e
 late: ∀e∈x.late,P e
 gone: ∀p∈x.gone,∃e,P e∧e.per=p
 stay: ∀e,e∈x.taken∨e∈x.late→e.per∈x.gone→e.kind=14
 QA: ∀e∈x.taken,e.kind=14→e.per∈x.gone
theorem qO.new(P:Ev→Prop)(ag idle:Int):qO P (aG.new ag idle):=⟨fun e he=>by simp[aG.new]at he,fun e he=>by simp[aG.new]at he,fun e he=>by simp[aG.new]at he,fun e he=>by simp[aG.new]at he,fun e he=>by simp[aG.new]at he⟩
theorem qO.took{P:Ev→Prop}{x:aG}(h:qO P x){e:Ev}(he:P e)(hw:e.per∈x.gone→e.kind=14):qO P (x.took e):=by
 unfold aG.took;split
 ·rename_i hk;refine⟨fun a ha=>?_,fun a ha=>?_,fun p hp=>?_,fun a ha hg=>?_,fun a ha _=>?_⟩
  ·rcases iH.1 (List.mem_filter.1 ha).1 with rfl|ha;·exact he
   ·exact h.taken a ha
  ·exact h.late a (List.mem_filter.1 ha).1
  ·have hp':p∈e.per::x.gone:=hp;rcases List.mem_cons.1 hp' with rfl|hp';·exact⟨e,he,rfl⟩
   ·exact h.gone p hp'
  ·have hg':a.per∈e.per::x.gone:=hg;have hkeep:aN e.per a=true:=by rcases ha with ha|ha<;>exact(List.mem_filter.1 ha).2
   by_cases hp:a.per=e.per;·unfold aN at hkeep;simpa[hp]using hkeep
   ·have hg2:a.per∈x.gone:=by rcases List.mem_cons.1 hg' with h'|h';exact absurd h' hp;exact h'
    rcases ha with ha|ha
    ·rcases iH.1 (List.mem_filter.1 ha).1 with rfl|ha;·exact hk
     ·exact h.stay a (.inl ha) hg2
    ·exact h.stay a (.inr (List.mem_filter.1 ha).1) hg2
  ·show a.per∈e.per::x.gone;rcases iH.1 (List.mem_filter.1 ha).1 with rfl|ha';·simp
   ·exact List.mem_cons_of_mem _ (h.QA a ha' (by assumption))
 ·rename_i hk;refine⟨fun a ha=>?_,h.late,h.gone,fun a ha hg=>?_,fun a ha hk'=>?_⟩
  ·rcases iH.1 ha with rfl|ha;·exact he
   ·exact h.taken a ha
  ·rcases ha with ha|ha
   ·rcases iH.1 ha with rfl|ha;·exact hw hg
    ·exact h.stay a (.inl ha) hg
   ·exact h.stay a (.inr ha) hg
  ·rcases iH.1 ha with rfl|ha;·exact absurd hk' hk
   ·exact h.QA a ha hk'
theorem Kj(e:Ev)(l:List Ev):(dW e l).Perm (e::l):=by
 have h:l.takeWhile (fun a=>!decide (gu e a))++l.dropWhile (fun a=>!decide (gu e a))=l:=List.takeWhile_append_dropWhile;unfold dW;conv=>rhs;rw[←h]
 exact List.perm_middle
def GU(w:World)(x:aG)(r:Ending)(w':World):Prop:= ∃bi F,r=.returned (.pointer (some ⟨bi,0,none⟩))∧bN w' F bi 0 x∧Below w.heap.size w w'∧ ∀b,F b→w.heap.size≤b
theorem xy(w:World)(ag idle:Int):Calls Tryz.prog 41 #[.int .i64 ag,.int .i64 idle] w (GU w (aG.new ag idle)):=by
 have hmm:= @run_makeMap Tryz.prog;go_enter Tryz.func41,Tryz.ntmps41;go_wp2_with fail;refine(Gu w ag idle).mono ?_;rintro r w1⟨bc,bm,rfl,hc1,hbc,yI,hb1⟩;have kD:=qH hc1;have hs1:=hb1.size;clear hc1;go_wp2_with fail;refine(qI w1).mono ?_;rintro r w2⟨bs,bh,rfl,hh2,hbs,Yu,hb2⟩;have mR:=qH hh2;have ku:=qH (kD.o.up hb2);have hs2:=hb2.size;have hbw:Below w.heap.size w w2:=hb1.trans (hb2.mono hs1);have hcl:=ku.o.lt;have qV:=ku.o.map.lt;have hcl1:=kD.o.lt;have hml1:=kD.o.map.lt;have hsl:=hh2.lt bs (.inl rfl);have hhl:=hh2.lt bh (.inr rfl);clear hh2 hb1 hb2;go_wp2;go_ret;have hbl:Below w2.heap.size w2 (((w2.alloc (.map #[] 0)).alloc (.map #[] 0)).alloc (mE ⟨bc,bm,bs,bh,fun b=>b=bs∨b=bh,fun _=>.slice none 0 0,.slice none 0 0,.slice none 0 0,w2.heap.size,0,w2.heap.size+1,0⟩)):=(((Below.refl _ _).alloc (Nat.le_refl _) _).alloc (by simp) _).alloc (by simp;omega) _;have hsz:(((w2.alloc (.map #[] 0)).alloc (.map #[] 0)).alloc (mE ⟨bc,bm,bs,bh,fun b=>b=bs∨b=bh,fun _=>.slice none 0 0,.slice none 0 0,.slice none 0 0,w2.heap.size,0,w2.heap.size+1,0⟩)).heap.size=w2.heap.size+3:=by simp
 refine⟨w2.heap.size+2,fun b=>w.heap.size≤b∧b<w2.heap.size+3,rfl,⟨⟨bc,bm,bs,bh,fun b=>b=bs∨b=bh,fun _=>.slice none 0 0,.slice none 0 0,.slice none 0 0,w2.heap.size,0,w2.heap.size+1,0⟩,⟨?_,ku.o.up hbl,mR.o.up hbl,World.ownsRow_nil _ _ _ _,World.ownsRow_nil _ _ _ _,?_,?_,?_,?_,?_,?_,?_,?_,?_⟩,dU.new ag idle,Nat.le_refl _,Nat.le_refl _,?_,?_⟩,hbw.trans (hbl.mono hbw.size),fun b hb=>hb.1⟩;·have:=heap_alloc_new ((w2.alloc (.map #[] 0)).alloc (.map #[] 0)) (mE ⟨bc,bm,bs,bh,fun b=>b=bs∨b=bh,fun _=>.slice none 0 0,.slice none 0 0,.slice none 0 0,w2.heap.size,0,w2.heap.size+1,0⟩);simpa using this
 ·refine(gF.made w2).block ?_;show(((w2.alloc (.map #[] 0)).alloc (.map #[] 0)).alloc _).heap[w2.heap.size]?=_;rw[Below.heap_alloc _ _ _ (by simp;omega),Below.heap_alloc _ _ _ (by simp)]
 ·have:=fw.made (w2.alloc (.map #[] 0));have e:(w2.alloc (.map #[] 0)).heap.size=w2.heap.size+1:=by simp
  rw[e]at this;exact this.block (Below.heap_alloc _ _ _ (by simp))
 ·show bm≠w2.heap.size;omega
 ·show bm≠w2.heap.size+1;omega
 ·show w2.heap.size≠w2.heap.size+1;omega
 ·show¬(bm=bs∨bm=bh);omega
 ·show¬(w2.heap.size=bs∨w2.heap.size=bh);omega
 ·show¬(w2.heap.size+1=bs∨w2.heap.size+1=bh);omega
 ·intro b hb;cases hb
 ·intro b hb;rcases hb with hb|hb|hb|hb|hb|hb|hb|hb;·exact⟨by omega,by omega⟩
  ·have hb':b=bc:=hb;exact⟨by omega,by omega⟩
  ·have hb':b=bm:=hb;exact⟨by omega,by omega⟩
  ·have hb':b=bs∨b=bh:=hb;exact⟨by omega,by omega⟩
  ·cases hb
  ·cases hb
  ·have hb':b=w2.heap.size:=hb;exact⟨by omega,by omega⟩
  ·have hb':b=w2.heap.size+1:=hb;exact⟨by omega,by omega⟩
 ·intro b hb;rw[hsz];exact hb.2
theorem Km(w:World)(F:Nat→Prop)(bi N:Nat)(x:aG)(h:bN w F bi N x):Calls Tryz.prog 23 #[.pointer (some ⟨bi,0,none⟩)] w fun r w'=>r=.returned (.int .i64 x.aI.mark)∧w=w':=by obtain⟨A,hM,_⟩:=h;have HM:=qH hM;obtain⟨c0,c1,c2,c3,c4,c5,f2,f3,f4⟩:=hM.cells;clear hM;go_enter Tryz.func23,Tryz.ntmps23;go_wp2_with fail;refine(Dq w A.bc A.bm x.aI HM.o.aI).mono ?_;rintro r w1⟨rfl,rfl⟩;go_wp2;go_ret;exact⟨rfl,rfl⟩
def fM(w:World)(l:List Ev)(r:Ending)(w':World):Prop:= ∃v,r=.returned v∧bq w' w.heap.size v l∧Below w.heap.size w w'
theorem jN(w:World)(B:Option Addr)(n c:Nat)(es:List Ev)(h:gH w w.heap.size B n c es)(hn:n≤200000):Calls Tryz.prog 38 #[.slice B n c] w (fM w es):=by
 have q22: ∀(w:World)(a:Option Addr)(n c n' c':Nat),(binOp .eql 22 (.slice a n c) (.slice none n' c')).run Tryz.prog w=.ok (.bool a.isNone) w:=fun w a n c n' c'=>Lib.run_eql_slice_nil w _ _ a n c n' c' Tryz.underlying22;have HH:=qH h;clear h;have hlen:=HH.o.len;obtain⟨i0,hi0,hz0,hzs,hzb⟩:=info_parts jg;have HI:=qH hi0;have HZ0:=qH hz0;have HZ1:=qH hzs;have HZ2:=qH hzb;have OM:=qH hlen;clear hi0 hz0 hzs hzb hlen;cases B with
  |none=>
   have h0:n=0:=by
    rcases Nat.eq_zero_or_pos n with h|h;·exact h
    ·obtain⟨b,off,q,_⟩:=ax.cell HH.o h;cases q
   have HE:=qS (es=[]) (List.eq_nil_of_length_eq_zero (by rw[OM.o,h0]));subst h0;go_enter Tryz.func38,Tryz.ntmps38;go_wp2;go_ret;exact⟨_,rfl,by rw[HE.o];exact World.ownsRow_nil _ _ _ _,Below.refl _ _⟩
  |some a=>
   have hb0:Below w.heap.size w (w.alloc (.cells #[] 28)):=(Below.refl _ _).alloc (Nat.le_refl _) _;go_enter Tryz.func38,Tryz.ntmps38;go_wp2_with(at_builtin;refine aj (P:=Tryz.prog) rfl (.tmp 5) (.tmp 6) 22 rfl 28 i0 _ 8 96 Tryz.underlying22 HI.o HZ0.o HZ1.o HZ2.o rfl (by decide) w.heap.size _ 0 [] rfl ?c1 w.heap.size _ n c (ai es) rfl ?c2 ?c3 ?c4 ?c5 ?c6 ?_);case c1=>exact⟨rfl,.inr ⟨w.heap.size,0,#[],rfl,Nat.le_refl _,heap_alloc_new w _,Nat.le_refl _,Nat.zero_le _,rfl,rfl⟩⟩
   case c2=>exact ax.below HH.o hb0
   case c3=>intro u hu;simp only[ai,List.mem_flatMap]at hu;obtain⟨y,_,hy⟩:=hu;exact cells_one y u hy
   case c4=>unfold maxLen;omega
   case c5=>omega
   case c6=>simp
   intro v' w2 ho2 hg2 _;have dA:=qH ho2;have hbl:Below w.heap.size w w2:=hb0.grown hg2 (by simp) (fun k hk=>by simp[Value.ownBlock]at hk;omega);clear ho2 hg2;go_wp2;go_ret;refine⟨v',rfl,?_,hbl⟩;unfold bq;rw[OM.o];have:=dA.o;simpa using this
theorem Ar(w:World)(b1 b2 bi g off n c:Nat)(a:Ev)(m:Int)(k:Nat)(hk:k<n)(hc1:w.cell? ⟨b1,0,none⟩=some (.pointer (some ⟨bi,0,none⟩)))(hc2:w.cell? ⟨bi,2,none⟩=some (.slice (some ⟨g,off,none⟩) n c))(ha:l7 w g (off+k*8) a)(hm:w.cell? ⟨b2,0,none⟩=some (.int .i64 m)):Calls Tryz.prog 56 (#[.int .i64 k]++ #[.pointer (some ⟨b1,0,none⟩),.pointer (some ⟨b2,0,none⟩)]) w (Says (decide (m<a.at_)) w):=by
 show Calls Tryz.prog 56 #[.int .i64 k,.pointer (some ⟨b1,0,none⟩),.pointer (some ⟨b2,0,none⟩)] w (Says (decide (m<a.at_)) w);obtain⟨a0,a1,a2,a3,a4,a5,a6,a7⟩:=ha;have hk':(k:Int)<n:=by omega
 go_enter Tryz.func56,Tryz.ntmps56;go_wp2;go_quiet(fail);go_wp2;go_ret;exact⟨rfl,below_drewN (Below.refl _ _) _⟩
theorem Nq{w:World}{B n c k:Nat}{A:Option Addr}{es:List Ev}(h:gH w B A n c es)(hk:k≤n):gH w B A k c (es.take k):=by
 have hl:=h.len;refine⟨by rw[iI,List.length_take];omega,Nat.le_trans hk (ax.cap h),ax.max h,fun h0=>?_⟩;obtain⟨b,off,e,hb,hc⟩:=ax.cell h (by omega);refine⟨b,off,e,hb,fun i u hi=>hc i u ?_⟩;rw[←rO,List.getElem?_take]at hi;split at hi;·exact hi
 ·cases hi
theorem bq.down{w:World}{base base':Nat}{v:Value}{l:List Ev}(h:bq w base v l)(hb:base'≤base):bq w base' v l:=by
 refine⟨h.1,?_⟩;rcases h.2 with h'|⟨g,cap,cur,e,hg,r⟩;·exact .inl h'
 ·exact .inr ⟨g,cap,cur,e,Nat.le_trans hb hg,r⟩
def Ob(l:List Ev)(m:Int)(k:Nat):Prop:=k≤l.length∧(∀i(h:i<l.length),i<k→l[i].at_≤m)∧ ∀i(h:i<l.length),k≤i→m<l[i].at_
def EC(w:World)(x:aG)(r:Ending)(w':World):Prop:= ∃k v,Ob x.taken x.aI.mark k∧r=.returned v∧bq w' w.heap.size v (x.taken.take k)∧Below w.heap.size w w'
theorem Cu(w:World)(F:Nat→Prop)(bi N:Nat)(x:aG)(h:bN w F bi N x)(hN:N≤100000):Calls Tryz.prog 27 #[.pointer (some ⟨bi,0,none⟩)] w (EC w x):=by
 obtain⟨A,hM,hO,hnl,Kv,mW,vF⟩:=h;have HM:=qH hM;have HO:=qH hO;have hlt:bi<w.heap.size:=hM.lt (.inl rfl);have htl:=hO.taken;obtain⟨B,cp,uP,hcm⟩:=hM.taken.form;unfold maxLen at hcm;have bL:Below w.heap.size w (w.alloc (.cells #[.pointer (some ⟨bi,0,none⟩)] 31)):=(Below.refl _ _).alloc (Nat.le_refl _) _;obtain⟨c0,c1,c2,c3,c4,c5,f2,f3,f4⟩:=(hM.up bL).cells;rw[uP]at c2;clear hM hO mW vF;go_enter Tryz.func27,Tryz.ntmps27;go_wp2_with fail;have hB1:(w.alloc (.cells #[.pointer (some ⟨bi,0,none⟩)] 31)).cell? ⟨w.heap.size,0,none⟩=some (.pointer (some ⟨bi,0,none⟩)):=cell_of_row _ w.heap.size 0 _ _ (0,0) (heap_alloc_new w _);have hsA:(w.alloc (.cells #[.pointer (some ⟨bi,0,none⟩)] 31)).heap.size=w.heap.size+1:=by simp
 have oJ:=qH (HM.o.up bL);generalize w.alloc (.cells #[.pointer (some ⟨bi,0,none⟩)] 31)=w1 at*;refine(Dq w1 A.bc A.bm x.aI oJ.o.aI).mono ?_;rintro r w1'⟨rfl,rfl⟩;have hbi1:bi<w1.heap.size:=by omega
 have hw1:w.heap.size<w1.heap.size:=by omega
 go_wp2_with fail;have BQ:Below w1.heap.size w1 (w1.alloc (.cells #[.int .i64 x.aI.mark] 3)):=(Below.refl _ _).alloc (Nat.le_refl _) _;have HB2:=qS ((w1.alloc (.cells #[.int .i64 x.aI.mark] 3)).cell? ⟨w.heap.size+1,0,none⟩=some (.int .i64 x.aI.mark)) (by rw[←hsA];exact cell_of_row _ w1.heap.size 0 _ _ (0,0) (heap_alloc_new w1 _));have HB1:=qH ((BQ.cell (p:=⟨w.heap.size,0,none⟩) hw1).trans hB1);have hsB:(w1.alloc (.cells #[.int .i64 x.aI.mark] 3)).heap.size=w1.heap.size+1:=by simp
 have BK:=qH (oJ.o.up BQ);have hbw2:Below w.heap.size w (w1.alloc (.cells #[.int .i64 x.aI.mark] 3)):=bL.trans (BQ.mono bL.size);clear BQ c0 c1 c2 c3 c4 c5 f2 f3 f4 hB1 bL;generalize w1.alloc (.cells #[.int .i64 x.aI.mark] 3)=w2 at*;have UK:=qS (gH w2 w2.heap.size B x.taken.length cp x.taken) (by have:=BK.o.taken;rw[uP]at this;exact ax.aQ this);have hc22:w2.cell? ⟨bi,2,none⟩=some (.slice B x.taken.length cp):=by rw[←uP];exact BK.o.cells.c2
 have aaw:=qH hc22;clear hc22;refine(qo w2 56 #[.pointer (some ⟨w.heap.size,0,none⟩),.pointer (some ⟨w.heap.size+1,0,none⟩)] x.taken.length (fun i=>decide (x.aI.mark<(x.taken.getD i ⟨[],0,0,0,[],[],0,[]⟩).at_)) (by omega) (fun _ _=>by kernel_rfl) ?_ ?_).mono ?_
 ·intro w4 i hb4 hi;obtain⟨g,off,rfl,hg,hev⟩:=UK.o.ev i hi;have e':x.taken.getD i ⟨[],0,0,0,[],[],0,[]⟩=x.taken[i]:=by simp[List.getD,List.getElem?_eq_getElem hi]
  simp only[e'];exact Ar w4 _ _ bi g off _ cp _ _ i hi ((hb4.cell (p:=⟨w.heap.size,0,none⟩) (by show w.heap.size<_;omega)).trans HB1.o) ((hb4.cell (p:=⟨bi,2,none⟩) (by show bi<_;omega)).trans aaw.o) (hev.below hb4 hg) ((hb4.cell (p:=⟨w.heap.size+1,0,none⟩) (by show w.heap.size+1<_;omega)).trans HB2.o)
 ·intro i j hij hj hp;simp only[List.getD,List.getElem?_eq_getElem hj,List.getElem?_eq_getElem (show i<x.taken.length by omega),Option.getD_some,decide_eq_true_eq]at*;rcases Nat.lt_or_ge i j with hlt'|hge;·have:=(List.pairwise_iff_getElem.1 HO.o.sorted i j (by omega) hj hlt').at_;omega
  ·have:i=j:=by omega
   subst this;exact hp
 rintro r w3⟨k,rfl,hkl,h1,h2,hb3⟩;have HP:=qS (Ob x.taken x.aI.mark k) (⟨hkl,fun i hi hlt'=>by have:=h1 i hlt';simp only[List.getD,List.getElem?_eq_getElem hi,Option.getD_some,decide_eq_false_iff_not]at this;omega,fun i hi hge=>by have:=h2 i hge hi;simpa only[List.getD,List.getElem?_eq_getElem hi,Option.getD_some,decide_eq_true_eq]using this⟩);have hbw3:Below w.heap.size w w3:=hbw2.trans (hb3.mono hbw2.size);have LD:=qH (HM.o.up hbw3);have hb31:=(hb3.cell (p:=⟨w.heap.size,0,none⟩) (by show w.heap.size<_;omega)).trans HB1.o;have hc32:w3.cell? ⟨bi,2,none⟩=some (.slice B x.taken.length cp):=by rw[←uP];exact LD.o.cells.c2
 have Li:=qS (gH w3 w3.heap.size B x.taken.length cp x.taken) (by have:=LD.o.taken;rw[uP]at this;exact ax.aQ this);clear h1 h2 hb3 hbw2;have hkc:k≤cp:=by have:=ax.cap Li.o;omega
 have hBf:B=none∨ ∃g,B=some ⟨g,0,none⟩:=by
  have:=HM.o.taken;rw[uP]at this;rcases this.2 with⟨q,_⟩|⟨g,_,_,q,_⟩;·left;injection q
  ·right;exact⟨g,by injection q⟩
 have YO:=qS (gH w3 w3.heap.size B k cp (x.taken.take k)) (Nq Li.o hkl);rcases hBf with rfl|⟨g,rfl⟩;·go_wp2_with fail;refine(jN w3 none k cp (x.taken.take k) YO.o (by omega)).mono ?_;rintro r w5⟨v,rfl,ho5,hb5⟩;have lI:=qH ho5;have hbw5:Below w.heap.size w w5:=hbw3.trans (hb5.mono hbw3.size);have hs3:=hbw3.size;clear ho5 hb5 hb31 hc32;go_wp2;go_ret;exact⟨k,v,HP.o,rfl,lI.o.down hs3,hbw5⟩
 ·go_wp2_with fail;refine(jN w3 (some ⟨g,0,none⟩) k cp (x.taken.take k) YO.o (by omega)).mono ?_;rintro r w5⟨v,rfl,ho5,hb5⟩;have lI:=qH ho5;have hbw5:Below w.heap.size w w5:=hbw3.trans (hb5.mono hbw3.size);have hs3:=hbw3.size;clear ho5 hb5 hb31 hc32;go_wp2;go_ret;exact⟨k,v,HP.o,rfl,lI.o.down hs3,hbw5⟩
theorem wI(c:bu)(now:Int):(c.tick now).now=max c.now (bX now):=by unfold bu.tick;rw[CQ]
theorem wH(c:bu)(now:Int):(c.tick now).rise=c.tick now:=zl _
theorem Gb(c:bu)(s:List UInt8)(at_ now:Int):(c.hear s at_ now).rise=c.hear s at_ now:=by
 unfold bu.hear;split;·exact zl _
 ·exact wH c now
theorem M6(c:bu)(s:List UInt8)(at_ now:Int):(c.hear s at_ now).now=max c.now (bX now):=by
 unfold bu.hear;split;·unfold bu.heard;rw[CQ];exact wI c now
 ·exact wI c now
structure bH(x:aG):Prop where
 inv:qO (fun _=>True) x
 ok:dm x.had
 sorted:dC x.taken
 ids:(x.taken.map dM).Nodup
 kept: ∀e∈x.taken,hadB x.had e.src e.num=true
 may: ∀e,e∈x.taken∨e∈x.late→aK e=true
 Mf:x.aI.rise=x.aI
 now:0≤x.aI.now
theorem bH.new(ag idle:Int):bH (aG.new ag idle):=⟨qO.new _ _ _,dm.nil,List.Pairwise.nil,by simp[aG.new],fun e he=>by simp[aG.new]at he,fun e he=>by simp[aG.new]at he,by rfl,by simp[aG.new,bu.new]⟩
theorem bH.aI{x:aG}(h:bH x){c:bu}(h1:c.rise=c)(h2:0≤c.now):bH {x with aI:=c}:=⟨⟨h.inv.taken,h.inv.late,h.inv.gone,h.inv.stay,h.inv.QA⟩,h.ok,h.sorted,h.ids,h.kept,h.may,h1,h2⟩
theorem bH.hear{x:aG}(h:bH x)(e:Ev)(now:Int):bH (x.hear e now):=h.aI (Gb _ _ _ _) (by rw[M6];have:=h.now;omega)
theorem bH.took{x:aG}{e:Ev}(h:bH x)(hr:x.refuses e=false):bH (x.took e):=by
 obtain⟨hm,hg,hh⟩:=nQ hr;have hput:=AO hm hh;have VW:((dW e x.taken).map dM).Nodup:=by rw[((Kj e x.taken).map dM).nodup_iff,List.map_cons,List.nodup_cons];refine⟨fun hc=>?_,h.ids⟩;obtain⟨a,ha,hai⟩:=List.mem_map.1 hc;have:=h.kept a ha;unfold dM at hai;injection hai with h1 h2;rw[h1,h2,hh]at this;cases this
 have hkept: ∀a∈dW e x.taken,hadB (nk x.had e.src e.num) a.src a.num=true:=fun a ha=>by
  rw[Mq h.ok hput];rcases iH.1 ha with rfl|ha;·simp
  ·simp[h.kept a ha]
 have mG: ∀a∈dW e x.taken,aK a=true:=fun a ha=>by
  rcases iH.1 ha with rfl|ha;·exact hm
  ·exact h.may a (.inl ha)
 have hinv:=h.inv.took (e:=e) trivial hg;unfold aG.took at hinv⊢;split
 ·rename_i hk;rw[if_pos hk]at hinv;exact⟨hinv,h.ok.put hput,(kW h.sorted).filter _,(List.filter_sublist.map dM).nodup VW,fun a ha=>hkept a (List.mem_filter.1 ha).1,fun a ha=>by
   rcases ha with ha|ha;·exact mG a (List.mem_filter.1 ha).1
   ·exact h.may a (.inr (List.mem_filter.1 ha).1),h.Mf,h.now⟩
 ·rename_i hk;rw[if_neg hk]at hinv;exact⟨hinv,h.ok.put hput,kW h.sorted,VW,hkept,fun a ha=>ha.elim (mG a) (fun h'=>h.may a (.inr h')),h.Mf,h.now⟩
theorem bH.admits{x:aG}(h:bH x)(e:Ev):bH (x.admits e):=by
 unfold aG.admits;split;·exact h
 ·rename_i hr;exact(h.hear e _).took (show x.refuses e=false by simpa using hr)
theorem xz(w:World)(F:Nat→Prop)(bi N:Nat)(x:aG)(h:bN w F bi N x)(hN:N≤100000):Calls Tryz.prog 14 #[.pointer (some ⟨bi,0,none⟩)] w (fM w x.taken):=by
 obtain⟨A,hM,hO,_⟩:=h;have HM:=qH hM;have htl:=hO.taken;obtain⟨B,c,hv,hc⟩:=hM.taken.form;obtain⟨c0,c1,c2,c3,c4,c5,f2,f3,f4⟩:=hM.cells;rw[hv]at c2;clear hM hO;go_enter Tryz.func14,Tryz.ntmps14;go_wp2_with fail;have hev:gH w w.heap.size B x.taken.length c x.taken:=by have:=HM.o.taken;rw[hv]at this;exact ax.aQ this
 refine(jN w B _ c x.taken hev (by omega)).mono ?_;rintro r w1⟨v,rfl,ho,hb⟩;have HO:=qH ho;clear ho hev c0 c1 c2 c3 c4 c5 f2 f3 f4;go_wp2;go_ret;exact⟨v,rfl,HO.o,hb⟩
open Go.Shelf
theorem zF(w:World)(F:Nat→Prop)(bi N:Nat)(x:aG)(h:bN w F bi N x)(hN:N≤100000):Calls Tryz.prog 61 #[.pointer (some ⟨bi,0,none⟩)] w (fM w x.late):=by
 obtain⟨A,hM,hO,_⟩:=h;have HM:=qH hM;have htl:=hO.late;obtain⟨B,c,hv,hc⟩:=hM.late.form;obtain⟨c0,c1,c2,c3,c4,c5,f2,f3,f4⟩:=hM.cells;rw[hv]at c3;clear hM hO;go_enter Tryz.func61,Tryz.ntmps61;go_wp2_with fail;have hev:gH w w.heap.size B x.late.length c x.late:=by have:=HM.o.late;rw[hv]at this;exact ax.aQ this
 refine(jN w B _ c x.late hev (by omega)).mono ?_;rintro r w1⟨v,rfl,ho,hb⟩;have HO:=qH ho;clear ho hev c0 c1 c2 c3 c4 c5 f2 f3 f4;go_wp2;go_ret;exact⟨v,rfl,HO.o,hb⟩
theorem zG(w:World)(F:Nat→Prop)(bi N:Nat)(x:aG)(h:bN w F bi N x)(hN:N≤100000):Calls Tryz.prog 16 #[.pointer (some ⟨bi,0,none⟩)] w (EO w x.gone):=by
 obtain⟨A,hM,hO,_,Kv,_⟩:=h;obtain⟨c0,c1,c2,c3,c4,c5,f2,f3,f4⟩:=hM.cells;obtain⟨D,hD1,hD2,hD3⟩:=hM.gone;have HD:=qH hD1;have hDs:Maps.size D≤A.ng:=hD1.size_le;have hle:A.ng≤100000:=by omega
 clear hM hO hD1;refine(callsIn_wide (n:=6)).1 ?_;have Zi:Fence.wide.fn 40:=trivial;have Zh:Fence.wide.fn 39:=trivial;refine callsIn_of_wp Tryz.func16 rfl trivial ?_ rfl;simp only[Tryz.ntmps16,List.size_toArray,List.length_cons,List.length_nil,Nat.reduceAdd,Nat.reduceSub,Array.replicate_succ,Array.replicate_zero,List.push_toArray,List.append_toArray,List.nil_append,List.cons_append];gi_wp2_with fail;refine(Tryz.AP _ _).mono ?_;rintro e w2⟨rfl,rfl⟩;gi_wp2_with fail;refine(Tryz.lF A.bg A.ng D _ w HD.o (by unfold maxLen;omega) (by omega)).mono ?_;rintro e w3⟨v,ss,rfl,hS,hrow,hnil,hb3⟩;clear c0 c1 c2 c3 c4 c5 f2 f3 f4;gi_wp2_with fail;go_ret;obtain⟨ks,hk1,hk2⟩:=Dj x.gone;have hp:ks.Perm (strKeys D):=fw.perm HD.o (fun k=>(hD3 k).2) hk1 hk2;have ES:ss.Perm ks:=hS.trans hp.symm;have hnd:ss.Nodup:=ES.nodup_iff.2 hk1;have hr:=kR hnd (fun x=>ES.mem_iff.trans (hk2 x));have hlen:(ss.mergeSort (fun x y=>decide (x≤y))).length=ss.length:=List.length_mergeSort _;refine⟨v,ss.mergeSort (fun x y=>decide (x≤y)),rfl,hr,?_,?_⟩
 ·rw[hlen];refine⟨hrow.1,?_⟩;rcases hrow.2 with⟨e,hl⟩|⟨g,cap,cur,e,hb',hg,hrr⟩;·exact .inl ⟨e,hl⟩
  ·exact .inr ⟨g,cap,cur,e,by simp at hb';omega,hg,hrr⟩
 ·exact((Below.refl _ _).alloc (Nat.le_refl _) _).trans (hb3.mono (by simp))
def bE(y:aG)(l:List Ev):aG:=l.foldl aG.admits y
theorem uW(y:aG)(l:List Ev)(k:Nat)(hk:k<l.length):bE y (l.take (k+1))=(bE y (l.take k)).admits l[k]:=by unfold bE;rw[List.take_add_one,List.getElem?_eq_getElem hk,Option.toList_some,List.foldl_append];rfl
def gY(p:List UInt8)(e:Ev):Bool:=(e.per !=p)||(e.kind==14)
end Go.Proofs.YtladegonienapaaGreatDoor
