/-
  A world for the witness: the settled one, where the five tables and the two errors that the row lists hold what their initialisers lay; and what the row's list gives a walk.
-/
import Derived.Test.YtbejfgmdkmddnaaGreatDoorQItkOff0
import Derived.WalkSpells
import Derived.Test.YtbejfgmdkmddnaaGreatDoorQRClk1
import Derived.Test.YtbejfgmdkmddnaaGreatDoorQSets
import Derived.ProofKit
import Derived.OpenShut
import Derived.ShutString
import Derived.ChangeOld
import Derived.Deep.Slices
import Derived.SizedLaws
import Derived.Test.YtbejfgmdkmddnaaGreatDoorQClkLn2
import Derived.Stop.LaidErr
import Derived.Lib.LaidTab
import Derived.Lib.AppendIntMem
set_option maxRecDepth 100000
set_option maxHeartbeats 16000000
namespace Go.Proofs.YtbejfgmdkmddnaaGreatDoor
open Go.RowKit Go.Maps Go.Sort
def ItkNewPost(w:World)(x:Itk)(r:Ending)(w':World):Prop:= ∃bi F,r=.returned (.pointer (some ⟨bi,0,none⟩))∧ItkAt w' F bi 0 x∧Below w.heap.size w w'∧ ∀b,F b→w.heap.size≤b
theorem itknew_any(w:World)(slack idle:Int):Calls Tryz.prog 12 #[.int .i64 slack,.int .i64 idle] w (ItkNewPost w (Itk.new slack idle)):=by
 have hmm:= @run_makeMap Tryz.prog;go_enter Tryz.func12,Tryz.ntmps12;go_wp2_with fail;refine(clknew_any w slack idle).mono ?_;rintro r w1⟨bc,bm,rfl,hc1,hbc,hbm,hb1⟩;have HC1:=qH hc1;have hs1:=hb1.size;clear hc1;go_wp2_with fail;refine(hadnew_any w1).mono ?_;rintro r w2⟨bs,bh,rfl,hh2,hbs,hbh,hb2⟩;have HH2:=qH hh2;have HC2:=qH (HC1.out.up hb2);have hs2:=hb2.size;have hbw:Below w.heap.size w w2:=hb1.trans (hb2.mono hs1);have hcl:=HC2.out.lt;have hml:=HC2.out.map.lt;have hcl1:=HC1.out.lt;have hml1:=HC1.out.map.lt;have hsl:=hh2.lt bs (.inl rfl);have hhl:=hh2.lt bh (.inr rfl);clear hh2 hb1 hb2;go_wp2;go_ret;have hbl:Below w2.heap.size w2 (((w2.alloc (.map #[] 0)).alloc (.map #[] 0)).alloc (itkObj ⟨bc,bm,bs,bh,fun b=>b=bs∨b=bh,fun _=>.slice none 0 0,.slice none 0 0,.slice none 0 0,w2.heap.size,0,w2.heap.size+1,0⟩)):=(((Below.refl _ _).alloc (Nat.le_refl _) _).alloc (by simp) _).alloc (by simp;omega) _;have hsz:(((w2.alloc (.map #[] 0)).alloc (.map #[] 0)).alloc (itkObj ⟨bc,bm,bs,bh,fun b=>b=bs∨b=bh,fun _=>.slice none 0 0,.slice none 0 0,.slice none 0 0,w2.heap.size,0,w2.heap.size+1,0⟩)).heap.size=w2.heap.size+3:=by simp
 refine⟨w2.heap.size+2,fun b=>w.heap.size≤b∧b<w2.heap.size+3,rfl,⟨⟨bc,bm,bs,bh,fun b=>b=bs∨b=bh,fun _=>.slice none 0 0,.slice none 0 0,.slice none 0 0,w2.heap.size,0,w2.heap.size+1,0⟩,⟨?_,HC2.out.up hbl,HH2.out.up hbl,World.ownsRow_nil _ _ _ _,World.ownsRow_nil _ _ _ _,?_,?_,?_,?_,?_,?_,?_,?_,?_⟩,ItkOk.new slack idle,Nat.le_refl _,Nat.le_refl _,?_,?_⟩,hbw.trans (hbl.mono hbw.size),fun b hb=>hb.1⟩;·have:=heap_alloc_new ((w2.alloc (.map #[] 0)).alloc (.map #[] 0)) (itkObj ⟨bc,bm,bs,bh,fun b=>b=bs∨b=bh,fun _=>.slice none 0 0,.slice none 0 0,.slice none 0 0,w2.heap.size,0,w2.heap.size+1,0⟩);simpa using this
 ·refine(SetI.made w2).block ?_;show(((w2.alloc (.map #[] 0)).alloc (.map #[] 0)).alloc _).heap[w2.heap.size]?=_;rw[Below.heap_alloc _ _ _ (by simp;omega),Below.heap_alloc _ _ _ (by simp)]
 ·have:=SetB.made (w2.alloc (.map #[] 0));have e:(w2.alloc (.map #[] 0)).heap.size=w2.heap.size+1:=by simp
  rw[e]at this;exact this.block (Below.heap_alloc _ _ _ (by simp))
 ·show bm≠w2.heap.size;omega
 ·show bm≠w2.heap.size+1;omega
 ·show w2.heap.size≠w2.heap.size+1;omega
 ·show¬(bm=bs∨bm=bh);omega
 ·show¬(w2.heap.size=bs∨w2.heap.size=bh);omega
 ·show¬(w2.heap.size+1=bs∨w2.heap.size+1=bh);omega
 ·intro b hb;cases hb
 ·intro b hb;rcases hb with hb|hb|hb|hb|hb|hb|hb|hb;·exact⟨by omega,by omega⟩
  ·have hb':b=bc:=hb;exact⟨by omega,by omega⟩
  ·have hb':b=bm:=hb;exact⟨by omega,by omega⟩
  ·have hb':b=bs∨b=bh:=hb;exact⟨by omega,by omega⟩
  ·cases hb
  ·cases hb
  ·have hb':b=w2.heap.size:=hb;exact⟨by omega,by omega⟩
  ·have hb':b=w2.heap.size+1:=hb;exact⟨by omega,by omega⟩
 ·intro b hb;rw[hsz];exact hb.2
theorem imark_any(w:World)(F:Nat→Prop)(bi N:Nat)(x:Itk)(h:ItkAt w F bi N x):Calls Tryz.prog 56 #[.pointer (some ⟨bi,0,none⟩)] w fun r w'=>r=.returned (.int .i64 x.clk.mark)∧w=w':=by obtain⟨A,hM,_⟩:=h;have HM:=qH hM;obtain⟨c0,c1,c2,c3,c4,c5,f2,f3,f4⟩:=hM.cells;clear hM;go_enter Tryz.func56,Tryz.ntmps56;go_wp2_with fail;refine(mark_any w A.bc A.bm x.clk HM.out.clk).mono ?_;rintro r w1⟨rfl,rfl⟩;go_wp2;go_ret;exact⟨rfl,rfl⟩
def OwnPost(w:World)(l:List Ev)(r:Ending)(w':World):Prop:= ∃v,r=.returned v∧OwnE w' w.heap.size v l∧Below w.heap.size w w'
theorem clone_any(w:World)(B:Option Addr)(n c:Nat)(es:List Ev)(h:Evs w w.heap.size B n c es)(hn:n≤200000):Calls Tryz.prog 54 #[.slice B n c] w (OwnPost w es):=by
 have q22: ∀(w:World)(a:Option Addr)(n c n' c':Nat),(binOp .eql 22 (.slice a n c) (.slice none n' c')).run Tryz.prog w=.ok (.bool a.isNone) w:=fun w a n c n' c'=>Lib.run_eql_slice_nil w _ _ a n c n' c' Tryz.underlying22;have HH:=qH h;clear h;have hlen:=HH.out.len;obtain⟨i0,hi0,hz0,hzs,hzb⟩:=info_parts ev_info;have HI:=qH hi0;have HZ0:=qH hz0;have HZ1:=qH hzs;have HZ2:=qH hzb;have HLE:=qH hlen;clear hi0 hz0 hzs hzb hlen;cases B with
  |none=>
   have h0:n=0:=by
    rcases Nat.eq_zero_or_pos n with h|h;·exact h
    ·obtain⟨b,off,q,_⟩:=Cel.cell HH.out h;cases q
   have HE:=qH (show es=[]from List.eq_nil_of_length_eq_zero (by rw[HLE.out,h0]));subst h0;go_enter Tryz.func54,Tryz.ntmps54;go_wp2;go_ret;exact⟨_,rfl,by rw[HE.out];exact World.ownsRow_nil _ _ _ _,Below.refl _ _⟩
  |some a=>
   have hb0:Below w.heap.size w (w.alloc (.cells #[] 31)):=(Below.refl _ _).alloc (Nat.le_refl _) _;go_enter Tryz.func54,Tryz.ntmps54;go_wp2_with(at_builtin;refine wpList_app (P:=Tryz.prog) rfl (.tmp 5) (.tmp 6) 22 rfl 31 i0 _ 8 96 Tryz.underlying22 HI.out HZ0.out HZ1.out HZ2.out rfl (by decide) w.heap.size _ 0 [] rfl ?c1 w.heap.size _ n c (evCells es) rfl ?c2 ?c3 ?c4 ?c5 ?c6 ?_);case c1=>exact⟨rfl,.inr ⟨w.heap.size,0,#[],rfl,Nat.le_refl _,heap_alloc_new w _,Nat.le_refl _,Nat.zero_le _,rfl,rfl⟩⟩
   case c2=>exact Cel.below HH.out hb0
   case c3=>intro u hu;simp only[evCells,List.mem_flatMap]at hu;obtain⟨y,_,hy⟩:=hu;exact cells_one y u hy
   case c4=>unfold maxLen;omega
   case c5=>omega
   case c6=>simp
   intro v' w2 ho2 hg2 _;have HO2:=qH ho2;have hbl:Below w.heap.size w w2:=hb0.grown hg2 (by simp) (fun k hk=>by simp[Value.ownBlock]at hk;omega);clear ho2 hg2;go_wp2;go_ret;refine⟨v',rfl,?_,hbl⟩;unfold OwnE;rw[HLE.out];have:=HO2.out;simpa using this
theorem itick_any(w:World)(F:Nat→Prop)(bi N:Nat)(x:Itk)(h:ItkAt w F bi N x)(now:Int):Calls Tryz.prog 69 #[.pointer (some ⟨bi,0,none⟩),.int .i64 now] w (OfferPost w F bi N (x.tick now) (x.tick now).clk.mark):=by obtain⟨A,hM,hO,hnl,hng,hfoot,hFlt⟩:=h;have HM:=qH hM;have HO:=qH hO;have HFO:=qH hfoot;have HFL:=qH hFlt;obtain⟨c0,c1,c2,c3,c4,c5,f2,f3,f4⟩:=hM.cells;clear hM hO hfoot hFlt;go_enter Tryz.func69,Tryz.ntmps69;go_wp2_with fail;refine(tick_any w A.bc A.bm x.clk HM.out.clk now).mono ?_;rintro r w1⟨rfl,hc1,hk1⟩;obtain⟨hI1,_,hK1⟩:=ItkAt.setClk (N:=N) (M:=N) HM.out hnl hng (Nat.le_refl _) HFO.out HFL.out hc1 (hk1.mono (F:=fun b=>b=A.bc∨b=A.bm) (fun _ _ h=>.inl h)) (HO.out.tick now);have HD:=qH (show Deeds w F bi N (x.tick now) w1 from⟨F,hI1,hK1,fun b hb=>.inl hb⟩);clear hc1 hk1 hI1 hK1 c0 c1 c2 c3 c4 c5 f2 f3 f4;go_wp2;go_ret;exact⟨rfl,HD.out⟩
theorem settled1_any(w:World)(b1 b2 bi g off n c:Nat)(a:Ev)(m:Int)(k:Nat)(hk:k<n)(hc1:w.cell? ⟨b1,0,none⟩=some (.pointer (some ⟨bi,0,none⟩)))(hc2:w.cell? ⟨bi,2,none⟩=some (.slice (some ⟨g,off,none⟩) n c))(ha:EvAt w g (off+k*8) a)(hm:w.cell? ⟨b2,0,none⟩=some (.int .i64 m)):Calls Tryz.prog 123 (#[.int .i64 k]++ #[.pointer (some ⟨b1,0,none⟩),.pointer (some ⟨b2,0,none⟩)]) w (Says (decide (m<a.at_)) w):=by
 show Calls Tryz.prog 123 #[.int .i64 k,.pointer (some ⟨b1,0,none⟩),.pointer (some ⟨b2,0,none⟩)] w (Says (decide (m<a.at_)) w);obtain⟨a0,a1,a2,a3,a4,a5,a6,a7⟩:=ha;have hk':(k:Int)<n:=by omega
 go_enter Tryz.func123,Tryz.ntmps123;go_wp2;go_quiet(fail);go_wp2;go_ret;exact⟨rfl,below_drewN (Below.refl _ _) _⟩
theorem evs_take{w:World}{B n c k:Nat}{A:Option Addr}{es:List Ev}(h:Evs w B A n c es)(hk:k≤n):Evs w B A k c (es.take k):=by
 have hl:=h.len;refine⟨by rw[evCells_length,List.length_take];omega,Nat.le_trans hk (Cel.cap h),Cel.max h,fun h0=>?_⟩;obtain⟨b,off,e,hb,hc⟩:=Cel.cell h (by omega);refine⟨b,off,e,hb,fun i u hi=>hc i u ?_⟩;rw[←evCells_take,List.getElem?_take]at hi;split at hi;·exact hi
 ·cases hi
theorem OwnE.down{w:World}{base base':Nat}{v:Value}{l:List Ev}(h:OwnE w base v l)(hb:base'≤base):OwnE w base' v l:=by
 refine⟨h.1,?_⟩;rcases h.2 with h'|⟨g,cap,cur,e,hg,r⟩;·exact .inl h'
 ·exact .inr ⟨g,cap,cur,e,Nat.le_trans hb hg,r⟩
def SetAt(l:List Ev)(m:Int)(k:Nat):Prop:=k≤l.length∧(∀i(h:i<l.length),i<k→l[i].at_≤m)∧ ∀i(h:i<l.length),k≤i→m<l[i].at_
def SettledPost(w:World)(x:Itk)(r:Ending)(w':World):Prop:= ∃k v,SetAt x.taken x.clk.mark k∧r=.returned v∧OwnE w' w.heap.size v (x.taken.take k)∧Below w.heap.size w w'
theorem settled_any(w:World)(F:Nat→Prop)(bi N:Nat)(x:Itk)(h:ItkAt w F bi N x)(hN:N≤100000):Calls Tryz.prog 62 #[.pointer (some ⟨bi,0,none⟩)] w (SettledPost w x):=by
 obtain⟨A,hM,hO,hnl,hng,hfoot,hFlt⟩:=h;have HM:=qH hM;have HO:=qH hO;have hlt:bi<w.heap.size:=hM.lt (.inl rfl);have htl:=hO.taken;obtain⟨B,cp,hvt,hcm⟩:=hM.taken.form;unfold maxLen at hcm;have hbA:Below w.heap.size w (w.alloc (.cells #[.pointer (some ⟨bi,0,none⟩)] 25)):=(Below.refl _ _).alloc (Nat.le_refl _) _;obtain⟨c0,c1,c2,c3,c4,c5,f2,f3,f4⟩:=(hM.up hbA).cells;rw[hvt]at c2;clear hM hO hfoot hFlt;go_enter Tryz.func62,Tryz.ntmps62;go_wp2_with fail;have hB1:(w.alloc (.cells #[.pointer (some ⟨bi,0,none⟩)] 25)).cell? ⟨w.heap.size,0,none⟩=some (.pointer (some ⟨bi,0,none⟩)):=cell_of_row _ w.heap.size 0 _ _ (0,0) (heap_alloc_new w _);have hsA:(w.alloc (.cells #[.pointer (some ⟨bi,0,none⟩)] 25)).heap.size=w.heap.size+1:=by simp
 have HM1:=qH (HM.out.up hbA);generalize w.alloc (.cells #[.pointer (some ⟨bi,0,none⟩)] 25)=w1 at*;refine(mark_any w1 A.bc A.bm x.clk HM1.out.clk).mono ?_;rintro r w1'⟨rfl,rfl⟩;have hbi1:bi<w1.heap.size:=by omega
 have hw1:w.heap.size<w1.heap.size:=by omega
 go_wp2_with fail;have hbB:Below w1.heap.size w1 (w1.alloc (.cells #[.int .i64 x.clk.mark] 3)):=(Below.refl _ _).alloc (Nat.le_refl _) _;have HB2:=qH (show(w1.alloc (.cells #[.int .i64 x.clk.mark] 3)).cell? ⟨w.heap.size+1,0,none⟩=some (.int .i64 x.clk.mark)by rw[←hsA];exact cell_of_row _ w1.heap.size 0 _ _ (0,0) (heap_alloc_new w1 _));have HB1:=qH ((hbB.cell (p:=⟨w.heap.size,0,none⟩) hw1).trans hB1);have hsB:(w1.alloc (.cells #[.int .i64 x.clk.mark] 3)).heap.size=w1.heap.size+1:=by simp
 have HM2:=qH (HM1.out.up hbB);have hbw2:Below w.heap.size w (w1.alloc (.cells #[.int .i64 x.clk.mark] 3)):=hbA.trans (hbB.mono hbA.size);clear hbB c0 c1 c2 c3 c4 c5 f2 f3 f4 hB1 hbA;generalize w1.alloc (.cells #[.int .i64 x.clk.mark] 3)=w2 at*;have HEV:=qH (show Evs w2 w2.heap.size B x.taken.length cp x.taken by have:=HM2.out.taken;rw[hvt]at this;exact Cel.of_own this);have hc22:w2.cell? ⟨bi,2,none⟩=some (.slice B x.taken.length cp):=by rw[←hvt];exact HM2.out.cells.c2
 have HC22:=qH hc22;clear hc22;refine(search_any w2 123 #[.pointer (some ⟨w.heap.size,0,none⟩),.pointer (some ⟨w.heap.size+1,0,none⟩)] x.taken.length (fun i=>decide (x.clk.mark<(x.taken.getD i ⟨[],0,0,0,[],[],0,[]⟩).at_)) (by omega) (fun _ _=>by kernel_rfl) ?_ ?_).mono ?_
 ·intro w4 i hb4 hi;obtain⟨g,off,rfl,hg,hev⟩:=HEV.out.ev i hi;have e':x.taken.getD i ⟨[],0,0,0,[],[],0,[]⟩=x.taken[i]:=by simp[List.getD,List.getElem?_eq_getElem hi]
  simp only[e'];exact settled1_any w4 _ _ bi g off _ cp _ _ i hi ((hb4.cell (p:=⟨w.heap.size,0,none⟩) (by show w.heap.size<_;omega)).trans HB1.out) ((hb4.cell (p:=⟨bi,2,none⟩) (by show bi<_;omega)).trans HC22.out) (hev.below hb4 hg) ((hb4.cell (p:=⟨w.heap.size+1,0,none⟩) (by show w.heap.size+1<_;omega)).trans HB2.out)
 ·intro i j hij hj hp;simp only[List.getD,List.getElem?_eq_getElem hj,List.getElem?_eq_getElem (show i<x.taken.length by omega),Option.getD_some,decide_eq_true_eq]at*;rcases Nat.lt_or_ge i j with hlt'|hge;·have:=(List.pairwise_iff_getElem.1 HO.out.sorted i j (by omega) hj hlt').at_;omega
  ·have:i=j:=by omega
   subst this;exact hp
 rintro r w3⟨k,rfl,hkl,h1,h2,hb3⟩;have HP:=qH (show SetAt x.taken x.clk.mark k from⟨hkl,fun i hi hlt'=>by have:=h1 i hlt';simp only[List.getD,List.getElem?_eq_getElem hi,Option.getD_some,decide_eq_false_iff_not]at this;omega,fun i hi hge=>by have:=h2 i hge hi;simpa only[List.getD,List.getElem?_eq_getElem hi,Option.getD_some,decide_eq_true_eq]using this⟩);have hbw3:Below w.heap.size w w3:=hbw2.trans (hb3.mono hbw2.size);have HM3:=qH (HM.out.up hbw3);have hb31:=(hb3.cell (p:=⟨w.heap.size,0,none⟩) (by show w.heap.size<_;omega)).trans HB1.out;have hc32:w3.cell? ⟨bi,2,none⟩=some (.slice B x.taken.length cp):=by rw[←hvt];exact HM3.out.cells.c2
 have HE3:=qH (show Evs w3 w3.heap.size B x.taken.length cp x.taken by have:=HM3.out.taken;rw[hvt]at this;exact Cel.of_own this);clear h1 h2 hb3 hbw2;have hkc:k≤cp:=by have:=Cel.cap HE3.out;omega
 have hBf:B=none∨ ∃g,B=some ⟨g,0,none⟩:=by
  have:=HM.out.taken;rw[hvt]at this;rcases this.2 with⟨q,_⟩|⟨g,_,_,q,_⟩;·left;injection q
  ·right;exact⟨g,by injection q⟩
 have HET:=qH (show Evs w3 w3.heap.size B k cp (x.taken.take k)from evs_take HE3.out hkl);rcases hBf with rfl|⟨g,rfl⟩;·go_wp2_with fail;refine(clone_any w3 none k cp (x.taken.take k) HET.out (by omega)).mono ?_;rintro r w5⟨v,rfl,ho5,hb5⟩;have HO5:=qH ho5;have hbw5:Below w.heap.size w w5:=hbw3.trans (hb5.mono hbw3.size);have hs3:=hbw3.size;clear ho5 hb5 hb31 hc32;go_wp2;go_ret;exact⟨k,v,HP.out,rfl,HO5.out.down hs3,hbw5⟩
 ·go_wp2_with fail;refine(clone_any w3 (some ⟨g,0,none⟩) k cp (x.taken.take k) HET.out (by omega)).mono ?_;rintro r w5⟨v,rfl,ho5,hb5⟩;have HO5:=qH ho5;have hbw5:Below w.heap.size w w5:=hbw3.trans (hb5.mono hbw3.size);have hs3:=hbw3.size;clear ho5 hb5 hb31 hc32;go_wp2;go_ret;exact⟨k,v,HP.out,rfl,HO5.out.down hs3,hbw5⟩
structure Dd where
 kind:Int
 e:Ev
 now:Int
 per:List UInt8
def Dd.cells(d:Dd):List Value:=.int .u8 d.kind::(d.e.cells++[.int .i64 d.now,.string ⟨d.per.toArray⟩])
def ddCells(ds:List Dd):List Value:=ds.flatMap Dd.cells
theorem ddCells_length(ds:List Dd):(ddCells ds).length=ds.length*11:=by induction ds with|nil=>rfl|cons e es ih=>simp only[ddCells,List.flatMap_cons,List.length_append,List.length_cons]at*;rw[ih];simp[Dd.cells,Ev.cells];omega
theorem ddCells_get(ds:List Dd)(k j:Nat)(hk:k<ds.length)(hj:j<11):(ddCells ds)[k*11+j]?=ds[k].cells[j]?:=by induction ds generalizing k with|nil=>simp at hk|cons e es ih=>have hc:e.cells.length=11:=rfl;simp only[ddCells,List.flatMap_cons];cases k with|zero=>rw[Nat.zero_mul,Nat.zero_add,List.getElem?_append_left (by omega)];rfl|succ k=>rw[List.getElem?_append_right (by omega),hc,show(k+1)*11+j-11=k*11+j by omega];exact ih k (by simpa using hk)
def Dds(w:World)(B:Nat)(A:Option Addr)(n c:Nat)(ds:List Dd):Prop:=Cel w B 11 A n c (ddCells ds)
theorem Dds.len{w:World}{B n c:Nat}{A:Option Addr}{ds:List Dd}(h:Dds w B A n c ds):ds.length=n:=by have:=Cel.len h;rw[ddCells_length]at this;omega
def DdAt(w:World)(b o:Nat)(d:Dd):Prop:=w.cell? ⟨b,o,none⟩=some (.int .u8 d.kind)∧EvAt w b (o+1) d.e∧w.cell? ⟨b,o+9,none⟩=some (.int .i64 d.now)
theorem Dds.at_{w:World}{B n c:Nat}{A:Option Addr}{ds:List Dd}(h:Dds w B A n c ds)(k:Nat)(hk:k<ds.length): ∃b off,A=some ⟨b,off,none⟩∧b<B∧DdAt w b (off+k*11) ds[k]:=by
 have hl:=h.len;obtain⟨b,off,e,hb,hc⟩:=Cel.cell h (by omega);have key: ∀j u,j<11→ds[k].cells[j]?=some u→w.cell? ⟨b,off+k*11+j,none⟩=some u:=fun j u hj hu=>by rw[Nat.add_assoc];exact hc _ u (by rw[ddCells_get ds k j hk hj,hu])
 have ev: ∀j u,j<8→ds[k].e.cells[j]?=some u→w.cell? ⟨b,off+k*11+1+j,none⟩=some u:=fun j u hj hu=>by rw[show off+k*11+1+j=off+k*11+(1+j)by omega];refine key (1+j) u (by omega) ?_;unfold Dd.cells;rw[show 1+j=j+1 by omega,List.getElem?_cons_succ,List.getElem?_append_left (by show j<8;exact hj)];exact hu
 exact⟨b,off,e,hb,key 0 _ (by omega) rfl,⟨ev 0 _ (by omega) rfl,ev 1 _ (by omega) rfl,ev 2 _ (by omega) rfl,ev 3 _ (by omega) rfl,ev 4 _ (by omega) rfl,ev 5 _ (by omega) rfl,ev 6 _ (by omega) rfl,ev 7 _ (by omega) rfl⟩,key 9 _ (by omega) rfl⟩
theorem DdAt.below{w w':World}{b o B:Nat}{d:Dd}(h:DdAt w b o d)(hb:Below B w w')(hB:b<B):DdAt w' b o d:=⟨(hb.cell (p:=⟨b,o,none⟩) hB).trans h.1,h.2.1.below hb hB,(hb.cell (p:=⟨b,o+9,none⟩) hB).trans h.2.2⟩
def heavyB(ds:List Dd)(m:Int):Bool:=decide (m<ds.length)||ds.any (fun d=>bigB d.e 300)
def HvRel(w:World)(ds:List Dd)(i:Value)(wr:World):Prop:= ∃k:Nat,i=.int .i64 k∧k≤ds.length∧(∀d∈ds.take k,bigB d.e 300=false)∧Below w.heap.size w wr
theorem heavy_any(w:World)(A:Option Addr)(n c:Nat)(ds:List Dd)(h:Dds w w.heap.size A n c ds)(hn:n≤140737488355328)(m:Int):Calls Tryz.prog 22 #[.slice A n c,.int .i64 m] w (Says (heavyB ds m) w):=by
 have HH:=qH h;clear h;have hl:=HH.out.len;have HL:=qH hl;clear hl;have HB:=qH (show heavyB ds m=(decide (m<(n:Int))||ds.any (fun d=>bigB d.e 300))by unfold heavyB;rw[HL.out]);by_cases hm:m<(n:Int);·have HX:=qH (show heavyB ds m=true by rw[HB.out,decide_eq_true hm];rfl);go_enter Tryz.func22,Tryz.ntmps22;go_wp2;go_ret;exact⟨ret_bool HX.out.symm,Below.refl _ _⟩
 have HX:=qH (show heavyB ds m=ds.any (fun d=>bigB d.e 300)by rw[HB.out,decide_eq_false hm];rfl);clear HB;go_enter Tryz.func22,Tryz.ntmps22;go_wp2;go_loopw[5](fun i wr=>HvRel w ds i wr)(fun i _=>n-(intOf i).toNat);case atStart=>exact⟨0,rfl,Nat.zero_le _,fun d hd=>by simp at hd,Below.refl _ _⟩
 case round=>
  obtain⟨k,rfl,hk,hno,hbel⟩:=hrel;have HNO:=qH hno;clear hno;have hkL:k≤n:=by rw[←HL.out];exact hk
  by_cases hkn:k<n
  ·have hkl:k<ds.length:=by rw[HL.out];exact hkn
   obtain⟨b,off,rfl,hb,hd⟩:=HH.out.at_ k hkl;obtain⟨d0,⟨e0,e1,e2,e3,e4,e5,e6,e7⟩,d9⟩:=hd.below hbel hb;have HT:=qH (show bigB ds[k].e 300=false→ ∀d∈ds.take (k+1),bigB d.e 300=false from fun h d hd=>by
    rw[List.take_add_one,List.getElem?_eq_getElem hkl,Option.toList_some]at hd;rcases List.mem_append.1 hd with hd|hd;·exact HNO.out d hd
    ·simp at hd;subst hd;exact h);have HY:=qH (show bigB ds[k].e 300=true→ds.any (fun d=>bigB d.e 300)=true from fun h=>List.any_eq_true.2 ⟨_,List.getElem_mem hkl,h⟩);generalize ds[k]=d at*;have t1:(k:Int)<n:=by omega
   go_wp2_with fail;refine(big_any wr d.e 300).mono ?_;rintro r w2⟨rfl,hb2⟩;have hbw2:Below w.heap.size w w2:=hbel.trans (hb2.mono hbel.size);clear hb2 d0 e0 e1 e2 e3 e4 e5 e6 e7 d9 hd;cases hbg:bigB d.e 300
   ·have HT':=qH (HT.out hbg);clear hbg;go_wp2;go_roundw;case rel=>exact⟨k+1,by go_num,by omega,HT'.out,hbw2⟩
    case measure=>simp[intOf];omega
   ·have HY':=qH (HY.out hbg);clear hbg;go_wp2;go_ret;exact⟨ret_bool (by rw[HX.out,HY'.out]),hbw2⟩
  ·have HZ:=qH (show ds.any (fun d=>bigB d.e 300)=false by rw[List.any_eq_false];intro d hd;have:=HNO.out d (by rw[List.take_of_length_le (by rw[HL.out];omega)];exact hd);simp[this]);have t1: ¬(k:Int)<n:=by omega
   go_wp2;go_ret;exact⟨ret_bool (by rw[HX.out,HZ.out]),hbel⟩
open Go.ChangeShapes Go.WideShapes Go.ChangeAt
theorem own:ownKnob Tryz.prog.godebug=none:=by kernel_rfl
theorem laidOut:laidOutB Tryz.prog=true:=by kernel_rfl
def Ev.dat{H:Type}(e:Ev):DataW H:=.agg [.lit (.string e.src),.lit (.int .i64 e.num),.lit (.int .i64 e.at_),.lit (.int .i64 e.kind),.lit (.string e.per),.lit (.string e.item),.lit (.int .i64 e.val),.lit (.string e.text)]
theorem ev_cells:Tryz.prog.cellsOf 31=8:=by kernel_rfl
theorem ev_cstr:Tryz.prog.cellsOf 9=1:=by kernel_rfl
theorem ev_cint:Tryz.prog.cellsOf 3=1:=by kernel_rfl
theorem ev_ckind:Tryz.prog.cellsOf 29=1:=by kernel_rfl
instance:Inhabited Ev:=⟨⟨[],0,0,0,[],[],0,[]⟩⟩
theorem ev_of_trod{H:Type}{enc:TypeId×Value→H}{W:World}{base fuel:Nat}{sp:Nat→Bool}{held:Bool}{cs:List Value}{d:DataW H}{ps:List MemPlace}(h:DataW.trod enc Tryz.prog W base sp held fuel 31 cs=some (d,ps)): ∃e:Ev,cs=e.cells∧d=e.dat:=by
 obtain⟨xs,n,_,hx,hl,hlen,hf⟩:=DataW.trod_struct Tryz.underlying31 h;rw[ev_cells]at hl;match cs,hl with
  |[c0,c1,c2,c3,c4,c5,c6,c7],_=>
   match xs,hlen with
    |[x0,x1,x2,x3,x4,x5,x6,x7],_=>
     have h0:=hf 0 _ rfl;have h1:=hf 1 _ rfl;have h2:=hf 2 _ rfl;have h3:=hf 3 _ rfl;have h4:=hf 4 _ rfl;have h5:=hf 5 _ rfl;have h6:=hf 6 _ rfl;have h7:=hf 7 _ rfl;set_option linter.unusedSimpArgs false in
      simp only[ev_cstr,ev_cint,ev_ckind,List.drop_succ_cons,List.drop_zero,List.take_succ_cons,List.take_zero,List.getElem?_cons_zero,List.getElem?_cons_succ]at h0 h1 h2 h3 h4 h5 h6 h7;obtain⟨s0,e0,rfl,_⟩:=DataW.trod_string Tryz.underlying9 h0;obtain⟨n1,e1,rfl,_⟩:=DataW.trod_int Tryz.underlying3 h1;obtain⟨n2,e2,rfl,_⟩:=DataW.trod_int Tryz.underlying3 h2;obtain⟨n3,e3,rfl,_⟩:=DataW.trod_int Tryz.underlying29 h3;obtain⟨s4,e4,rfl,_⟩:=DataW.trod_string Tryz.underlying9 h4;obtain⟨s5,e5,rfl,_⟩:=DataW.trod_string Tryz.underlying9 h5;obtain⟨n6,e6,rfl,_⟩:=DataW.trod_int Tryz.underlying3 h6;obtain⟨s7,e7,rfl,_⟩:=DataW.trod_string Tryz.underlying9 h7;injection e0 with e0;injection e1 with e1;injection e2 with e2;injection e3 with e3;injection e4 with e4;injection e5 with e5;injection e6 with e6;injection e7 with e7;subst e0 e1 e2 e3 e4 e5 e6 e7;refine⟨⟨s0.data.toList,n1,n2,n3,s4.data.toList,s5.data.toList,n6,s7.data.toList⟩,?_,?_⟩;·simp[Ev.cells]
      ·injection hx with hx _
theorem add_none(b o i:Nat):(⟨b,o,none⟩:Addr).add i=⟨b,o+i,none⟩:=by unfold Addr.add;split<;>simp_all
theorem dd_cells:Tryz.prog.cellsOf 67=11:=by kernel_rfl
theorem dd_cu8:Tryz.prog.cellsOf 5=1:=by kernel_rfl
instance:Inhabited Dd:=⟨⟨0,default,0,[]⟩⟩
theorem dd_of_trod{H:Type}{enc:TypeId×Value→H}{W:World}{base fuel:Nat}{sp:Nat→Bool}{held:Bool}{cs:List Value}{d:DataW H}{ps:List MemPlace}(h:DataW.trod enc Tryz.prog W base sp held fuel 67 cs=some (d,ps)): ∃e:Dd,cs=e.cells∧0≤e.kind∧e.kind≤255:=by
 obtain⟨xs,n,_,hx,hl,hlen,hf⟩:=DataW.trod_struct Tryz.underlying67 h;rw[dd_cells]at hl;match cs,hl with
  |[c0,c1,c2,c3,c4,c5,c6,c7,c8,c9,c10],_=>
   match xs,hlen with
    |[x0,x1,x2,x3],_=>
     have h0:=hf 0 _ rfl;have h1:=hf 1 _ rfl;have h2:=hf 2 _ rfl;have h3:=hf 3 _ rfl;set_option linter.unusedSimpArgs false in
      simp only[dd_cu8,ev_cells,ev_cstr,ev_cint,List.drop_succ_cons,List.drop_zero,List.take_succ_cons,List.take_zero,List.getElem?_cons_zero,List.getElem?_cons_succ]at h0 h1 h2 h3;obtain⟨n0,e0,rfl,w0⟩:=DataW.trod_int Tryz.underlying5 h0;obtain⟨ev,e1,_⟩:=ev_of_trod h1;have e1':[c1,c2,c3,c4,c5,c6,c7,c8]=ev.cells:=e1;obtain⟨n2,e2,rfl,_⟩:=DataW.trod_int Tryz.underlying3 h2;obtain⟨s3,e3,rfl,_⟩:=DataW.trod_string Tryz.underlying9 h3;injection e0 with e0;injection e2 with e2;injection e3 with e3;subst e0 e2 e3;refine⟨⟨n0,ev,n2,s3.data.toList⟩,?_,?_⟩;·unfold Dd.cells;rw[←e1'];simp
      ·exact bounds_u8 w0
theorem dds_of_trod{H:Type}{enc:TypeId×Value→H}{W:World}{A:Option Addr}{n c:Nat}{d:DataW H}{ps:List MemPlace}(h:DataW.Trod enc Tryz.prog W 0 (fun _=>true) true 48 (Value.slice A n c) d ps)(hz: ∀m∈d.weights Tryz.prog 48,m≤reachBytes): ∃es,Dds W W.heap.size A n c es∧n≤140737488355328∧ ∀e∈es,0≤e.kind∧e.kind≤255:=by
 obtain⟨fuel,hf⟩:=h;have hr:reachBytes≤140737488355328:=by decide
 rcases Deep.open_slice Tryz.underlying48 hf with⟨hcs,_⟩|⟨a,len,cap,m,fl,D,Pl,hcs,_,hl,hm,hmm,hx,hV⟩;·simp[Value.cells]at hcs;obtain⟨rfl,rfl,rfl⟩:=hcs;exact⟨[],Cel.nil _ _ _ _ _ (by unfold maxLen;omega),by omega,fun e he=>by cases he⟩
 ·simp[Value.cells]at hcs;obtain⟨rfl,rfl,rfl⟩:=hcs;have hmc:m=c:=by simpa using hmm
  subst hmc;injection hx with hd _;rw[dd_cells]at hV;have key: ∀i,i<n→ ∃e:Dd,(∀j,j<11→W.cell? ((a.add (i*11)).add j)=e.cells[j]?)∧0≤e.kind∧e.kind≤255:=fun i hi=>by obtain⟨cs,h1,h2⟩:=hV i (by omega);obtain⟨_,_,h3⟩:=World.cells?_some h1;obtain⟨e,rfl,he⟩:=dd_of_trod h2;exact⟨e,h3,he⟩
  obtain⟨f,hfk⟩:=Deep.choose_lt (α:=Dd) (p:=fun i e=>(∀j,j<11→W.cell? ((a.add (i*11)).add j)=e.cells[j]?)∧0≤e.kind∧e.kind≤255) key;have hnn:n≤140737488355328:=by
   have:=hz ((((List.range n).map D).length+((List.range (m-n)).map fun j=>D (n+j)).length)*Tryz.prog.bytesOf 67) (by rw[hd,DataW.weights,Tryz.underlying48];exact List.mem_cons_self ..);have hb:Tryz.prog.bytesOf 67=128:=by kernel_rfl
   rw[hb]at this;simp at this;omega
  refine⟨(List.range n).map f,⟨by rw[ddCells_length];simp,hl,hm,fun h0=>?_⟩,hnn,fun e he=>?_⟩
  ·obtain⟨b,off,spot⟩:=a;have hc0:=(hfk 0 h0).1 0 (by omega);have hspot:spot=none:=by have:=World.cell?_spot (hc0.trans (show(f 0).cells[0]?=some _ from rfl));simpa[Addr.add]using this
   subst hspot;refine⟨b,off,rfl,World.block_lt_of_cell? W ⟨b,off,none⟩ (u:=.int .u8 (f 0).kind) ?_,fun i u hi=>?_⟩;·simpa[add_none]using hc0.trans (show(f 0).cells[0]?=some _ from rfl)
   ·have hil:i<n*11:=by have:=(List.getElem?_eq_some_iff.1 hi).1;rw[ddCells_length]at this;simpa using this
    have e1:i=(i/11)*11+i%11:=by omega
    have hq:i/11<((List.range n).map f).length:=by simp;omega
    rw[e1,ddCells_get _ (i/11) (i%11) hq (by omega)]at hi;have hq':i/11<n:=by omega
    have:=(hfk (i/11) hq').1 (i%11) (by omega);rw[add_none,add_none]at this;have e2:off+i=off+i/11*11+i%11:=by omega
    rw[e2,this];simpa using hi
  ·obtain⟨i,hi,rfl⟩:=List.mem_map.1 he;exact(hfk i (by simpa using hi)).2
def firstInts:List Int:=List.replicate 128 240++List.replicate 66 241++List.replicate 30 2++[19]++List.replicate 12 3++[35,3,3,52,4,4,4,68]++List.replicate 11 241
def rangeInts:List Int:=[128,191,160,191,128,159,144,191,128,143]++List.replicate 22 0
def layInts(l:List Int):Obj→Obj|.cells _ t frozen=>.cells (l.map (Value.int .u8)).toArray t frozen|o=>o
def datVal:DataW Unit→Value|.lit (.int k z)=>.int k z|_=>.bool false
def datVals:DataW Unit→List Value|.agg l=>l.map datVal|_=>[]
def layVals(d:DataW Unit):Obj→Obj|.cells _ t frozen=>.cells (datVals d).toArray t frozen|o=>o
def layErr(k:Nat):Obj→Obj|.cells _ t frozen=>.cells #[.iface 285 (.pointer (some ⟨k,0,none⟩))] t frozen|o=>o
abbrev rangeS:ByteArray:=⟨#[118,97,108,117,101,32,111,117,116,32,111,102,32,114,97,110,103,101]⟩
abbrev syntaxS:ByteArray:=⟨#[105,110,118,97,108,105,100,32,115,121,110,116,97,120]⟩
noncomputable def lowW:Nat:=(World.holding Tryz.prog default ⟨#[],#[],[]⟩).heap.size
noncomputable def laidWorld(os:Os):World:=let w0:=World.holding Tryz.prog os ⟨#[.cells #[.string rangeS] 287,.cells #[.string syntaxS] 287],#[],[]⟩;{w0 with heap:=((((((w0.heap.modify 4 (layInts firstInts)).modify 5 (layInts rangeInts)).modify 6 (layVals Rows.laid_math_bits_deBruijn32tab)).modify 7 (layVals Rows.laid_math_bits_deBruijn64tab)).modify 3 (layVals Rows.laid_internal_strconv_uint64pow10)).modify 2 (layErr lowW)).modify 1 (layErr (lowW+1))}
theorem star7: "*"++ "errors.errorString"= "*errors.errorString":=by decide
theorem row7(u:TypeId)(h:Tryz.prog.typeName? 3 u=some "*errors.errorString"):u=285:=typeName_ptr_named (nm:= "errors.errorString") (by rw[star7];kernel_rfl) (by kernel_rfl) (by decide) u (by rw[star7];exact h)
theorem tab7{W:World}{r:List (String×DataW Unit)}(h:laidMet Tryz.prog (("internal/strconv.uint64pow10",Rows.laid_internal_strconv_uint64pow10)::r) W):Lib.TabBelow Tryz.prog W.heap.size W "internal/strconv.uint64pow10" .u64 Lib.pow10Tab:=Lib.tabBelow_of_tabIs (Lib.tabIs_of_head (g:=3) (by kernel_rfl) (by kernel_rfl) Tryz.underlying281 Tryz.underlying236 (by kernel_rfl) (by kernel_rfl) h)
theorem errR7{W:World}{r:List (String×DataW Unit)}(h:laidMet Tryz.prog (("strconv.ErrRange",Rows.laid_strconv_ErrRange)::r) W): ∃v,W.cell? ⟨2,0,none⟩=some v∧(v=.nilIface∨ ∃t p,v=.iface t p):=by obtain⟨a,s,hv,_⟩:=laid_sentinel (g:=2) (ts:=9) (te:=287) h (by kernel_rfl) (by kernel_rfl) Tryz.underlying161 row7 Tryz.underlying285 Tryz.underlying287 rfl rfl Tryz.underlying9 (by kernel_rfl) (by kernel_rfl);have h0:=World.var?_cell (g:=2) (by kernel_rfl) hv 0;exact⟨_,by simpa using h0,.inr ⟨_,_,rfl⟩⟩
theorem errS7{W:World}{r:List (String×DataW Unit)}(h:laidMet Tryz.prog (("strconv.ErrSyntax",Rows.laid_strconv_ErrSyntax)::r) W): ∃v,W.cell? ⟨1,0,none⟩=some v∧(v=.nilIface∨ ∃t p,v=.iface t p):=by obtain⟨a,s,hv,_⟩:=laid_sentinel (g:=1) (ts:=9) (te:=287) h (by kernel_rfl) (by kernel_rfl) Tryz.underlying161 row7 Tryz.underlying285 Tryz.underlying287 rfl rfl Tryz.underlying9 (by kernel_rfl) (by kernel_rfl);have h0:=World.var?_cell (g:=1) (by kernel_rfl) hv 0;exact⟨_,by simpa using h0,.inr ⟨_,_,rfl⟩⟩
abbrev list7:List (String×DataW Unit):=[("math/bits.deBruijn32tab",Rows.laid_math_bits_deBruijn32tab),("math/bits.deBruijn64tab",Rows.laid_math_bits_deBruijn64tab),("internal/strconv.uint64pow10",Rows.laid_internal_strconv_uint64pow10),("unicode/utf8.acceptRanges",Rows.laid_unicode_utf8_acceptRanges),("strconv.ErrRange",Rows.laid_strconv_ErrRange),("strconv.ErrSyntax",Rows.laid_strconv_ErrSyntax),("unicode/utf8.first",Rows.laid_unicode_utf8_first)]
theorem laid7{W:World}(h:laidMetH Tryz.prog list7 W):ErrsAt W∧Lib.TabBelow Tryz.prog W.heap.size W "internal/strconv.uint64pow10" .u64 Lib.pow10Tab:=by
 have h':laidMet Tryz.prog list7 W:=by
  have e:list7.filter (fun x=>x.2.handleName?.isSome)=[]:=by kernel_rfl
  unfold laidMetH at h;rw[e]at h;exact h
 have h3:=laidMet.tail (laidMet.tail h');have h5:=laidMet.tail (laidMet.tail h3);exact⟨⟨errS7 (laidMet.tail h5),errR7 h5⟩,tab7 h3⟩
end Go.Proofs.YtbejfgmdkmddnaaGreatDoor
