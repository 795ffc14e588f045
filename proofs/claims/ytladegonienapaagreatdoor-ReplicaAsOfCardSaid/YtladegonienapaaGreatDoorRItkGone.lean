/-
  Layer 8: Gone, Late, Taken; layer 31: erase.Intake.
-/
import Derived.Test.YtladegonienapaaGreatDoorRItkOff0
import Derived.WalkSpells
set_option maxRecDepth 100000
set_option maxHeartbeats 16000000
namespace Go.Proofs.YtladegonienapaaGreatDoor
open Go.RowKit Go.Maps Go.Sort
theorem kM{x:az}{e:Ev}(h:x.refuses e=false):aB e=true∧(e.per∈x.gone→e.kind=14)∧hadB x.had e.src e.num=false:=by
 unfold az.refuses az.wrong at h;simp only[Bool.or_eq_false_iff,Bool.not_eq_false',Bool.and_eq_false_iff,decide_eq_false_iff_not]at h;refine⟨h.1.1.1,fun hg=>?_,h.2⟩;rcases h.1.1.2 with h'|h';·exact absurd hg h'
 ·simpa using h'
theorem dJ.congr{w:World}{b n:Nat}{ks ks':List (List UInt8)}(h:dJ w b n ks)(hk: ∀x,x∈ks↔x∈ks'):dJ w b n ks':=by
 obtain⟨D,h1,h2,h3⟩:=h;refine⟨D,h1,h2,fun k=>?_⟩;have:decide (k∈ks')=decide (k∈ks):=by simp[hk]
 rw[this];exact h3 k
structure nD(P:Ev→Prop)(x:az):Prop where
 taken: ∀e∈x.taken,P e
 late: ∀e∈x.late,P e
 gone: ∀p∈x.gone,∃e,P e∧e.per=p
 stay: ∀e,e∈x.taken∨e∈x.late→e.per∈x.gone→e.kind=14
 JS: ∀e∈x.taken,e.kind=14→e.per∈x.gone
theorem nD.new(P:Ev→Prop)(ag idle:Int):nD P (az.new ag idle):=⟨fun e he=>by simp[az.new]at he,fun e he=>by simp[az.new]at he,fun e he=>by simp[az.new]at he,fun e he=>by simp[az.new]at he,fun e he=>by simp[az.new]at he⟩
theorem nD.took{P:Ev→Prop}{x:az}(h:nD P x){e:Ev}(he:P e)(hw:e.per∈x.gone→e.kind=14):nD P (x.took e):=by
 unfold az.took;split
 ·rename_i hk;refine⟨fun a ha=>?_,fun a ha=>?_,fun p hp=>?_,fun a ha hg=>?_,fun a ha _=>?_⟩
  ·rcases dI.1 (List.mem_filter.1 ha).1 with rfl|ha;·exact he
   ·exact h.taken a ha
  ·exact h.late a (List.mem_filter.1 ha).1
  ·have hp':p∈e.per::x.gone:=hp;rcases List.mem_cons.1 hp' with rfl|hp';·exact⟨e,he,rfl⟩
   ·exact h.gone p hp'
  ·have hg':a.per∈e.per::x.gone:=hg;have hkeep:bF e.per a=true:=by rcases ha with ha|ha<;>exact(List.mem_filter.1 ha).2
   by_cases hp:a.per=e.per;·unfold bF at hkeep;simpa[hp]using hkeep
   ·have hg2:a.per∈x.gone:=by rcases List.mem_cons.1 hg' with h'|h';exact absurd h' hp;exact h'
    rcases ha with ha|ha
    ·rcases dI.1 (List.mem_filter.1 ha).1 with rfl|ha;·exact hk
     ·exact h.stay a (.inl ha) hg2
    ·exact h.stay a (.inr (List.mem_filter.1 ha).1) hg2
  ·show a.per∈e.per::x.gone;rcases dI.1 (List.mem_filter.1 ha).1 with rfl|ha';·simp
   ·exact List.mem_cons_of_mem _ (h.JS a ha' (by assumption))
 ·rename_i hk;refine⟨fun a ha=>?_,h.late,h.gone,fun a ha hg=>?_,fun a ha hk'=>?_⟩
  ·rcases dI.1 ha with rfl|ha;·exact he
   ·exact h.taken a ha
  ·rcases ha with ha|ha
   ·rcases dI.1 ha with rfl|ha;·exact hw hg
    ·exact h.stay a (.inl ha) hg
   ·exact h.stay a (.inr ha) hg
  ·rcases dI.1 ha with rfl|ha;·exact absurd hk' hk
   ·exact h.JS a ha hk'
def BO(w:World)(x:az)(r:Ending)(w':World):Prop:= ∃bi F,r=.returned (.pointer (some ⟨bi,0,none⟩))∧aS w' F bi 0 x∧Below w.heap.size w w'∧ ∀b,F b→w.heap.size≤b
theorem sF(w:World)(ag idle:Int):Calls Tryz.prog 41 #[.int .i64 ag,.int .i64 idle] w (BO w (az.new ag idle)):=by
 have hmm:= @run_makeMap Tryz.prog;go_enter Tryz.func41,Tryz.ntmps41;go_wp2_with fail;refine(BD w ag idle).mono ?_;rintro r w1⟨bc,bm,rfl,hc1,hbc,Ru,hb1⟩;have oO:=qH hc1;have hs1:=hb1.size;clear hc1;go_wp2_with fail;refine(mZ w1).mono ?_;rintro r w2⟨bs,bh,rfl,hh2,hbs,Ry,hb2⟩;have ky:=qH hh2;have mf:=qH (oO.o.up hb2);have hs2:=hb2.size;have hbw:Below w.heap.size w w2:=hb1.trans (hb2.mono hs1);have hcl:=mf.o.lt;have wQ:=mf.o.map.lt;have hcl1:=oO.o.lt;have hml1:=oO.o.map.lt;have hsl:=hh2.lt bs (.inl rfl);have Wp:=hh2.lt bh (.inr rfl);clear hh2 hb1 hb2;go_wp2;go_ret;have hbl:Below w2.heap.size w2 (((w2.alloc (.map #[] 0)).alloc (.map #[] 0)).alloc (jU ⟨bc,bm,bs,bh,fun b=>b=bs∨b=bh,fun _=>.slice none 0 0,.slice none 0 0,.slice none 0 0,w2.heap.size,0,w2.heap.size+1,0⟩)):=(((Below.refl _ _).alloc (Nat.le_refl _) _).alloc (by simp) _).alloc (by simp;omega) _;have hsz:(((w2.alloc (.map #[] 0)).alloc (.map #[] 0)).alloc (jU ⟨bc,bm,bs,bh,fun b=>b=bs∨b=bh,fun _=>.slice none 0 0,.slice none 0 0,.slice none 0 0,w2.heap.size,0,w2.heap.size+1,0⟩)).heap.size=w2.heap.size+3:=by simp
 refine⟨w2.heap.size+2,fun b=>w.heap.size≤b∧b<w2.heap.size+3,rfl,⟨⟨bc,bm,bs,bh,fun b=>b=bs∨b=bh,fun _=>.slice none 0 0,.slice none 0 0,.slice none 0 0,w2.heap.size,0,w2.heap.size+1,0⟩,⟨?_,mf.o.up hbl,ky.o.up hbl,World.ownsRow_nil _ _ _ _,World.ownsRow_nil _ _ _ _,?_,?_,?_,?_,?_,?_,?_,?_,?_⟩,bU.new ag idle,Nat.le_refl _,Nat.le_refl _,?_,?_⟩,hbw.trans (hbl.mono hbw.size),fun b hb=>hb.1⟩;·have:=heap_alloc_new ((w2.alloc (.map #[] 0)).alloc (.map #[] 0)) (jU ⟨bc,bm,bs,bh,fun b=>b=bs∨b=bh,fun _=>.slice none 0 0,.slice none 0 0,.slice none 0 0,w2.heap.size,0,w2.heap.size+1,0⟩);simpa using this
 ·refine(eH.made w2).block ?_;show(((w2.alloc (.map #[] 0)).alloc (.map #[] 0)).alloc _).heap[w2.heap.size]?=_;rw[Below.heap_alloc _ _ _ (by simp;omega),Below.heap_alloc _ _ _ (by simp)]
 ·have:=dJ.made (w2.alloc (.map #[] 0));have e:(w2.alloc (.map #[] 0)).heap.size=w2.heap.size+1:=by simp
  rw[e]at this;exact this.block (Below.heap_alloc _ _ _ (by simp))
 ·show bm≠w2.heap.size;omega
 ·show bm≠w2.heap.size+1;omega
 ·show w2.heap.size≠w2.heap.size+1;omega
 ·show¬(bm=bs∨bm=bh);omega
 ·show¬(w2.heap.size=bs∨w2.heap.size=bh);omega
 ·show¬(w2.heap.size+1=bs∨w2.heap.size+1=bh);omega
 ·intro b hb;cases hb
 ·intro b hb;rcases hb with hb|hb|hb|hb|hb|hb|hb|hb;·exact⟨by omega,by omega⟩
  ·have hb':b=bc:=hb;exact⟨by omega,by omega⟩
  ·have hb':b=bm:=hb;exact⟨by omega,by omega⟩
  ·have hb':b=bs∨b=bh:=hb;exact⟨by omega,by omega⟩
  ·cases hb
  ·cases hb
  ·have hb':b=w2.heap.size:=hb;exact⟨by omega,by omega⟩
  ·have hb':b=w2.heap.size+1:=hb;exact⟨by omega,by omega⟩
 ·intro b hb;rw[hsz];exact hb.2
theorem gW(w:World)(F:Nat→Prop)(bi N:Nat)(x:az)(h:aS w F bi N x):Calls Tryz.prog 23 #[.pointer (some ⟨bi,0,none⟩)] w fun r w'=>r=.returned (.int .i64 x.aG.mark)∧w=w':=by obtain⟨A,hM,_⟩:=h;have HM:=qH hM;obtain⟨c0,c1,c2,c3,c4,c5,f2,f3,f4⟩:=hM.cells;clear hM;go_enter Tryz.func23,Tryz.ntmps23;go_wp2_with fail;refine(yO w A.bc A.bm x.aG HM.o.aG).mono ?_;rintro r w1⟨rfl,rfl⟩;go_wp2;go_ret;exact⟨rfl,rfl⟩
def gP(w:World)(l:List Ev)(r:Ending)(w':World):Prop:= ∃v,r=.returned v∧aU w' w.heap.size v l∧Below w.heap.size w w'
theorem gX(w:World)(B:Option Addr)(n c:Nat)(es:List Ev)(h:eD w w.heap.size B n c es)(hn:n≤200000):Calls Tryz.prog 38 #[.slice B n c] w (gP w es):=by
 have q22: ∀(w:World)(a:Option Addr)(n c n' c':Nat),(binOp .eql 22 (.slice a n c) (.slice none n' c')).run Tryz.prog w=.ok (.bool a.isNone) w:=fun w a n c n' c'=>Lib.run_eql_slice_nil w _ _ a n c n' c' Tryz.underlying22;have HH:=qH h;clear h;have hlen:=HH.o.len;obtain⟨i0,hi0,hz0,hzs,hzb⟩:=info_parts jX;have HI:=qH hi0;have HZ0:=qH hz0;have HZ1:=qH hzs;have HZ2:=qH hzb;have NS:=qH hlen;clear hi0 hz0 hzs hzb hlen;cases B with
  |none=>
   have h0:n=0:=by
    rcases Nat.eq_zero_or_pos n with h|h;·exact h
    ·obtain⟨b,off,q,_⟩:=aI.cell HH.o h;cases q
   have HE:=qS (es=[]) (List.eq_nil_of_length_eq_zero (by rw[NS.o,h0]));subst h0;go_enter Tryz.func38,Tryz.ntmps38;go_wp2;go_ret;exact⟨_,rfl,by rw[HE.o];exact World.ownsRow_nil _ _ _ _,Below.refl _ _⟩
  |some a=>
   have hb0:Below w.heap.size w (w.alloc (.cells #[] 28)):=(Below.refl _ _).alloc (Nat.le_refl _) _;go_enter Tryz.func38,Tryz.ntmps38;go_wp2_with(at_builtin;refine aJ (P:=Tryz.prog) rfl (.tmp 5) (.tmp 6) 22 rfl 28 i0 _ 8 96 Tryz.underlying22 HI.o HZ0.o HZ1.o HZ2.o rfl (by decide) w.heap.size _ 0 [] rfl ?c1 w.heap.size _ n c (au es) rfl ?c2 ?c3 ?c4 ?c5 ?c6 ?_);case c1=>exact⟨rfl,.inr ⟨w.heap.size,0,#[],rfl,Nat.le_refl _,heap_alloc_new w _,Nat.le_refl _,Nat.zero_le _,rfl,rfl⟩⟩
   case c2=>exact aI.below HH.o hb0
   case c3=>intro u hu;simp only[au,List.mem_flatMap]at hu;obtain⟨y,_,hy⟩:=hu;exact cells_one y u hy
   case c4=>unfold maxLen;omega
   case c5=>omega
   case c6=>simp
   intro v' w2 ho2 hg2 _;have dE:=qH ho2;have hbl:Below w.heap.size w w2:=hb0.grown hg2 (by simp) (fun k hk=>by simp[Value.ownBlock]at hk;omega);clear ho2 hg2;go_wp2;go_ret;refine⟨v',rfl,?_,hbl⟩;unfold aU;rw[NS.o];have:=dE.o;simpa using this
theorem iE(w:World)(F:Nat→Prop)(bi N:Nat)(x:az)(h:aS w F bi N x)(hN:N≤100000):Calls Tryz.prog 14 #[.pointer (some ⟨bi,0,none⟩)] w (gP w x.taken):=by
 obtain⟨A,hM,hO,_⟩:=h;have HM:=qH hM;have htl:=hO.taken;obtain⟨B,c,hv,hc⟩:=hM.taken.form;obtain⟨c0,c1,c2,c3,c4,c5,f2,f3,f4⟩:=hM.cells;rw[hv]at c2;clear hM hO;go_enter Tryz.func14,Tryz.ntmps14;go_wp2_with fail;have hev:eD w w.heap.size B x.taken.length c x.taken:=by have:=HM.o.taken;rw[hv]at this;exact aI.bz this
 refine(gX w B _ c x.taken hev (by omega)).mono ?_;rintro r w1⟨v,rfl,ho,hb⟩;have HO:=qH ho;clear ho hev c0 c1 c2 c3 c4 c5 f2 f3 f4;go_wp2;go_ret;exact⟨v,rfl,HO.o,hb⟩
open Go.Shelf
theorem Eo(w:World)(F:Nat→Prop)(bi N:Nat)(x:az)(h:aS w F bi N x)(hN:N≤100000):Calls Tryz.prog 61 #[.pointer (some ⟨bi,0,none⟩)] w (gP w x.late):=by
 obtain⟨A,hM,hO,_⟩:=h;have HM:=qH hM;have htl:=hO.late;obtain⟨B,c,hv,hc⟩:=hM.late.form;obtain⟨c0,c1,c2,c3,c4,c5,f2,f3,f4⟩:=hM.cells;rw[hv]at c3;clear hM hO;go_enter Tryz.func61,Tryz.ntmps61;go_wp2_with fail;have hev:eD w w.heap.size B x.late.length c x.late:=by have:=HM.o.late;rw[hv]at this;exact aI.bz this
 refine(gX w B _ c x.late hev (by omega)).mono ?_;rintro r w1⟨v,rfl,ho,hb⟩;have HO:=qH ho;clear ho hev c0 c1 c2 c3 c4 c5 f2 f3 f4;go_wp2;go_ret;exact⟨v,rfl,HO.o,hb⟩
theorem jD(w:World)(F:Nat→Prop)(bi N:Nat)(x:az)(h:aS w F bi N x)(hN:N≤100000):Calls Tryz.prog 16 #[.pointer (some ⟨bi,0,none⟩)] w (oQ w x.gone):=by
 obtain⟨A,hM,hO,_,Bf,_⟩:=h;obtain⟨c0,c1,c2,c3,c4,c5,f2,f3,f4⟩:=hM.cells;obtain⟨D,hD1,hD2,hD3⟩:=hM.gone;have HD:=qH hD1;have hDs:Maps.size D≤A.ng:=hD1.size_le;have hle:A.ng≤100000:=by omega
 clear hM hO hD1;refine(callsIn_wide (n:=6)).1 ?_;have Rp:Fence.wide.fn 40:=trivial;have Ro:Fence.wide.fn 39:=trivial;refine callsIn_of_wp Tryz.func16 rfl trivial ?_ rfl;simp only[Tryz.ntmps16,List.size_toArray,List.length_cons,List.length_nil,Nat.reduceAdd,Nat.reduceSub,Array.replicate_succ,Array.replicate_zero,List.push_toArray,List.append_toArray,List.nil_append,List.cons_append];gi_wp2_with fail;refine(Tryz.wI _ _).mono ?_;rintro e w2⟨rfl,rfl⟩;gi_wp2_with fail;refine(Tryz.jm A.bg A.ng D _ w HD.o (by unfold maxLen;omega) (by omega)).mono ?_;rintro e w3⟨v,ss,rfl,hS,hrow,hnil,hb3⟩;clear c0 c1 c2 c3 c4 c5 f2 f3 f4;gi_wp2_with fail;go_ret;obtain⟨ks,hk1,hk2⟩:=yJ x.gone;have hp:ks.Perm (strKeys D):=dJ.perm HD.o (fun k=>(hD3 k).2) hk1 hk2;have Gr:ss.Perm ks:=hS.trans hp.symm;have hnd:ss.Nodup:=Gr.nodup_iff.2 hk1;have hr:=iW hnd (fun x=>Gr.mem_iff.trans (hk2 x));have hlen:(ss.mergeSort (fun x y=>decide (x≤y))).length=ss.length:=List.length_mergeSort _;refine⟨v,ss.mergeSort (fun x y=>decide (x≤y)),rfl,hr,?_,?_⟩
 ·rw[hlen];refine⟨hrow.1,?_⟩;rcases hrow.2 with⟨e,hl⟩|⟨g,cap,cur,e,hb',hg,hrr⟩;·exact .inl ⟨e,hl⟩
  ·exact .inr ⟨g,cap,cur,e,by simp at hb';omega,hg,hrr⟩
 ·exact((Below.refl _ _).alloc (Nat.le_refl _) _).trans (hb3.mono (by simp))
end Go.Proofs.YtladegonienapaaGreatDoor
