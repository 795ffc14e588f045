/-
  Layer 8, plain: what stands behind any deeds.
-/
import Derived.Test.YtladegonienapaaGreatDoorRItkGone
set_option maxRecDepth 100000
set_option maxHeartbeats 16000000
namespace Go.Proofs.YtladegonienapaaGreatDoor
open Go.RowKit Go.Maps Go.Sort
def xN(l:List Ev):Prop:= ∀a∈l,∀b∈l,a.src=b.src→a.num=b.num→a=b
def nI(l:List Ev)(q:List UInt8):Prop:= ∃f∈l,aB f=true∧f.kind=14∧f.per=q
structure eB(p:List Ev)(x:az):Prop where
 ok:bV x.had
 len:x.taken.length≤p.length
 gone: ∀q,q∈x.gone↔nI p q
 taken: ∀e,e∈x.taken↔e∈p∧aB e=true∧(e.kind=14∨e.per∉x.gone)
 had: ∀s n,hadB x.had s n=true→ ∃e∈p,aB e=true∧e.src=s∧e.num=n
 kept: ∀e∈x.taken,hadB x.had e.src e.num=true
 sorted:dS x.taken
 ids:(x.taken.map aO).Nodup
theorem eB.new(ag idle:Int):eB [] (az.new ag idle):=⟨bV.nil,Nat.le_refl _,fun q=>by simp[az.new,nI],fun e=>by simp[az.new],fun s n h=>by simp[az.new,hadB,aC,aA,bS]at h,fun e he=>by simp[az.new]at he,List.Pairwise.nil,by simp[az.new]⟩
theorem eB.aG{p:List Ev}{x:az}(h:eB p x)(c:bq):eB p {x with aG:=c}:=⟨h.ok,h.len,h.gone,h.taken,h.had,h.kept,h.sorted,h.ids⟩
theorem vG(e:Ev)(l:List Ev):(gL e l).Perm (e::l):=by
 have h:l.takeWhile (fun a=>!decide (gH e a))++l.dropWhile (fun a=>!decide (gH e a))=l:=List.takeWhile_append_dropWhile;unfold gL;conv=>rhs;rw[←h]
 exact List.perm_middle
theorem eB.refuse{p:List Ev}{x:az}{e:Ev}(h:eB p x)(hp:p.length≤1000)(ha:xN (p++[e]))(hr:x.refuses e=true):eB (p++[e]) x:=by
 have key:(∀a,a∈p++[e]∧aB a=true∧(a.kind=14∨a.per∉x.gone)↔a∈p∧aB a=true∧(a.kind=14∨a.per∉x.gone))∧(aB e=true→e.kind=14→e∈p):=by
  unfold az.refuses az.wrong at hr;simp only[Bool.or_eq_true,Bool.not_eq_true',Bool.and_eq_true,decide_eq_true_eq,bne_iff_ne]at hr;rcases hr with((hr|⟨hr,hk⟩)|hr)|hr
  ·refine⟨fun a=>?_,fun h'=>by rw[hr]at h';cases h'⟩;rw[List.mem_append,List.mem_singleton];constructor
   ·rintro⟨h1|rfl,h2⟩;·exact⟨h1,h2⟩
    ·rw[hr]at h2;exact absurd h2.1 (by simp)
   ·rintro⟨h1,h2⟩;exact⟨.inl h1,h2⟩
  ·refine⟨fun a=>?_,fun _ h'=>absurd h' hk⟩;rw[List.mem_append,List.mem_singleton];constructor
   ·rintro⟨h1|rfl,h2⟩;·exact⟨h1,h2⟩
    ·rcases h2.2 with h3|h3;·exact absurd h3 hk
     ·exact absurd hr h3
   ·rintro⟨h1,h2⟩;exact⟨.inl h1,h2⟩
  ·have:=h.len;omega
  ·obtain⟨e',he',_,h1,h2⟩:=h.had _ _ hr;have:e'=e:=ha e' (by simp[he']) e (by simp) h1 h2;subst this;refine⟨fun a=>?_,fun _ _=>he'⟩;rw[List.mem_append,List.mem_singleton];constructor
   ·rintro⟨k1|k1,k2⟩;·exact⟨k1,k2⟩
    ·exact⟨k1▸he',k2⟩
   ·rintro⟨k1,k2⟩;exact⟨.inl k1,k2⟩
 refine⟨h.ok,by have:=h.len;simp;omega,fun q=>?_,fun a=>?_,fun s n hs=>?_,h.kept,h.sorted,h.ids⟩
 ·rw[h.gone];constructor;·rintro⟨f,hf,h1⟩;exact⟨f,by simp[hf],h1⟩
  ·rintro⟨f,hf,h1,h2,h3⟩;rcases List.mem_append.1 hf with hf|hf;·exact⟨f,hf,h1,h2,h3⟩
   ·rw[List.mem_singleton]at hf;subst hf;exact⟨f,key.2 h1 h2,h1,h2,h3⟩
 ·rw[h.taken,key.1]
 ·obtain⟨e',he',h1⟩:=h.had s n hs;exact⟨e',by simp[he'],h1⟩
theorem eB.took{p:List Ev}{x:az}{e:Ev}(h:eB p x)(hr:x.refuses e=false):eB (p++[e]) (x.took e):=by
 obtain⟨hm,hg,hh⟩:=kM hr;have hput:=wH hm hh;have Gt:((gL e x.taken).map aO).Nodup:=by rw[((vG e x.taken).map aO).nodup_iff,List.map_cons,List.nodup_cons];refine⟨fun hc=>?_,h.ids⟩;obtain⟨a,ha,hai⟩:=List.mem_map.1 hc;have:=h.kept a ha;unfold aO at hai;injection hai with h1 h2;rw[h1,h2,hh]at this;cases this
 have Bg: ∀s n,hadB (rU x.had e.src e.num) s n=true→ ∃e'∈p++[e],aB e'=true∧e'.src=s∧e'.num=n:=fun s n hs=>by
  rw[rT h.ok hput]at hs;simp only[Bool.or_eq_true,Bool.and_eq_true,beq_iff_eq]at hs;rcases hs with hs|⟨rfl,rfl⟩;·obtain⟨e',he',h1⟩:=h.had s n hs;exact⟨e',by simp[he'],h1⟩
  ·exact⟨e,by simp,hm,rfl,rfl⟩
 have hkept: ∀a∈gL e x.taken,hadB (rU x.had e.src e.num) a.src a.num=true:=fun a ha=>by
  rw[rT h.ok hput];rcases dI.1 ha with rfl|ha;·simp
  ·simp[h.kept a ha]
 unfold az.took;split
 ·rename_i hk;have hgn: ∀q,q∈e.per::x.gone↔nI (p++[e]) q:=fun q=>by
   rw[List.mem_cons,h.gone];constructor
   ·rintro(rfl|⟨f,hf,h1⟩);·exact⟨e,by simp,hm,hk,rfl⟩
    ·exact⟨f,by simp[hf],h1⟩
   ·rintro⟨f,hf,h1,h2,h3⟩;rcases List.mem_append.1 hf with hf|hf;·exact .inr ⟨f,hf,h1,h2,h3⟩
    ·rw[List.mem_singleton]at hf;subst hf;exact .inl h3.symm
  refine⟨h.ok.put hput,?_,hgn,fun a=>?_,Bg,fun a ha=>hkept a (List.mem_filter.1 ha).1,(gD h.sorted).filter _,(List.filter_sublist.map aO).nodup Gt⟩;·show((gL e x.taken).filter _).length≤_;have:=List.length_filter_le (bF e.per) (gL e x.taken);rw[ja]at this;have:=h.len;simp;omega
  ·show a∈(gL e x.taken).filter _↔a∈p++[e]∧aB a=true∧(a.kind=14∨a.per∉e.per::x.gone);rw[List.mem_filter,dI,h.taken,List.mem_append,List.mem_singleton];unfold bF;simp only[Bool.or_eq_true,bne_iff_ne,beq_iff_eq,List.mem_cons,not_or];constructor
   ·rintro⟨rfl|⟨h1,h2,h3⟩,h4⟩;·exact⟨.inr rfl,hm,.inl hk⟩
    ·refine⟨.inl h1,h2,?_⟩;rcases h4 with h4|h4;·exact h3.imp id fun h3=>⟨h4,h3⟩
     ·exact .inl h4
   ·rintro⟨h1|rfl,h2,h3⟩;·exact⟨.inr ⟨h1,h2,h3.imp id (·.2)⟩,h3.elim .inr fun h3=>.inl h3.1⟩
    ·exact⟨.inl rfl,.inr hk⟩
 ·rename_i hk;refine⟨h.ok.put hput,?_,fun q=>?_,fun a=>?_,Bg,hkept,gD h.sorted,Gt⟩;·show(gL e x.taken).length≤_;rw[ja];have:=h.len;simp;omega
  ·show q∈x.gone↔_;rw[h.gone];constructor;·rintro⟨f,hf,h1⟩;exact⟨f,by simp[hf],h1⟩
   ·rintro⟨f,hf,h1,h2,h3⟩;rcases List.mem_append.1 hf with hf|hf;·exact⟨f,hf,h1,h2,h3⟩
    ·rw[List.mem_singleton]at hf;subst hf;exact absurd h2 hk
  ·show a∈gL e x.taken↔a∈p++[e]∧aB a=true∧(a.kind=14∨a.per∉x.gone);rw[dI,h.taken,List.mem_append,List.mem_singleton];constructor
   ·rintro(rfl|⟨h1,h2⟩);·exact⟨.inr rfl,hm,.inr fun h'=>hk (hg h')⟩
    ·exact⟨.inl h1,h2⟩
   ·rintro⟨h1|rfl,h2⟩;·exact .inr ⟨h1,h2⟩
    ·exact .inl rfl
theorem eB.admits{p:List Ev}{x:az}{e:Ev}(h:eB p x)(hp:p.length≤1000)(ha:xN (p++[e])):eB (p++[e]) (x.admits e):=by
 unfold az.admits;split;·rename_i hr;exact h.refuse hp ha hr
 ·rename_i hr;exact(h.aG _).took (show x.refuses e=false by simpa using hr)
theorem CG{l:List Ev}(h:(l.map aO).Nodup){a b:Ev}(ha:a∈l)(hb:b∈l)(he:aO a=aO b):a=b:=by
 induction l with
  |nil=>simp at ha
  |cons c l ih=>
   rw[List.map_cons,List.nodup_cons]at h;rcases List.mem_cons.1 ha with h1|h1<;>rcases List.mem_cons.1 hb with h2|h2;·rw[h1,h2]
   ·exact absurd (List.mem_map.2 ⟨b,h2,he.symm.trans (by rw[h1])⟩) h.1
   ·exact absurd (List.mem_map.2 ⟨a,h1,he.trans (by rw[h2])⟩) h.1
   ·exact ih h.2 h1 h2
theorem Gh{l:List Ev}(h:(l.map aO).Nodup){a b:Ev}(ha:a∈l)(hb:b∈l)(h1:Lb a b)(h2:Lb b a):a=b:=by
 rcases gH.total h2 with h3|⟨_,h3,h4⟩;·exact absurd h3 h1
 ·exact CG h ha hb (by unfold aO;rw[h3,h4])
theorem uz{l l':List Ev}(h:dS l)(h':dS l')(hi:(l.map aO).Nodup)(hi':(l'.map aO).Nodup)(hm: ∀e,e∈l↔e∈l'):l=l':=by have key: ∀l:List Ev,(l.map aO).Nodup→l.Nodup:=fun l h=>(List.pairwise_map.1 h).imp fun{a b}hne e=>hne (congrArg aO e);have n1:=key l hi;have n2:=key l' hi';exact List.Perm.eq_of_pairwise (fun a b ha hb h1 h2=>Gh hi ha ((hm b).2 hb) h1 h2) h h' ((List.perm_ext_iff_of_nodup n1 n2).2 hm)
theorem Ei(w:World)(F:Nat→Prop)(bi N:Nat)(x:az)(h:aS w F bi N x)(now:Int):Calls Tryz.prog 26 #[.pointer (some ⟨bi,0,none⟩),.int .i64 now] w (vT w F bi N (x.tick now) (x.tick now).aG.mark):=by obtain⟨A,hM,hO,hnl,Bf,iF,nk⟩:=h;have HM:=qH hM;have HO:=qH hO;have Dl:=qH iF;have tZ:=qH nk;obtain⟨c0,c1,c2,c3,c4,c5,f2,f3,f4⟩:=hM.cells;clear hM hO iF nk;go_enter Tryz.func26,Tryz.ntmps26;go_wp2_with fail;refine(xZ w A.bc A.bm x.aG HM.o.aG now).mono ?_;rintro r w1⟨rfl,hc1,hk1⟩;obtain⟨hI1,_,hK1⟩:=aS.rJ (N:=N) (M:=N) HM.o hnl Bf (Nat.le_refl _) Dl.o tZ.o hc1 (hk1.mono (F:=fun b=>b=A.bc∨b=A.bm) (fun _ _ h=>.inl h)) (HO.o.tick now);have HD:=qS (uj w F bi N (x.tick now) w1) (⟨F,hI1,hK1,fun b hb=>.inl hb⟩);clear hc1 hk1 hI1 hK1 c0 c1 c2 c3 c4 c5 f2 f3 f4;go_wp2;go_ret;exact⟨rfl,HD.o⟩
theorem wC(w:World)(b1 b2 bi g off n c:Nat)(a:Ev)(m:Int)(k:Nat)(hk:k<n)(hc1:w.cell? ⟨b1,0,none⟩=some (.pointer (some ⟨bi,0,none⟩)))(hc2:w.cell? ⟨bi,2,none⟩=some (.slice (some ⟨g,off,none⟩) n c))(ha:xL w g (off+k*8) a)(hm:w.cell? ⟨b2,0,none⟩=some (.int .i64 m)):Calls Tryz.prog 56 (#[.int .i64 k]++ #[.pointer (some ⟨b1,0,none⟩),.pointer (some ⟨b2,0,none⟩)]) w (Says (decide (m<a.at_)) w):=by
 show Calls Tryz.prog 56 #[.int .i64 k,.pointer (some ⟨b1,0,none⟩),.pointer (some ⟨b2,0,none⟩)] w (Says (decide (m<a.at_)) w);obtain⟨a0,a1,a2,a3,a4,a5,a6,a7⟩:=ha;have hk':(k:Int)<n:=by omega
 go_enter Tryz.func56,Tryz.ntmps56;go_wp2;go_quiet(fail);go_wp2;go_ret;exact⟨rfl,below_drewN (Below.refl _ _) _⟩
theorem GJ{w:World}{B n c k:Nat}{A:Option Addr}{es:List Ev}(h:eD w B A n c es)(hk:k≤n):eD w B A k c (es.take k):=by
 have hl:=h.len;refine⟨by rw[fG,List.length_take];omega,Nat.le_trans hk (aI.cap h),aI.max h,fun h0=>?_⟩;obtain⟨b,off,e,hb,hc⟩:=aI.cell h (by omega);refine⟨b,off,e,hb,fun i u hi=>hc i u ?_⟩;rw[←oz,List.getElem?_take]at hi;split at hi;·exact hi
 ·cases hi
theorem aU.down{w:World}{base base':Nat}{v:Value}{l:List Ev}(h:aU w base v l)(hb:base'≤base):aU w base' v l:=by
 refine⟨h.1,?_⟩;rcases h.2 with h'|⟨g,cap,cur,e,hg,r⟩;·exact .inl h'
 ·exact .inr ⟨g,cap,cur,e,Nat.le_trans hb hg,r⟩
def CX(l:List Ev)(m:Int)(k:Nat):Prop:=k≤l.length∧(∀i(h:i<l.length),i<k→l[i].at_≤m)∧ ∀i(h:i<l.length),k≤i→m<l[i].at_
def zK(w:World)(x:az)(r:Ending)(w':World):Prop:= ∃k v,CX x.taken x.aG.mark k∧r=.returned v∧aU w' w.heap.size v (x.taken.take k)∧Below w.heap.size w w'
theorem qj(w:World)(F:Nat→Prop)(bi N:Nat)(x:az)(h:aS w F bi N x)(hN:N≤100000):Calls Tryz.prog 27 #[.pointer (some ⟨bi,0,none⟩)] w (zK w x):=by
 obtain⟨A,hM,hO,hnl,Bf,iF,nk⟩:=h;have HM:=qH hM;have HO:=qH hO;have hlt:bi<w.heap.size:=hM.lt (.inl rfl);have htl:=hO.taken;obtain⟨B,cp,uk,hcm⟩:=hM.taken.form;unfold maxLen at hcm;have bQ:Below w.heap.size w (w.alloc (.cells #[.pointer (some ⟨bi,0,none⟩)] 31)):=(Below.refl _ _).alloc (Nat.le_refl _) _;obtain⟨c0,c1,c2,c3,c4,c5,f2,f3,f4⟩:=(hM.up bQ).cells;rw[uk]at c2;clear hM hO iF nk;go_enter Tryz.func27,Tryz.ntmps27;go_wp2_with fail;have hB1:(w.alloc (.cells #[.pointer (some ⟨bi,0,none⟩)] 31)).cell? ⟨w.heap.size,0,none⟩=some (.pointer (some ⟨bi,0,none⟩)):=cell_of_row _ w.heap.size 0 _ _ (0,0) (heap_alloc_new w _);have hsA:(w.alloc (.cells #[.pointer (some ⟨bi,0,none⟩)] 31)).heap.size=w.heap.size+1:=by simp
 have lH:=qH (HM.o.up bQ);generalize w.alloc (.cells #[.pointer (some ⟨bi,0,none⟩)] 31)=w1 at*;refine(yO w1 A.bc A.bm x.aG lH.o.aG).mono ?_;rintro r w1'⟨rfl,rfl⟩;have hbi1:bi<w1.heap.size:=by omega
 have hw1:w.heap.size<w1.heap.size:=by omega
 go_wp2_with fail;have xO:Below w1.heap.size w1 (w1.alloc (.cells #[.int .i64 x.aG.mark] 3)):=(Below.refl _ _).alloc (Nat.le_refl _) _;have HB2:=qS ((w1.alloc (.cells #[.int .i64 x.aG.mark] 3)).cell? ⟨w.heap.size+1,0,none⟩=some (.int .i64 x.aG.mark)) (by rw[←hsA];exact cell_of_row _ w1.heap.size 0 _ _ (0,0) (heap_alloc_new w1 _));have HB1:=qH ((xO.cell (p:=⟨w.heap.size,0,none⟩) hw1).trans hB1);have hsB:(w1.alloc (.cells #[.int .i64 x.aG.mark] 3)).heap.size=w1.heap.size+1:=by simp
 have xH:=qH (lH.o.up xO);have hbw2:Below w.heap.size w (w1.alloc (.cells #[.int .i64 x.aG.mark] 3)):=bQ.trans (xO.mono bQ.size);clear xO c0 c1 c2 c3 c4 c5 f2 f3 f4 hB1 bQ;generalize w1.alloc (.cells #[.int .i64 x.aG.mark] 3)=w2 at*;have IJ:=qS (eD w2 w2.heap.size B x.taken.length cp x.taken) (by have:=xH.o.taken;rw[uk]at this;exact aI.bz this);have hc22:w2.cell? ⟨bi,2,none⟩=some (.slice B x.taken.length cp):=by rw[←uk];exact xH.o.cells.c2
 have TB:=qH hc22;clear hc22;refine(mJ w2 56 #[.pointer (some ⟨w.heap.size,0,none⟩),.pointer (some ⟨w.heap.size+1,0,none⟩)] x.taken.length (fun i=>decide (x.aG.mark<(x.taken.getD i ⟨[],0,0,0,[],[],0,[]⟩).at_)) (by omega) (fun _ _=>by kernel_rfl) ?_ ?_).mono ?_
 ·intro w4 i hb4 hi;obtain⟨g,off,rfl,hg,hev⟩:=IJ.o.ev i hi;have e':x.taken.getD i ⟨[],0,0,0,[],[],0,[]⟩=x.taken[i]:=by simp[List.getD,List.getElem?_eq_getElem hi]
  simp only[e'];exact wC w4 _ _ bi g off _ cp _ _ i hi ((hb4.cell (p:=⟨w.heap.size,0,none⟩) (by show w.heap.size<_;omega)).trans HB1.o) ((hb4.cell (p:=⟨bi,2,none⟩) (by show bi<_;omega)).trans TB.o) (hev.below hb4 hg) ((hb4.cell (p:=⟨w.heap.size+1,0,none⟩) (by show w.heap.size+1<_;omega)).trans HB2.o)
 ·intro i j hij hj hp;simp only[List.getD,List.getElem?_eq_getElem hj,List.getElem?_eq_getElem (show i<x.taken.length by omega),Option.getD_some,decide_eq_true_eq]at*;rcases Nat.lt_or_ge i j with hlt'|hge;·have:=(List.pairwise_iff_getElem.1 HO.o.sorted i j (by omega) hj hlt').at_;omega
  ·have:i=j:=by omega
   subst this;exact hp
 rintro r w3⟨k,rfl,hkl,h1,h2,hb3⟩;have HP:=qS (CX x.taken x.aG.mark k) (⟨hkl,fun i hi hlt'=>by have:=h1 i hlt';simp only[List.getD,List.getElem?_eq_getElem hi,Option.getD_some,decide_eq_false_iff_not]at this;omega,fun i hi hge=>by have:=h2 i hge hi;simpa only[List.getD,List.getElem?_eq_getElem hi,Option.getD_some,decide_eq_true_eq]using this⟩);have hbw3:Below w.heap.size w w3:=hbw2.trans (hb3.mono hbw2.size);have Fv:=qH (HM.o.up hbw3);have hb31:=(hb3.cell (p:=⟨w.heap.size,0,none⟩) (by show w.heap.size<_;omega)).trans HB1.o;have hc32:w3.cell? ⟨bi,2,none⟩=some (.slice B x.taken.length cp):=by rw[←uk];exact Fv.o.cells.c2
 have EZ:=qS (eD w3 w3.heap.size B x.taken.length cp x.taken) (by have:=Fv.o.taken;rw[uk]at this;exact aI.bz this);clear h1 h2 hb3 hbw2;have hkc:k≤cp:=by have:=aI.cap EZ.o;omega
 have WA:B=none∨ ∃g,B=some ⟨g,0,none⟩:=by
  have:=HM.o.taken;rw[uk]at this;rcases this.2 with⟨q,_⟩|⟨g,_,_,q,_⟩;·left;injection q
  ·right;exact⟨g,by injection q⟩
 have VD:=qS (eD w3 w3.heap.size B k cp (x.taken.take k)) (GJ EZ.o hkl);rcases WA with rfl|⟨g,rfl⟩;·go_wp2_with fail;refine(gX w3 none k cp (x.taken.take k) VD.o (by omega)).mono ?_;rintro r w5⟨v,rfl,ho5,hb5⟩;have ko:=qH ho5;have hbw5:Below w.heap.size w w5:=hbw3.trans (hb5.mono hbw3.size);have hs3:=hbw3.size;clear ho5 hb5 hb31 hc32;go_wp2;go_ret;exact⟨k,v,HP.o,rfl,ko.o.down hs3,hbw5⟩
 ·go_wp2_with fail;refine(gX w3 (some ⟨g,0,none⟩) k cp (x.taken.take k) VD.o (by omega)).mono ?_;rintro r w5⟨v,rfl,ho5,hb5⟩;have ko:=qH ho5;have hbw5:Below w.heap.size w w5:=hbw3.trans (hb5.mono hbw3.size);have hs3:=hbw3.size;clear ho5 hb5 hb31 hc32;go_wp2;go_ret;exact⟨k,v,HP.o,rfl,ko.o.down hs3,hbw5⟩
theorem rA(c:bq)(now:Int):(c.tick now).now=max c.now (ed now):=by unfold bq.tick;rw[yn]
theorem rz(c:bq)(now:Int):(c.tick now).rise=c.tick now:=uX _
theorem Bi(c:bq)(s:List UInt8)(at_ now:Int):(c.hear s at_ now).rise=c.hear s at_ now:=by
 unfold bq.hear;split;·exact uX _
 ·exact rz c now
theorem Gu(c:bq)(s:List UInt8)(at_ now:Int):(c.hear s at_ now).now=max c.now (ed now):=by
 unfold bq.hear;split;·unfold bq.heard;rw[yn];exact rA c now
 ·exact rA c now
structure bA(x:az):Prop where
 inv:nD (fun _=>True) x
 ok:bV x.had
 sorted:dS x.taken
 ids:(x.taken.map aO).Nodup
 kept: ∀e∈x.taken,hadB x.had e.src e.num=true
 may: ∀e,e∈x.taken∨e∈x.late→aB e=true
 FP:x.aG.rise=x.aG
 now:0≤x.aG.now
theorem bA.new(ag idle:Int):bA (az.new ag idle):=⟨nD.new _ _ _,bV.nil,List.Pairwise.nil,by simp[az.new],fun e he=>by simp[az.new]at he,fun e he=>by simp[az.new]at he,by rfl,by simp[az.new,bq.new]⟩
theorem bA.aG{x:az}(h:bA x){c:bq}(h1:c.rise=c)(h2:0≤c.now):bA {x with aG:=c}:=⟨⟨h.inv.taken,h.inv.late,h.inv.gone,h.inv.stay,h.inv.JS⟩,h.ok,h.sorted,h.ids,h.kept,h.may,h1,h2⟩
theorem bA.tick{x:az}(h:bA x)(now:Int):bA (x.tick now):=h.aG (rz _ _) (by rw[rA];have:=h.now;omega)
theorem bA.hear{x:az}(h:bA x)(e:Ev)(now:Int):bA (x.hear e now):=h.aG (Bi _ _ _ _) (by rw[Gu];have:=h.now;omega)
theorem bA.took{x:az}{e:Ev}(h:bA x)(hr:x.refuses e=false):bA (x.took e):=by
 obtain⟨hm,hg,hh⟩:=kM hr;have hput:=wH hm hh;have Gt:((gL e x.taken).map aO).Nodup:=by rw[((vG e x.taken).map aO).nodup_iff,List.map_cons,List.nodup_cons];refine⟨fun hc=>?_,h.ids⟩;obtain⟨a,ha,hai⟩:=List.mem_map.1 hc;have:=h.kept a ha;unfold aO at hai;injection hai with h1 h2;rw[h1,h2,hh]at this;cases this
 have hkept: ∀a∈gL e x.taken,hadB (rU x.had e.src e.num) a.src a.num=true:=fun a ha=>by
  rw[rT h.ok hput];rcases dI.1 ha with rfl|ha;·simp
  ·simp[h.kept a ha]
 have l8: ∀a∈gL e x.taken,aB a=true:=fun a ha=>by
  rcases dI.1 ha with rfl|ha;·exact hm
  ·exact h.may a (.inl ha)
 have hinv:=h.inv.took (e:=e) trivial hg;unfold az.took at hinv⊢;split
 ·rename_i hk;rw[if_pos hk]at hinv;exact⟨hinv,h.ok.put hput,(gD h.sorted).filter _,(List.filter_sublist.map aO).nodup Gt,fun a ha=>hkept a (List.mem_filter.1 ha).1,fun a ha=>by
   rcases ha with ha|ha;·exact l8 a (List.mem_filter.1 ha).1
   ·exact h.may a (.inr (List.mem_filter.1 ha).1),h.FP,h.now⟩
 ·rename_i hk;rw[if_neg hk]at hinv;exact⟨hinv,h.ok.put hput,gD h.sorted,Gt,hkept,fun a ha=>ha.elim (l8 a) (fun h'=>h.may a (.inr h')),h.FP,h.now⟩
theorem bA.admits{x:az}(h:bA x)(e:Ev):bA (x.admits e):=by
 unfold az.admits;split;·exact h
 ·rename_i hr;exact(h.hear e _).took (show x.refuses e=false by simpa using hr)
end Go.Proofs.YtladegonienapaaGreatDoor
