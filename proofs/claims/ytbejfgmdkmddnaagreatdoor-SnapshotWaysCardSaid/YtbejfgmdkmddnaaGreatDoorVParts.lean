/-
  Layer 8: Parts.
-/
import Derived.Test.YtbejfgmdkmddnaaGreatDoorVOpenDds
import Derived.Test.YtbejfgmdkmddnaaGreatDoorVEnc3
set_option maxRecDepth 100000
set_option maxHeartbeats 16000000
namespace Go.Proofs.YtbejfgmdkmddnaaGreatDoor
open Go.RowKit Go.Maps Go.Sort
theorem iT{x:ay}{e:Ev}(h:x.refuses e=false):bA e=true∧(e.per∈x.gone→e.kind=14)∧hadB x.had e.src e.num=false:=by
 unfold ay.refuses ay.wrong at h;simp only[Bool.or_eq_false_iff,Bool.not_eq_false',Bool.and_eq_false_iff,decide_eq_false_iff_not]at h;refine⟨h.1.1.1,fun hg=>?_,h.2⟩;rcases h.1.1.2 with h'|h';·exact absurd hg h'
 ·simpa using h'
theorem fQ.congr{w:World}{b n:Nat}{ks ks':List (List UInt8)}(h:fQ w b n ks)(hk: ∀x,x∈ks↔x∈ks'):fQ w b n ks':=by
 obtain⟨D,h1,h2,h3⟩:=h;refine⟨D,h1,h2,fun k=>?_⟩;have:decide (k∈ks')=decide (k∈ks):=by simp[hk]
 rw[this];exact h3 k
theorem yK(w:World)(F:Nat→Prop)(bi N:Nat)(x:ay)(h:aU w F bi N x)(hN:N≤100000):Calls Tryz.prog 19 #[.pointer (some ⟨bi,0,none⟩)] w (gF w x.taken):=by
 obtain⟨A,hM,hO,_⟩:=h;have HM:=qH hM;have htl:=hO.taken;obtain⟨B,c,hv,hc⟩:=hM.taken.form;obtain⟨c0,c1,c2,c3,c4,c5,f2,f3,f4⟩:=hM.cells;rw[hv]at c2;clear hM hO;go_enter Tryz.func19,Tryz.ntmps19;go_wp2_with fail;have hev:fV w w.heap.size B x.taken.length c x.taken:=by have:=HM.o.taken;rw[hv]at this;exact az.aI this
 refine(kH w B _ c x.taken hev (by omega)).mono ?_;rintro r w1⟨v,rfl,ho,hb⟩;have HO:=qH ho;clear ho hev c0 c1 c2 c3 c4 c5 f2 f3 f4;go_wp2;go_ret;exact⟨v,rfl,HO.o,hb⟩
open Go.Shelf
theorem Bo(w:World)(F:Nat→Prop)(bi N:Nat)(x:ay)(h:aU w F bi N x)(hN:N≤100000):Calls Tryz.prog 20 #[.pointer (some ⟨bi,0,none⟩)] w (gF w x.late):=by
 obtain⟨A,hM,hO,_⟩:=h;have HM:=qH hM;have htl:=hO.late;obtain⟨B,c,hv,hc⟩:=hM.late.form;obtain⟨c0,c1,c2,c3,c4,c5,f2,f3,f4⟩:=hM.cells;rw[hv]at c3;clear hM hO;go_enter Tryz.func20,Tryz.ntmps20;go_wp2_with fail;have hev:fV w w.heap.size B x.late.length c x.late:=by have:=HM.o.late;rw[hv]at this;exact az.aI this
 refine(kH w B _ c x.late hev (by omega)).mono ?_;rintro r w1⟨v,rfl,ho,hb⟩;have HO:=qH ho;clear ho hev c0 c1 c2 c3 c4 c5 f2 f3 f4;go_wp2;go_ret;exact⟨v,rfl,HO.o,hb⟩
theorem Bp(w:World)(F:Nat→Prop)(bi N:Nat)(x:ay)(h:aU w F bi N x)(hN:N≤100000):Calls Tryz.prog 50 #[.pointer (some ⟨bi,0,none⟩)] w (GJ w x.gone):=by
 obtain⟨A,hM,hO,_,Bq,_⟩:=h;obtain⟨c0,c1,c2,c3,c4,c5,f2,f3,f4⟩:=hM.cells;obtain⟨D,hD1,hD2,hD3⟩:=hM.gone;have HD:=qH hD1;have hDs:Maps.size D≤A.ng:=hD1.size_le;have hle:A.ng≤100000:=by omega
 clear hM hO hD1;refine(callsIn_wide (n:=6)).1 ?_;have hfK:Fence.wide.fn 112:=trivial;have hfS:Fence.wide.fn 111:=trivial;refine callsIn_of_wp Tryz.func50 rfl trivial ?_ rfl;simp only[Tryz.ntmps50,List.size_toArray,List.length_cons,List.length_nil,Nat.reduceAdd,Nat.reduceSub,Array.replicate_succ,Array.replicate_zero,List.push_toArray,List.append_toArray,List.nil_append,List.cons_append];gi_wp2_with fail;refine(Tryz.zS _ _).mono ?_;rintro e w2⟨rfl,rfl⟩;gi_wp2_with fail;refine(Tryz.kN A.bg A.ng D _ w HD.o (by unfold maxLen;omega) (by omega)).mono ?_;rintro e w3⟨v,ss,rfl,hS,hrow,hnil,hb3⟩;clear c0 c1 c2 c3 c4 c5 f2 f3 f4;gi_wp2_with fail;go_ret;obtain⟨ks,hk1,hk2⟩:=ES x.gone;have hp:ks.Perm (strKeys D):=fQ.perm HD.o (fun k=>(hD3 k).2) hk1 hk2;have X3:ss.Perm ks:=hS.trans hp.symm;have hnd:ss.Nodup:=X3.nodup_iff.2 hk1;have hr:=o7 hnd (fun x=>X3.mem_iff.trans (hk2 x));have hlen:(ss.mergeSort (fun x y=>decide (x≤y))).length=ss.length:=List.length_mergeSort _;refine⟨v,ss.mergeSort (fun x y=>decide (x≤y)),rfl,hr,?_,?_⟩
 ·rw[hlen];refine⟨hrow.1,?_⟩;rcases hrow.2 with⟨e,hl⟩|⟨g,cap,cur,e,hb',hg,hrr⟩;·exact .inl ⟨e,hl⟩
  ·exact .inr ⟨g,cap,cur,e,by simp at hb';omega,hg,hrr⟩
 ·exact((Below.refl _ _).alloc (Nat.le_refl _) _).trans (hb3.mono (by simp))
structure jE(P:Ev→Prop)(x:ay):Prop where
 taken: ∀e∈x.taken,P e
 late: ∀e∈x.late,P e
 gone: ∀p∈x.gone,∃e,P e∧e.per=p
 stay: ∀e,e∈x.taken∨e∈x.late→e.per∈x.gone→e.kind=14
 MG: ∀e∈x.taken,e.kind=14→e.per∈x.gone
theorem jE.new(P:Ev→Prop)(aa idle:Int):jE P (ay.new aa idle):=⟨fun e he=>by simp[ay.new]at he,fun e he=>by simp[ay.new]at he,fun e he=>by simp[ay.new]at he,fun e he=>by simp[ay.new]at he,fun e he=>by simp[ay.new]at he⟩
theorem jE.drop{P:Ev→Prop}{x:ay}(h:jE P x)(p:Ev→Bool):jE P (x.drop p):=⟨fun e he=>h.taken e (List.mem_filter.1 he).1,fun e he=>h.late e (List.mem_filter.1 he).1,h.gone,fun e he=>h.stay e (he.imp (fun h=>(List.mem_filter.1 h).1) (fun h=>(List.mem_filter.1 h).1)),fun e he=>h.MG e (List.mem_filter.1 he).1⟩
theorem jE.took{P:Ev→Prop}{x:ay}(h:jE P x){e:Ev}(he:P e)(hw:e.per∈x.gone→e.kind=14):jE P (x.took e):=by
 unfold ay.took;split
 ·rename_i hk;refine⟨fun a ha=>?_,fun a ha=>?_,fun p hp=>?_,fun a ha hg=>?_,fun a ha _=>?_⟩
  ·rcases jf.1 (List.mem_filter.1 ha).1 with rfl|ha;·exact he
   ·exact h.taken a ha
  ·exact h.late a (List.mem_filter.1 ha).1
  ·have hp':p∈e.per::x.gone:=hp;rcases List.mem_cons.1 hp' with rfl|hp';·exact⟨e,he,rfl⟩
   ·exact h.gone p hp'
  ·have hg':a.per∈e.per::x.gone:=hg;have hkeep:bT e.per a=true:=by rcases ha with ha|ha<;>exact(List.mem_filter.1 ha).2
   by_cases hp:a.per=e.per;·unfold bT at hkeep;simpa[hp]using hkeep
   ·have hg2:a.per∈x.gone:=by rcases List.mem_cons.1 hg' with h'|h';exact absurd h' hp;exact h'
    rcases ha with ha|ha
    ·rcases jf.1 (List.mem_filter.1 ha).1 with rfl|ha;·exact hk
     ·exact h.stay a (.inl ha) hg2
    ·exact h.stay a (.inr (List.mem_filter.1 ha).1) hg2
  ·show a.per∈e.per::x.gone;rcases jf.1 (List.mem_filter.1 ha).1 with rfl|ha';·simp
   ·exact List.mem_cons_of_mem _ (h.MG a ha' (by assumption))
 ·rename_i hk;refine⟨fun a ha=>?_,h.late,h.gone,fun a ha hg=>?_,fun a ha hk'=>?_⟩
  ·rcases jf.1 ha with rfl|ha;·exact he
   ·exact h.taken a ha
  ·rcases ha with ha|ha
   ·rcases jf.1 ha with rfl|ha;·exact hw hg
    ·exact h.stay a (.inl ha) hg
   ·exact h.stay a (.inr ha) hg
  ·rcases jf.1 ha with rfl|ha;·exact absurd hk' hk
   ·exact h.MG a ha hk'
theorem jE.bu{P:Ev→Prop}{x:ay}(h:jE P x){e:Ev}(he:P e)(hw:e.per∈x.gone→e.kind=14):jE P (x.bu e):=by
 unfold ay.bu;split;·exact h
 ·refine⟨h.taken,fun a ha=>?_,h.gone,fun a ha hg=>?_,h.MG⟩
  ·rcases List.mem_append.1 ha with ha|ha;·exact h.late a ha
   ·simp at ha;subst ha;exact he
  ·rcases ha with ha|ha;·exact h.stay a (.inl ha) hg
   ·rcases List.mem_append.1 ha with ha|ha;·exact h.stay a (.inr ha) hg
    ·simp at ha;subst ha;exact hw hg
theorem Mi(e:Ev)(l:List Ev):(eX e l).Perm (e::l):=by
 have h:l.takeWhile (fun a=>!decide (gU e a))++l.dropWhile (fun a=>!decide (gU e a))=l:=List.takeWhile_append_dropWhile;unfold eX;conv=>rhs;rw[←h]
 exact List.perm_middle
def ay.deed(x:ay)(d:Dd):ay:=if d.kind<4 then x.offer d.e d.now else if d.kind=4 then x.admits d.e else if d.kind=5 then x.tick d.now else if d.kind=6 then x.drop (fun e=>e.per !=d.per)else x
def ay.grown(aa idle:Int)(ds:List Dd):ay:=ds.foldl ay.deed (ay.new aa idle)
theorem IM(aa idle:Int)(ds:List Dd)(d:Dd):ay.grown aa idle (ds++[d])=(ay.grown aa idle ds).deed d:=by unfold ay.grown;rw[List.foldl_append];rfl
theorem IL(aa idle:Int)(ds:List Dd)(k:Nat)(hk:k<ds.length):ay.grown aa idle (ds.take (k+1))=(ay.grown aa idle (ds.take k)).deed ds[k]:=by rw[List.take_add_one,List.getElem?_eq_getElem hk,Option.toList_some,IM]
theorem xP(c:aZ)(now:Int):(c.tick now).now=max c.now (df now):=by unfold aZ.tick;rw[Eu]
theorem xO(c:aZ)(now:Int):(c.tick now).rise=c.tick now:=AZ _
theorem IG(c:aZ)(s:List UInt8)(at_ now:Int):(c.hear s at_ now).rise=c.hear s at_ now:=by
 unfold aZ.hear;split;·exact AZ _
 ·exact xO c now
theorem Ph(c:aZ)(s:List UInt8)(at_ now:Int):(c.hear s at_ now).now=max c.now (df now):=by
 unfold aZ.hear;split;·unfold aZ.heard;rw[Eu];exact xP c now
 ·exact xP c now
structure aO(x:ay):Prop where
 inv:jE (fun _=>True) x
 ok:dJ x.had
 sorted:dL x.taken
 ids:(x.taken.map bB).Nodup
 kept: ∀e∈x.taken,hadB x.had e.src e.num=true
 may: ∀e,e∈x.taken∨e∈x.late→bA e=true
 Et:x.au.rise=x.au
 now:0≤x.au.now
theorem aO.new(aa idle:Int):aO (ay.new aa idle):=⟨jE.new _ _ _,dJ.nil,List.Pairwise.nil,by simp[ay.new],fun e he=>by simp[ay.new]at he,fun e he=>by simp[ay.new]at he,by rfl,by simp[ay.new,aZ.new]⟩
theorem aO.au{x:ay}(h:aO x){c:aZ}(h1:c.rise=c)(h2:0≤c.now):aO {x with au:=c}:=⟨⟨h.inv.taken,h.inv.late,h.inv.gone,h.inv.stay,h.inv.MG⟩,h.ok,h.sorted,h.ids,h.kept,h.may,h1,h2⟩
theorem aO.tick{x:ay}(h:aO x)(now:Int):aO (x.tick now):=h.au (xO _ _) (by rw[xP];have:=h.now;omega)
theorem aO.hear{x:ay}(h:aO x)(e:Ev)(now:Int):aO (x.hear e now):=h.au (IG _ _ _ _) (by rw[Ph];have:=h.now;omega)
theorem aO.drop{x:ay}(h:aO x)(p:Ev→Bool):aO (x.drop p):=⟨h.inv.drop p,h.ok,h.sorted.filter p,(List.filter_sublist.map bB).nodup h.ids,fun e he=>h.kept e (List.mem_filter.1 he).1,fun e he=>h.may e (he.imp (fun h=>(List.mem_filter.1 h).1) (fun h=>(List.mem_filter.1 h).1)),h.Et,h.now⟩
theorem aO.took{x:ay}{e:Ev}(h:aO x)(hr:x.refuses e=false):aO (x.took e):=by
 obtain⟨hm,hg,hh⟩:=iT hr;have hput:=Cs hm hh;have Yc:((eX e x.taken).map bB).Nodup:=by rw[((Mi e x.taken).map bB).nodup_iff,List.map_cons,List.nodup_cons];refine⟨fun hc=>?_,h.ids⟩;obtain⟨a,ha,hai⟩:=List.mem_map.1 hc;have:=h.kept a ha;unfold bB at hai;injection hai with h1 h2;rw[h1,h2,hh]at this;cases this
 have hkept: ∀a∈eX e x.taken,hadB (oC x.had e.src e.num) a.src a.num=true:=fun a ha=>by
  rw[Oj h.ok hput];rcases jf.1 ha with rfl|ha;·simp
  ·simp[h.kept a ha]
 have nV: ∀a∈eX e x.taken,bA a=true:=fun a ha=>by
  rcases jf.1 ha with rfl|ha;·exact hm
  ·exact h.may a (.inl ha)
 have hinv:=h.inv.took (e:=e) trivial hg;unfold ay.took at hinv⊢;split
 ·rename_i hk;rw[if_pos hk]at hinv;exact⟨hinv,h.ok.put hput,(mf h.sorted).filter _,(List.filter_sublist.map bB).nodup Yc,fun a ha=>hkept a (List.mem_filter.1 ha).1,fun a ha=>by
   rcases ha with ha|ha;·exact nV a (List.mem_filter.1 ha).1
   ·exact h.may a (.inr (List.mem_filter.1 ha).1),h.Et,h.now⟩
 ·rename_i hk;rw[if_neg hk]at hinv;exact⟨hinv,h.ok.put hput,mf h.sorted,Yc,hkept,fun a ha=>ha.elim (nV a) (fun h'=>h.may a (.inr h')),h.Et,h.now⟩
theorem aO.bu{x:ay}{e:Ev}(h:aO x)(hr:x.refuses e=false):aO (x.bu e):=by
 obtain⟨hm,hg,hh⟩:=iT hr;have hinv:=h.inv.bu (e:=e) trivial hg;unfold ay.bu at hinv⊢;split;·exact h
 ·rename_i hk;rw[if_neg hk]at hinv;exact⟨hinv,h.ok,h.sorted,h.ids,h.kept,fun a ha=>by
   rcases ha with ha|ha;·exact h.may a (.inl ha)
   ·rcases List.mem_append.1 ha with ha|ha;·exact h.may a (.inr ha)
    ·rw[List.mem_singleton]at ha;rw[ha];exact hm,h.Et,h.now⟩
theorem aO.offer{x:ay}(h:aO x)(e:Ev)(now:Int):aO (x.offer e now):=by
 unfold ay.offer;split;·exact h.tick now
 ·rename_i hr;split;·exact((h.tick now).hear e now).took (show(x.tick now).refuses e=false by simpa using hr)
  ·exact((h.tick now).hear e now).bu (show(x.tick now).refuses e=false by simpa using hr)
theorem aO.admits{x:ay}(h:aO x)(e:Ev):aO (x.admits e):=by
 unfold ay.admits;split;·exact h
 ·rename_i hr;exact(h.hear e _).took (show x.refuses e=false by simpa using hr)
theorem aO.deed{x:ay}(h:aO x)(d:Dd):aO (x.deed d):=by
 unfold ay.deed;split;·exact h.offer _ _
 split;·exact h.admits _
 split;·exact h.tick _
 split;·exact h.drop _
 ·exact h
theorem aO.grown(aa idle:Int)(ds:List Dd):aO (ay.grown aa idle ds):=by
 unfold ay.grown;have key: ∀(ds:List Dd)(x:ay),aO x→aO (ds.foldl ay.deed x):=fun ds=>by induction ds with|nil=>exact fun x h=>h|cons d ds ih=>exact fun x h=>ih _ (h.deed d)
 exact key ds _ (aO.new aa idle)
abbrev fq(a b:Int)(vc vh vt vl vg:Value):Value:=.agg #[.int .i64 a,.int .i64 b,vc,vh,vt,vl,vg]
theorem fF{w:World}{base base':Nat}{e:TypeId}{size n:Nat}{v:Value}{xs:List Value}(h:w.ownsRow base e size v n xs)(hb:base'≤base):w.ownsRow base' e size v n xs:=by
 refine⟨h.1,?_⟩;rcases h.2 with h'|⟨g,cap,cur,rfl,hb',hg,hr⟩;·exact .inl h'
 ·exact .inr ⟨g,cap,cur,rfl,by omega,hg,hr⟩
theorem mi{B:Nat}{w W V:World}{o:Obj}(h:RowKit.Below B w W)(_h0:RowKit.Below (W.alloc o).heap.size (W.alloc o) V):w.heap.size≤(W.alloc o).heap.size:=by have:=h.size;simp;omega
theorem qB{w W:World}{o:Obj}(h:RowKit.Below (w.alloc o).heap.size (w.alloc o) W):W.heap[w.heap.size]?=some o:=(h.block _ (by simp)).trans (heap_alloc_new w o)
theorem mo{w W:World}{o:Obj}(h:RowKit.Below (w.alloc o).heap.size (w.alloc o) W):RowKit.Below w.heap.size w W:=((Below.refl _ _).alloc (Nat.le_refl _) o).trans (h.mono (Nat.le_of_lt (by simp)))
theorem bM{W:World}{b:Nat}{T:TypeId}{a0 a1 a2 a3 a4 a5 a6:Value}(h:W.heap[b]?=some (.cells #[a0,a1,a2,a3,a4,a5,a6] T (0,0))):W.cell? ⟨b,0,none⟩=some a0∧W.cell? ⟨b,1,none⟩=some a1∧W.cell? ⟨b,2,none⟩=some a2∧W.cell? ⟨b,3,none⟩=some a3∧W.cell? ⟨b,4,none⟩=some a4∧W.cell? ⟨b,5,none⟩=some a5∧W.cell? ⟨b,6,none⟩=some a6∧W.frozen? ⟨b,0,none⟩=false∧W.frozen? ⟨b,1,none⟩=false∧W.frozen? ⟨b,2,none⟩=false∧W.frozen? ⟨b,3,none⟩=false∧W.frozen? ⟨b,4,none⟩=false∧W.frozen? ⟨b,5,none⟩=false∧W.frozen? ⟨b,6,none⟩=false:=by have key: ∀o,W.cell? ⟨b,o,none⟩=_:=fun o=>cell_of_row W b o _ _ (0,0) h;exact⟨(key 0).trans rfl,(key 1).trans rfl,(key 2).trans rfl,(key 3).trans rfl,(key 4).trans rfl,(key 5).trans rfl,(key 6).trans rfl,frozen_of_row W b 0 _ _ h,frozen_of_row W b 1 _ _ h,frozen_of_row W b 2 _ _ h,frozen_of_row W b 3 _ _ h,frozen_of_row W b 4 _ _ h,frozen_of_row W b 5 _ _ h,frozen_of_row W b 6 _ _ h⟩
theorem qi{w w':World}{base base' n n' size size':Nat}{e e':TypeId}{v v':Value}{xs xs':List Value}(h:w.ownsRow base e size v n xs)(h':w'.ownsRow base' e' size' v' n' xs')(hb:w.heap.size≤base'): ∀b,v.ownBlock=some b→v'.ownBlock≠some b:=fun b h1 h2=>by have:=(World.ownsRow.lt h b h1).2;have:=(World.ownsRow.lt h' b h2).1;omega
structure oG(w:World)(B:Nat)(x:ay)(vc vh vt vl vg:Value)(r:List (List UInt8)):Prop where
 au:aK w B vc (aX x.au)
 had:aK w B vh (bV x.had)
 taken:aP w B vt x.taken
 late:aP w B vl x.late
 gone:w.ownsRow B 9 1 vg r.length (r.map encStr)
 rise:fI r x.gone
 ap1: ∀b,vc.ownBlock=some b→vh.ownBlock≠some b
 ap2: ∀b,vt.ownBlock=some b→vl.ownBlock≠some b
theorem oG.bT{w W:World}{B t:Nat}{x:ay}{vc vh vt vl vg:Value}{r:List (List UInt8)}{cs:Array Value}(h:oG w B x vc vh vt vl vg r)(ht:w.heap[t]?=some (.cells cs 42 (0,0)))(hk: ∀b,b<w.heap.size→b≠t→W.heap[b]?=w.heap[b]?):oG W B x vc vh vt vl vg r:=by
 have key: ∀{b:Nat}{e:TypeId}{n size:Nat}{v:Value}{xs:List Value},w.ownsRow B e size v n xs→e≠42→v.ownBlock=some b→W.heap[b]?=w.heap[b]?:=fun{b e n size v xs}ho he hb=>by refine hk b (World.ownsRow.lt ho b hb).2 fun hbt=>?_;obtain⟨cs',hc⟩:=lZ ho hb;rw[hbt,ht]at hc;injection hc with hc;injection hc with _ hc;exact he hc.symm
 exact⟨dK h.au fun b hb=>key h.au (by decide) hb,dK h.had fun b hb=>key h.had (by decide) hb,dK h.taken fun b hb=>key h.taken (by decide) hb,dK h.late fun b hb=>key h.late (by decide) hb,dK h.gone fun b hb=>key h.gone (by decide) hb,h.rise,h.ap1,h.ap2⟩
theorem oG.up{w W:World}{B:Nat}{x:ay}{vc vh vt vl vg:Value}{r:List (List UInt8)}(h:oG w B x vc vh vt vl vg r)(hb:RowKit.Below w.heap.size w W):oG W B x vc vh vt vl vg r:=⟨ownsRow_below h.au hb (Nat.le_refl _),ownsRow_below h.had hb (Nat.le_refl _),ownsRow_below h.taken hb (Nat.le_refl _),ownsRow_below h.late hb (Nat.le_refl _),ownsRow_below h.gone hb (Nat.le_refl _),h.rise,h.ap1,h.ap2⟩
abbrev aW(a b:Int)(vc vh vt vl vg:Value):Obj:=.cells #[.int .i64 a,.int .i64 b,vc,vh,vt,vl,vg] 42
def VP(w1:World)(x:ay)(a b:Int)(v:Value)(W:World):Prop:= ∃t Ac nc kc Ah nh kh At nt kt Al nl kl Ag ng kg r,v=.pointer (some ⟨t,0,none⟩)∧w1.heap.size≤t∧W.heap[t]?=some (aW a b (.slice Ac nc kc) (.slice Ah nh kh) (.slice At nt kt) (.slice Al nl kl) (.slice Ag ng kg))∧oG W w1.heap.size x (.slice Ac nc kc) (.slice Ah nh kh) (.slice At nt kt) (.slice Al nl kl) (.slice Ag ng kg) r∧RowKit.Below w1.heap.size w1 W
theorem Vh{w1 we:World}{x:ay}{Ac Ah At Al Ag:Option Addr}{nc kc nh kh nt kt nl kl ng kg:Nat}{r:List (List UInt8)}(h:oG we w1.heap.size x (.slice Ac nc kc) (.slice Ah nh kh) (.slice At nt kt) (.slice Al nl kl) (.slice Ag ng kg) r)(hb:RowKit.Below w1.heap.size w1 we)(a b:Int):VP w1 x a b (.pointer (some ⟨we.heap.size,0,none⟩)) (we.alloc (aW a b (.slice Ac nc kc) (.slice Ah nh kh) (.slice At nt kt) (.slice Al nl kl) (.slice Ag ng kg))):=⟨_,_,_,_,_,_,_,_,_,_,_,_,_,_,_,_,r,rfl,hb.size,heap_alloc_new we _,h.up ((Below.refl _ _).alloc (Nat.le_refl _) _),hb.alloc hb.size _⟩
theorem Vg{w1 we:World}{x:ay}{t:Nat}{Ac Ah At Al Ag:Option Addr}{nc kc nh kh nt kt nl kl ng kg:Nat}{r:List (List UInt8)}{a0 a1 a2 a3 a4 a5 a6:Value}(h3:we.heap[t]?=some (.cells #[a0,a1,a2,a3,a4,a5,a6] 42 (0,0)))(ht:w1.heap.size≤t)(h:oG we w1.heap.size x (.slice Ac nc kc) (.slice Ah nh kh) (.slice At nt kt) (.slice Al nl kl) (.slice Ag ng kg) r)(hb:RowKit.Below w1.heap.size w1 we)(a b:Int):VP w1 x a b (.pointer (some ⟨t,0,none⟩)) (((((((we.setCell ⟨t,0,none⟩ (.int .i64 a)).setCell ⟨t,1,none⟩ (.int .i64 b)).setCell ⟨t,2,none⟩ (.slice Ac nc kc)).setCell ⟨t,3,none⟩ (.slice Ah nh kh)).setCell ⟨t,4,none⟩ (.slice At nt kt)).setCell ⟨t,5,none⟩ (.slice Al nl kl)).setCell ⟨t,6,none⟩ (.slice Ag ng kg)):=by have e1:=af (o:=6) (u:=.slice Ag ng kg) (af (o:=5) (u:=.slice Al nl kl) (af (o:=4) (u:=.slice At nt kt) (af (o:=3) (u:=.slice Ah nh kh) (af (o:=2) (u:=.slice Ac nc kc) (af (o:=1) (u:=.int .i64 b) (af (o:=0) (u:=.int .i64 a) h3))))));simp only[List.setIfInBounds_toArray,List.set_cons_zero,List.set_cons_succ]at e1;refine⟨_,_,_,_,_,_,_,_,_,_,_,_,_,_,_,_,r,rfl,ht,e1,h.bT h3 fun k _ hk=>?_,(((((((hb.setCell (p:=⟨t,0,none⟩) ht _).setCell (p:=⟨t,1,none⟩) ht _).setCell (p:=⟨t,2,none⟩) ht _).setCell (p:=⟨t,3,none⟩) ht _).setCell (p:=⟨t,4,none⟩) ht _).setCell (p:=⟨t,5,none⟩) ht _).setCell (p:=⟨t,6,none⟩) ht _)⟩;repeat rw[Below.heap_setCell _ _ _ _ hk]
def uu(w:World)(x:ay)(e:Ending)(w':World):Prop:= ∃vc vh vt vl vg r,e=.returned (fq x.au.aa x.au.idle vc vh vt vl vg)∧oG w' w.heap.size x vc vh vt vl vg r∧RowKit.Below w.heap.size w w'
theorem fe{w W:World}{nm:String}{k:IntKind}{zs:List Int}(h:Lib.TabBelow Tryz.prog w.heap.size w nm k zs)(hb:RowKit.Below w.heap.size w W):Lib.TabBelow Tryz.prog W.heap.size W nm k zs:=fun w' hw=>h w' (hb.trans (hw.mono hb.size))
theorem dR.yS{N:Nat}{x:ay}(h:dR N x)(hok:dJ x.had): ∀p∈x.had,p.2.length≤N:=fun p hp=>by have:=h.rows p.1;unfold aM at this;rw[gN hok.up (k:=p.1) (v:=p.2) hp]at this;exact this
theorem jv(w:World)(F:Nat→Prop)(bi N:Nat)(x:ay)(h:aU w F bi N x)(hN:N≤90000)(hm:bf w)(htab:Lib.TabBelow Tryz.prog w.heap.size w "internal/strconv.uint64pow10" .u64 Lib.pow10Tab):Calls Tryz.prog 17 #[.pointer (some ⟨bi,0,none⟩)] w (uu w x):=by
 have HI:=qH h;obtain⟨A,hM,hO,_⟩:=h;have Gx:=qH hM;have HO:=qH hO;have HM:=qH hm;have HT:=qH htab;clear hM hO hm htab;have hb1:RowKit.Below w.heap.size w (w.alloc (.cells #[.int .i64 0,.int .i64 0,.slice none 0 0,.slice none 0 0,.slice none 0 0,.slice none 0 0,.slice none 0 0] 42)):=(Below.refl _ _).alloc (Nat.le_refl _) _;have HB1:=qH hb1;have hs1:w.heap.size<(w.alloc (.cells #[.int .i64 0,.int .i64 0,.slice none 0 0,.slice none 0 0,.slice none 0 0,.slice none 0 0,.slice none 0 0] 42)).heap.size:=by simp
 have BN:=qH (heap_alloc_new w (.cells #[.int .i64 0,.int .i64 0,.slice none 0 0,.slice none 0 0,.slice none 0 0,.slice none 0 0,.slice none 0 0] 42));clear hb1;go_enter Tryz.func17,Tryz.ntmps17;go_wp2;generalize w.alloc (.cells #[.int .i64 0,.int .i64 0,.slice none 0 0,.slice none 0 0,.slice none 0 0,.slice none 0 0,.slice none 0 0] 42)=w1 at*;have UN:=qS (∀W,RowKit.Below w.heap.size w W→Calls Tryz.prog 48 #[.pointer (some ⟨A.bc,0,none⟩)] W (Dp W (aX x.au))) (fun W hW=>zf W A.bc A.bm x.au (Gx.o.au.up hW) (Nat.le_trans HO.o.src (by omega)) (fe HT.o hW));have TP:=qS (∀W,RowKit.Below w.heap.size w W→Calls Tryz.prog 49 #[.pointer (some ⟨A.bs,0,none⟩)] W (K3 W (bV x.had))) (fun W hW=>y9 W A.G A.bs A.bh x.had A.V (Gx.o.had.up hW) (Nat.le_trans HO.o.had hN) (fun p hp=>Nat.le_trans (HO.o.yS Gx.o.had.ok p hp) hN));have dx:=qS (∀W,RowKit.Below w.heap.size w W→Calls Tryz.prog 19 #[.pointer (some ⟨bi,0,none⟩)] W (gF W x.taken)) (fun W hW=>yK W F bi N x (HI.o.up hW) (by omega));have kE:=qS (∀W,RowKit.Below w.heap.size w W→Calls Tryz.prog 20 #[.pointer (some ⟨bi,0,none⟩)] W (gF W x.late)) (fun W hW=>Bo W F bi N x (HI.o.up hW) (by omega));have KZ:=qS (∀W,RowKit.Below w.heap.size w W→Calls Tryz.prog 50 #[.pointer (some ⟨bi,0,none⟩)] W (GJ W x.gone)) (fun W hW=>Bp W F bi N x (HI.o.up hW) (by omega));have bS:=qS (∀W,RowKit.Below w.heap.size w W→W.cell? ⟨bi,0,none⟩=some (.pointer (some ⟨A.bc,0,none⟩))∧W.cell? ⟨bi,1,none⟩=some (.pointer (some ⟨A.bs,0,none⟩))) (fun W hW=>by have hb:=(Gx.o.up hW).blk;exact⟨(cell_of_row W bi 0 _ _ (0,0) hb).trans rfl,(cell_of_row W bi 1 _ _ (0,0) hb).trans rfl⟩);have Rn:=qH Gx.o.au.ok;have bK:=qS (RowKit.Below w.heap.size w w1.drew) (below_drewN HB1.o 1);have gJ:=qS (RowKit.Below w1.heap.size w1 w1.drew) (below_drewN (Below.refl _ _) 1);have qN:=qS (RowKit.Below w.heap.size w (w1.alloc (.cells #[.int .i64 0,.int .i64 0,.slice none 0 0,.slice none 0 0,.slice none 0 0,.slice none 0 0,.slice none 0 0] 42)).drew) (below_drewN (HB1.o.alloc HB1.o.size _) 1);have Aq:=qS (RowKit.Below w1.heap.size w1 (w1.alloc (.cells #[.int .i64 0,.int .i64 0,.slice none 0 0,.slice none 0 0,.slice none 0 0,.slice none 0 0,.slice none 0 0] 42)).drew) (below_drewN ((Below.refl _ _).alloc (Nat.le_refl _) _) 1);have HTZ:=qS (((w1.alloc (.cells #[.int .i64 0,.int .i64 0,.slice none 0 0,.slice none 0 0,.slice none 0 0,.slice none 0 0,.slice none 0 0] 42)).drew).heap[w1.heap.size]?=some (.cells #[.int .i64 0,.int .i64 0,.slice none 0 0,.slice none 0 0,.slice none 0 0,.slice none 0 0,.slice none 0 0] 42)) (heap_alloc_new w1 _);have hS:=bS.o _ bK.o;have hcl:(aX x.au).length≤10000000:=by have h1:=Gx.o.au.ok;have h2:=oV h1 x.au.src.length;rw[List.take_length]at h2;have h3:=HO.o.src;have k1:=h1.aa;have k2:=h1.idle;have k3:=h1.now;have k4:=h1.mark;have h4:=jw [99,108,111,99,107] [x.au.aa,x.au.idle,x.au.now,x.au.mark] (by intro v hv;simp at hv;rcases hv with rfl|rfl|rfl|rfl<;>omega);simp only[List.length_cons,List.length_nil]at h4;unfold aX;rw[List.length_append];omega
 have Dz:=qH hcl;clear hcl HI Gx HO;generalize A.bc=bc at*;generalize A.bs=bs at*;go_cut[3](fun v wc=>VP w1 x 0 0 v wc);case first=>go_region_held3(fun W=>W.cell? ⟨bi,0,none⟩=some (.pointer (some ⟨bc,0,none⟩))∧W.cell? ⟨bi,1,none⟩=some (.pointer (some ⟨bs,0,none⟩)))(first|with_reducible assumption|with_reducible exact bS.o _ bK.o|with_reducible exact bS.o _ qN.o|with_reducible exact bS.o _ (bK.o.alloc bK.o.size _)|with_reducible exact bS.o _ (((((((bK.o.setCell (p:=⟨_,0,none⟩) zF _).setCell (p:=⟨_,1,none⟩) zF _).setCell (p:=⟨_,2,none⟩) zF _).setCell (p:=⟨_,3,none⟩) zF _).setCell (p:=⟨_,4,none⟩) zF _).setCell (p:=⟨_,5,none⟩) zF _).setCell (p:=⟨_,6,none⟩) zF _)|go_keep)(first|(go_at_call 48;first|((with_reducible refine(UN.o _ bK.o).mono ?_);rintro r wa⟨vc,rfl,oc,hba0⟩;have mD:=gJ.o.size;obtain⟨Ac,kc,rfl⟩:=oc.form;have OC:=qH (oc.gB mD);have fK:=hba0;(first|(have lL:=qH ((fK.block _ (aA HT3.o)).trans HT3.o);clear HT3;have HT3:=lL;clear lL)|skip);have bR:=qH (bK.o.trans (fK.mono bK.o.size));have jl:=qH (gJ.o.trans (fK.mono gJ.o.size));clear bK gJ;have bK:=bR;have gJ:=jl;clear bR jl hS;have hS:=bS.o _ bK.o;clear oc fK hba0 mD)|((with_reducible refine(UN.o _ qN.o).mono ?_);rintro r wa⟨vc,rfl,oc,hba0⟩;have mD:=Aq.o.size;obtain⟨Ac,kc,rfl⟩:=oc.form;have OC:=qH (oc.gB mD);have HT3:=qH ((hba0.block w1.heap.size (aA HTZ.o)).trans HTZ.o);have zF:=HB1.o.size;have Qw:=Nat.le_refl w1.heap.size;have bR:=qH (qN.o.trans (hba0.mono qN.o.size));have jl:=qH (Aq.o.trans (hba0.mono Aq.o.size));clear bK gJ;have bK:=bR;have gJ:=jl;clear bR jl hS;have hS:=bS.o _ bK.o;clear oc hba0 mD))|(go_at_call 49;first|((with_reducible refine(TP.o _ bK.o).mono ?_);rintro r wb⟨vh,rfl,oh,hba0⟩;have mD:=gJ.o.size;obtain⟨Ah,kh,rfl⟩:=oh.form;have AP1:=qH (qi OC.out oh (by first|exact Nat.le_refl _|(simp;done)|(simp;omega)));have OH:=qH (oh.gB mD);have fK:=hba0;(first|(have lL:=qH ((fK.block _ (aA HT3.o)).trans HT3.o);clear HT3;have HT3:=lL;clear lL)|skip);have zu:=qH (OC.out.below fK (Nat.le_refl _));clear OC;have OC:=zu;clear zu;have bR:=qH (bK.o.trans (fK.mono bK.o.size));have jl:=qH (gJ.o.trans (fK.mono gJ.o.size));clear bK gJ;have bK:=bR;have gJ:=jl;clear bR jl hS;have hS:=bS.o _ bK.o;clear oh fK hba0 mD)|((with_reducible refine(TP.o _ (bK.o.alloc bK.o.size _)).mono ?_);rintro r wb⟨vh,rfl,oh,hba0⟩;have mD:=mi gJ.o hba0;obtain⟨Ah,kh,rfl⟩:=oh.form;have AP1:=qH (qi OC.out oh (by first|exact Nat.le_refl _|(simp;done)|(simp;omega)));have OH:=qH (oh.gB mD);have fK:=mo hba0;have HT3:=qH (qB hba0);have zF:=bK.o.size;have Qw:=gJ.o.size;have zu:=qH (OC.out.below fK (Nat.le_refl _));clear OC;have OC:=zu;clear zu;have bR:=qH (bK.o.trans (fK.mono bK.o.size));have jl:=qH (gJ.o.trans (fK.mono gJ.o.size));clear bK gJ;have bK:=bR;have gJ:=jl;clear bR jl hS;have hS:=bS.o _ bK.o;clear oh fK hba0 mD))|(go_at_call 19;first|((with_reducible refine(dx.o _ bK.o).mono ?_);rintro r wc⟨vt,rfl,ot,hba0⟩;have mD:=gJ.o.size;obtain⟨At,kt,rfl⟩:=ownsRow_form ot;have OT:=qH (aP.gB ot mD);have fK:=hba0;(first|(have lL:=qH ((fK.block _ (aA HT3.o)).trans HT3.o);clear HT3;have HT3:=lL;clear lL)|skip);have zu:=qH (OC.out.below fK (Nat.le_refl _));clear OC;have OC:=zu;clear zu;have Gr:=qH (OH.out.below fK (Nat.le_refl _));clear OH;have OH:=Gr;clear Gr;have bR:=qH (bK.o.trans (fK.mono bK.o.size));have jl:=qH (gJ.o.trans (fK.mono gJ.o.size));clear bK gJ;have bK:=bR;have gJ:=jl;clear bR jl hS;have hS:=bS.o _ bK.o;clear ot fK hba0 mD)|((with_reducible refine(dx.o _ (bK.o.alloc bK.o.size _)).mono ?_);rintro r wc⟨vt,rfl,ot,hba0⟩;have mD:=mi gJ.o hba0;obtain⟨At,kt,rfl⟩:=ownsRow_form ot;have OT:=qH (aP.gB ot mD);have fK:=mo hba0;have HT3:=qH (qB hba0);have zF:=bK.o.size;have Qw:=gJ.o.size;have zu:=qH (OC.out.below fK (Nat.le_refl _));clear OC;have OC:=zu;clear zu;have Gr:=qH (OH.out.below fK (Nat.le_refl _));clear OH;have OH:=Gr;clear Gr;have bR:=qH (bK.o.trans (fK.mono bK.o.size));have jl:=qH (gJ.o.trans (fK.mono gJ.o.size));clear bK gJ;have bK:=bR;have gJ:=jl;clear bR jl hS;have hS:=bS.o _ bK.o;clear ot fK hba0 mD))|(go_at_call 20;first|((with_reducible refine(kE.o _ bK.o).mono ?_);rintro r wd⟨vl,rfl,ol,hba0⟩;have mD:=gJ.o.size;obtain⟨Al,kl,rfl⟩:=ownsRow_form ol;have AP2:=qH (qi OT.out ol (by first|exact Nat.le_refl _|(simp;done)|(simp;omega)));have OL:=qH (aP.gB ol mD);have fK:=hba0;(first|(have lL:=qH ((fK.block _ (aA HT3.o)).trans HT3.o);clear HT3;have HT3:=lL;clear lL)|skip);have zu:=qH (OC.out.below fK (Nat.le_refl _));clear OC;have OC:=zu;clear zu;have Gr:=qH (OH.out.below fK (Nat.le_refl _));clear OH;have OH:=Gr;clear Gr;have Qm:=qH (ownsRow_below OT.out fK (Nat.le_refl _));clear OT;have OT:=Qm;clear Qm;have bR:=qH (bK.o.trans (fK.mono bK.o.size));have jl:=qH (gJ.o.trans (fK.mono gJ.o.size));clear bK gJ;have bK:=bR;have gJ:=jl;clear bR jl hS;have hS:=bS.o _ bK.o;clear ol fK hba0 mD)|((with_reducible refine(kE.o _ (bK.o.alloc bK.o.size _)).mono ?_);rintro r wd⟨vl,rfl,ol,hba0⟩;have mD:=mi gJ.o hba0;obtain⟨Al,kl,rfl⟩:=ownsRow_form ol;have AP2:=qH (qi OT.out ol (by first|exact Nat.le_refl _|(simp;done)|(simp;omega)));have OL:=qH (aP.gB ol mD);have fK:=mo hba0;have HT3:=qH (qB hba0);have zF:=bK.o.size;have Qw:=gJ.o.size;have zu:=qH (OC.out.below fK (Nat.le_refl _));clear OC;have OC:=zu;clear zu;have Gr:=qH (OH.out.below fK (Nat.le_refl _));clear OH;have OH:=Gr;clear Gr;have Qm:=qH (ownsRow_below OT.out fK (Nat.le_refl _));clear OT;have OT:=Qm;clear Qm;have bR:=qH (bK.o.trans (fK.mono bK.o.size));have jl:=qH (gJ.o.trans (fK.mono gJ.o.size));clear bK gJ;have bK:=bR;have gJ:=jl;clear bR jl hS;have hS:=bS.o _ bK.o;clear ol fK hba0 mD))|(go_at_call 50;first|((with_reducible refine(KZ.o _ bK.o).mono ?_);rintro r we⟨vg,rg,rfl,hrg,og,hba0⟩;have mD:=gJ.o.size;obtain⟨Ag,kg,rfl⟩:=ownsRow_form og;have OG:=qH (fF og mD);have qU:=qH hrg;clear hrg;have fK:=hba0;(first|(have lL:=qH ((fK.block _ (aA HT3.o)).trans HT3.o);clear HT3;have HT3:=lL;clear lL)|skip);have zu:=qH (OC.out.below fK (Nat.le_refl _));clear OC;have OC:=zu;clear zu;have Gr:=qH (OH.out.below fK (Nat.le_refl _));clear OH;have OH:=Gr;clear Gr;have Qm:=qH (ownsRow_below OT.out fK (Nat.le_refl _));clear OT;have OT:=Qm;clear Qm;have YT:=qH (ownsRow_below OL.out fK (Nat.le_refl _));clear OL;have OL:=YT;clear YT;have bR:=qH (bK.o.trans (fK.mono bK.o.size));have jl:=qH (gJ.o.trans (fK.mono gJ.o.size));clear bK gJ;have bK:=bR;have gJ:=jl;clear bR jl hS;have hS:=bS.o _ bK.o;clear og fK hba0 mD;(first|(have Tu:=HT3.o;obtain⟨z0,z1,z2,z3,z4,z5,z6,y0,y1,y2,y3,y4,y5,y6⟩:=bM Tu)|skip))|((with_reducible refine(KZ.o _ (bK.o.alloc bK.o.size _)).mono ?_);rintro r we⟨vg,rg,rfl,hrg,og,hba0⟩;have mD:=mi gJ.o hba0;obtain⟨Ag,kg,rfl⟩:=ownsRow_form og;have OG:=qH (fF og mD);have qU:=qH hrg;clear hrg;have fK:=mo hba0;have HT3:=qH (qB hba0);have zF:=bK.o.size;have Qw:=gJ.o.size;have zu:=qH (OC.out.below fK (Nat.le_refl _));clear OC;have OC:=zu;clear zu;have Gr:=qH (OH.out.below fK (Nat.le_refl _));clear OH;have OH:=Gr;clear Gr;have Qm:=qH (ownsRow_below OT.out fK (Nat.le_refl _));clear OT;have OT:=Qm;clear Qm;have YT:=qH (ownsRow_below OL.out fK (Nat.le_refl _));clear OL;have OL:=YT;clear YT;have bR:=qH (bK.o.trans (fK.mono bK.o.size));have jl:=qH (gJ.o.trans (fK.mono gJ.o.size));clear bK gJ;have bK:=bR;have gJ:=jl;clear bR jl hS;have hS:=bS.o _ bK.o;clear og fK hba0 mD;obtain⟨z0,z1,z2,z3,z4,z5,z6,y0,y1,y2,y3,y4,y5,y6⟩:=bM HT3.o)));all_goals have HFV:=qS (oG we w1.heap.size x _ _ _ _ _ rg) (⟨OC.out,OH.out,OT.out,OL.out,OG.out,qU.o,AP1.out,AP2.out⟩);go_wp2_with fail;go_meet;first|with_reducible exact Vh HFV.o gJ.o 0 0|with_reducible exact Vg HT3.o Qw HFV.o gJ.o 0 0
 case rest=>
  obtain⟨t,Ac,nc,kc,Ah,nh,kh,At,nt,kt,Al,nl,kl,Ag,ng,kg,r,rfl,ht,hblk,hV,hB⟩:=hcut;have HV:=qH hV;have HB:=qH hB;have Dl:=qH hblk;have hby:=hV.au.oF;have hnc:=hby.len;have hcl:=Dz.o;have Qw:=qH (Az wc Ac nc kc x.au Rn.o hby (by omega) (HM.o.up (HB1.o.trans (hB.mono HB1.o.size))));obtain⟨z0,z1,z2,z3,z4,z5,z6,y0,y1,y2,y3,y4,y5,y6⟩:=bM hblk;clear hcl hnc hby hblk hV hB;go_wp2_with fail;with_reducible refine Qw.o.mono ?_
  rintro r6 w6⟨rfl,hb6⟩;clear z0 z1 z2 z3 z4 z5 z6 y0 y1 y2 y3 y4 y5 y6 Qw;have hblk6:=(hb6.block _ (aA Dl.o)).trans Dl.o;have hX6:=(hb6.block _ (by have:=HB.o.size;omega)).trans ((HB.o.block _ hs1).trans BN.o);have VS:=qH (HV.o.up hb6);have dY:=qH (HB.o.trans (hb6.mono HB.o.size));have hne:w.heap.size≠t:=by omega
  obtain⟨z0,z1,z2,z3,z4,z5,z6,y0,y1,y2,y3,y4,y5,y6⟩:=bM hblk6;have e1:=af (o:=1) (u:=.int .i64 x.au.idle) (af (o:=0) (u:=.int .i64 x.au.aa) hblk6);simp only[List.setIfInBounds_toArray,List.set_cons_zero,List.set_cons_succ]at e1;have abl:=qH e1;have YX:=qS (((w6.setCell ⟨t,0,none⟩ (.int .i64 x.au.aa)).setCell ⟨t,1,none⟩ (.int .i64 x.au.idle)).heap[w.heap.size]?=_) ((Below.heap_setCell _ _ _ _ hne).trans ((Below.heap_setCell _ _ _ _ hne).trans hX6));have HV7:=qS (oG ((w6.setCell ⟨t,0,none⟩ (.int .i64 x.au.aa)).setCell ⟨t,1,none⟩ (.int .i64 x.au.idle)) w1.heap.size x _ _ _ _ _ r) (VS.o.bT hblk6 fun b _ hb=>(Below.heap_setCell _ _ _ _ hb).trans (Below.heap_setCell _ _ _ _ hb));have iW:=qS (RowKit.Below w1.heap.size w1 ((w6.setCell ⟨t,0,none⟩ (.int .i64 x.au.aa)).setCell ⟨t,1,none⟩ (.int .i64 x.au.idle))) ((dY.o.setCell (p:=⟨t,0,none⟩) ht _).setCell (p:=⟨t,1,none⟩) ht _);clear e1 hX6 hblk6 hb6 HV HB Dl VS dY;go_upto_region 3 with fail;clear z0 z1 z2 z3 z4 z5 z6 y0 y1 y2 y3 y4 y5 y6;generalize(w6.setCell ⟨t,0,none⟩ (.int .i64 x.au.aa)).setCell ⟨t,1,none⟩ (.int .i64 x.au.idle)=w7 at*;obtain⟨z0,z1,z2,z3,z4,z5,z6,_,_,_,_,_,_,_⟩:=bM abl.o;obtain⟨x0,x1,x2,x3,x4,x5,x6,y0,y1,y2,y3,y4,y5,y6⟩:=bM YX.o;have e1:=af (o:=6) (u:=.slice Ag ng kg) (af (o:=5) (u:=.slice Al nl kl) (af (o:=4) (u:=.slice At nt kt) (af (o:=3) (u:=.slice Ah nh kh) (af (o:=2) (u:=.slice Ac nc kc) (af (o:=1) (u:=.int .i64 x.au.idle) (af (o:=0) (u:=.int .i64 x.au.aa) YX.o))))));simp only[List.setIfInBounds_toArray,List.set_cons_zero,List.set_cons_succ]at e1;have HR:=qS (uu w x (.returned (fq x.au.aa x.au.idle (.slice Ac nc kc) (.slice Ah nh kh) (.slice At nt kt) (.slice Al nl kl) (.slice Ag ng kg))) (((((((w7.setCell ⟨w.heap.size,0,none⟩ (.int .i64 x.au.aa)).setCell ⟨w.heap.size,1,none⟩ (.int .i64 x.au.idle)).setCell ⟨w.heap.size,2,none⟩ (.slice Ac nc kc)).setCell ⟨w.heap.size,3,none⟩ (.slice Ah nh kh)).setCell ⟨w.heap.size,4,none⟩ (.slice At nt kt)).setCell ⟨w.heap.size,5,none⟩ (.slice Al nl kl)).setCell ⟨w.heap.size,6,none⟩ (.slice Ag ng kg))) (by
   have hk: ∀b,b≠w.heap.size→(((((((w7.setCell ⟨w.heap.size,0,none⟩ (.int .i64 x.au.aa)).setCell ⟨w.heap.size,1,none⟩ (.int .i64 x.au.idle)).setCell ⟨w.heap.size,2,none⟩ (.slice Ac nc kc)).setCell ⟨w.heap.size,3,none⟩ (.slice Ah nh kh)).setCell ⟨w.heap.size,4,none⟩ (.slice At nt kt)).setCell ⟨w.heap.size,5,none⟩ (.slice Al nl kl)).setCell ⟨w.heap.size,6,none⟩ (.slice Ag ng kg)).heap[b]?=w7.heap[b]?:=fun b hb=>by repeat rw[Below.heap_setCell _ _ _ _ hb]
   have Uq:=HV7.o.bT YX.o fun b _ hb=>hk b hb;refine⟨_,_,_,_,_,r,rfl,⟨fF Uq.au (by omega),fF Uq.had (by omega),fF Uq.taken (by omega),fF Uq.late (by omega),fF Uq.gone (by omega),Uq.rise,Uq.ap1,Uq.ap2⟩,?_⟩;have hb:=HB1.o.trans (iW.o.mono (Nat.le_of_lt hs1));exact((((((hb.setCell (p:=⟨w.heap.size,0,none⟩) (Nat.le_refl _) _).setCell (p:=⟨w.heap.size,1,none⟩) (Nat.le_refl _) _).setCell (p:=⟨w.heap.size,2,none⟩) (Nat.le_refl _) _).setCell (p:=⟨w.heap.size,3,none⟩) (Nat.le_refl _) _).setCell (p:=⟨w.heap.size,4,none⟩) (Nat.le_refl _) _).setCell (p:=⟨w.heap.size,5,none⟩) (Nat.le_refl _) _).setCell (p:=⟨w.heap.size,6,none⟩) (Nat.le_refl _) _);go_wp2;have key: ∀o,_=_:=fun o=>cell_of_row _ w.heap.size o _ _ (0,0) e1;have r0:=key 0;have r1:=key 1;have r2:=key 2;have r3:=key 3;have r4:=key 4;have r5:=key 5;have r6':=key 6;exact bodyPost_ret (v:=fq x.au.aa x.au.idle (.slice Ac nc kc) (.slice Ah nh kh) (.slice At nt kt) (.slice Al nl kl) (.slice Ag ng kg)) (by simp[results,Tryz.results17,go_sem,r0,r1,r2,r3,r4,r5,r6']) rfl HR.o
end Go.Proofs.YtbejfgmdkmddnaaGreatDoor
