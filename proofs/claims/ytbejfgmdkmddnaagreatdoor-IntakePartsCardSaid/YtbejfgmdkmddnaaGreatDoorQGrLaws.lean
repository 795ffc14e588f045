/-
  Layer 8, plain: what the laws say of an intake behind any deeds.
-/
import Derived.Test.YtbejfgmdkmddnaaGreatDoorQRSort1
import Derived.Test.YtbejfgmdkmddnaaGreatDoorQEvMay
import Derived.Test.YtbejfgmdkmddnaaGreatDoorQSets
import Derived.CallsIn
import Derived.Test.YtbejfgmdkmddnaaGreatDoorQOpenDds
import Derived.Test.YtbejfgmdkmddnaaGreatDoorQRClk1
set_option maxRecDepth 100000
set_option maxHeartbeats 16000000
namespace Go.Proofs.YtbejfgmdkmddnaaGreatDoor
open Go.RowKit Go.Maps Go.Sort
theorem not_refused{x:Itk}{e:Ev}(h:x.refuses e=false):mayB e=true∧(e.per∈x.gone→e.kind=14)∧hadB x.had e.src e.num=false:=by
 unfold Itk.refuses Itk.wrong at h;simp only[Bool.or_eq_false_iff,Bool.not_eq_false',Bool.and_eq_false_iff,decide_eq_false_iff_not]at h;refine⟨h.1.1.1,fun hg=>?_,h.2⟩;rcases h.1.1.2 with h'|h';·exact absurd hg h'
 ·simpa using h'
theorem SetB.congr{w:World}{b n:Nat}{ks ks':List (List UInt8)}(h:SetB w b n ks)(hk: ∀x,x∈ks↔x∈ks'):SetB w b n ks':=by
 obtain⟨D,h1,h2,h3⟩:=h;refine⟨D,h1,h2,fun k=>?_⟩;have:decide (k∈ks')=decide (k∈ks):=by simp[hk]
 rw[this];exact h3 k
theorem itaken_any(w:World)(F:Nat→Prop)(bi N:Nat)(x:Itk)(h:ItkAt w F bi N x)(hN:N≤100000):Calls Tryz.prog 19 #[.pointer (some ⟨bi,0,none⟩)] w (OwnPost w x.taken):=by
 obtain⟨A,hM,hO,_⟩:=h;have HM:=qH hM;have htl:=hO.taken;obtain⟨B,c,hv,hc⟩:=hM.taken.form;obtain⟨c0,c1,c2,c3,c4,c5,f2,f3,f4⟩:=hM.cells;rw[hv]at c2;clear hM hO;go_enter Tryz.func19,Tryz.ntmps19;go_wp2_with fail;have hev:Evs w w.heap.size B x.taken.length c x.taken:=by have:=HM.out.taken;rw[hv]at this;exact Cel.of_own this
 refine(clone_any w B _ c x.taken hev (by omega)).mono ?_;rintro r w1⟨v,rfl,ho,hb⟩;have HO:=qH ho;clear ho hev c0 c1 c2 c3 c4 c5 f2 f3 f4;go_wp2;go_ret;exact⟨v,rfl,HO.out,hb⟩
open Go.Shelf
theorem ilate_any(w:World)(F:Nat→Prop)(bi N:Nat)(x:Itk)(h:ItkAt w F bi N x)(hN:N≤100000):Calls Tryz.prog 20 #[.pointer (some ⟨bi,0,none⟩)] w (OwnPost w x.late):=by
 obtain⟨A,hM,hO,_⟩:=h;have HM:=qH hM;have htl:=hO.late;obtain⟨B,c,hv,hc⟩:=hM.late.form;obtain⟨c0,c1,c2,c3,c4,c5,f2,f3,f4⟩:=hM.cells;rw[hv]at c3;clear hM hO;go_enter Tryz.func20,Tryz.ntmps20;go_wp2_with fail;have hev:Evs w w.heap.size B x.late.length c x.late:=by have:=HM.out.late;rw[hv]at this;exact Cel.of_own this
 refine(clone_any w B _ c x.late hev (by omega)).mono ?_;rintro r w1⟨v,rfl,ho,hb⟩;have HO:=qH ho;clear ho hev c0 c1 c2 c3 c4 c5 f2 f3 f4;go_wp2;go_ret;exact⟨v,rfl,HO.out,hb⟩
theorem igone_any(w:World)(F:Nat→Prop)(bi N:Nat)(x:Itk)(h:ItkAt w F bi N x)(hN:N≤100000):Calls Tryz.prog 50 #[.pointer (some ⟨bi,0,none⟩)] w (GonePost w x.gone):=by
 obtain⟨A,hM,hO,_,hng,_⟩:=h;obtain⟨c0,c1,c2,c3,c4,c5,f2,f3,f4⟩:=hM.cells;obtain⟨D,hD1,hD2,hD3⟩:=hM.gone;have HD:=qH hD1;have hDs:Maps.size D≤A.ng:=hD1.size_le;have hle:A.ng≤100000:=by omega
 clear hM hO hD1;refine(callsIn_wide (n:=6)).1 ?_;have hfK:Fence.wide.fn 112:=trivial;have hfS:Fence.wide.fn 111:=trivial;refine callsIn_of_wp Tryz.func50 rfl trivial ?_ rfl;simp only[Tryz.ntmps50,List.size_toArray,List.length_cons,List.length_nil,Nat.reduceAdd,Nat.reduceSub,Array.replicate_succ,Array.replicate_zero,List.push_toArray,List.append_toArray,List.nil_append,List.cons_append];gi_wp2_with fail;refine(Tryz.maps_Keys_112 _ _).mono ?_;rintro e w2⟨rfl,rfl⟩;gi_wp2_with fail;refine(Tryz.slices_Sorted_keys_111_112 A.bg A.ng D _ w HD.out (by unfold maxLen;omega) (by omega)).mono ?_;rintro e w3⟨v,ss,rfl,hS,hrow,hnil,hb3⟩;clear c0 c1 c2 c3 c4 c5 f2 f3 f4;gi_wp2_with fail;go_ret;obtain⟨ks,hk1,hk2⟩:=nodup_dedup x.gone;have hp:ks.Perm (strKeys D):=SetB.perm HD.out (fun k=>(hD3 k).2) hk1 hk2;have hpp:ss.Perm ks:=hS.trans hp.symm;have hnd:ss.Nodup:=hpp.nodup_iff.2 hk1;have hr:=rising_sort hnd (fun x=>hpp.mem_iff.trans (hk2 x));have hlen:(ss.mergeSort (fun x y=>decide (x≤y))).length=ss.length:=List.length_mergeSort _;refine⟨v,ss.mergeSort (fun x y=>decide (x≤y)),rfl,hr,?_,?_⟩
 ·rw[hlen];refine⟨hrow.1,?_⟩;rcases hrow.2 with⟨e,hl⟩|⟨g,cap,cur,e,hb',hg,hrr⟩;·exact .inl ⟨e,hl⟩
  ·exact .inr ⟨g,cap,cur,e,by simp at hb';omega,hg,hrr⟩
 ·exact((Below.refl _ _).alloc (Nat.le_refl _) _).trans (hb3.mono (by simp))
structure ItkInv(P:Ev→Prop)(x:Itk):Prop where
 taken: ∀e∈x.taken,P e
 late: ∀e∈x.late,P e
 gone: ∀p∈x.gone,∃e,P e∧e.per=p
 stay: ∀e,e∈x.taken∨e∈x.late→e.per∈x.gone→e.kind=14
 forg: ∀e∈x.taken,e.kind=14→e.per∈x.gone
theorem ItkInv.new(P:Ev→Prop)(slack idle:Int):ItkInv P (Itk.new slack idle):=⟨fun e he=>by simp[Itk.new]at he,fun e he=>by simp[Itk.new]at he,fun e he=>by simp[Itk.new]at he,fun e he=>by simp[Itk.new]at he,fun e he=>by simp[Itk.new]at he⟩
theorem ItkInv.drop{P:Ev→Prop}{x:Itk}(h:ItkInv P x)(p:Ev→Bool):ItkInv P (x.drop p):=⟨fun e he=>h.taken e (List.mem_filter.1 he).1,fun e he=>h.late e (List.mem_filter.1 he).1,h.gone,fun e he=>h.stay e (he.imp (fun h=>(List.mem_filter.1 h).1) (fun h=>(List.mem_filter.1 h).1)),fun e he=>h.forg e (List.mem_filter.1 he).1⟩
theorem ItkInv.took{P:Ev→Prop}{x:Itk}(h:ItkInv P x){e:Ev}(he:P e)(hw:e.per∈x.gone→e.kind=14):ItkInv P (x.took e):=by
 unfold Itk.took;split
 ·rename_i hk;refine⟨fun a ha=>?_,fun a ha=>?_,fun p hp=>?_,fun a ha hg=>?_,fun a ha _=>?_⟩
  ·rcases insE_mem.1 (List.mem_filter.1 ha).1 with rfl|ha;·exact he
   ·exact h.taken a ha
  ·exact h.late a (List.mem_filter.1 ha).1
  ·have hp':p∈e.per::x.gone:=hp;rcases List.mem_cons.1 hp' with rfl|hp';·exact⟨e,he,rfl⟩
   ·exact h.gone p hp'
  ·have hg':a.per∈e.per::x.gone:=hg;have hkeep:keepB e.per a=true:=by rcases ha with ha|ha<;>exact(List.mem_filter.1 ha).2
   by_cases hp:a.per=e.per;·unfold keepB at hkeep;simpa[hp]using hkeep
   ·have hg2:a.per∈x.gone:=by rcases List.mem_cons.1 hg' with h'|h';exact absurd h' hp;exact h'
    rcases ha with ha|ha
    ·rcases insE_mem.1 (List.mem_filter.1 ha).1 with rfl|ha;·exact hk
     ·exact h.stay a (.inl ha) hg2
    ·exact h.stay a (.inr (List.mem_filter.1 ha).1) hg2
  ·show a.per∈e.per::x.gone;rcases insE_mem.1 (List.mem_filter.1 ha).1 with rfl|ha';·simp
   ·exact List.mem_cons_of_mem _ (h.forg a ha' (by assumption))
 ·rename_i hk;refine⟨fun a ha=>?_,h.late,h.gone,fun a ha hg=>?_,fun a ha hk'=>?_⟩
  ·rcases insE_mem.1 ha with rfl|ha;·exact he
   ·exact h.taken a ha
  ·rcases ha with ha|ha
   ·rcases insE_mem.1 ha with rfl|ha;·exact hw hg
    ·exact h.stay a (.inl ha) hg
   ·exact h.stay a (.inr ha) hg
  ·rcases insE_mem.1 ha with rfl|ha;·exact absurd hk' hk
   ·exact h.forg a ha hk'
theorem ItkInv.lates{P:Ev→Prop}{x:Itk}(h:ItkInv P x){e:Ev}(he:P e)(hw:e.per∈x.gone→e.kind=14):ItkInv P (x.lates e):=by
 unfold Itk.lates;split;·exact h
 ·refine⟨h.taken,fun a ha=>?_,h.gone,fun a ha hg=>?_,h.forg⟩
  ·rcases List.mem_append.1 ha with ha|ha;·exact h.late a ha
   ·simp at ha;subst ha;exact he
  ·rcases ha with ha|ha;·exact h.stay a (.inl ha) hg
   ·rcases List.mem_append.1 ha with ha|ha;·exact h.stay a (.inr ha) hg
    ·simp at ha;subst ha;exact hw hg
theorem insE_perm(e:Ev)(l:List Ev):(insE e l).Perm (e::l):=by
 have h:l.takeWhile (fun a=>!decide (LtE e a))++l.dropWhile (fun a=>!decide (LtE e a))=l:=List.takeWhile_append_dropWhile;unfold insE;conv=>rhs;rw[←h]
 exact List.perm_middle
def Itk.deed(x:Itk)(d:Dd):Itk:=if d.kind<4 then x.offer d.e d.now else if d.kind=4 then x.admits d.e else if d.kind=5 then x.tick d.now else if d.kind=6 then x.drop (fun e=>e.per !=d.per)else x
def Itk.grown(slack idle:Int)(ds:List Dd):Itk:=ds.foldl Itk.deed (Itk.new slack idle)
theorem grown_snoc(slack idle:Int)(ds:List Dd)(d:Dd):Itk.grown slack idle (ds++[d])=(Itk.grown slack idle ds).deed d:=by unfold Itk.grown;rw[List.foldl_append];rfl
theorem grown_take(slack idle:Int)(ds:List Dd)(k:Nat)(hk:k<ds.length):Itk.grown slack idle (ds.take (k+1))=(Itk.grown slack idle (ds.take k)).deed ds[k]:=by rw[List.take_add_one,List.getElem?_eq_getElem hk,Option.toList_some,grown_snoc]
theorem tick_now(c:Clk)(now:Int):(c.tick now).now=max c.now (boundI now):=by unfold Clk.tick;rw[rise_now]
theorem tick_risen(c:Clk)(now:Int):(c.tick now).rise=c.tick now:=rise_rise _
theorem hear_risen(c:Clk)(s:List UInt8)(at_ now:Int):(c.hear s at_ now).rise=c.hear s at_ now:=by
 unfold Clk.hear;split;·exact rise_rise _
 ·exact tick_risen c now
theorem hear_now(c:Clk)(s:List UInt8)(at_ now:Int):(c.hear s at_ now).now=max c.now (boundI now):=by
 unfold Clk.hear;split;·unfold Clk.heard;rw[rise_now];exact tick_now c now
 ·exact tick_now c now
structure PlayInv(x:Itk):Prop where
 inv:ItkInv (fun _=>True) x
 ok:HadOk x.had
 sorted:SortedE x.taken
 ids:(x.taken.map idOf).Nodup
 kept: ∀e∈x.taken,hadB x.had e.src e.num=true
 may: ∀e,e∈x.taken∨e∈x.late→mayB e=true
 risen:x.clk.rise=x.clk
 now:0≤x.clk.now
theorem PlayInv.new(slack idle:Int):PlayInv (Itk.new slack idle):=⟨ItkInv.new _ _ _,HadOk.nil,List.Pairwise.nil,by simp[Itk.new],fun e he=>by simp[Itk.new]at he,fun e he=>by simp[Itk.new]at he,by rfl,by simp[Itk.new,Clk.new]⟩
theorem PlayInv.clk{x:Itk}(h:PlayInv x){c:Clk}(h1:c.rise=c)(h2:0≤c.now):PlayInv {x with clk:=c}:=⟨⟨h.inv.taken,h.inv.late,h.inv.gone,h.inv.stay,h.inv.forg⟩,h.ok,h.sorted,h.ids,h.kept,h.may,h1,h2⟩
theorem PlayInv.tick{x:Itk}(h:PlayInv x)(now:Int):PlayInv (x.tick now):=h.clk (tick_risen _ _) (by rw[tick_now];have:=h.now;omega)
theorem PlayInv.hear{x:Itk}(h:PlayInv x)(e:Ev)(now:Int):PlayInv (x.hear e now):=h.clk (hear_risen _ _ _ _) (by rw[hear_now];have:=h.now;omega)
theorem PlayInv.drop{x:Itk}(h:PlayInv x)(p:Ev→Bool):PlayInv (x.drop p):=⟨h.inv.drop p,h.ok,h.sorted.filter p,(List.filter_sublist.map idOf).nodup h.ids,fun e he=>h.kept e (List.mem_filter.1 he).1,fun e he=>h.may e (he.imp (fun h=>(List.mem_filter.1 h).1) (fun h=>(List.mem_filter.1 h).1)),h.risen,h.now⟩
theorem PlayInv.took{x:Itk}{e:Ev}(h:PlayInv x)(hr:x.refuses e=false):PlayInv (x.took e):=by
 obtain⟨hm,hg,hh⟩:=not_refused hr;have hput:=may_put hm hh;have hids:((insE e x.taken).map idOf).Nodup:=by rw[((insE_perm e x.taken).map idOf).nodup_iff,List.map_cons,List.nodup_cons];refine⟨fun hc=>?_,h.ids⟩;obtain⟨a,ha,hai⟩:=List.mem_map.1 hc;have:=h.kept a ha;unfold idOf at hai;injection hai with h1 h2;rw[h1,h2,hh]at this;cases this
 have hkept: ∀a∈insE e x.taken,hadB (putH x.had e.src e.num) a.src a.num=true:=fun a ha=>by
  rw[putH_had h.ok hput];rcases insE_mem.1 ha with rfl|ha;·simp
  ·simp[h.kept a ha]
 have hmay: ∀a∈insE e x.taken,mayB a=true:=fun a ha=>by
  rcases insE_mem.1 ha with rfl|ha;·exact hm
  ·exact h.may a (.inl ha)
 have hinv:=h.inv.took (e:=e) trivial hg;unfold Itk.took at hinv⊢;split
 ·rename_i hk;rw[if_pos hk]at hinv;exact⟨hinv,h.ok.put hput,(insE_sorted h.sorted).filter _,(List.filter_sublist.map idOf).nodup hids,fun a ha=>hkept a (List.mem_filter.1 ha).1,fun a ha=>by
   rcases ha with ha|ha;·exact hmay a (List.mem_filter.1 ha).1
   ·exact h.may a (.inr (List.mem_filter.1 ha).1),h.risen,h.now⟩
 ·rename_i hk;rw[if_neg hk]at hinv;exact⟨hinv,h.ok.put hput,insE_sorted h.sorted,hids,hkept,fun a ha=>ha.elim (hmay a) (fun h'=>h.may a (.inr h')),h.risen,h.now⟩
theorem PlayInv.lates{x:Itk}{e:Ev}(h:PlayInv x)(hr:x.refuses e=false):PlayInv (x.lates e):=by
 obtain⟨hm,hg,hh⟩:=not_refused hr;have hinv:=h.inv.lates (e:=e) trivial hg;unfold Itk.lates at hinv⊢;split;·exact h
 ·rename_i hk;rw[if_neg hk]at hinv;exact⟨hinv,h.ok,h.sorted,h.ids,h.kept,fun a ha=>by
   rcases ha with ha|ha;·exact h.may a (.inl ha)
   ·rcases List.mem_append.1 ha with ha|ha;·exact h.may a (.inr ha)
    ·rw[List.mem_singleton]at ha;rw[ha];exact hm,h.risen,h.now⟩
theorem PlayInv.offer{x:Itk}(h:PlayInv x)(e:Ev)(now:Int):PlayInv (x.offer e now):=by
 unfold Itk.offer;split;·exact h.tick now
 ·rename_i hr;split;·exact((h.tick now).hear e now).took (show(x.tick now).refuses e=false by simpa using hr)
  ·exact((h.tick now).hear e now).lates (show(x.tick now).refuses e=false by simpa using hr)
theorem PlayInv.admits{x:Itk}(h:PlayInv x)(e:Ev):PlayInv (x.admits e):=by
 unfold Itk.admits;split;·exact h
 ·rename_i hr;exact(h.hear e _).took (show x.refuses e=false by simpa using hr)
theorem PlayInv.deed{x:Itk}(h:PlayInv x)(d:Dd):PlayInv (x.deed d):=by
 unfold Itk.deed;split;·exact h.offer _ _
 split;·exact h.admits _
 split;·exact h.tick _
 split;·exact h.drop _
 ·exact h
theorem PlayInv.grown(slack idle:Int)(ds:List Dd):PlayInv (Itk.grown slack idle ds):=by
 unfold Itk.grown;have key: ∀(ds:List Dd)(x:Itk),PlayInv x→PlayInv (ds.foldl Itk.deed x):=fun ds=>by induction ds with|nil=>exact fun x h=>h|cons d ds ih=>exact fun x h=>ih _ (h.deed d)
 exact key ds _ (PlayInv.new slack idle)
end Go.Proofs.YtbejfgmdkmddnaaGreatDoor
