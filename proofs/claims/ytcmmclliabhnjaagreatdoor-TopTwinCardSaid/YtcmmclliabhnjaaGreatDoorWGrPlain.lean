/-
  Layer 8: Gone, Late, Taken; layer 31: erase.Intake.
-/
import Derived.Test.YtcmmclliabhnjaaGreatDoorWTaleRow
import Derived.Test.YtcmmclliabhnjaaGreatDoorWEvForget
import Derived.Test.YtcmmclliabhnjaaGreatDoorWSets
import Derived.CallsIn
import Derived.Test.YtcmmclliabhnjaaGreatDoorWItkOff0
import Derived.WalkSpells
set_option maxRecDepth 100000
set_option maxHeartbeats 16000000
namespace Go.Proofs.YtcmmclliabhnjaaGreatDoor
open Go.RowKit Go.Maps Go.Sort
theorem not_refused{x:Itk}{e:Ev}(h:x.refuses e=false):mayB e=true∧(e.per∈x.gone→e.kind=14)∧hadB x.had e.src e.num=false:=by
 unfold Itk.refuses Itk.wrong at h;simp only[Bool.or_eq_false_iff,Bool.not_eq_false',Bool.and_eq_false_iff,decide_eq_false_iff_not]at h;refine⟨h.1.1.1,fun hg=>?_,h.2⟩;rcases h.1.1.2 with h'|h';·exact absurd hg h'
 ·simpa using h'
theorem SetB.congr{w:World}{b n:Nat}{ks ks':List (List UInt8)}(h:SetB w b n ks)(hk: ∀x,x∈ks↔x∈ks'):SetB w b n ks':=by
 obtain⟨D,h1,h2,h3⟩:=h;refine⟨D,h1,h2,fun k=>?_⟩;have:decide (k∈ks')=decide (k∈ks):=by simp[hk]
 rw[this];exact h3 k
structure ItkInv(P:Ev→Prop)(x:Itk):Prop where
 taken: ∀e∈x.taken,P e
 late: ∀e∈x.late,P e
 gone: ∀p∈x.gone,∃e,P e∧e.per=p
 stay: ∀e,e∈x.taken∨e∈x.late→e.per∈x.gone→e.kind=14
 forg: ∀e∈x.taken,e.kind=14→e.per∈x.gone
theorem ItkInv.new(P:Ev→Prop)(slack idle:Int):ItkInv P (Itk.new slack idle):=⟨fun e he=>by simp[Itk.new]at he,fun e he=>by simp[Itk.new]at he,fun e he=>by simp[Itk.new]at he,fun e he=>by simp[Itk.new]at he,fun e he=>by simp[Itk.new]at he⟩
theorem ItkInv.took{P:Ev→Prop}{x:Itk}(h:ItkInv P x){e:Ev}(he:P e)(hw:e.per∈x.gone→e.kind=14):ItkInv P (x.took e):=by
 unfold Itk.took;split
 ·rename_i hk;refine⟨fun a ha=>?_,fun a ha=>?_,fun p hp=>?_,fun a ha hg=>?_,fun a ha _=>?_⟩
  ·rcases insE_mem.1 (List.mem_filter.1 ha).1 with rfl|ha;·exact he
   ·exact h.taken a ha
  ·exact h.late a (List.mem_filter.1 ha).1
  ·have hp':p∈e.per::x.gone:=hp;rcases List.mem_cons.1 hp' with rfl|hp';·exact⟨e,he,rfl⟩
   ·exact h.gone p hp'
  ·have hg':a.per∈e.per::x.gone:=hg;have hkeep:keepB e.per a=true:=by rcases ha with ha|ha<;>exact(List.mem_filter.1 ha).2
   by_cases hp:a.per=e.per;·unfold keepB at hkeep;simpa[hp]using hkeep
   ·have hg2:a.per∈x.gone:=by rcases List.mem_cons.1 hg' with h'|h';exact absurd h' hp;exact h'
    rcases ha with ha|ha
    ·rcases insE_mem.1 (List.mem_filter.1 ha).1 with rfl|ha;·exact hk
     ·exact h.stay a (.inl ha) hg2
    ·exact h.stay a (.inr (List.mem_filter.1 ha).1) hg2
  ·show a.per∈e.per::x.gone;rcases insE_mem.1 (List.mem_filter.1 ha).1 with rfl|ha';·simp
   ·exact List.mem_cons_of_mem _ (h.forg a ha' (by assumption))
 ·rename_i hk;refine⟨fun a ha=>?_,h.late,h.gone,fun a ha hg=>?_,fun a ha hk'=>?_⟩
  ·rcases insE_mem.1 ha with rfl|ha;·exact he
   ·exact h.taken a ha
  ·rcases ha with ha|ha
   ·rcases insE_mem.1 ha with rfl|ha;·exact hw hg
    ·exact h.stay a (.inl ha) hg
   ·exact h.stay a (.inr ha) hg
  ·rcases insE_mem.1 ha with rfl|ha;·exact absurd hk' hk
   ·exact h.forg a ha hk'
theorem ItkInv.lates{P:Ev→Prop}{x:Itk}(h:ItkInv P x){e:Ev}(he:P e)(hw:e.per∈x.gone→e.kind=14):ItkInv P (x.lates e):=by
 unfold Itk.lates;split;·exact h
 ·refine⟨h.taken,fun a ha=>?_,h.gone,fun a ha hg=>?_,h.forg⟩
  ·rcases List.mem_append.1 ha with ha|ha;·exact h.late a ha
   ·simp at ha;subst ha;exact he
  ·rcases ha with ha|ha;·exact h.stay a (.inl ha) hg
   ·rcases List.mem_append.1 ha with ha|ha;·exact h.stay a (.inr ha) hg
    ·simp at ha;subst ha;exact hw hg
def AlikeP(l:List Ev):Prop:= ∀a∈l,∀b∈l,a.src=b.src→a.num=b.num→a=b
def GoneBy(l:List Ev)(q:List UInt8):Prop:= ∃f∈l,mayB f=true∧f.kind=14∧f.per=q
structure OrdInv(p:List Ev)(x:Itk):Prop where
 ok:HadOk x.had
 len:x.taken.length≤p.length
 gone: ∀q,q∈x.gone↔GoneBy p q
 taken: ∀e,e∈x.taken↔e∈p∧mayB e=true∧(e.kind=14∨e.per∉x.gone)
 had: ∀s n,hadB x.had s n=true→ ∃e∈p,mayB e=true∧e.src=s∧e.num=n
 kept: ∀e∈x.taken,hadB x.had e.src e.num=true
 sorted:SortedE x.taken
 ids:(x.taken.map idOf).Nodup
theorem OrdInv.new(slack idle:Int):OrdInv [] (Itk.new slack idle):=⟨HadOk.nil,Nat.le_refl _,fun q=>by simp[Itk.new,GoneBy],fun e=>by simp[Itk.new],fun s n h=>by simp[Itk.new,hadB,hadRow,getB,hasR]at h,fun e he=>by simp[Itk.new]at he,List.Pairwise.nil,by simp[Itk.new]⟩
theorem OrdInv.clk{p:List Ev}{x:Itk}(h:OrdInv p x)(c:Clk):OrdInv p {x with clk:=c}:=⟨h.ok,h.len,h.gone,h.taken,h.had,h.kept,h.sorted,h.ids⟩
theorem insE_perm(e:Ev)(l:List Ev):(insE e l).Perm (e::l):=by
 have h:l.takeWhile (fun a=>!decide (LtE e a))++l.dropWhile (fun a=>!decide (LtE e a))=l:=List.takeWhile_append_dropWhile;unfold insE;conv=>rhs;rw[←h]
 exact List.perm_middle
theorem OrdInv.refuse{p:List Ev}{x:Itk}{e:Ev}(h:OrdInv p x)(hp:p.length≤1000)(ha:AlikeP (p++[e]))(hr:x.refuses e=true):OrdInv (p++[e]) x:=by
 have key:(∀a,a∈p++[e]∧mayB a=true∧(a.kind=14∨a.per∉x.gone)↔a∈p∧mayB a=true∧(a.kind=14∨a.per∉x.gone))∧(mayB e=true→e.kind=14→e∈p):=by
  unfold Itk.refuses Itk.wrong at hr;simp only[Bool.or_eq_true,Bool.not_eq_true',Bool.and_eq_true,decide_eq_true_eq,bne_iff_ne]at hr;rcases hr with((hr|⟨hr,hk⟩)|hr)|hr
  ·refine⟨fun a=>?_,fun h'=>by rw[hr]at h';cases h'⟩;rw[List.mem_append,List.mem_singleton];constructor
   ·rintro⟨h1|rfl,h2⟩;·exact⟨h1,h2⟩
    ·rw[hr]at h2;exact absurd h2.1 (by simp)
   ·rintro⟨h1,h2⟩;exact⟨.inl h1,h2⟩
  ·refine⟨fun a=>?_,fun _ h'=>absurd h' hk⟩;rw[List.mem_append,List.mem_singleton];constructor
   ·rintro⟨h1|rfl,h2⟩;·exact⟨h1,h2⟩
    ·rcases h2.2 with h3|h3;·exact absurd h3 hk
     ·exact absurd hr h3
   ·rintro⟨h1,h2⟩;exact⟨.inl h1,h2⟩
  ·have:=h.len;omega
  ·obtain⟨e',he',_,h1,h2⟩:=h.had _ _ hr;have:e'=e:=ha e' (by simp[he']) e (by simp) h1 h2;subst this;refine⟨fun a=>?_,fun _ _=>he'⟩;rw[List.mem_append,List.mem_singleton];constructor
   ·rintro⟨k1|k1,k2⟩;·exact⟨k1,k2⟩
    ·exact⟨k1▸he',k2⟩
   ·rintro⟨k1,k2⟩;exact⟨.inl k1,k2⟩
 refine⟨h.ok,by have:=h.len;simp;omega,fun q=>?_,fun a=>?_,fun s n hs=>?_,h.kept,h.sorted,h.ids⟩
 ·rw[h.gone];constructor;·rintro⟨f,hf,h1⟩;exact⟨f,by simp[hf],h1⟩
  ·rintro⟨f,hf,h1,h2,h3⟩;rcases List.mem_append.1 hf with hf|hf;·exact⟨f,hf,h1,h2,h3⟩
   ·rw[List.mem_singleton]at hf;subst hf;exact⟨f,key.2 h1 h2,h1,h2,h3⟩
 ·rw[h.taken,key.1]
 ·obtain⟨e',he',h1⟩:=h.had s n hs;exact⟨e',by simp[he'],h1⟩
theorem OrdInv.took{p:List Ev}{x:Itk}{e:Ev}(h:OrdInv p x)(hr:x.refuses e=false):OrdInv (p++[e]) (x.took e):=by
 obtain⟨hm,hg,hh⟩:=not_refused hr;have hput:=may_put hm hh;have hids:((insE e x.taken).map idOf).Nodup:=by rw[((insE_perm e x.taken).map idOf).nodup_iff,List.map_cons,List.nodup_cons];refine⟨fun hc=>?_,h.ids⟩;obtain⟨a,ha,hai⟩:=List.mem_map.1 hc;have:=h.kept a ha;unfold idOf at hai;injection hai with h1 h2;rw[h1,h2,hh]at this;cases this
 have hhad: ∀s n,hadB (putH x.had e.src e.num) s n=true→ ∃e'∈p++[e],mayB e'=true∧e'.src=s∧e'.num=n:=fun s n hs=>by
  rw[putH_had h.ok hput]at hs;simp only[Bool.or_eq_true,Bool.and_eq_true,beq_iff_eq]at hs;rcases hs with hs|⟨rfl,rfl⟩;·obtain⟨e',he',h1⟩:=h.had s n hs;exact⟨e',by simp[he'],h1⟩
  ·exact⟨e,by simp,hm,rfl,rfl⟩
 have hkept: ∀a∈insE e x.taken,hadB (putH x.had e.src e.num) a.src a.num=true:=fun a ha=>by
  rw[putH_had h.ok hput];rcases insE_mem.1 ha with rfl|ha;·simp
  ·simp[h.kept a ha]
 unfold Itk.took;split
 ·rename_i hk;have hgn: ∀q,q∈e.per::x.gone↔GoneBy (p++[e]) q:=fun q=>by
   rw[List.mem_cons,h.gone];constructor
   ·rintro(rfl|⟨f,hf,h1⟩);·exact⟨e,by simp,hm,hk,rfl⟩
    ·exact⟨f,by simp[hf],h1⟩
   ·rintro⟨f,hf,h1,h2,h3⟩;rcases List.mem_append.1 hf with hf|hf;·exact .inr ⟨f,hf,h1,h2,h3⟩
    ·rw[List.mem_singleton]at hf;subst hf;exact .inl h3.symm
  refine⟨h.ok.put hput,?_,hgn,fun a=>?_,hhad,fun a ha=>hkept a (List.mem_filter.1 ha).1,(insE_sorted h.sorted).filter _,(List.filter_sublist.map idOf).nodup hids⟩;·show((insE e x.taken).filter _).length≤_;have:=List.length_filter_le (keepB e.per) (insE e x.taken);rw[insE_length]at this;have:=h.len;simp;omega
  ·show a∈(insE e x.taken).filter _↔a∈p++[e]∧mayB a=true∧(a.kind=14∨a.per∉e.per::x.gone);rw[List.mem_filter,insE_mem,h.taken,List.mem_append,List.mem_singleton];unfold keepB;simp only[Bool.or_eq_true,bne_iff_ne,beq_iff_eq,List.mem_cons,not_or];constructor
   ·rintro⟨rfl|⟨h1,h2,h3⟩,h4⟩;·exact⟨.inr rfl,hm,.inl hk⟩
    ·refine⟨.inl h1,h2,?_⟩;rcases h4 with h4|h4;·exact h3.imp id fun h3=>⟨h4,h3⟩
     ·exact .inl h4
   ·rintro⟨h1|rfl,h2,h3⟩;·exact⟨.inr ⟨h1,h2,h3.imp id (·.2)⟩,h3.elim .inr fun h3=>.inl h3.1⟩
    ·exact⟨.inl rfl,.inr hk⟩
 ·rename_i hk;refine⟨h.ok.put hput,?_,fun q=>?_,fun a=>?_,hhad,hkept,insE_sorted h.sorted,hids⟩;·show(insE e x.taken).length≤_;rw[insE_length];have:=h.len;simp;omega
  ·show q∈x.gone↔_;rw[h.gone];constructor;·rintro⟨f,hf,h1⟩;exact⟨f,by simp[hf],h1⟩
   ·rintro⟨f,hf,h1,h2,h3⟩;rcases List.mem_append.1 hf with hf|hf;·exact⟨f,hf,h1,h2,h3⟩
    ·rw[List.mem_singleton]at hf;subst hf;exact absurd h2 hk
  ·show a∈insE e x.taken↔a∈p++[e]∧mayB a=true∧(a.kind=14∨a.per∉x.gone);rw[insE_mem,h.taken,List.mem_append,List.mem_singleton];constructor
   ·rintro(rfl|⟨h1,h2⟩);·exact⟨.inr rfl,hm,.inr fun h'=>hk (hg h')⟩
    ·exact⟨.inl h1,h2⟩
   ·rintro⟨h1|rfl,h2⟩;·exact .inr ⟨h1,h2⟩
    ·exact .inl rfl
theorem OrdInv.offer{p:List Ev}{x:Itk}{e:Ev}(h:OrdInv p x)(hp:p.length≤1000)(ha:AlikeP (p++[e]))(now:Int)(hl:x.offered e now≠2):OrdInv (p++[e]) (x.offer e now):=by
 unfold Itk.offered at hl;unfold Itk.offer;have ht:OrdInv p (x.tick now):=h.clk _;split;·rename_i hr;exact ht.refuse hp ha hr
 ·rename_i hr;rw[if_neg hr]at hl;split;·exact(ht.clk _).took (show(x.tick now).refuses e=false by simpa using hr)
  ·rename_i hh;rw[if_neg hh]at hl;exact absurd rfl hl
theorem ids_inj{l:List Ev}(h:(l.map idOf).Nodup){a b:Ev}(ha:a∈l)(hb:b∈l)(he:idOf a=idOf b):a=b:=by
 induction l with
  |nil=>simp at ha
  |cons c l ih=>
   rw[List.map_cons,List.nodup_cons]at h;rcases List.mem_cons.1 ha with h1|h1<;>rcases List.mem_cons.1 hb with h2|h2;·rw[h1,h2]
   ·exact absurd (List.mem_map.2 ⟨b,h2,he.symm.trans (by rw[h1])⟩) h.1
   ·exact absurd (List.mem_map.2 ⟨a,h1,he.trans (by rw[h2])⟩) h.1
   ·exact ih h.2 h1 h2
theorem leE_anti{l:List Ev}(h:(l.map idOf).Nodup){a b:Ev}(ha:a∈l)(hb:b∈l)(h1:LeE a b)(h2:LeE b a):a=b:=by
 rcases LtE.total h2 with h3|⟨_,h3,h4⟩;·exact absurd h3 h1
 ·exact ids_inj h ha hb (by unfold idOf;rw[h3,h4])
theorem sorted_unique{l l':List Ev}(h:SortedE l)(h':SortedE l')(hi:(l.map idOf).Nodup)(hi':(l'.map idOf).Nodup)(hm: ∀e,e∈l↔e∈l'):l=l':=by have key: ∀l:List Ev,(l.map idOf).Nodup→l.Nodup:=fun l h=>(List.pairwise_map.1 h).imp fun{a b}hne e=>hne (congrArg idOf e);have n1:=key l hi;have n2:=key l' hi';exact List.Perm.eq_of_pairwise (fun a b ha hb h1 h2=>leE_anti hi ha ((hm b).2 hb) h1 h2) h h' ((List.perm_ext_iff_of_nodup n1 n2).2 hm)
theorem tick_now(c:Clk)(now:Int):(c.tick now).now=max c.now (boundI now):=by unfold Clk.tick;rw[rise_now]
theorem tick_risen(c:Clk)(now:Int):(c.tick now).rise=c.tick now:=rise_rise _
theorem hear_risen(c:Clk)(s:List UInt8)(at_ now:Int):(c.hear s at_ now).rise=c.hear s at_ now:=by
 unfold Clk.hear;split;·exact rise_rise _
 ·exact tick_risen c now
theorem hear_now(c:Clk)(s:List UInt8)(at_ now:Int):(c.hear s at_ now).now=max c.now (boundI now):=by
 unfold Clk.hear;split;·unfold Clk.heard;rw[rise_now];exact tick_now c now
 ·exact tick_now c now
structure PlayInv(x:Itk):Prop where
 inv:ItkInv (fun _=>True) x
 ok:HadOk x.had
 sorted:SortedE x.taken
 ids:(x.taken.map idOf).Nodup
 kept: ∀e∈x.taken,hadB x.had e.src e.num=true
 may: ∀e,e∈x.taken∨e∈x.late→mayB e=true
 risen:x.clk.rise=x.clk
 now:0≤x.clk.now
theorem PlayInv.new(slack idle:Int):PlayInv (Itk.new slack idle):=⟨ItkInv.new _ _ _,HadOk.nil,List.Pairwise.nil,by simp[Itk.new],fun e he=>by simp[Itk.new]at he,fun e he=>by simp[Itk.new]at he,by rfl,by simp[Itk.new,Clk.new]⟩
theorem PlayInv.clk{x:Itk}(h:PlayInv x){c:Clk}(h1:c.rise=c)(h2:0≤c.now):PlayInv {x with clk:=c}:=⟨⟨h.inv.taken,h.inv.late,h.inv.gone,h.inv.stay,h.inv.forg⟩,h.ok,h.sorted,h.ids,h.kept,h.may,h1,h2⟩
theorem PlayInv.tick{x:Itk}(h:PlayInv x)(now:Int):PlayInv (x.tick now):=h.clk (tick_risen _ _) (by rw[tick_now];have:=h.now;omega)
theorem PlayInv.hear{x:Itk}(h:PlayInv x)(e:Ev)(now:Int):PlayInv (x.hear e now):=h.clk (hear_risen _ _ _ _) (by rw[hear_now];have:=h.now;omega)
theorem PlayInv.took{x:Itk}{e:Ev}(h:PlayInv x)(hr:x.refuses e=false):PlayInv (x.took e):=by
 obtain⟨hm,hg,hh⟩:=not_refused hr;have hput:=may_put hm hh;have hids:((insE e x.taken).map idOf).Nodup:=by rw[((insE_perm e x.taken).map idOf).nodup_iff,List.map_cons,List.nodup_cons];refine⟨fun hc=>?_,h.ids⟩;obtain⟨a,ha,hai⟩:=List.mem_map.1 hc;have:=h.kept a ha;unfold idOf at hai;injection hai with h1 h2;rw[h1,h2,hh]at this;cases this
 have hkept: ∀a∈insE e x.taken,hadB (putH x.had e.src e.num) a.src a.num=true:=fun a ha=>by
  rw[putH_had h.ok hput];rcases insE_mem.1 ha with rfl|ha;·simp
  ·simp[h.kept a ha]
 have hmay: ∀a∈insE e x.taken,mayB a=true:=fun a ha=>by
  rcases insE_mem.1 ha with rfl|ha;·exact hm
  ·exact h.may a (.inl ha)
 have hinv:=h.inv.took (e:=e) trivial hg;unfold Itk.took at hinv⊢;split
 ·rename_i hk;rw[if_pos hk]at hinv;exact⟨hinv,h.ok.put hput,(insE_sorted h.sorted).filter _,(List.filter_sublist.map idOf).nodup hids,fun a ha=>hkept a (List.mem_filter.1 ha).1,fun a ha=>by
   rcases ha with ha|ha;·exact hmay a (List.mem_filter.1 ha).1
   ·exact h.may a (.inr (List.mem_filter.1 ha).1),h.risen,h.now⟩
 ·rename_i hk;rw[if_neg hk]at hinv;exact⟨hinv,h.ok.put hput,insE_sorted h.sorted,hids,hkept,fun a ha=>ha.elim (hmay a) (fun h'=>h.may a (.inr h')),h.risen,h.now⟩
theorem PlayInv.lates{x:Itk}{e:Ev}(h:PlayInv x)(hr:x.refuses e=false):PlayInv (x.lates e):=by
 obtain⟨hm,hg,hh⟩:=not_refused hr;have hinv:=h.inv.lates (e:=e) trivial hg;unfold Itk.lates at hinv⊢;split;·exact h
 ·rename_i hk;rw[if_neg hk]at hinv;exact⟨hinv,h.ok,h.sorted,h.ids,h.kept,fun a ha=>by
   rcases ha with ha|ha;·exact h.may a (.inl ha)
   ·rcases List.mem_append.1 ha with ha|ha;·exact h.may a (.inr ha)
    ·rw[List.mem_singleton]at ha;rw[ha];exact hm,h.risen,h.now⟩
theorem PlayInv.offer{x:Itk}(h:PlayInv x)(e:Ev)(now:Int):PlayInv (x.offer e now):=by
 unfold Itk.offer;split;·exact h.tick now
 ·rename_i hr;split;·exact((h.tick now).hear e now).took (show(x.tick now).refuses e=false by simpa using hr)
  ·exact((h.tick now).hear e now).lates (show(x.tick now).refuses e=false by simpa using hr)
def ItkNewPost(w:World)(x:Itk)(r:Ending)(w':World):Prop:= ∃bi F,r=.returned (.pointer (some ⟨bi,0,none⟩))∧ItkAt w' F bi 0 x∧Below w.heap.size w w'∧ ∀b,F b→w.heap.size≤b
theorem itknew_any(w:World)(slack idle:Int):Calls Tryz.prog 27 #[.int .i64 slack,.int .i64 idle] w (ItkNewPost w (Itk.new slack idle)):=by
 have hmm:= @run_makeMap Tryz.prog;go_enter Tryz.func27,Tryz.ntmps27;go_wp2_with fail;refine(clknew_any w slack idle).mono ?_;rintro r w1⟨bc,bm,rfl,hc1,hbc,hbm,hb1⟩;have HC1:=qH hc1;have hs1:=hb1.size;clear hc1;go_wp2_with fail;refine(hadnew_any w1).mono ?_;rintro r w2⟨bs,bh,rfl,hh2,hbs,hbh,hb2⟩;have HH2:=qH hh2;have HC2:=qH (HC1.out.up hb2);have hs2:=hb2.size;have hbw:Below w.heap.size w w2:=hb1.trans (hb2.mono hs1);have hcl:=HC2.out.lt;have hml:=HC2.out.map.lt;have hcl1:=HC1.out.lt;have hml1:=HC1.out.map.lt;have hsl:=hh2.lt bs (.inl rfl);have hhl:=hh2.lt bh (.inr rfl);clear hh2 hb1 hb2;go_wp2;go_ret;have hbl:Below w2.heap.size w2 (((w2.alloc (.map #[] 0)).alloc (.map #[] 0)).alloc (itkObj ⟨bc,bm,bs,bh,fun b=>b=bs∨b=bh,fun _=>.slice none 0 0,.slice none 0 0,.slice none 0 0,w2.heap.size,0,w2.heap.size+1,0⟩)):=(((Below.refl _ _).alloc (Nat.le_refl _) _).alloc (by simp) _).alloc (by simp;omega) _;have hsz:(((w2.alloc (.map #[] 0)).alloc (.map #[] 0)).alloc (itkObj ⟨bc,bm,bs,bh,fun b=>b=bs∨b=bh,fun _=>.slice none 0 0,.slice none 0 0,.slice none 0 0,w2.heap.size,0,w2.heap.size+1,0⟩)).heap.size=w2.heap.size+3:=by simp
 refine⟨w2.heap.size+2,fun b=>w.heap.size≤b∧b<w2.heap.size+3,rfl,⟨⟨bc,bm,bs,bh,fun b=>b=bs∨b=bh,fun _=>.slice none 0 0,.slice none 0 0,.slice none 0 0,w2.heap.size,0,w2.heap.size+1,0⟩,⟨?_,HC2.out.up hbl,HH2.out.up hbl,World.ownsRow_nil _ _ _ _,World.ownsRow_nil _ _ _ _,?_,?_,?_,?_,?_,?_,?_,?_,?_⟩,ItkOk.new slack idle,Nat.le_refl _,Nat.le_refl _,?_,?_⟩,hbw.trans (hbl.mono hbw.size),fun b hb=>hb.1⟩;·have:=heap_alloc_new ((w2.alloc (.map #[] 0)).alloc (.map #[] 0)) (itkObj ⟨bc,bm,bs,bh,fun b=>b=bs∨b=bh,fun _=>.slice none 0 0,.slice none 0 0,.slice none 0 0,w2.heap.size,0,w2.heap.size+1,0⟩);simpa using this
 ·refine(SetI.made w2).block ?_;show(((w2.alloc (.map #[] 0)).alloc (.map #[] 0)).alloc _).heap[w2.heap.size]?=_;rw[Below.heap_alloc _ _ _ (by simp;omega),Below.heap_alloc _ _ _ (by simp)]
 ·have:=SetB.made (w2.alloc (.map #[] 0));have e:(w2.alloc (.map #[] 0)).heap.size=w2.heap.size+1:=by simp
  rw[e]at this;exact this.block (Below.heap_alloc _ _ _ (by simp))
 ·show bm≠w2.heap.size;omega
 ·show bm≠w2.heap.size+1;omega
 ·show w2.heap.size≠w2.heap.size+1;omega
 ·show¬(bm=bs∨bm=bh);omega
 ·show¬(w2.heap.size=bs∨w2.heap.size=bh);omega
 ·show¬(w2.heap.size+1=bs∨w2.heap.size+1=bh);omega
 ·intro b hb;cases hb
 ·intro b hb;rcases hb with hb|hb|hb|hb|hb|hb|hb|hb;·exact⟨by omega,by omega⟩
  ·have hb':b=bc:=hb;exact⟨by omega,by omega⟩
  ·have hb':b=bm:=hb;exact⟨by omega,by omega⟩
  ·have hb':b=bs∨b=bh:=hb;exact⟨by omega,by omega⟩
  ·cases hb
  ·cases hb
  ·have hb':b=w2.heap.size:=hb;exact⟨by omega,by omega⟩
  ·have hb':b=w2.heap.size+1:=hb;exact⟨by omega,by omega⟩
 ·intro b hb;rw[hsz];exact hb.2
def OwnPost(w:World)(l:List Ev)(r:Ending)(w':World):Prop:= ∃v,r=.returned v∧OwnE w' w.heap.size v l∧Below w.heap.size w w'
theorem clone_any(w:World)(B:Option Addr)(n c:Nat)(es:List Ev)(h:Evs w w.heap.size B n c es)(hn:n≤200000):Calls Tryz.prog 58 #[.slice B n c] w (OwnPost w es):=by
 have q22: ∀(w:World)(a:Option Addr)(n c n' c':Nat),(binOp .eql 23 (.slice a n c) (.slice none n' c')).run Tryz.prog w=.ok (.bool a.isNone) w:=fun w a n c n' c'=>Lib.run_eql_slice_nil w _ _ a n c n' c' Tryz.underlying23;have HH:=qH h;clear h;have hlen:=HH.out.len;obtain⟨i0,hi0,hz0,hzs,hzb⟩:=info_parts ev_info;have HI:=qH hi0;have HZ0:=qH hz0;have HZ1:=qH hzs;have HZ2:=qH hzb;have HLE:=qH hlen;clear hi0 hz0 hzs hzb hlen;cases B with
  |none=>
   have h0:n=0:=by
    rcases Nat.eq_zero_or_pos n with h|h;·exact h
    ·obtain⟨b,off,q,_⟩:=Cel.cell HH.out h;cases q
   have HE:=qH (show es=[]from List.eq_nil_of_length_eq_zero (by rw[HLE.out,h0]));subst h0;go_enter Tryz.func58,Tryz.ntmps58;go_wp2;go_ret;exact⟨_,rfl,by rw[HE.out];exact World.ownsRow_nil _ _ _ _,Below.refl _ _⟩
  |some a=>
   have hb0:Below w.heap.size w (w.alloc (.cells #[] 74)):=(Below.refl _ _).alloc (Nat.le_refl _) _;go_enter Tryz.func58,Tryz.ntmps58;go_wp2_with(at_builtin;refine wpList_app (P:=Tryz.prog) rfl (.tmp 5) (.tmp 6) 23 rfl 74 i0 _ 8 96 Tryz.underlying23 HI.out HZ0.out HZ1.out HZ2.out rfl (by decide) w.heap.size _ 0 [] rfl ?c1 w.heap.size _ n c (evCells es) rfl ?c2 ?c3 ?c4 ?c5 ?c6 ?_);case c1=>exact⟨rfl,.inr ⟨w.heap.size,0,#[],rfl,Nat.le_refl _,heap_alloc_new w _,Nat.le_refl _,Nat.zero_le _,rfl,rfl⟩⟩
   case c2=>exact Cel.below HH.out hb0
   case c3=>intro u hu;simp only[evCells,List.mem_flatMap]at hu;obtain⟨y,_,hy⟩:=hu;exact cells_one y u hy
   case c4=>unfold maxLen;omega
   case c5=>omega
   case c6=>simp
   intro v' w2 ho2 hg2 _;have HO2:=qH ho2;have hbl:Below w.heap.size w w2:=hb0.grown hg2 (by simp) (fun k hk=>by simp[Value.ownBlock]at hk;omega);clear ho2 hg2;go_wp2;go_ret;refine⟨v',rfl,?_,hbl⟩;unfold OwnE;rw[HLE.out];have:=HO2.out;simpa using this
theorem itaken_any(w:World)(F:Nat→Prop)(bi N:Nat)(x:Itk)(h:ItkAt w F bi N x)(hN:N≤100000):Calls Tryz.prog 15 #[.pointer (some ⟨bi,0,none⟩)] w (OwnPost w x.taken):=by
 obtain⟨A,hM,hO,_⟩:=h;have HM:=qH hM;have htl:=hO.taken;obtain⟨B,c,hv,hc⟩:=hM.taken.form;obtain⟨c0,c1,c2,c3,c4,c5,f2,f3,f4⟩:=hM.cells;rw[hv]at c2;clear hM hO;go_enter Tryz.func15,Tryz.ntmps15;go_wp2_with fail;have hev:Evs w w.heap.size B x.taken.length c x.taken:=by have:=HM.out.taken;rw[hv]at this;exact Cel.of_own this
 refine(clone_any w B _ c x.taken hev (by omega)).mono ?_;rintro r w1⟨v,rfl,ho,hb⟩;have HO:=qH ho;clear ho hev c0 c1 c2 c3 c4 c5 f2 f3 f4;go_wp2;go_ret;exact⟨v,rfl,HO.out,hb⟩
open Go.Shelf
theorem ilate_any(w:World)(F:Nat→Prop)(bi N:Nat)(x:Itk)(h:ItkAt w F bi N x)(hN:N≤100000):Calls Tryz.prog 75 #[.pointer (some ⟨bi,0,none⟩)] w (OwnPost w x.late):=by
 obtain⟨A,hM,hO,_⟩:=h;have HM:=qH hM;have htl:=hO.late;obtain⟨B,c,hv,hc⟩:=hM.late.form;obtain⟨c0,c1,c2,c3,c4,c5,f2,f3,f4⟩:=hM.cells;rw[hv]at c3;clear hM hO;go_enter Tryz.func75,Tryz.ntmps75;go_wp2_with fail;have hev:Evs w w.heap.size B x.late.length c x.late:=by have:=HM.out.late;rw[hv]at this;exact Cel.of_own this
 refine(clone_any w B _ c x.late hev (by omega)).mono ?_;rintro r w1⟨v,rfl,ho,hb⟩;have HO:=qH ho;clear ho hev c0 c1 c2 c3 c4 c5 f2 f3 f4;go_wp2;go_ret;exact⟨v,rfl,HO.out,hb⟩
theorem igone_any(w:World)(F:Nat→Prop)(bi N:Nat)(x:Itk)(h:ItkAt w F bi N x)(hN:N≤100000):Calls Tryz.prog 34 #[.pointer (some ⟨bi,0,none⟩)] w (GonePost w x.gone):=by
 obtain⟨A,hM,hO,_,hng,_⟩:=h;obtain⟨c0,c1,c2,c3,c4,c5,f2,f3,f4⟩:=hM.cells;obtain⟨D,hD1,hD2,hD3⟩:=hM.gone;have HD:=qH hD1;have hDs:Maps.size D≤A.ng:=hD1.size_le;have hle:A.ng≤100000:=by omega
 clear hM hO hD1;refine(callsIn_wide (n:=6)).1 ?_;have hfK:Fence.wide.fn 54:=trivial;have hfS:Fence.wide.fn 53:=trivial;refine callsIn_of_wp Tryz.func34 rfl trivial ?_ rfl;simp only[Tryz.ntmps34,List.size_toArray,List.length_cons,List.length_nil,Nat.reduceAdd,Nat.reduceSub,Array.replicate_succ,Array.replicate_zero,List.push_toArray,List.append_toArray,List.nil_append,List.cons_append];gi_wp2_with fail;refine(Tryz.maps_Keys_54 _ _).mono ?_;rintro e w2⟨rfl,rfl⟩;gi_wp2_with fail;refine(Tryz.slices_Sorted_keys_53_54 A.bg A.ng D _ w HD.out (by unfold maxLen;omega) (by omega)).mono ?_;rintro e w3⟨v,ss,rfl,hS,hrow,hnil,hb3⟩;clear c0 c1 c2 c3 c4 c5 f2 f3 f4;gi_wp2_with fail;go_ret;obtain⟨ks,hk1,hk2⟩:=nodup_dedup x.gone;have hp:ks.Perm (strKeys D):=SetB.perm HD.out (fun k=>(hD3 k).2) hk1 hk2;have hpp:ss.Perm ks:=hS.trans hp.symm;have hnd:ss.Nodup:=hpp.nodup_iff.2 hk1;have hr:=rising_sort hnd (fun x=>hpp.mem_iff.trans (hk2 x));have hlen:(ss.mergeSort (fun x y=>decide (x≤y))).length=ss.length:=List.length_mergeSort _;refine⟨v,ss.mergeSort (fun x y=>decide (x≤y)),rfl,hr,?_,?_⟩
 ·rw[hlen];refine⟨hrow.1,?_⟩;rcases hrow.2 with⟨e,hl⟩|⟨g,cap,cur,e,hb',hg,hrr⟩;·exact .inl ⟨e,hl⟩
  ·exact .inr ⟨g,cap,cur,e,by simp at hb';omega,hg,hrr⟩
 ·exact((Below.refl _ _).alloc (Nat.le_refl _) _).trans (hb3.mono (by simp))
end Go.Proofs.YtcmmclliabhnjaaGreatDoor
