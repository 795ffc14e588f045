/-
  Chapter 37: rows of steps in memory.
-/
import Derived.Test.YtcmmclliabhnjaaGreatDoorWEvForget
import Derived.Test.YtcmmclliabhnjaaGreatDoorWHadPlain
import Derived.Test.YtcmmclliabhnjaaGreatDoorWEvMay
import Derived.Test.YtcmmclliabhnjaaGreatDoorWSets
set_option maxRecDepth 100000
set_option maxHeartbeats 16000000
namespace Go.Proofs.YtcmmclliabhnjaaGreatDoor
open Go.RowKit Go.Maps Go.Sort
/-!### the order of events -/
theorem cI_neg{x y:Int}:Lib.compareInt x y<0↔x<y:=by unfold Lib.compareInt;split<;>(try split)<;>omega
theorem cI_zero{x y:Int}:Lib.compareInt x y=0↔x=y:=by unfold Lib.compareInt;split<;>(try split)<;>omega
theorem cI_pos{x y:Int}:0<Lib.compareInt x y↔y<x:=by unfold Lib.compareInt;split<;>(try split)<;>omega
theorem cB_all: ∀(a b:List UInt8),(Lib.compareBytes a b<0↔bytesBefore a b=true)∧(Lib.compareBytes a b=0↔a=b)∧(0<Lib.compareBytes a b↔bytesBefore b a=true)
 |[],[]=>by simp[Lib.compareBytes,bytesBefore]
 |[],_::_=>by simp[Lib.compareBytes,bytesBefore]
 |_::_,[]=>by simp[Lib.compareBytes,bytesBefore]
 |x::a,y::b=>by
  have ih:=cB_all a b;unfold Lib.compareBytes bytesBefore;by_cases h1:x<y;·have h2: ¬y<x:=UInt8.lt_asymm h1;have h3:x≠y:=fun e=>UInt8.lt_irrefl _ (e▸h1);have h4:y≠x:=fun e=>h3 e.symm;simp[h1,h2,h3,h4]
  ·by_cases h2:y<x;·have h3:x≠y:=fun e=>UInt8.lt_irrefl _ (e▸h2);simp[h1,h2,h3]
   ·have e:x=y:=Classical.byContradiction fun hne=>(UInt8.lt_or_lt_of_ne hne).elim h1 h2;subst e;simp[h1,ih.1,ih.2.1,ih.2.2]
def LtE(a b:Ev):Prop:=a.at_<b.at_∨(a.at_=b.at_∧(bytesBefore a.src b.src=true∨(a.src=b.src∧a.num<b.num)))
theorem cmpE_pos{a b:Ev}:0<cmpE a b↔LtE b a:=by
 unfold cmpE orI LtE;have h1:= @cI_neg a.at_ b.at_;have h2:= @cI_zero a.at_ b.at_;have h3:= @cI_pos a.at_ b.at_;have k:=cB_all a.src b.src;have n3:= @cI_pos a.num b.num;by_cases e:Lib.compareInt a.at_ b.at_=0
 ·have ea:=h2.1 e;rw[if_neg (by simp[e])];by_cases e2:Lib.compareBytes a.src b.src=0
  ·have es:=k.2.1.1 e2;rw[if_neg (by simp[e2]),n3];constructor;·intro h;exact .inr ⟨ea.symm,.inr ⟨es.symm,h⟩⟩
   ·rintro(h|⟨_,h|⟨_,h⟩⟩);·omega
    ·rw[es,bb_irrefl]at h;cases h
    ·exact h
  ·rw[if_pos (by simpa using e2),k.2.2];constructor;·intro h;exact .inr ⟨ea.symm,.inl h⟩
   ·rintro(h|⟨_,h|⟨h,_⟩⟩);·omega
    ·exact h
    ·exact absurd (k.2.1.2 h.symm) e2
 ·rw[if_pos (by simpa using e),h3];constructor;·exact fun h=>.inl h
  ·rintro(h|⟨h,_⟩);·exact h
   ·exact absurd (h2.2 h.symm) e
theorem LtE.trans{a b c:Ev}(h:LtE a b)(h':LtE b c):LtE a c:=by
 unfold LtE at*;rcases h with h|⟨h1,h2⟩<;>rcases h' with h'|⟨h1',h2'⟩;·left;omega
 ·left;omega
 ·left;omega
 ·right;refine⟨by omega,?_⟩;rcases h2 with h2|⟨h2,h3⟩<;>rcases h2' with h2'|⟨h2',h3'⟩;·exact .inl (bb_trans h2 h2')
  ·exact .inl (h2'▸h2)
  ·exact .inl (h2▸h2')
  ·exact .inr ⟨h2.trans h2',by omega⟩
theorem LtE.irrefl(a:Ev): ¬LtE a a:=by
 unfold LtE;rintro(h|⟨_,h|⟨_,h⟩⟩);·omega
 ·rw[bb_irrefl]at h;cases h
 ·omega
theorem LtE.total{a b:Ev}(h: ¬LtE a b):LtE b a∨(a.at_=b.at_∧a.src=b.src∧a.num=b.num):=by
 unfold LtE at*;by_cases e:a.at_=b.at_
 ·by_cases e2:a.src=b.src
  ·by_cases e3:a.num=b.num;·exact .inr ⟨e,e2,e3⟩
   ·left;right;refine⟨e.symm,.inr ⟨e2.symm,?_⟩⟩;rcases Int.lt_or_gt_of_ne e3 with h'|h';·exact absurd (.inr ⟨e,.inr ⟨e2,h'⟩⟩) h
    ·exact h'
  ·left;right;refine⟨e.symm,.inl ?_⟩;rcases bb_total e2 with h'|h';·exact absurd (.inr ⟨e,.inl h'⟩) h
   ·exact h'
 ·left;left;rcases Int.lt_or_gt_of_ne e with h'|h';·exact absurd (.inl h') h
  ·exact h'
instance(a b:Ev):Decidable (LtE a b):=by unfold LtE;infer_instance
def LeE(a b:Ev):Prop:= ¬LtE b a
theorem LeE.lt{a b e:Ev}(h:LeE a b)(h':LtE e a):LtE e b:=by
 by_cases hab:LtE a b;·exact h'.trans hab
 ·rcases LtE.total hab with h2|⟨e1,e2,e3⟩;·exact absurd h2 h
  ·unfold LtE at*;rw[←e1,←e2,←e3];exact h'
def SortedE(l:List Ev):Prop:=l.Pairwise LeE
def insE(e:Ev)(l:List Ev):List Ev:=(l.takeWhile fun a=>!decide (LtE e a))++e::(l.dropWhile fun a=>!decide (LtE e a))
def posE(e:Ev)(l:List Ev):Nat:=(l.takeWhile fun a=>!decide (LtE e a)).length
theorem posE_le(e:Ev)(l:List Ev):posE e l≤l.length:=(List.takeWhile_prefix _).length_le
theorem insE_eq(e:Ev)(l:List Ev):insE e l=l.take (posE e l)++[e]++l.drop (posE e l):=by
 unfold insE posE;have h:l.takeWhile (fun a=>!decide (LtE e a))++l.dropWhile (fun a=>!decide (LtE e a))=l:=List.takeWhile_append_dropWhile;have h1:l.take (l.takeWhile fun a=>!decide (LtE e a)).length=l.takeWhile fun a=>!decide (LtE e a):=by
  conv=>lhs;arg 2;rw[←h]
  exact List.take_left' rfl
 have h2:l.drop (l.takeWhile fun a=>!decide (LtE e a)).length=l.dropWhile fun a=>!decide (LtE e a):=by
  conv=>lhs;arg 2;rw[←h]
  exact List.drop_left' rfl
 rw[h1,h2];simp
theorem insE_mem{e x:Ev}{l:List Ev}:x∈insE e l↔x=e∨x∈l:=by
 have h:l.takeWhile (fun a=>!decide (LtE e a))++l.dropWhile (fun a=>!decide (LtE e a))=l:=List.takeWhile_append_dropWhile;unfold insE;conv=>rhs;rw[←h]
 simp only[List.mem_append,List.mem_cons];constructor;·rintro(h|h|h)<;>simp[h]
 ·rintro(h|h|h)<;>simp[h]
theorem insE_length(e:Ev)(l:List Ev):(insE e l).length=l.length+1:=by rw[insE_eq];have:=posE_le e l;simp;omega
theorem drop_gt{e:Ev}: ∀{l:List Ev},SortedE l→ ∀x∈l.dropWhile (fun a=>!decide (LtE e a)),LtE e x
 |[],_,x,hx=>by simp at hx
 |a::t,h,x,hx=>by
  obtain⟨h1,h2⟩:=List.pairwise_cons.1 h;by_cases ha:LtE e a
  ·rw[List.dropWhile_cons_of_neg (by simpa using ha)]at hx;rcases List.mem_cons.1 hx with rfl|hx;·exact ha
   ·exact(h1 x hx).lt ha
  ·rw[List.dropWhile_cons_of_pos (by simpa using ha)]at hx;exact drop_gt h2 x hx
theorem insE_sorted{e:Ev}{l:List Ev}(h:SortedE l):SortedE (insE e l):=by
 have h0:l.takeWhile (fun a=>!decide (LtE e a))++l.dropWhile (fun a=>!decide (LtE e a))=l:=List.takeWhile_append_dropWhile;have h':=h;unfold SortedE at h;rw[←h0]at h;obtain⟨u1,u2,u3⟩:=List.pairwise_append.1 h;unfold insE SortedE;refine List.pairwise_append.2 ⟨u1,List.pairwise_cons.2 ⟨fun x hx=>?_,u2⟩,fun a ha b hb=>?_⟩;·have:=drop_gt h' x hx;intro h2;exact LtE.irrefl _ (this.trans h2)
 ·have ha': ¬LtE e a:=by simpa using List.all_eq_true.1 List.all_takeWhile a ha
  rcases List.mem_cons.1 hb with rfl|hb;·exact ha'
  ·exact u3 a ha b hb
theorem posE_search{e:Ev}{l:List Ev}(k:Nat)(hk:k≤l.length)(h1: ∀i(h:i<l.length),i<k→ ¬LtE e l[i])(h2: ∀i(h:i<l.length),k≤i→LtE e l[i]):k=posE e l:=by
 have e0:l=l.take k++l.drop k:=(List.take_append_drop k l).symm;unfold posE;conv=>rhs;rw[e0]
 rw[List.takeWhile_append_of_pos (fun x hx=>by obtain⟨i,hi,rfl⟩:=List.getElem_of_mem hx;rw[List.length_take]at hi;rw[List.getElem_take];simpa using h1 i (by omega) (by omega))];have:(l.drop k).takeWhile (fun a=>!decide (LtE e a))=[]:=by
  cases hd:l.drop k with
   |nil=>rfl
   |cons b t=>
    have hlt:k<l.length:=by
     rcases Nat.lt_or_ge k l.length with h|h;·exact h
     ·rw[List.drop_of_length_le h]at hd;cases hd
    have hb:b=l[k]:=by have:=List.drop_eq_getElem_cons hlt;rw[hd]at this;injection this
    rw[List.takeWhile_cons_of_neg (by rw[hb];simpa using h2 k hlt (Nat.le_refl _))]
 rw[this];simp;omega
theorem SortedE.filter{l:List Ev}(h:SortedE l)(p:Ev→Bool):SortedE (l.filter p):=List.Pairwise.filter p h
/-!### intakes -/
structure Itk where
 clk:Clk
 had:Had
 taken:List Ev
 late:List Ev
 gone:List (List UInt8)
def idOf(e:Ev):List UInt8×Int:=(e.src,e.num)
def keepB(p:List UInt8)(e:Ev):Bool:=(e.per !=p)||(e.kind==14)
def Itk.wrong(x:Itk)(e:Ev):Bool:=!mayB e||(decide (e.per∈x.gone)&&(e.kind !=14))||decide (1048576≤x.taken.length)
def Itk.verdict(x:Itk)(e:Ev):Int:=if x.wrong e then 3 else if hadB x.had e.src e.num then 1 else 0
def Itk.refuses(x:Itk)(e:Ev):Bool:=x.wrong e||hadB x.had e.src e.num
def Itk.drop(x:Itk)(p:Ev→Bool):Itk:={x with taken:=x.taken.filter p,late:=x.late.filter p}
def Itk.put(x:Itk)(e:Ev):Itk:={x with had:=putH x.had e.src e.num,taken:=insE e x.taken}
def Itk.took(x:Itk)(e:Ev):Itk:=if e.kind=14 then({x.put e with gone:=e.per::x.gone}:Itk).drop (keepB e.per)else x.put e
def Itk.tick(x:Itk)(now:Int):Itk:={x with clk:=x.clk.tick now}
def Itk.hear(x:Itk)(e:Ev)(now:Int):Itk:={x with clk:=x.clk.hear e.src e.at_ now}
def Itk.lates(x:Itk)(e:Ev):Itk:=if idOf e∈x.late.map idOf then x else{x with late:=x.late++[e]}
def Itk.offer(x:Itk)(e:Ev)(now:Int):Itk:=if(x.tick now).refuses e then x.tick now else if((x.tick now).clk.tick now).hears e.src e.at_ then((x.tick now).hear e now).took e else((x.tick now).hear e now).lates e
def Itk.offered(x:Itk)(e:Ev)(now:Int):Int:=if(x.tick now).refuses e then(x.tick now).verdict e else if((x.tick now).clk.tick now).hears e.src e.at_ then 0 else 2
def Itk.new(slack idle:Int):Itk:=⟨Clk.new slack idle,[],[],[],[]⟩
structure ItkOk(N:Nat)(x:Itk):Prop where
 sorted:SortedE x.taken
 may: ∀e,e∈x.taken∨e∈x.late→mayB e=true
 src:x.clk.src.length≤N
 had:x.had.length≤N
 rows: ∀s,(hadRow x.had s).length≤N
 taken:x.taken.length≤N
 late:x.late.length≤N
theorem ItkOk.more{N M:Nat}{x:Itk}(h:ItkOk N x)(hN:N≤M):ItkOk M x:=⟨h.sorted,h.may,Nat.le_trans h.src hN,Nat.le_trans h.had hN,fun s=>Nat.le_trans (h.rows s) hN,Nat.le_trans h.taken hN,Nat.le_trans h.late hN⟩
theorem ItkOk.new(slack idle:Int):ItkOk 0 (Itk.new slack idle):=⟨List.Pairwise.nil,fun e he=>by rcases he with he|he<;>simp[Itk.new]at he,Nat.le_refl _,Nat.le_refl _,fun s=>by simp[Itk.new,hadRow,getB],Nat.le_refl _,Nat.le_refl _⟩
theorem ItkOk.tick{N:Nat}{x:Itk}(h:ItkOk N x)(now:Int):ItkOk N (x.tick now):=⟨h.sorted,h.may,by show(x.clk.tick now).src.length≤N;rw[tick_len];exact h.src,h.had,h.rows,h.taken,h.late⟩
theorem ItkOk.hear{N:Nat}{x:Itk}(h:ItkOk N x)(e:Ev)(now:Int):ItkOk (N+1) (x.hear e now):=⟨h.sorted,h.may,Nat.le_trans (hear_len x.clk e.src e.at_ now) (by have:=h.src;omega),Nat.le_succ_of_le h.had,fun s=>Nat.le_succ_of_le (h.rows s),Nat.le_succ_of_le h.taken,Nat.le_succ_of_le h.late⟩
theorem ItkOk.drop{N:Nat}{x:Itk}(h:ItkOk N x)(p:Ev→Bool):ItkOk N (x.drop p):=⟨h.sorted.filter p,fun e he=>h.may e (he.imp (fun h=>(List.mem_filter.1 h).1) (fun h=>(List.mem_filter.1 h).1)),h.src,h.had,h.rows,Nat.le_trans (List.length_filter_le _ _) h.taken,Nat.le_trans (List.length_filter_le _ _) h.late⟩
theorem ItkOk.put{N:Nat}{x:Itk}(h:ItkOk N x)(hok:HadOk x.had)(e:Ev)(he:mayB e=true)(hh:hadB x.had e.src e.num=false):ItkOk (N+1) (x.put e):=by
 refine⟨insE_sorted h.sorted,fun a ha=>?_,Nat.le_succ_of_le h.src,?_,fun s=>?_,?_,Nat.le_succ_of_le h.late⟩
 ·rcases ha with ha|ha
  ·rcases insE_mem.1 ha with rfl|ha;·exact he
   ·exact h.may a (.inl ha)
  ·exact h.may a (.inr ha)
 ·exact Nat.le_trans (putB_length_le _ _ _) (by have:=h.had;omega)
 ·show(hadRow (putH x.had e.src e.num) s).length≤N+1;unfold putH;by_cases es:s=e.src;·subst es;rw[hadRow_put_same];have:=putR_len (hadRow x.had e.src) (hok.row _) hh;have:=h.rows e.src;omega
  ·rw[hadRow_put_other _ _ es];exact Nat.le_succ_of_le (h.rows s)
 ·show(insE e x.taken).length≤N+1;rw[insE_length];have:=h.taken;omega
theorem ItkOk.gone{N:Nat}{x:Itk}(h:ItkOk N x)(g:List (List UInt8)):ItkOk N {x with gone:=g}:=⟨h.sorted,h.may,h.src,h.had,h.rows,h.taken,h.late⟩
theorem may_put{m:Had}{e:Ev}(he:mayB e=true)(hh:hadB m e.src e.num=false):putsB m e.src e.num=true:=by unfold mayB headB at he;simp only[Bool.and_eq_true,decide_eq_true_eq]at he;unfold putsB;simp only[Bool.and_eq_true,decide_eq_true_eq,Bool.not_eq_true'];exact⟨⟨⟨he.1.1.1.1.1,he.1.1.1.1.2⟩,he.1.1.1.2⟩,hh⟩
def nmT(c:UInt8)(d:Nat):List UInt8:=[c,UInt8.ofNat (48+d)]
def tagsT(q:Nat):List UInt8:=([[],[116,48],[116,49],[116,48,44,116,49],[116,50],[116,48,44,116,50],[116,49,44,116,50],[116,48,44,116,49,44,116,50]]:List (List UInt8)).getD q []
def listT(v:Nat):List UInt8:=nmT 109 (v%3)++59::tagsT (v/4%8)
def kindT(m:Nat):Int:=([1,2,3,4,0,5,6,7,9,11,11,12,13]:List Int).getD m 0
def toldT(k p i v:Nat)(num at_:Int):Ev:=if kindT (k%16)=7∨kindT (k%16)=9 then⟨nmT 115 (k/16%2),num,at_,kindT (k%16),nmT 112 (p%4),[],0,nmT 109 (v%3)⟩else if kindT (k%16)=11 then⟨nmT 115 (k/16%2),num,at_,kindT (k%16),[],nmT 105 (i%6),v,listT v⟩else if kindT (k%16)=12 then⟨nmT 115 (k/16%2),num,at_,kindT (k%16),[],nmT 105 (i%6),((v%3:Nat):Int),[]⟩else if kindT (k%16)=13 then⟨nmT 115 (k/16%2),num,at_,kindT (k%16),[],nmT 105 (i%6),0,[]⟩else if kindT (k%16)=4 then⟨nmT 115 (k/16%2),num,at_,kindT (k%16),nmT 112 (p%4),nmT 105 (i%6),((1+v%5:Nat):Int),[]⟩else⟨nmT 115 (k/16%2),num,at_,kindT (k%16),nmT 112 (p%4),nmT 105 (i%6),0,[]⟩
theorem nameT(d:Nat)(hd:d<10):nameB (nmT 115 d)=true∧nameB (nmT 112 d)=true∧nameB (nmT 105 d)=true∧nameB (nmT 109 d)=true:=by
 have key: ∀d:Fin 10,nameB (nmT 115 d.val)=true∧nameB (nmT 112 d.val)=true∧nameB (nmT 105 d.val)=true∧nameB (nmT 109 d.val)=true:=by decide+kernel
 exact key ⟨d,hd⟩
theorem listT_ok(v:Nat):listingB (listT v)=true:=by
 have key: ∀a:Fin 3,∀b:Fin 8,listingB (nmT 109 a.val++59::tagsT b.val)=true:=by decide+kernel
 exact key ⟨v%3,Nat.mod_lt _ (by omega)⟩ ⟨v/4%8,Nat.mod_lt _ (by omega)⟩
theorem kindT_ne(m:Nat):kindT m≠14:=by
 by_cases h:m<13
 ·have key: ∀m:Fin 13,kindT m.val≠14:=by decide+kernel
  exact key ⟨m,h⟩
 ·unfold kindT;rw[List.getD_eq_getElem?_getD,List.getElem?_eq_none (by simp;omega)];decide
theorem toldT_kind(k p i v:Nat)(num at_:Int):(toldT k p i v num at_).kind=kindT (k%16)∧(toldT k p i v num at_).src=nmT 115 (k/16%2)∧(toldT k p i v num at_).num=num:=by
 unfold toldT;split;·exact⟨rfl,rfl,rfl⟩
 split;·exact⟨rfl,rfl,rfl⟩
 split;·exact⟨rfl,rfl,rfl⟩
 split;·exact⟨rfl,rfl,rfl⟩
 split;·exact⟨rfl,rfl,rfl⟩
 ·exact⟨rfl,rfl,rfl⟩
theorem toldT_at(k p i v:Nat)(num at_:Int):(toldT k p i v num at_).at_=at_:=by
 unfold toldT;split;·rfl
 split;·rfl
 split;·rfl
 split;·rfl
 split;·rfl
 ·rfl
theorem toldT_may(k p i v:Nat)(num at_:Int)(hv:v≤255)(h1:1≤num)(h2:num≤1000)(h3:0≤at_)(h4:at_≤100000):mayB (toldT k p i v num at_)=true:=by
 have n1:=(nameT (k/16%2) (by omega)).1;have n2:=(nameT (p%4) (by omega)).2.1;have n3:=(nameT (i%6) (by omega)).2.2.1;have n4:=(nameT (v%3) (by omega)).2.2.2;have hl:=listT_ok v;have d1:decide (1≤num)=true:=decide_eq_true h1;have d2:decide (num≤1099511627776)=true:=decide_eq_true (by omega);have d3:decide (0≤at_)=true:=decide_eq_true h3;have d4:decide (at_≤1099511627776)=true:=decide_eq_true (by omega);have hh: ∀e:Ev,e.src=nmT 115 (k/16%2)→e.num=num→e.at_=at_→headB e=true:=fun e e1 e2 e3=>by unfold headB;rw[e1,e2,e3,n1,d1,d2,d3,d4];rfl
 have hk: ∀m:Fin 16,kindT m.val=7∨kindT m.val=9∨kindT m.val=11∨kindT m.val=12∨kindT m.val=13∨kindT m.val=4∨kindT m.val=0∨kindT m.val=1∨kindT m.val=2∨kindT m.val=3∨kindT m.val=5∨kindT m.val=6:=by decide+kernel
 have hkk:=hk ⟨k%16,Nat.mod_lt _ (by omega)⟩;simp only at hkk;unfold mayB toldT;generalize kindT (k%16)=kd at*;have v1:decide ((0:Int)≤(v:Int))=true:=decide_eq_true (by omega);have v2:decide ((v:Int)≤1048576)=true:=decide_eq_true (by omega);have v3:decide ((0:Int)≤((v%3:Nat):Int))=true:=decide_eq_true (by omega);have v4:decide (((v%3:Nat):Int)≤1048576)=true:=decide_eq_true (by omega);have v5:decide ((1:Int)≤((1+v%5:Nat):Int))=true:=decide_eq_true (by omega);have v6:decide (((1+v%5:Nat):Int)≤5)=true:=decide_eq_true (by omega);rcases hkk with rfl|rfl|rfl|rfl|rfl|rfl|rfl|rfl|rfl|rfl|rfl|rfl<;>simp only[Int.reduceEq,or_true,true_or,or_self,if_true,if_false]<;>rw[hh _ rfl rfl rfl]<;>simp only[tailB,n2,n3,n4,hl,v1,v2,v3,v4,v5,v6,Int.reduceEq,if_true,if_false,Bool.and_self,Bool.and_true,Bool.true_and,List.isEmpty_nil,beq_self_eq_true]
structure TlInv(l:List Ev)(c:Nat→Nat):Prop where
 may: ∀e∈l,mayB e=true∧e.kind≠14
 num: ∀e∈l,∃d,d<2∧e.src=nmT 115 d∧1≤e.num∧e.num≤c d
 ids:(l.map idOf).Nodup
 low: ∀e∈l,0≤e.at_∧e.at_≤100000
theorem nmT_inj{a:UInt8}{d d':Nat}(h:d<10)(h':d'<10)(e:nmT a d=nmT a d'):d=d':=by
 have e2:UInt8.ofNat (48+d)=UInt8.ofNat (48+d'):=by unfold nmT at e;injection e with _ e;injection e
 have:=congrArg UInt8.toNat e2;simp at this;omega
theorem TlInv.nil(c:Nat→Nat):TlInv [] c:=⟨by simp,by simp,by simp,by simp⟩
theorem TlInv.tell{l:List Ev}{c:Nat→Nat}(h:TlInv l c){k p i v:Nat}{at_:Int}(hv:v≤255)(hc:c (k/16%2)<1000)(h3:0≤at_)(h4:at_≤100000):TlInv (l++[toldT k p i v ((c (k/16%2)+1:Nat):Int) at_]) (fun d=>if d=k/16%2 then c d+1 else c d):=by
 obtain⟨t1,t2,t3⟩:=toldT_kind k p i v ((c (k/16%2)+1:Nat):Int) at_;have hm:=toldT_may k p i v ((c (k/16%2)+1:Nat):Int) at_ hv (by omega) (by omega) h3 h4;have ha:=toldT_at k p i v ((c (k/16%2)+1:Nat):Int) at_;have hd:k/16%2<2:=Nat.mod_lt _ (by omega);generalize toldT k p i v ((c (k/16%2)+1:Nat):Int) at_=e at*;generalize k/16%2=d at*;refine⟨fun x hx=>?_,fun x hx=>?_,?_,fun x hx=>?_⟩
 ·rcases List.mem_append.1 hx with hx|hx;·exact h.may x hx
  ·rw[List.mem_singleton.1 hx];exact⟨hm,by rw[t1];exact kindT_ne _⟩
 ·rcases List.mem_append.1 hx with hx|hx
  ·obtain⟨q,h1,h2,h3,h4⟩:=h.num x hx;refine⟨q,h1,h2,h3,?_⟩;by_cases hq:q=d;·simp only[if_pos hq];omega
   ·simp only[if_neg hq];exact h4
  ·rw[List.mem_singleton.1 hx];exact⟨d,hd,t2,by rw[t3];omega,by rw[t3];simp⟩
 ·rw[List.map_append,List.nodup_append];refine⟨h.ids,by simp,fun a ha b hb=>?_⟩;obtain⟨x,hx,rfl⟩:=List.mem_map.1 ha;simp only[List.map_cons,List.map_nil,List.mem_singleton]at hb;subst hb;intro heq;obtain⟨q,h1,h2,h3,h4⟩:=h.num x hx;unfold idOf at heq;injection heq with e1 e2;rw[h2,t2]at e1;have:=nmT_inj (by omega) (by omega) e1;subst this;rw[t3]at e2;omega
 ·rcases List.mem_append.1 hx with hx|hx;·exact h.low x hx
  ·rw[List.mem_singleton.1 hx,ha];exact⟨h3,h4⟩
structure Stp where
 what:Int
 e:Ev
 per:List UInt8
 now:Int
 keep:Int
 of_:Int
def Stp.cells(s:Stp):List Value:=.int .i64 s.what::(s.e.cells++[.string ⟨s.per.toArray⟩,.int .i64 s.now,.int .i64 s.keep,.int .i64 s.of_])
theorem Stp.cells_len(s:Stp):s.cells.length=13:=rfl
def stpCells(l:List Stp):List Value:=l.flatMap Stp.cells
theorem stpCells_length(l:List Stp):(stpCells l).length=l.length*13:=by induction l with|nil=>rfl|cons s l ih=>have e:stpCells (s::l)=s.cells++stpCells l:=rfl;rw[e,List.length_append,ih,s.cells_len,List.length_cons];omega
theorem stpCells_one(l:List Stp)(s:Stp):stpCells (l++[s])=stpCells l++s.cells:=by simp[stpCells]
theorem stpCells_get: ∀(l:List Stp)(k j:Nat)(hk:k<l.length),j<13→(stpCells l)[k*13+j]?=l[k].cells[j]?|s::l,0,j,_,hj=>by have e:stpCells (s::l)=s.cells++stpCells l:=rfl;rw[e,Nat.zero_mul,Nat.zero_add,List.getElem?_append_left (by rw[s.cells_len];exact hj)];rfl|s::l,k+1,j,hk,hj=>by have e:stpCells (s::l)=s.cells++stpCells l:=rfl;have h:=stpCells_get l k j (by simpa using hk) hj;rw[e,List.getElem?_append_right (by rw[s.cells_len];omega),s.cells_len,show(k+1)*13+j-13=k*13+j by omega,h];rfl
theorem stp_one(s:Stp): ∀u∈s.cells,u.oneCell'=true:=fun u hu=>by simp only[Stp.cells,Ev.cells,List.cons_append,List.nil_append,List.mem_cons,List.not_mem_nil,or_false]at hu;rcases hu with rfl|rfl|rfl|rfl|rfl|rfl|rfl|rfl|rfl|rfl|rfl|rfl|rfl<;>rfl
def OwnP(w:World)(base:Nat)(v:Value)(l:List Stp):Prop:=w.ownsRow base 92 13 v l.length (stpCells l)
def tellsL(l:List Stp):List Ev:=(l.filter fun s=>s.what==0).map Stp.e
theorem tellsL_snoc(l:List Stp)(s:Stp):tellsL (l++[s])=if s.what=0 then tellsL l++[s.e]else tellsL l:=by
 unfold tellsL;rw[List.filter_append,List.map_append];by_cases h:s.what=0;·simp[h]
 ·simp[h]
theorem tellsL_len(l:List Stp):(tellsL l).length≤l.length:=by unfold tellsL;rw[List.length_map];exact List.length_filter_le _ _
abbrev StpAt(w:World)(b o:Nat)(s:Stp):Prop:=w.cell? ⟨b,o,none⟩=some (.int .i64 s.what)∧w.cell? ⟨b,o+1,none⟩=some (.string ⟨s.e.src.toArray⟩)∧w.cell? ⟨b,o+2,none⟩=some (.int .i64 s.e.num)∧w.cell? ⟨b,o+3,none⟩=some (.int .i64 s.e.at_)∧w.cell? ⟨b,o+4,none⟩=some (.int .i64 s.e.kind)∧w.cell? ⟨b,o+5,none⟩=some (.string ⟨s.e.per.toArray⟩)∧w.cell? ⟨b,o+6,none⟩=some (.string ⟨s.e.item.toArray⟩)∧w.cell? ⟨b,o+7,none⟩=some (.int .i64 s.e.val)∧w.cell? ⟨b,o+8,none⟩=some (.string ⟨s.e.text.toArray⟩)∧w.cell? ⟨b,o+9,none⟩=some (.string ⟨s.per.toArray⟩)∧w.cell? ⟨b,o+10,none⟩=some (.int .i64 s.now)∧w.cell? ⟨b,o+11,none⟩=some (.int .i64 s.keep)∧w.cell? ⟨b,o+12,none⟩=some (.int .i64 s.of_)
def Stps(w:World)(B:Nat)(A:Option Addr)(n c:Nat)(l:List Stp):Prop:=Cel w B 13 A n c (stpCells l)
theorem Stps.len{w:World}{B n c:Nat}{A:Option Addr}{l:List Stp}(h:Stps w B A n c l):l.length=n:=by have:=Cel.len h;rw[stpCells_length]at this;omega
theorem Stps.at_{w:World}{B n c:Nat}{A:Option Addr}{l:List Stp}(h:Stps w B A n c l)(k:Nat)(hk:k<l.length): ∃b off,A=some ⟨b,off,none⟩∧b<B∧StpAt w b (off+k*13) l[k]:=by
 have hl:=h.len;obtain⟨b,off,e,hb,hc⟩:=Cel.cell h (by omega);have key: ∀j u,j<13→l[k].cells[j]?=some u→w.cell? ⟨b,off+k*13+j,none⟩=some u:=fun j u hj hu=>by rw[Nat.add_assoc];exact hc _ u ((stpCells_get l k j hk hj).trans hu)
 exact⟨b,off,e,hb,key 0 _ (by omega) rfl,key 1 _ (by omega) rfl,key 2 _ (by omega) rfl,key 3 _ (by omega) rfl,key 4 _ (by omega) rfl,key 5 _ (by omega) rfl,key 6 _ (by omega) rfl,key 7 _ (by omega) rfl,key 8 _ (by omega) rfl,key 9 _ (by omega) rfl,key 10 _ (by omega) rfl,key 11 _ (by omega) rfl,key 12 _ (by omega) rfl⟩
theorem StpAt.below{w w':World}{b o B:Nat}{s:Stp}(h:StpAt w b o s)(hb:Below B w w')(hB:b<B):StpAt w' b o s:=by have key: ∀(o:Nat)u,w.cell? ⟨b,o,none⟩=some u→w'.cell? ⟨b,o,none⟩=some u:=fun o u hu=>(hb.cell (p:=⟨b,o,none⟩) hB).trans hu;obtain⟨h0,h1,h2,h3,h4,h5,h6,h7,h8,h9,h10,h11,h12⟩:=h;exact⟨key _ _ h0,key _ _ h1,key _ _ h2,key _ _ h3,key _ _ h4,key _ _ h5,key _ _ h6,key _ _ h7,key _ _ h8,key _ _ h9,key _ _ h10,key _ _ h11,key _ _ h12⟩
end Go.Proofs.YtcmmclliabhnjaaGreatDoor
