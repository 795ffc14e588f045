/-
  Layer 8, plain: an intake.
-/
import Derived.Test.YtajihpcdplpcdaaGreatDoorTEvMay
import Derived.StillTailTactics
import Derived.Test.YtajihpcdplpcdaaGreatDoorTClkTick
import Derived.Test.YtajihpcdplpcdaaGreatDoorTEvLen
set_option maxRecDepth 100000
set_option maxHeartbeats 16000000
namespace Go.Proofs.YtajihpcdplpcdaaGreatDoor
open Go.RowKit Go.Maps Go.Sort
def orI(a b c:Int):Int:=if a≠0 then a else if b≠0 then b else c
def cmpE(a b:Ev):Int:=orI (Lib.compareInt a.at_ b.at_) (Lib.compareBytes a.src b.src) (Lib.compareInt a.num b.num)
theorem or3_any(w:World)(b:Nat)(x y z:Int)(h0:w.cell? ⟨b,0,none⟩=some (.int .i64 x))(h1:w.cell? ⟨b,1,none⟩=some (.int .i64 y))(h2:w.cell? ⟨b,2,none⟩=some (.int .i64 z)):Calls Tryz.prog 51 #[.slice (some ⟨b,0,none⟩) 3 3] w fun e w'=>e=.returned (.int .i64 (orI x y z))∧w=w':=by
 have HO:=qH (show orI x y z=if x≠0 then x else if y≠0 then y else z from rfl);have hget: ∀k:Nat,k<3→w.cell? ⟨b,0+k,none⟩=some (.int .i64 ([x,y,z].getD k 0)):=fun k hk=>by
  rcases(show k=0∨k=1∨k=2 by omega)with rfl|rfl|rfl;·exact h0
  ·exact h1
  ·exact h2
 have HG:=qH hget;have HR:=qH (show∀k:Nat,k<3→(∀j,j<k→[x,y,z].getD j 0=0)→[x,y,z].getD k 0≠0→orI x y z=[x,y,z].getD k 0 from fun k hk hz hn=>by
  rcases(show k=0∨k=1∨k=2 by omega)with rfl|rfl|rfl;·simp at hn;simp[orI,hn]
  ·have a0:=hz 0 (by omega);simp at hn a0;simp[orI,hn,a0]
  ·have a0:=hz 0 (by omega);have a1:=hz 1 (by omega);simp at hn a0 a1;simp[orI,a0,a1]);have HE:=qH (show(∀j,j<3→[x,y,z].getD j 0=0)→orI x y z=0 from fun hz=>by have a0:=hz 0 (by omega);have a1:=hz 1 (by omega);have a2:=hz 2 (by omega);simp at a0 a1 a2;simp[orI,a0,a1,a2]);clear hget h0 h1 h2 HO;generalize orI x y z=r at*;generalize[x,y,z]=l at*;go_enter Tryz.func51,Tryz.ntmps51;go_wp2;go_loop[8](fun i=> ∃k:Nat,i=.int .i64 k∧k≤3∧Hid (∀j,j<k→l.getD j 0=0))(fun i=>3-(intOf i).toNat);case atStart=>exact⟨0,rfl,by omega,fun j hj=>by omega⟩
 case round=>
  obtain⟨k,rfl,hk,HZ⟩:=hrel;by_cases hk3:k<3
  ·have hc:=HG.out k hk3;have HRK:=qH (HR.out k hk3 HZ.out);have HN:=qH (show l.getD k 0=0→ ∀j,j<k+1→l.getD j 0=0 from fun h j hj=>by
    by_cases e:j=k;·subst e;exact h
    ·exact HZ.out j (by omega));rw[Nat.zero_add]at hc;generalize l.getD k 0=v at*;have t3:(k:Int)<3:=by omega
   by_cases hv:v=0
   ·have HN':=qH (HN.out hv);have bv:(v !=0)=false:=by simpa using hv
    clear hv;go_wp2;go_round;case rel=>exact⟨k+1,by go_num,by omega,HN'.out⟩
    case measure=>simp[intOf];omega
   ·have HV:=qH (HRK.out hv);have bv:(v !=0)=true:=by simpa using hv
    clear hv;go_wp2;go_ret;exact⟨ret_int HV.out.symm,rfl⟩
  ·have HV:=qH (HE.out (fun j hj=>HZ.out j (by omega)));have t3: ¬(k:Int)<3:=by omega
   go_wp2;go_ret;exact⟨ret_int HV.out.symm,rfl⟩
theorem compare_any(w:World)(a b:Ev):Calls Tryz.prog 25 #[a.agg,b.agg] w fun e w'=>e=.returned (.int .i64 (cmpE a b))∧Below w.heap.size w w':=by
 have HC:=qH (show cmpE a b=orI (Lib.compareInt a.at_ b.at_) (Lib.compareBytes a.src b.src) (Lib.compareInt a.num b.num)from rfl);unfold Ev.agg;go_enter Tryz.func25,Tryz.ntmps25;go_wp2;have hbA:Below w.heap.size w ((w.alloc (evObj a)).alloc (evObj b)):=((Below.refl _ _).alloc (Nat.le_refl _) _).alloc (by simp) _;have hb1:Below (w.alloc (evObj a)).heap.size (w.alloc (evObj a)) ((w.alloc (evObj a)).alloc (evObj b)):=(Below.refl _ _).alloc (Nat.le_refl _) _;obtain⟨f0,f1,f2,f3,f4,f5,f6,f7⟩:=(EvIn.new w a).below hb1 (by simp);obtain⟨g0,g1,g2,g3,g4,g5,g6,g7⟩:=EvIn.new (w.alloc (evObj a)) b;have hsA:(w.alloc (evObj a)).heap.size=w.heap.size+1:=by simp
 rw[hsA]at g0 g1 g2 g3 g4 g5 g6 g7;have hs1:((w.alloc (evObj a)).alloc (evObj b)).heap.size=w.heap.size+2:=by simp
 have HS1:=qH hs1;clear hb1 hsA hs1;generalize(w.alloc (evObj a)).alloc (evObj b)=w1 at*;go_still_tail 15,(by kernel_rfl);still_call(Tryz.cmp_Compare_int _ _ _);repeat still_step
 still_call(Tryz.strings_Compare _ _ _);repeat still_step
 still_call(Tryz.cmp_Compare_int _ _ _);repeat still_step
 refine wpStill_nil ?_;change wpList _ _ _ _ _ (w1.drewN 1);have hbq:Below w.heap.size w (w1.drewN 1):=below_drewN hbA 1;have hsq:w.heap.size+2=(w1.drewN 1).heap.size:=by show _=w1.heap.size;rw[HS1.out]
 generalize w1.drewN 1=w2 at*;generalize Lib.compareInt a.at_ b.at_=x at*;generalize Lib.compareBytes a.src b.src=y at*;generalize Lib.compareInt a.num b.num=z at*;have HSQ:=qH hsq;clear hsq;go_wp2_with fail;have key: ∀o,(w2.alloc (.cells #[.int .i64 x,.int .i64 y,.int .i64 z] 3)).cell? ⟨w2.heap.size,o,none⟩=_:=fun o=>cell_of_row _ w2.heap.size o _ _ (0,0) (heap_alloc_new w2 _);refine(or3_any _ w2.heap.size x y z ((key 0).trans rfl) ((key 1).trans rfl) ((key 2).trans rfl)).mono ?_;rintro e w3⟨rfl,rfl⟩;clear key;go_wp2;go_ret;exact⟨ret_int HC.out.symm,hbq.alloc (by have:=HSQ.out;omega) _⟩
/-!### the order of events -/
theorem cI_neg{x y:Int}:Lib.compareInt x y<0↔x<y:=by unfold Lib.compareInt;split<;>(try split)<;>omega
theorem cI_zero{x y:Int}:Lib.compareInt x y=0↔x=y:=by unfold Lib.compareInt;split<;>(try split)<;>omega
theorem cI_pos{x y:Int}:0<Lib.compareInt x y↔y<x:=by unfold Lib.compareInt;split<;>(try split)<;>omega
theorem cB_all: ∀(a b:List UInt8),(Lib.compareBytes a b<0↔bytesBefore a b=true)∧(Lib.compareBytes a b=0↔a=b)∧(0<Lib.compareBytes a b↔bytesBefore b a=true)
 |[],[]=>by simp[Lib.compareBytes,bytesBefore]
 |[],_::_=>by simp[Lib.compareBytes,bytesBefore]
 |_::_,[]=>by simp[Lib.compareBytes,bytesBefore]
 |x::a,y::b=>by
  have ih:=cB_all a b;unfold Lib.compareBytes bytesBefore;by_cases h1:x<y;·have h2: ¬y<x:=UInt8.lt_asymm h1;have h3:x≠y:=fun e=>UInt8.lt_irrefl _ (e▸h1);have h4:y≠x:=fun e=>h3 e.symm;simp[h1,h2,h3,h4]
  ·by_cases h2:y<x;·have h3:x≠y:=fun e=>UInt8.lt_irrefl _ (e▸h2);simp[h1,h2,h3]
   ·have e:x=y:=Classical.byContradiction fun hne=>(UInt8.lt_or_lt_of_ne hne).elim h1 h2;subst e;simp[h1,ih.1,ih.2.1,ih.2.2]
def LtE(a b:Ev):Prop:=a.at_<b.at_∨(a.at_=b.at_∧(bytesBefore a.src b.src=true∨(a.src=b.src∧a.num<b.num)))
theorem cmpE_pos{a b:Ev}:0<cmpE a b↔LtE b a:=by
 unfold cmpE orI LtE;have h1:= @cI_neg a.at_ b.at_;have h2:= @cI_zero a.at_ b.at_;have h3:= @cI_pos a.at_ b.at_;have k:=cB_all a.src b.src;have n3:= @cI_pos a.num b.num;by_cases e:Lib.compareInt a.at_ b.at_=0
 ·have ea:=h2.1 e;rw[if_neg (by simp[e])];by_cases e2:Lib.compareBytes a.src b.src=0
  ·have es:=k.2.1.1 e2;rw[if_neg (by simp[e2]),n3];constructor;·intro h;exact .inr ⟨ea.symm,.inr ⟨es.symm,h⟩⟩
   ·rintro(h|⟨_,h|⟨_,h⟩⟩);·omega
    ·rw[es,bb_irrefl]at h;cases h
    ·exact h
  ·rw[if_pos (by simpa using e2),k.2.2];constructor;·intro h;exact .inr ⟨ea.symm,.inl h⟩
   ·rintro(h|⟨_,h|⟨h,_⟩⟩);·omega
    ·exact h
    ·exact absurd (k.2.1.2 h.symm) e2
 ·rw[if_pos (by simpa using e),h3];constructor;·exact fun h=>.inl h
  ·rintro(h|⟨h,_⟩);·exact h
   ·exact absurd (h2.2 h.symm) e
theorem LtE.trans{a b c:Ev}(h:LtE a b)(h':LtE b c):LtE a c:=by
 unfold LtE at*;rcases h with h|⟨h1,h2⟩<;>rcases h' with h'|⟨h1',h2'⟩;·left;omega
 ·left;omega
 ·left;omega
 ·right;refine⟨by omega,?_⟩;rcases h2 with h2|⟨h2,h3⟩<;>rcases h2' with h2'|⟨h2',h3'⟩;·exact .inl (bb_trans h2 h2')
  ·exact .inl (h2'▸h2)
  ·exact .inl (h2▸h2')
  ·exact .inr ⟨h2.trans h2',by omega⟩
theorem LtE.irrefl(a:Ev): ¬LtE a a:=by
 unfold LtE;rintro(h|⟨_,h|⟨_,h⟩⟩);·omega
 ·rw[bb_irrefl]at h;cases h
 ·omega
theorem LtE.total{a b:Ev}(h: ¬LtE a b):LtE b a∨(a.at_=b.at_∧a.src=b.src∧a.num=b.num):=by
 unfold LtE at*;by_cases e:a.at_=b.at_
 ·by_cases e2:a.src=b.src
  ·by_cases e3:a.num=b.num;·exact .inr ⟨e,e2,e3⟩
   ·left;right;refine⟨e.symm,.inr ⟨e2.symm,?_⟩⟩;rcases Int.lt_or_gt_of_ne e3 with h'|h';·exact absurd (.inr ⟨e,.inr ⟨e2,h'⟩⟩) h
    ·exact h'
  ·left;right;refine⟨e.symm,.inl ?_⟩;rcases bb_total e2 with h'|h';·exact absurd (.inr ⟨e,.inl h'⟩) h
   ·exact h'
 ·left;left;rcases Int.lt_or_gt_of_ne e with h'|h';·exact absurd (.inl h') h
  ·exact h'
instance(a b:Ev):Decidable (LtE a b):=by unfold LtE;infer_instance
def LeE(a b:Ev):Prop:= ¬LtE b a
theorem LeE.lt{a b e:Ev}(h:LeE a b)(h':LtE e a):LtE e b:=by
 by_cases hab:LtE a b;·exact h'.trans hab
 ·rcases LtE.total hab with h2|⟨e1,e2,e3⟩;·exact absurd h2 h
  ·unfold LtE at*;rw[←e1,←e2,←e3];exact h'
def SortedE(l:List Ev):Prop:=l.Pairwise LeE
def insE(e:Ev)(l:List Ev):List Ev:=(l.takeWhile fun a=>!decide (LtE e a))++e::(l.dropWhile fun a=>!decide (LtE e a))
def posE(e:Ev)(l:List Ev):Nat:=(l.takeWhile fun a=>!decide (LtE e a)).length
theorem posE_le(e:Ev)(l:List Ev):posE e l≤l.length:=(List.takeWhile_prefix _).length_le
theorem insE_eq(e:Ev)(l:List Ev):insE e l=l.take (posE e l)++[e]++l.drop (posE e l):=by
 unfold insE posE;have h:l.takeWhile (fun a=>!decide (LtE e a))++l.dropWhile (fun a=>!decide (LtE e a))=l:=List.takeWhile_append_dropWhile;have h1:l.take (l.takeWhile fun a=>!decide (LtE e a)).length=l.takeWhile fun a=>!decide (LtE e a):=by
  conv=>lhs;arg 2;rw[←h]
  exact List.take_left' rfl
 have h2:l.drop (l.takeWhile fun a=>!decide (LtE e a)).length=l.dropWhile fun a=>!decide (LtE e a):=by
  conv=>lhs;arg 2;rw[←h]
  exact List.drop_left' rfl
 rw[h1,h2];simp
theorem insE_mem{e x:Ev}{l:List Ev}:x∈insE e l↔x=e∨x∈l:=by
 have h:l.takeWhile (fun a=>!decide (LtE e a))++l.dropWhile (fun a=>!decide (LtE e a))=l:=List.takeWhile_append_dropWhile;unfold insE;conv=>rhs;rw[←h]
 simp only[List.mem_append,List.mem_cons];constructor;·rintro(h|h|h)<;>simp[h]
 ·rintro(h|h|h)<;>simp[h]
theorem insE_length(e:Ev)(l:List Ev):(insE e l).length=l.length+1:=by rw[insE_eq];have:=posE_le e l;simp;omega
theorem drop_gt{e:Ev}: ∀{l:List Ev},SortedE l→ ∀x∈l.dropWhile (fun a=>!decide (LtE e a)),LtE e x
 |[],_,x,hx=>by simp at hx
 |a::t,h,x,hx=>by
  obtain⟨h1,h2⟩:=List.pairwise_cons.1 h;by_cases ha:LtE e a
  ·rw[List.dropWhile_cons_of_neg (by simpa using ha)]at hx;rcases List.mem_cons.1 hx with rfl|hx;·exact ha
   ·exact(h1 x hx).lt ha
  ·rw[List.dropWhile_cons_of_pos (by simpa using ha)]at hx;exact drop_gt h2 x hx
theorem insE_sorted{e:Ev}{l:List Ev}(h:SortedE l):SortedE (insE e l):=by
 have h0:l.takeWhile (fun a=>!decide (LtE e a))++l.dropWhile (fun a=>!decide (LtE e a))=l:=List.takeWhile_append_dropWhile;have h':=h;unfold SortedE at h;rw[←h0]at h;obtain⟨u1,u2,u3⟩:=List.pairwise_append.1 h;unfold insE SortedE;refine List.pairwise_append.2 ⟨u1,List.pairwise_cons.2 ⟨fun x hx=>?_,u2⟩,fun a ha b hb=>?_⟩;·have:=drop_gt h' x hx;intro h2;exact LtE.irrefl _ (this.trans h2)
 ·have ha': ¬LtE e a:=by simpa using List.all_eq_true.1 List.all_takeWhile a ha
  rcases List.mem_cons.1 hb with rfl|hb;·exact ha'
  ·exact u3 a ha b hb
theorem posE_search{e:Ev}{l:List Ev}(k:Nat)(hk:k≤l.length)(h1: ∀i(h:i<l.length),i<k→ ¬LtE e l[i])(h2: ∀i(h:i<l.length),k≤i→LtE e l[i]):k=posE e l:=by
 have e0:l=l.take k++l.drop k:=(List.take_append_drop k l).symm;unfold posE;conv=>rhs;rw[e0]
 rw[List.takeWhile_append_of_pos (fun x hx=>by obtain⟨i,hi,rfl⟩:=List.getElem_of_mem hx;rw[List.length_take]at hi;rw[List.getElem_take];simpa using h1 i (by omega) (by omega))];have:(l.drop k).takeWhile (fun a=>!decide (LtE e a))=[]:=by
  cases hd:l.drop k with
   |nil=>rfl
   |cons b t=>
    have hlt:k<l.length:=by
     rcases Nat.lt_or_ge k l.length with h|h;·exact h
     ·rw[List.drop_of_length_le h]at hd;cases hd
    have hb:b=l[k]:=by have:=List.drop_eq_getElem_cons hlt;rw[hd]at this;injection this
    rw[List.takeWhile_cons_of_neg (by rw[hb];simpa using h2 k hlt (Nat.le_refl _))]
 rw[this];simp;omega
theorem SortedE.filter{l:List Ev}(h:SortedE l)(p:Ev→Bool):SortedE (l.filter p):=List.Pairwise.filter p h
/-!### intakes -/
structure Itk where
 clk:Clk
 had:Had
 taken:List Ev
 late:List Ev
 gone:List (List UInt8)
def idOf(e:Ev):List UInt8×Int:=(e.src,e.num)
def keepB(p:List UInt8)(e:Ev):Bool:=(e.per !=p)||(e.kind==14)
def Itk.wrong(x:Itk)(e:Ev):Bool:=!mayB e||(decide (e.per∈x.gone)&&(e.kind !=14))||decide (1048576≤x.taken.length)
def Itk.verdict(x:Itk)(e:Ev):Int:=if x.wrong e then 3 else if hadB x.had e.src e.num then 1 else 0
def Itk.refuses(x:Itk)(e:Ev):Bool:=x.wrong e||hadB x.had e.src e.num
def Itk.drop(x:Itk)(p:Ev→Bool):Itk:={x with taken:=x.taken.filter p,late:=x.late.filter p}
def Itk.put(x:Itk)(e:Ev):Itk:={x with had:=putH x.had e.src e.num,taken:=insE e x.taken}
def Itk.took(x:Itk)(e:Ev):Itk:=if e.kind=14 then({x.put e with gone:=e.per::x.gone}:Itk).drop (keepB e.per)else x.put e
def Itk.hear(x:Itk)(e:Ev)(now:Int):Itk:={x with clk:=x.clk.hear e.src e.at_ now}
def Itk.admits(x:Itk)(e:Ev):Itk:=if x.refuses e then x else(x.hear e x.clk.now).took e
def Itk.admitted(x:Itk)(e:Ev):Int:=if x.refuses e then x.verdict e else 0
def Itk.new(slack idle:Int):Itk:=⟨Clk.new slack idle,[],[],[],[]⟩
structure ItkOk(N:Nat)(x:Itk):Prop where
 sorted:SortedE x.taken
 may: ∀e,e∈x.taken∨e∈x.late→mayB e=true
 src:x.clk.src.length≤N
 had:x.had.length≤N
 rows: ∀s,(hadRow x.had s).length≤N
 taken:x.taken.length≤N
 late:x.late.length≤N
theorem ItkOk.more{N M:Nat}{x:Itk}(h:ItkOk N x)(hN:N≤M):ItkOk M x:=⟨h.sorted,h.may,Nat.le_trans h.src hN,Nat.le_trans h.had hN,fun s=>Nat.le_trans (h.rows s) hN,Nat.le_trans h.taken hN,Nat.le_trans h.late hN⟩
theorem ItkOk.new(slack idle:Int):ItkOk 0 (Itk.new slack idle):=⟨List.Pairwise.nil,fun e he=>by rcases he with he|he<;>simp[Itk.new]at he,Nat.le_refl _,Nat.le_refl _,fun s=>by simp[Itk.new,hadRow,getB],Nat.le_refl _,Nat.le_refl _⟩
theorem ItkOk.hear{N:Nat}{x:Itk}(h:ItkOk N x)(e:Ev)(now:Int):ItkOk (N+1) (x.hear e now):=⟨h.sorted,h.may,Nat.le_trans (hear_len x.clk e.src e.at_ now) (by have:=h.src;omega),Nat.le_succ_of_le h.had,fun s=>Nat.le_succ_of_le (h.rows s),Nat.le_succ_of_le h.taken,Nat.le_succ_of_le h.late⟩
theorem ItkOk.drop{N:Nat}{x:Itk}(h:ItkOk N x)(p:Ev→Bool):ItkOk N (x.drop p):=⟨h.sorted.filter p,fun e he=>h.may e (he.imp (fun h=>(List.mem_filter.1 h).1) (fun h=>(List.mem_filter.1 h).1)),h.src,h.had,h.rows,Nat.le_trans (List.length_filter_le _ _) h.taken,Nat.le_trans (List.length_filter_le _ _) h.late⟩
theorem ItkOk.put{N:Nat}{x:Itk}(h:ItkOk N x)(hok:HadOk x.had)(e:Ev)(he:mayB e=true)(hh:hadB x.had e.src e.num=false):ItkOk (N+1) (x.put e):=by
 refine⟨insE_sorted h.sorted,fun a ha=>?_,Nat.le_succ_of_le h.src,?_,fun s=>?_,?_,Nat.le_succ_of_le h.late⟩
 ·rcases ha with ha|ha
  ·rcases insE_mem.1 ha with rfl|ha;·exact he
   ·exact h.may a (.inl ha)
  ·exact h.may a (.inr ha)
 ·exact Nat.le_trans (putB_length_le _ _ _) (by have:=h.had;omega)
 ·show(hadRow (putH x.had e.src e.num) s).length≤N+1;unfold putH;by_cases es:s=e.src;·subst es;rw[hadRow_put_same];have:=putR_len (hadRow x.had e.src) (hok.row _) hh;have:=h.rows e.src;omega
  ·rw[hadRow_put_other _ _ es];exact Nat.le_succ_of_le (h.rows s)
 ·show(insE e x.taken).length≤N+1;rw[insE_length];have:=h.taken;omega
theorem ItkOk.gone{N:Nat}{x:Itk}(h:ItkOk N x)(g:List (List UInt8)):ItkOk N {x with gone:=g}:=⟨h.sorted,h.may,h.src,h.had,h.rows,h.taken,h.late⟩
theorem may_put{m:Had}{e:Ev}(he:mayB e=true)(hh:hadB m e.src e.num=false):putsB m e.src e.num=true:=by unfold mayB headB at he;simp only[Bool.and_eq_true,decide_eq_true_eq]at he;unfold putsB;simp only[Bool.and_eq_true,decide_eq_true_eq,Bool.not_eq_true'];exact⟨⟨⟨he.1.1.1.1.1,he.1.1.1.1.2⟩,he.1.1.1.2⟩,hh⟩
end Go.Proofs.YtajihpcdplpcdaaGreatDoor
