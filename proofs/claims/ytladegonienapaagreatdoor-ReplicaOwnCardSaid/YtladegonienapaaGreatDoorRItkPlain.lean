/-
  Layer 8, plain: an intake.
-/
import Derived.StillTailTactics
import Derived.Test.YtladegonienapaaGreatDoorREvLen
set_option maxRecDepth 100000
set_option maxHeartbeats 16000000
namespace Go.Proofs.YtladegonienapaaGreatDoor
open Go.RowKit Go.Maps Go.Sort
def D9(a b c:Int):Int:=if a≠0 then a else if b≠0 then b else c
def lq(a b:Ev):Int:=D9 (Lib.compareInt a.at_ b.at_) (Lib.compareBytes a.src b.src) (Lib.compareInt a.num b.num)
theorem Js(w:World)(b:Nat)(x y z:Int)(h0:w.cell? ⟨b,0,none⟩=some (.int .i64 x))(h1:w.cell? ⟨b,1,none⟩=some (.int .i64 y))(h2:w.cell? ⟨b,2,none⟩=some (.int .i64 z)):Calls Tryz.prog 149 #[.slice (some ⟨b,0,none⟩) 3 3] w fun e w'=>e=.returned (.int .i64 (D9 x y z))∧w=w':=by
 have HO:=qS (D9 x y z=if x≠0 then x else if y≠0 then y else z) (rfl);have hget: ∀k:Nat,k<3→w.cell? ⟨b,0+k,none⟩=some (.int .i64 ([x,y,z].getD k 0)):=fun k hk=>by
  rcases(show k=0∨k=1∨k=2 by omega)with rfl|rfl|rfl;·exact h0
  ·exact h1
  ·exact h2
 have HG:=qH hget;have HR:=qS (∀k:Nat,k<3→(∀j,j<k→[x,y,z].getD j 0=0)→[x,y,z].getD k 0≠0→D9 x y z=[x,y,z].getD k 0) (fun k hk hz hn=>by
  rcases(show k=0∨k=1∨k=2 by omega)with rfl|rfl|rfl;·simp at hn;simp[D9,hn]
  ·have a0:=hz 0 (by omega);simp at hn a0;simp[D9,hn,a0]
  ·have a0:=hz 0 (by omega);have a1:=hz 1 (by omega);simp at hn a0 a1;simp[D9,a0,a1]);have HE:=qS ((∀j,j<3→[x,y,z].getD j 0=0)→D9 x y z=0) (fun hz=>by have a0:=hz 0 (by omega);have a1:=hz 1 (by omega);have a2:=hz 2 (by omega);simp at a0 a1 a2;simp[D9,a0,a1,a2]);clear hget h0 h1 h2 HO;generalize D9 x y z=r at*;generalize[x,y,z]=l at*;go_enter Tryz.func149,Tryz.ntmps149;go_wp2;go_loop[8](fun i=> ∃k:Nat,i=.int .i64 k∧k≤3∧Hid (∀j,j<k→l.getD j 0=0))(fun i=>3-(intOf i).toNat);case atStart=>exact⟨0,rfl,by omega,fun j hj=>by omega⟩
 case round=>
  obtain⟨k,rfl,hk,HZ⟩:=hrel;by_cases hk3:k<3
  ·have hc:=HG.o k hk3;have Xl:=qH (HR.o k hk3 HZ.o);have HN:=qS (l.getD k 0=0→ ∀j,j<k+1→l.getD j 0=0) (fun h j hj=>by
    by_cases e:j=k;·subst e;exact h
    ·exact HZ.o j (by omega));rw[Nat.zero_add]at hc;generalize l.getD k 0=v at*;have t3:(k:Int)<3:=by omega
   by_cases hv:v=0
   ·have Kw:=qH (HN.o hv);have bv:(v !=0)=false:=by simpa using hv
    clear hv;go_wp2;go_round;case rel=>exact⟨k+1,by go_num,by omega,Kw.o⟩
    case measure=>simp[intOf];omega
   ·have HV:=qH (Xl.o hv);have bv:(v !=0)=true:=by simpa using hv
    clear hv;go_wp2;go_ret;exact⟨dB HV.o.symm,rfl⟩
  ·have HV:=qH (HE.o (fun j hj=>HZ.o j (by omega)));have t3: ¬(k:Int)<3:=by omega
   go_wp2;go_ret;exact⟨dB HV.o.symm,rfl⟩
theorem qL(w:World)(a b:Ev):Calls Tryz.prog 98 #[a.agg,b.agg] w fun e w'=>e=.returned (.int .i64 (lq a b))∧Below w.heap.size w w':=by
 have HC:=qS (lq a b=D9 (Lib.compareInt a.at_ b.at_) (Lib.compareBytes a.src b.src) (Lib.compareInt a.num b.num)) (rfl);unfold Ev.agg;go_enter Tryz.func98,Tryz.ntmps98;go_wp2;have bQ:Below w.heap.size w ((w.alloc (aj a)).alloc (aj b)):=((Below.refl _ _).alloc (Nat.le_refl _) _).alloc (by simp) _;have hb1:Below (w.alloc (aj a)).heap.size (w.alloc (aj a)) ((w.alloc (aj a)).alloc (aj b)):=(Below.refl _ _).alloc (Nat.le_refl _) _;obtain⟨f0,f1,f2,f3,f4,f5,f6,f7⟩:=(dK.new w a).below hb1 (by simp);obtain⟨g0,g1,g2,g3,g4,g5,g6,g7⟩:=dK.new (w.alloc (aj a)) b;have hsA:(w.alloc (aj a)).heap.size=w.heap.size+1:=by simp
 rw[hsA]at g0 g1 g2 g3 g4 g5 g6 g7;have hs1:((w.alloc (aj a)).alloc (aj b)).heap.size=w.heap.size+2:=by simp
 have uq:=qH hs1;clear hb1 hsA hs1;generalize(w.alloc (aj a)).alloc (aj b)=w1 at*;go_still_tail 15,(by kernel_rfl);still_call(Tryz.cmp_Compare_int _ _ _);repeat still_step
 still_call(Tryz.strings_Compare _ _ _);repeat still_step
 still_call(Tryz.cmp_Compare_int _ _ _);repeat still_step
 refine wpStill_nil ?_;change wpList _ _ _ _ _ (w1.drewN 1);have hbq:Below w.heap.size w (w1.drewN 1):=below_drewN bQ 1;have Oh:w.heap.size+2=(w1.drewN 1).heap.size:=by show _=w1.heap.size;rw[uq.o]
 generalize w1.drewN 1=w2 at*;generalize Lib.compareInt a.at_ b.at_=x at*;generalize Lib.compareBytes a.src b.src=y at*;generalize Lib.compareInt a.num b.num=z at*;have QN:=qH Oh;clear Oh;go_wp2_with fail;have key: ∀o,(w2.alloc (.cells #[.int .i64 x,.int .i64 y,.int .i64 z] 3)).cell? ⟨w2.heap.size,o,none⟩=_:=fun o=>cell_of_row _ w2.heap.size o _ _ (0,0) (heap_alloc_new w2 _);refine(Js _ w2.heap.size x y z ((key 0).trans rfl) ((key 1).trans rfl) ((key 2).trans rfl)).mono ?_;rintro e w3⟨rfl,rfl⟩;clear key;go_wp2;go_ret;exact⟨dB HC.o.symm,hbq.alloc (by have:=QN.o;omega) _⟩
/-!### the order of events -/
theorem MH{x y:Int}:Lib.compareInt x y<0↔x<y:=by unfold Lib.compareInt;split<;>(try split)<;>omega
theorem J3{x y:Int}:Lib.compareInt x y=0↔x=y:=by unfold Lib.compareInt;split<;>(try split)<;>omega
theorem Hf{x y:Int}:0<Lib.compareInt x y↔y<x:=by unfold Lib.compareInt;split<;>(try split)<;>omega
theorem Hm: ∀(a b:List UInt8),(Lib.compareBytes a b<0↔bytesBefore a b=true)∧(Lib.compareBytes a b=0↔a=b)∧(0<Lib.compareBytes a b↔bytesBefore b a=true)
 |[],[]=>by simp[Lib.compareBytes,bytesBefore]
 |[],_::_=>by simp[Lib.compareBytes,bytesBefore]
 |_::_,[]=>by simp[Lib.compareBytes,bytesBefore]
 |x::a,y::b=>by
  have ih:=Hm a b;unfold Lib.compareBytes bytesBefore;by_cases h1:x<y;·have h2: ¬y<x:=UInt8.lt_asymm h1;have h3:x≠y:=fun e=>UInt8.lt_irrefl _ (e▸h1);have h4:y≠x:=fun e=>h3 e.symm;simp[h1,h2,h3,h4]
  ·by_cases h2:y<x;·have h3:x≠y:=fun e=>UInt8.lt_irrefl _ (e▸h2);simp[h1,h2,h3]
   ·have e:x=y:=Classical.byContradiction fun hne=>(UInt8.lt_or_lt_of_ne hne).elim h1 h2;subst e;simp[h1,ih.1,ih.2.1,ih.2.2]
def gH(a b:Ev):Prop:=a.at_<b.at_∨(a.at_=b.at_∧(bytesBefore a.src b.src=true∨(a.src=b.src∧a.num<b.num)))
theorem kZ{a b:Ev}:0<lq a b↔gH b a:=by
 unfold lq D9 gH;have h1:= @MH a.at_ b.at_;have h2:= @J3 a.at_ b.at_;have h3:= @Hf a.at_ b.at_;have k:=Hm a.src b.src;have n3:= @Hf a.num b.num;by_cases e:Lib.compareInt a.at_ b.at_=0
 ·have ea:=h2.1 e;rw[if_neg (by simp[e])];by_cases e2:Lib.compareBytes a.src b.src=0
  ·have es:=k.2.1.1 e2;rw[if_neg (by simp[e2]),n3];constructor;·intro h;exact .inr ⟨ea.symm,.inr ⟨es.symm,h⟩⟩
   ·rintro(h|⟨_,h|⟨_,h⟩⟩);·omega
    ·rw[es,aV]at h;cases h
    ·exact h
  ·rw[if_pos (by simpa using e2),k.2.2];constructor;·intro h;exact .inr ⟨ea.symm,.inl h⟩
   ·rintro(h|⟨_,h|⟨h,_⟩⟩);·omega
    ·exact h
    ·exact absurd (k.2.1.2 h.symm) e2
 ·rw[if_pos (by simpa using e),h3];constructor;·exact fun h=>.inl h
  ·rintro(h|⟨h,_⟩);·exact h
   ·exact absurd (h2.2 h.symm) e
theorem gH.trans{a b c:Ev}(h:gH a b)(h':gH b c):gH a c:=by
 unfold gH at*;rcases h with h|⟨h1,h2⟩<;>rcases h' with h'|⟨h1',h2'⟩;·left;omega
 ·left;omega
 ·left;omega
 ·right;refine⟨by omega,?_⟩;rcases h2 with h2|⟨h2,h3⟩<;>rcases h2' with h2'|⟨h2',h3'⟩;·exact .inl (iI h2 h2')
  ·exact .inl (h2'▸h2)
  ·exact .inl (h2▸h2')
  ·exact .inr ⟨h2.trans h2',by omega⟩
theorem gH.irrefl(a:Ev): ¬gH a a:=by
 unfold gH;rintro(h|⟨_,h|⟨_,h⟩⟩);·omega
 ·rw[aV]at h;cases h
 ·omega
theorem gH.total{a b:Ev}(h: ¬gH a b):gH b a∨(a.at_=b.at_∧a.src=b.src∧a.num=b.num):=by
 unfold gH at*;by_cases e:a.at_=b.at_
 ·by_cases e2:a.src=b.src
  ·by_cases e3:a.num=b.num;·exact .inr ⟨e,e2,e3⟩
   ·left;right;refine⟨e.symm,.inr ⟨e2.symm,?_⟩⟩;rcases Int.lt_or_gt_of_ne e3 with h'|h';·exact absurd (.inr ⟨e,.inr ⟨e2,h'⟩⟩) h
    ·exact h'
  ·left;right;refine⟨e.symm,.inl ?_⟩;rcases lu e2 with h'|h';·exact absurd (.inr ⟨e,.inl h'⟩) h
   ·exact h'
 ·left;left;rcases Int.lt_or_gt_of_ne e with h'|h';·exact absurd (.inl h') h
  ·exact h'
instance(a b:Ev):Decidable (gH a b):=by unfold gH;infer_instance
def Lb(a b:Ev):Prop:= ¬gH b a
theorem Lb.lt{a b e:Ev}(h:Lb a b)(h':gH e a):gH e b:=by
 by_cases hab:gH a b;·exact h'.trans hab
 ·rcases gH.total hab with h2|⟨e1,e2,e3⟩;·exact absurd h2 h
  ·unfold gH at*;rw[←e1,←e2,←e3];exact h'
theorem Lb.at_{a b:Ev}(h:Lb a b):a.at_≤b.at_:=by
 unfold Lb gH at h;rcases Int.lt_or_le b.at_ a.at_ with h'|h';·exact absurd (.inl h') h
 ·exact h'
def dS(l:List Ev):Prop:=l.Pairwise Lb
def gL(e:Ev)(l:List Ev):List Ev:=(l.takeWhile fun a=>!decide (gH e a))++e::(l.dropWhile fun a=>!decide (gH e a))
def Ay(e:Ev)(l:List Ev):Nat:=(l.takeWhile fun a=>!decide (gH e a)).length
theorem Cr(e:Ev)(l:List Ev):Ay e l≤l.length:=(List.takeWhile_prefix _).length_le
theorem CE(e:Ev)(l:List Ev):gL e l=l.take (Ay e l)++[e]++l.drop (Ay e l):=by
 unfold gL Ay;have h:l.takeWhile (fun a=>!decide (gH e a))++l.dropWhile (fun a=>!decide (gH e a))=l:=List.takeWhile_append_dropWhile;have h1:l.take (l.takeWhile fun a=>!decide (gH e a)).length=l.takeWhile fun a=>!decide (gH e a):=by
  conv=>lhs;arg 2;rw[←h]
  exact List.take_left' rfl
 have h2:l.drop (l.takeWhile fun a=>!decide (gH e a)).length=l.dropWhile fun a=>!decide (gH e a):=by
  conv=>lhs;arg 2;rw[←h]
  exact List.drop_left' rfl
 rw[h1,h2];simp
theorem dI{e x:Ev}{l:List Ev}:x∈gL e l↔x=e∨x∈l:=by
 have h:l.takeWhile (fun a=>!decide (gH e a))++l.dropWhile (fun a=>!decide (gH e a))=l:=List.takeWhile_append_dropWhile;unfold gL;conv=>rhs;rw[←h]
 simp only[List.mem_append,List.mem_cons];constructor;·rintro(h|h|h)<;>simp[h]
 ·rintro(h|h|h)<;>simp[h]
theorem ja(e:Ev)(l:List Ev):(gL e l).length=l.length+1:=by rw[CE];have:=Cr e l;simp;omega
theorem CL{e:Ev}: ∀{l:List Ev},dS l→ ∀x∈l.dropWhile (fun a=>!decide (gH e a)),gH e x
 |[],_,x,hx=>by simp at hx
 |a::t,h,x,hx=>by
  obtain⟨h1,h2⟩:=List.pairwise_cons.1 h;by_cases ha:gH e a
  ·rw[List.dropWhile_cons_of_neg (by simpa using ha)]at hx;rcases List.mem_cons.1 hx with rfl|hx;·exact ha
   ·exact(h1 x hx).lt ha
  ·rw[List.dropWhile_cons_of_pos (by simpa using ha)]at hx;exact CL h2 x hx
theorem gD{e:Ev}{l:List Ev}(h:dS l):dS (gL e l):=by
 have h0:l.takeWhile (fun a=>!decide (gH e a))++l.dropWhile (fun a=>!decide (gH e a))=l:=List.takeWhile_append_dropWhile;have h':=h;unfold dS at h;rw[←h0]at h;obtain⟨u1,u2,u3⟩:=List.pairwise_append.1 h;unfold gL dS;refine List.pairwise_append.2 ⟨u1,List.pairwise_cons.2 ⟨fun x hx=>?_,u2⟩,fun a ha b hb=>?_⟩;·have:=CL h' x hx;intro h2;exact gH.irrefl _ (this.trans h2)
 ·have ha': ¬gH e a:=by simpa using List.all_eq_true.1 List.all_takeWhile a ha
  rcases List.mem_cons.1 hb with rfl|hb;·exact ha'
  ·exact u3 a ha b hb
theorem yD{e:Ev}{l:List Ev}(k:Nat)(hk:k≤l.length)(h1: ∀i(h:i<l.length),i<k→ ¬gH e l[i])(h2: ∀i(h:i<l.length),k≤i→gH e l[i]):k=Ay e l:=by
 have e0:l=l.take k++l.drop k:=(List.take_append_drop k l).symm;unfold Ay;conv=>rhs;rw[e0]
 rw[List.takeWhile_append_of_pos (fun x hx=>by obtain⟨i,hi,rfl⟩:=List.getElem_of_mem hx;rw[List.length_take]at hi;rw[List.getElem_take];simpa using h1 i (by omega) (by omega))];have:(l.drop k).takeWhile (fun a=>!decide (gH e a))=[]:=by
  cases hd:l.drop k with
   |nil=>rfl
   |cons b t=>
    have hlt:k<l.length:=by
     rcases Nat.lt_or_ge k l.length with h|h;·exact h
     ·rw[List.drop_of_length_le h]at hd;cases hd
    have hb:b=l[k]:=by have:=List.drop_eq_getElem_cons hlt;rw[hd]at this;injection this
    rw[List.takeWhile_cons_of_neg (by rw[hb];simpa using h2 k hlt (Nat.le_refl _))]
 rw[this];simp;omega
theorem dS.filter{l:List Ev}(h:dS l)(p:Ev→Bool):dS (l.filter p):=List.Pairwise.filter p h
/-!### intakes -/
structure az where
 aG:bq
 had:dV
 taken:List Ev
 late:List Ev
 gone:List (List UInt8)
def aO(e:Ev):List UInt8×Int:=(e.src,e.num)
def bF(p:List UInt8)(e:Ev):Bool:=(e.per !=p)||(e.kind==14)
def az.wrong(x:az)(e:Ev):Bool:=!aB e||(decide (e.per∈x.gone)&&(e.kind !=14))||decide (1048576≤x.taken.length)
def az.verdict(x:az)(e:Ev):Int:=if x.wrong e then 3 else if hadB x.had e.src e.num then 1 else 0
def az.refuses(x:az)(e:Ev):Bool:=x.wrong e||hadB x.had e.src e.num
def az.drop(x:az)(p:Ev→Bool):az:={x with taken:=x.taken.filter p,late:=x.late.filter p}
def az.put(x:az)(e:Ev):az:={x with had:=rU x.had e.src e.num,taken:=gL e x.taken}
def az.took(x:az)(e:Ev):az:=if e.kind=14 then({x.put e with gone:=e.per::x.gone}:az).drop (bF e.per)else x.put e
def az.tick(x:az)(now:Int):az:={x with aG:=x.aG.tick now}
def az.hear(x:az)(e:Ev)(now:Int):az:={x with aG:=x.aG.hear e.src e.at_ now}
def az.admits(x:az)(e:Ev):az:=if x.refuses e then x else(x.hear e x.aG.now).took e
def az.lC(x:az)(e:Ev):Int:=if x.refuses e then x.verdict e else 0
def az.new(ag idle:Int):az:=⟨bq.new ag idle,[],[],[],[]⟩
structure bU(N:Nat)(x:az):Prop where
 sorted:dS x.taken
 may: ∀e,e∈x.taken∨e∈x.late→aB e=true
 src:x.aG.src.length≤N
 had:x.had.length≤N
 rows: ∀s,(aC x.had s).length≤N
 taken:x.taken.length≤N
 late:x.late.length≤N
theorem bU.more{N M:Nat}{x:az}(h:bU N x)(hN:N≤M):bU M x:=⟨h.sorted,h.may,Nat.le_trans h.src hN,Nat.le_trans h.had hN,fun s=>Nat.le_trans (h.rows s) hN,Nat.le_trans h.taken hN,Nat.le_trans h.late hN⟩
theorem bU.new(ag idle:Int):bU 0 (az.new ag idle):=⟨List.Pairwise.nil,fun e he=>by rcases he with he|he<;>simp[az.new]at he,Nat.le_refl _,Nat.le_refl _,fun s=>by simp[az.new,aC,aA],Nat.le_refl _,Nat.le_refl _⟩
theorem bU.tick{N:Nat}{x:az}(h:bU N x)(now:Int):bU N (x.tick now):=⟨h.sorted,h.may,by show(x.aG.tick now).src.length≤N;rw[rC];exact h.src,h.had,h.rows,h.taken,h.late⟩
theorem bU.hear{N:Nat}{x:az}(h:bU N x)(e:Ev)(now:Int):bU (N+1) (x.hear e now):=⟨h.sorted,h.may,Nat.le_trans (Gv x.aG e.src e.at_ now) (by have:=h.src;omega),Nat.le_succ_of_le h.had,fun s=>Nat.le_succ_of_le (h.rows s),Nat.le_succ_of_le h.taken,Nat.le_succ_of_le h.late⟩
theorem bU.drop{N:Nat}{x:az}(h:bU N x)(p:Ev→Bool):bU N (x.drop p):=⟨h.sorted.filter p,fun e he=>h.may e (he.imp (fun h=>(List.mem_filter.1 h).1) (fun h=>(List.mem_filter.1 h).1)),h.src,h.had,h.rows,Nat.le_trans (List.length_filter_le _ _) h.taken,Nat.le_trans (List.length_filter_le _ _) h.late⟩
theorem bU.put{N:Nat}{x:az}(h:bU N x)(hok:bV x.had)(e:Ev)(he:aB e=true)(hh:hadB x.had e.src e.num=false):bU (N+1) (x.put e):=by
 refine⟨gD h.sorted,fun a ha=>?_,Nat.le_succ_of_le h.src,?_,fun s=>?_,?_,Nat.le_succ_of_le h.late⟩
 ·rcases ha with ha|ha
  ·rcases dI.1 ha with rfl|ha;·exact he
   ·exact h.may a (.inl ha)
  ·exact h.may a (.inr ha)
 ·exact Nat.le_trans (df _ _ _) (by have:=h.had;omega)
 ·show(aC (rU x.had e.src e.num) s).length≤N+1;unfold rU;by_cases es:s=e.src;·subst es;rw[gM];have:=FU (aC x.had e.src) (hok.row _) hh;have:=h.rows e.src;omega
  ·rw[eG _ _ es];exact Nat.le_succ_of_le (h.rows s)
 ·show(gL e x.taken).length≤N+1;rw[ja];have:=h.taken;omega
theorem bU.gone{N:Nat}{x:az}(h:bU N x)(g:List (List UInt8)):bU N {x with gone:=g}:=⟨h.sorted,h.may,h.src,h.had,h.rows,h.taken,h.late⟩
theorem wH{m:dV}{e:Ev}(he:aB e=true)(hh:hadB m e.src e.num=false):qy m e.src e.num=true:=by unfold aB jE at he;simp only[Bool.and_eq_true,decide_eq_true_eq]at he;unfold qy;simp only[Bool.and_eq_true,decide_eq_true_eq,Bool.not_eq_true'];exact⟨⟨⟨he.1.1.1.1.1,he.1.1.1.1.2⟩,he.1.1.1.2⟩,hh⟩
end Go.Proofs.YtladegonienapaaGreatDoor
