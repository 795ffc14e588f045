/-
  Layer 8, the document's: In, Without.
-/
import Derived.Test.YtladegonienapaaGreatDoorUEvLen
set_option maxRecDepth 100000
set_option maxHeartbeats 16000000
namespace Go.Proofs.YtladegonienapaaGreatDoor
open Go.RowKit Go.Maps Go.Sort
def JZ(a b c:Int):Int:=if a≠0 then a else if b≠0 then b else c
def oq(a b:Ev):Int:=JZ (Lib.compareInt a.at_ b.at_) (Lib.compareBytes a.src b.src) (Lib.compareInt a.num b.num)
theorem P6(w:World)(b:Nat)(x y z:Int)(h0:w.cell? ⟨b,0,none⟩=some (.int .i64 x))(h1:w.cell? ⟨b,1,none⟩=some (.int .i64 y))(h2:w.cell? ⟨b,2,none⟩=some (.int .i64 z)):Calls Tryz.prog 149 #[.slice (some ⟨b,0,none⟩) 3 3] w fun e w'=>e=.returned (.int .i64 (JZ x y z))∧w=w':=by
 have HO:=qS (JZ x y z=if x≠0 then x else if y≠0 then y else z) (rfl);have hget: ∀k:Nat,k<3→w.cell? ⟨b,0+k,none⟩=some (.int .i64 ([x,y,z].getD k 0)):=fun k hk=>by
  rcases(show k=0∨k=1∨k=2 by omega)with rfl|rfl|rfl;·exact h0
  ·exact h1
  ·exact h2
 have HG:=qH hget;have HR:=qS (∀k:Nat,k<3→(∀j,j<k→[x,y,z].getD j 0=0)→[x,y,z].getD k 0≠0→JZ x y z=[x,y,z].getD k 0) (fun k hk hz hn=>by
  rcases(show k=0∨k=1∨k=2 by omega)with rfl|rfl|rfl;·simp at hn;simp[JZ,hn]
  ·have a0:=hz 0 (by omega);simp at hn a0;simp[JZ,hn,a0]
  ·have a0:=hz 0 (by omega);have a1:=hz 1 (by omega);simp at hn a0 a1;simp[JZ,a0,a1]);have HE:=qS ((∀j,j<3→[x,y,z].getD j 0=0)→JZ x y z=0) (fun hz=>by have a0:=hz 0 (by omega);have a1:=hz 1 (by omega);have a2:=hz 2 (by omega);simp at a0 a1 a2;simp[JZ,a0,a1,a2]);clear hget h0 h1 h2 HO;generalize JZ x y z=r at*;generalize[x,y,z]=l at*;go_enter Tryz.func149,Tryz.ntmps149;go_wp2;go_loop[8](fun i=> ∃k:Nat,i=.int .i64 k∧k≤3∧Hid (∀j,j<k→l.getD j 0=0))(fun i=>3-(intOf i).toNat);case atStart=>exact⟨0,rfl,by omega,fun j hj=>by omega⟩
 case round=>
  obtain⟨k,rfl,hk,HZ⟩:=hrel;by_cases hk3:k<3
  ·have hc:=HG.o k hk3;have HRK:=qH (HR.o k hk3 HZ.o);have HN:=qS (l.getD k 0=0→ ∀j,j<k+1→l.getD j 0=0) (fun h j hj=>by
    by_cases e:j=k;·subst e;exact h
    ·exact HZ.o j (by omega));rw[Nat.zero_add]at hc;generalize l.getD k 0=v at*;have t3:(k:Int)<3:=by omega
   by_cases hv:v=0
   ·have EJ:=qH (HN.o hv);have bv:(v !=0)=false:=by simpa using hv
    clear hv;go_wp2;go_round;case rel=>exact⟨k+1,by go_num,by omega,EJ.o⟩
    case measure=>simp[intOf];omega
   ·have HV:=qH (HRK.o hv);have bv:(v !=0)=true:=by simpa using hv
    clear hv;go_wp2;go_ret;exact⟨aY HV.o.symm,rfl⟩
  ·have HV:=qH (HE.o (fun j hj=>HZ.o j (by omega)));have t3: ¬(k:Int)<3:=by omega
   go_wp2;go_ret;exact⟨aY HV.o.symm,rfl⟩
theorem uU(w:World)(a b:Ev):Calls Tryz.prog 98 #[a.agg,b.agg] w fun e w'=>e=.returned (.int .i64 (oq a b))∧Below w.heap.size w w':=by
 have HC:=qS (oq a b=JZ (Lib.compareInt a.at_ b.at_) (Lib.compareBytes a.src b.src) (Lib.compareInt a.num b.num)) (rfl);unfold Ev.agg;go_enter Tryz.func98,Tryz.ntmps98;go_wp2;have bL:Below w.heap.size w ((w.alloc (au a)).alloc (au b)):=((Below.refl _ _).alloc (Nat.le_refl _) _).alloc (by simp) _;have hb1:Below (w.alloc (au a)).heap.size (w.alloc (au a)) ((w.alloc (au a)).alloc (au b)):=(Below.refl _ _).alloc (Nat.le_refl _) _;obtain⟨f0,f1,f2,f3,f4,f5,f6,f7⟩:=(eD.new w a).below hb1 (by simp);obtain⟨g0,g1,g2,g3,g4,g5,g6,g7⟩:=eD.new (w.alloc (au a)) b;have hsA:(w.alloc (au a)).heap.size=w.heap.size+1:=by simp
 rw[hsA]at g0 g1 g2 g3 g4 g5 g6 g7;have hs1:((w.alloc (au a)).alloc (au b)).heap.size=w.heap.size+2:=by simp
 have oI:=qH hs1;clear hb1 hsA hs1;generalize(w.alloc (au a)).alloc (au b)=w1 at*;go_still_tail 15,(by kernel_rfl);still_call(Tryz.cmp_Compare_int _ _ _);repeat still_step
 still_call(Tryz.strings_Compare _ _ _);repeat still_step
 still_call(Tryz.cmp_Compare_int _ _ _);repeat still_step
 refine wpStill_nil ?_;change wpList _ _ _ _ _ (w1.drewN 1);have hbq:Below w.heap.size w (w1.drewN 1):=below_drewN bL 1;have Qo:w.heap.size+2=(w1.drewN 1).heap.size:=by show _=w1.heap.size;rw[oI.o]
 generalize w1.drewN 1=w2 at*;generalize Lib.compareInt a.at_ b.at_=x at*;generalize Lib.compareBytes a.src b.src=y at*;generalize Lib.compareInt a.num b.num=z at*;have Uh:=qH Qo;clear Qo;go_wp2_with fail;have key: ∀o,(w2.alloc (.cells #[.int .i64 x,.int .i64 y,.int .i64 z] 3)).cell? ⟨w2.heap.size,o,none⟩=_:=fun o=>cell_of_row _ w2.heap.size o _ _ (0,0) (heap_alloc_new w2 _);refine(P6 _ w2.heap.size x y z ((key 0).trans rfl) ((key 1).trans rfl) ((key 2).trans rfl)).mono ?_;rintro e w3⟨rfl,rfl⟩;clear key;go_wp2;go_ret;exact⟨aY HC.o.symm,hbq.alloc (by have:=Uh.o;omega) _⟩
/-!### the order of events -/
theorem TT{x y:Int}:Lib.compareInt x y<0↔x<y:=by unfold Lib.compareInt;split<;>(try split)<;>omega
theorem QJ{x y:Int}:Lib.compareInt x y=0↔x=y:=by unfold Lib.compareInt;split<;>(try split)<;>omega
theorem NM{x y:Int}:0<Lib.compareInt x y↔y<x:=by unfold Lib.compareInt;split<;>(try split)<;>omega
theorem NQ: ∀(a b:List UInt8),(Lib.compareBytes a b<0↔bytesBefore a b=true)∧(Lib.compareBytes a b=0↔a=b)∧(0<Lib.compareBytes a b↔bytesBefore b a=true)
 |[],[]=>by simp[Lib.compareBytes,bytesBefore]
 |[],_::_=>by simp[Lib.compareBytes,bytesBefore]
 |_::_,[]=>by simp[Lib.compareBytes,bytesBefore]
 |x::a,y::b=>by
  have ih:=NQ a b;unfold Lib.compareBytes bytesBefore;by_cases h1:x<y;·have h2: ¬y<x:=UInt8.lt_asymm h1;have h3:x≠y:=fun e=>UInt8.lt_irrefl _ (e▸h1);have h4:y≠x:=fun e=>h3 e.symm;simp[h1,h2,h3,h4]
  ·by_cases h2:y<x;·have h3:x≠y:=fun e=>UInt8.lt_irrefl _ (e▸h2);simp[h1,h2,h3]
   ·have e:x=y:=Classical.byContradiction fun hne=>(UInt8.lt_or_lt_of_ne hne).elim h1 h2;subst e;simp[h1,ih.1,ih.2.1,ih.2.2]
def gu(a b:Ev):Prop:=a.at_<b.at_∨(a.at_=b.at_∧(bytesBefore a.src b.src=true∨(a.src=b.src∧a.num<b.num)))
theorem oo{a b:Ev}:0<oq a b↔gu b a:=by
 unfold oq JZ gu;have h1:= @TT a.at_ b.at_;have h2:= @QJ a.at_ b.at_;have h3:= @NM a.at_ b.at_;have k:=NQ a.src b.src;have n3:= @NM a.num b.num;by_cases e:Lib.compareInt a.at_ b.at_=0
 ·have ea:=h2.1 e;rw[if_neg (by simp[e])];by_cases e2:Lib.compareBytes a.src b.src=0
  ·have es:=k.2.1.1 e2;rw[if_neg (by simp[e2]),n3];constructor;·intro h;exact .inr ⟨ea.symm,.inr ⟨es.symm,h⟩⟩
   ·rintro(h|⟨_,h|⟨_,h⟩⟩);·omega
    ·rw[es,az]at h;cases h
    ·exact h
  ·rw[if_pos (by simpa using e2),k.2.2];constructor;·intro h;exact .inr ⟨ea.symm,.inl h⟩
   ·rintro(h|⟨_,h|⟨h,_⟩⟩);·omega
    ·exact h
    ·exact absurd (k.2.1.2 h.symm) e2
 ·rw[if_pos (by simpa using e),h3];constructor;·exact fun h=>.inl h
  ·rintro(h|⟨h,_⟩);·exact h
   ·exact absurd (h2.2 h.symm) e
theorem gu.trans{a b c:Ev}(h:gu a b)(h':gu b c):gu a c:=by
 unfold gu at*;rcases h with h|⟨h1,h2⟩<;>rcases h' with h'|⟨h1',h2'⟩;·left;omega
 ·left;omega
 ·left;omega
 ·right;refine⟨by omega,?_⟩;rcases h2 with h2|⟨h2,h3⟩<;>rcases h2' with h2'|⟨h2',h3'⟩;·exact .inl (fq h2 h2')
  ·exact .inl (h2'▸h2)
  ·exact .inl (h2▸h2')
  ·exact .inr ⟨h2.trans h2',by omega⟩
theorem gu.irrefl(a:Ev): ¬gu a a:=by
 unfold gu;rintro(h|⟨_,h|⟨_,h⟩⟩);·omega
 ·rw[az]at h;cases h
 ·omega
theorem gu.total{a b:Ev}(h: ¬gu a b):gu b a∨(a.at_=b.at_∧a.src=b.src∧a.num=b.num):=by
 unfold gu at*;by_cases e:a.at_=b.at_
 ·by_cases e2:a.src=b.src
  ·by_cases e3:a.num=b.num;·exact .inr ⟨e,e2,e3⟩
   ·left;right;refine⟨e.symm,.inr ⟨e2.symm,?_⟩⟩;rcases Int.lt_or_gt_of_ne e3 with h'|h';·exact absurd (.inr ⟨e,.inr ⟨e2,h'⟩⟩) h
    ·exact h'
  ·left;right;refine⟨e.symm,.inl ?_⟩;rcases jv e2 with h'|h';·exact absurd (.inr ⟨e,.inl h'⟩) h
   ·exact h'
 ·left;left;rcases Int.lt_or_gt_of_ne e with h'|h';·exact absurd (.inl h') h
  ·exact h'
instance(a b:Ev):Decidable (gu a b):=by unfold gu;infer_instance
def TZ(a b:Ev):Prop:= ¬gu b a
theorem TZ.lt{a b e:Ev}(h:TZ a b)(h':gu e a):gu e b:=by
 by_cases hab:gu a b;·exact h'.trans hab
 ·rcases gu.total hab with h2|⟨e1,e2,e3⟩;·exact absurd h2 h
  ·unfold gu at*;rw[←e1,←e2,←e3];exact h'
theorem TZ.at_{a b:Ev}(h:TZ a b):a.at_≤b.at_:=by
 unfold TZ gu at h;rcases Int.lt_or_le b.at_ a.at_ with h'|h';·exact absurd (.inl h') h
 ·exact h'
def dC(l:List Ev):Prop:=l.Pairwise TZ
def dW(e:Ev)(l:List Ev):List Ev:=(l.takeWhile fun a=>!decide (gu e a))++e::(l.dropWhile fun a=>!decide (gu e a))
def yB(e:Ev)(l:List Ev):Nat:=(l.takeWhile fun a=>!decide (gu e a)).length
theorem Ig(e:Ev)(l:List Ev):yB e l≤l.length:=(List.takeWhile_prefix _).length_le
theorem o9(e:Ev)(l:List Ev):dW e l=l.take (yB e l)++[e]++l.drop (yB e l):=by
 unfold dW yB;have h:l.takeWhile (fun a=>!decide (gu e a))++l.dropWhile (fun a=>!decide (gu e a))=l:=List.takeWhile_append_dropWhile;have h1:l.take (l.takeWhile fun a=>!decide (gu e a)).length=l.takeWhile fun a=>!decide (gu e a):=by
  conv=>lhs;arg 2;rw[←h]
  exact List.take_left' rfl
 have h2:l.drop (l.takeWhile fun a=>!decide (gu e a)).length=l.dropWhile fun a=>!decide (gu e a):=by
  conv=>lhs;arg 2;rw[←h]
  exact List.drop_left' rfl
 rw[h1,h2];simp
theorem iH{e x:Ev}{l:List Ev}:x∈dW e l↔x=e∨x∈l:=by
 have h:l.takeWhile (fun a=>!decide (gu e a))++l.dropWhile (fun a=>!decide (gu e a))=l:=List.takeWhile_append_dropWhile;unfold dW;conv=>rhs;rw[←h]
 simp only[List.mem_append,List.mem_cons];constructor;·rintro(h|h|h)<;>simp[h]
 ·rintro(h|h|h)<;>simp[h]
theorem gZ(e:Ev)(l:List Ev):(dW e l).length=l.length+1:=by rw[o9];have:=Ig e l;simp;omega
theorem IG{e:Ev}: ∀{l:List Ev},dC l→ ∀x∈l.dropWhile (fun a=>!decide (gu e a)),gu e x
 |[],_,x,hx=>by simp at hx
 |a::t,h,x,hx=>by
  obtain⟨h1,h2⟩:=List.pairwise_cons.1 h;by_cases ha:gu e a
  ·rw[List.dropWhile_cons_of_neg (by simpa using ha)]at hx;rcases List.mem_cons.1 hx with rfl|hx;·exact ha
   ·exact(h1 x hx).lt ha
  ·rw[List.dropWhile_cons_of_pos (by simpa using ha)]at hx;exact IG h2 x hx
theorem kW{e:Ev}{l:List Ev}(h:dC l):dC (dW e l):=by
 have h0:l.takeWhile (fun a=>!decide (gu e a))++l.dropWhile (fun a=>!decide (gu e a))=l:=List.takeWhile_append_dropWhile;have h':=h;unfold dC at h;rw[←h0]at h;obtain⟨u1,u2,u3⟩:=List.pairwise_append.1 h;unfold dW dC;refine List.pairwise_append.2 ⟨u1,List.pairwise_cons.2 ⟨fun x hx=>?_,u2⟩,fun a ha b hb=>?_⟩;·have:=IG h' x hx;intro h2;exact gu.irrefl _ (this.trans h2)
 ·have ha': ¬gu e a:=by simpa using List.all_eq_true.1 List.all_takeWhile a ha
  rcases List.mem_cons.1 hb with rfl|hb;·exact ha'
  ·exact u3 a ha b hb
theorem uE{e:Ev}{l:List Ev}(k:Nat)(hk:k≤l.length)(h1: ∀i(h:i<l.length),i<k→ ¬gu e l[i])(h2: ∀i(h:i<l.length),k≤i→gu e l[i]):k=yB e l:=by
 have e0:l=l.take k++l.drop k:=(List.take_append_drop k l).symm;unfold yB;conv=>rhs;rw[e0]
 rw[List.takeWhile_append_of_pos (fun x hx=>by obtain⟨i,hi,rfl⟩:=List.getElem_of_mem hx;rw[List.length_take]at hi;rw[List.getElem_take];simpa using h1 i (by omega) (by omega))];have:(l.drop k).takeWhile (fun a=>!decide (gu e a))=[]:=by
  cases hd:l.drop k with
   |nil=>rfl
   |cons b t=>
    have hlt:k<l.length:=by
     rcases Nat.lt_or_ge k l.length with h|h;·exact h
     ·rw[List.drop_of_length_le h]at hd;cases hd
    have hb:b=l[k]:=by have:=List.drop_eq_getElem_cons hlt;rw[hd]at this;injection this
    rw[List.takeWhile_cons_of_neg (by rw[hb];simpa using h2 k hlt (Nat.le_refl _))]
 rw[this];simp;omega
theorem dC.filter{l:List Ev}(h:dC l)(p:Ev→Bool):dC (l.filter p):=List.Pairwise.filter p h
/-!### intakes -/
structure aG where
 aI:bu
 had:eB
 taken:List Ev
 late:List Ev
 gone:List (List UInt8)
def dM(e:Ev):List UInt8×Int:=(e.src,e.num)
def aN(p:List UInt8)(e:Ev):Bool:=(e.per !=p)||(e.kind==14)
def aG.wrong(x:aG)(e:Ev):Bool:=!aK e||(decide (e.per∈x.gone)&&(e.kind !=14))||decide (1048576≤x.taken.length)
def aG.verdict(x:aG)(e:Ev):Int:=if x.wrong e then 3 else if hadB x.had e.src e.num then 1 else 0
def aG.refuses(x:aG)(e:Ev):Bool:=x.wrong e||hadB x.had e.src e.num
def aG.drop(x:aG)(p:Ev→Bool):aG:={x with taken:=x.taken.filter p,late:=x.late.filter p}
def aG.put(x:aG)(e:Ev):aG:={x with had:=nk x.had e.src e.num,taken:=dW e x.taken}
def aG.took(x:aG)(e:Ev):aG:=if e.kind=14 then({x.put e with gone:=e.per::x.gone}:aG).drop (aN e.per)else x.put e
def aG.hear(x:aG)(e:Ev)(now:Int):aG:={x with aI:=x.aI.hear e.src e.at_ now}
def aG.admits(x:aG)(e:Ev):aG:=if x.refuses e then x else(x.hear e x.aI.now).took e
def aG.jw(x:aG)(e:Ev):Int:=if x.refuses e then x.verdict e else 0
def aG.new(ag idle:Int):aG:=⟨bu.new ag idle,[],[],[],[]⟩
structure dU(N:Nat)(x:aG):Prop where
 sorted:dC x.taken
 may: ∀e,e∈x.taken∨e∈x.late→aK e=true
 src:x.aI.src.length≤N
 had:x.had.length≤N
 rows: ∀s,(aM x.had s).length≤N
 taken:x.taken.length≤N
 late:x.late.length≤N
theorem dU.more{N M:Nat}{x:aG}(h:dU N x)(hN:N≤M):dU M x:=⟨h.sorted,h.may,Nat.le_trans h.src hN,Nat.le_trans h.had hN,fun s=>Nat.le_trans (h.rows s) hN,Nat.le_trans h.taken hN,Nat.le_trans h.late hN⟩
theorem dU.new(ag idle:Int):dU 0 (aG.new ag idle):=⟨List.Pairwise.nil,fun e he=>by rcases he with he|he<;>simp[aG.new]at he,Nat.le_refl _,Nat.le_refl _,fun s=>by simp[aG.new,aM,aC],Nat.le_refl _,Nat.le_refl _⟩
theorem dU.hear{N:Nat}{x:aG}(h:dU N x)(e:Ev)(now:Int):dU (N+1) (x.hear e now):=⟨h.sorted,h.may,Nat.le_trans (M7 x.aI e.src e.at_ now) (by have:=h.src;omega),Nat.le_succ_of_le h.had,fun s=>Nat.le_succ_of_le (h.rows s),Nat.le_succ_of_le h.taken,Nat.le_succ_of_le h.late⟩
theorem dU.drop{N:Nat}{x:aG}(h:dU N x)(p:Ev→Bool):dU N (x.drop p):=⟨h.sorted.filter p,fun e he=>h.may e (he.imp (fun h=>(List.mem_filter.1 h).1) (fun h=>(List.mem_filter.1 h).1)),h.src,h.had,h.rows,Nat.le_trans (List.length_filter_le _ _) h.taken,Nat.le_trans (List.length_filter_le _ _) h.late⟩
theorem dU.put{N:Nat}{x:aG}(h:dU N x)(hok:dm x.had)(e:Ev)(he:aK e=true)(hh:hadB x.had e.src e.num=false):dU (N+1) (x.put e):=by
 refine⟨kW h.sorted,fun a ha=>?_,Nat.le_succ_of_le h.src,?_,fun s=>?_,?_,Nat.le_succ_of_le h.late⟩
 ·rcases ha with ha|ha
  ·rcases iH.1 ha with rfl|ha;·exact he
   ·exact h.may a (.inl ha)
  ·exact h.may a (.inr ha)
 ·exact Nat.le_trans (dJ _ _ _) (by have:=h.had;omega)
 ·show(aM (nk x.had e.src e.num) s).length≤N+1;unfold nk;by_cases es:s=e.src;·subst es;rw[jG];have:=Mm (aM x.had e.src) (hok.row _) hh;have:=h.rows e.src;omega
  ·rw[gD _ _ es];exact Nat.le_succ_of_le (h.rows s)
 ·show(dW e x.taken).length≤N+1;rw[gZ];have:=h.taken;omega
theorem dU.gone{N:Nat}{x:aG}(h:dU N x)(g:List (List UInt8)):dU N {x with gone:=g}:=⟨h.sorted,h.may,h.src,h.had,h.rows,h.taken,h.late⟩
theorem AO{m:eB}{e:Ev}(he:aK e=true)(hh:hadB m e.src e.num=false):nO m e.src e.num=true:=by unfold aK lQ at he;simp only[Bool.and_eq_true,decide_eq_true_eq]at he;unfold nO;simp only[Bool.and_eq_true,decide_eq_true_eq,Bool.not_eq_true'];exact⟨⟨⟨he.1.1.1.1.1,he.1.1.1.1.2⟩,he.1.1.1.2⟩,hh⟩
theorem blbb2: ∀a b:List UInt8,Op.bytesLess a b=bytesBefore a b|[],[]=>rfl|[],_::_=>rfl|_::_,[]=>rfl|x::a,y::b=>by unfold Op.bytesLess bytesBefore;rw[blbb2 a b]
theorem JK(w:World)(a b:Ev):Calls Tryz.prog 212 #[a.agg,b.agg] w (Says (decide (gu a b)) w):=by
 have pM:=qS (gu a b↔(a.at_<b.at_∨(a.at_=b.at_∧(bytesBefore a.src b.src=true∨(a.src=b.src∧a.num<b.num))))) (Iff.rfl);have hb1:Below w.heap.size w (w.alloc (au a)):=(Below.refl _ _).alloc (Nat.le_refl _) _;have hb:Below w.heap.size w ((w.alloc (au a)).alloc (au b)):=hb1.alloc (by simp) _;have hbs:=blbb2 a.src b.src;unfold Ev.agg;by_cases h1:a.at_=b.at_
 ·by_cases h2:a.src=b.src
  ·have HR:=qS (decide (gu a b)=decide (a.num<b.num)) (by rw[decide_eq_decide,pM.o,h1,h2,az];simp);have c1:(a.at_==b.at_)=true:=by simp[h1]
   have c2:(a.src==b.src)=true:=by simp[h2]
   have c1':(a.at_ !=b.at_)=false:=by simp[h1]
   have c2':(a.src !=b.src)=false:=by simp[h2]
   clear h1 h2 pM hbs;go_enter Tryz.func212,Tryz.ntmps212;go_wp2;go_ret;exact⟨aa HR.o.symm,hb⟩
  ·have HR:=qS (decide (gu a b)=Op.bytesLess a.src b.src) (by rw[hbs,Bool.eq_iff_iff,decide_eq_true_iff,pM.o,h1];simp[h2]);have c1:(a.at_==b.at_)=true:=by simp[h1]
   have c2:(a.src==b.src)=false:=by simp[h2]
   have c1':(a.at_ !=b.at_)=false:=by simp[h1]
   have c2':(a.src !=b.src)=true:=by simp[h2]
   clear h1 h2 pM hbs;go_enter Tryz.func212,Tryz.ntmps212;go_wp2;go_ret;exact⟨aa HR.o.symm,hb⟩
 ·have HR:=qS (decide (gu a b)=decide (a.at_<b.at_)) (by
   rw[decide_eq_decide,pM.o];constructor
   ·rintro(h|⟨h,_⟩);·exact h
    ·exact absurd h h1
   ·exact .inl);have c1:(a.at_==b.at_)=false:=by simp[h1]
  have c1':(a.at_ !=b.at_)=true:=by simp[h1]
  clear h1 pM hbs;go_enter Tryz.func212,Tryz.ntmps212;go_wp2;go_ret;exact⟨aa HR.o.symm,hb⟩
theorem Df{e:Ev}{l:List Ev}(hs:dC l)(j:Nat)(hj:j≤l.length)(h1: ∀i(h:i<l.length),j≤i→gu e l[i])(h2: ∀h:0<j,¬gu e (l[j-1]'(by omega))):j=yB e l:=by
 refine uE j hj (fun i hi hij hlt=>?_) h1;by_cases e0:i=j-1;·subst e0;exact h2 (by omega) hlt
 ·have hle:TZ l[i] (l[j-1]'(by omega)):=List.pairwise_iff_getElem.1 hs i (j-1) hi (by omega) (by omega);exact h2 (by omega) (hle.lt hlt)
def jR(l:List Ev):List Ev:=l.foldl (fun out e=>dW e out) []
theorem wS(l:List Ev)(e:Ev):jR (l++[e])=dW e (jR l):=by unfold jR;simp
theorem Ap: ∀(l:List Ev),dC (jR l):=fun l=>by suffices h: ∀(l out:List Ev),dC out→dC (l.foldl (fun out e=>dW e out) out)from h l [] List.Pairwise.nil;intro l;induction l with|nil=>intro out h;exact h|cons e l ih=>intro out h;exact ih _ (kW h)
theorem Aq(l:List Ev):(jR l).length=l.length:=by
 suffices h: ∀(l out:List Ev),(l.foldl (fun out e=>dW e out) out).length=out.length+l.length by have:=h l [];unfold jR;simpa using this
 intro l;induction l with|nil=>intro out;rfl|cons e l ih=>intro out;rw[List.foldl_cons,ih,gZ,List.length_cons];omega
theorem Kk{e:Ev}{l:List Ev}(h: ∀a∈l,¬gu e a):dW e l=l++[e]:=by
 have:l.takeWhile (fun a=>!decide (gu e a))=l:=by
  have: ∀a∈l,(fun a=>!decide (gu e a)) a=true:=fun a ha=>by simpa using h a ha
  clear this;induction l with|nil=>rfl|cons a l ih=>rw[List.takeWhile_cons_of_pos (by simpa using h a (by simp)),ih fun b hb=>h b (by simp[hb])]
 have h2:l.dropWhile (fun a=>!decide (gu e a))=[]:=by have e0:l.takeWhile (fun a=>!decide (gu e a))++l.dropWhile (fun a=>!decide (gu e a))=l:=List.takeWhile_append_dropWhile;rw[this]at e0;simpa using e0
 unfold dW;rw[this,h2]
theorem Fe{l:List Ev}(h:dC l):jR l=l:=by suffices hh: ∀(l out:List Ev),dC (out++l)→l.foldl (fun out e=>dW e out) out=out++l from hh l [] h;intro l;induction l with|nil=>intro out _;simp|cons e l ih=>intro out h;rw[List.foldl_cons,Kk (fun a ha=>(List.pairwise_append.1 h).2.2 a ha e (by simp))];rw[ih (out++[e]) (by simpa using h)];simp
theorem zm(w:World)(B:Nat)(A:Option Addr)(n c:Nat)(ss:List (List UInt8))(h:Strs w B A n c ss)(hn:n≤100000)(s:List UInt8):Calls Tryz.prog 156 #[.slice A n c,.string ⟨s.toArray⟩] w fun e w'=>e=.returned (.bool (decide (s∈ss)))∧w=w':=by
 have HH:=qH h;clear h;go_enter Tryz.func156,Tryz.ntmps156;go_wp2;go_loop[5](fun i=> ∃k:Nat,i=.int .i64 k∧k≤n∧Hid (∀j(hj:j<ss.length),j<k→ss[j]≠s))(fun i=>n-(intOf i).toNat);case atStart=>exact⟨0,rfl,Nat.zero_le _,fun j _ h=>by omega⟩
 case round=>
  obtain⟨k,rfl,hk,HK⟩:=hrel;by_cases hkn:k<n
  ·have hkl:k<ss.length:=by rw[HH.o.len];exact hkn
   obtain⟨b,off,rfl,hb,hc⟩:=HH.o.at_ k hkl;have t1:(k:Int)<n:=by omega
   cases he:(ss[k]==s)
   ·have hne:ss[k]≠s:=by simpa using he
    have HN:=qH hne;clear hne;go_wp2;go_round;case rel=>
     exact⟨k+1,by go_num,by omega,fun j hj hlt=>by
      by_cases e:j=k;·subst e;exact HN.o
      ·exact HK.o j hj (by omega)⟩
    case measure=>simp[intOf];omega
   ·have hin:s∈ss:=by
     have:ss[k]=s:=by simpa using he
     rw[←this];exact List.getElem_mem hkl
    have HI:=qH hin;clear hin;go_wp2;go_ret;exact⟨aa (decide_eq_true HI.o).symm,rfl⟩
  ·have hni:s∉ss:=fun hin=>by obtain⟨j,hj,e⟩:=List.getElem_of_mem hin;exact HK.o j hj (by rw[HH.o.len]at hj;omega) e
   have HI:=qH hni;clear hni;go_wp2;go_ret;exact⟨aa (decide_eq_false HI.o).symm,rfl⟩
theorem wF(es:List Ev)(p:Ev→Bool)(k:Nat)(hk:k<es.length):(es.take (k+1)).filter p=(es.take k).filter p++(if p es[k]then[es[k]]else[]):=by rw[List.take_add_one,List.getElem?_eq_getElem hk,Option.toList_some,List.filter_append];simp[List.filter_cons]
theorem uz(w:World)(p:List UInt8)(A:Option Addr)(n c:Nat)(es:List Ev)(h:gH w w.heap.size A n c es)(hn:n≤90000):Calls Tryz.prog 165 #[.slice A n c,.string ⟨p.toArray⟩] w (tZ w es (aN p)):=by
 have HH:=qH h;clear h;obtain⟨i0,hi,hz0,hz1,hz2⟩:=info_parts jg;have HI:=qH hi;have HZ0:=qH hz0;have HZ1:=qH hz1;have HZ2:=qH hz2;clear hi hz0 hz1 hz2;go_enter Tryz.func165,Tryz.ntmps165;go_wp2;go_loopw[5,6](fun v i wr=>jy w n es (aN p) v i wr)(fun _ i _=>n-(intOf i).toNat);case atStart=>exact⟨0,rfl,Nat.zero_le _,World.ownsRow_lit w #[] 0 (Nat.le_refl _) (by simp[maxLen]) rfl,(Below.refl _ _).alloc (Nat.le_refl _) _⟩
 case round=>
  obtain⟨k,rfl,hk,hown,hbel⟩:=hrel;have HO:=qH hown;clear hown;have hs0:=hbel.size;by_cases hkn:k<n
  ·have hkl:k<es.length:=by rw[HH.o.len];exact hkn
   obtain⟨b,off,rfl,hb,hev⟩:=HH.o.ev k hkl;obtain⟨e0,e1,e2,e3,e4,e5,e6,e7⟩:=hev.below hbel hb;clear hev;have df:=qH (wF es (aN p) k hkl);have hlen:((es.take k).filter (aN p)).length≤k:=by have:=List.length_filter_le (aN p) (es.take k);rw[List.length_take]at this;omega
   generalize es[k]=x at*;have t1:(k:Int)<n:=by omega
   have Sr:=qS (aN p x=((x.per !=p)||(x.kind==14))) (rfl);have kv:Hid (aN p x=true→(es.take (k+1)).filter (aN p)=(es.take k).filter (aN p)++[x]):=fun h=>by have:=df.o;rw[h]at this;simpa using this
   have I7:Hid (aN p x=false→(es.take (k+1)).filter (aN p)=(es.take k).filter (aN p)):=fun h=>by have:=df.o;rw[h]at this;simpa using this
   generalize(es.take k).filter (aN p)=out at*;cases hp:(x.per==p)
   ·have b1:(x.per !=p)=true:=by simp[bne,hp]
    have HT:=qH (kv.o (by rw[Sr.o,b1];rfl));clear kv I7 Sr df;go_wp2_with(at_builtin;refine aj (P:=Tryz.prog) rfl (.tmp 29) (.tmp 34) 22 rfl 28 i0 _ 8 96 Tryz.underlying22 HI.o HZ0.o HZ1.o HZ2.o rfl (by decide) w.heap.size _ out.length (ai out) rfl ?c1 (wr.heap.size+1) _ _ _ x.cells rfl ?c2 (cells_one x) ?c4 ?c5 ?c6 ?_);case c1=>exact World.ownsRow.alloc HO.o _
    case c2=>exact ax.new wr _ _ (by unfold maxLen;omega) rfl
    case c4=>unfold maxLen;omega
    case c5=>omega
    case c6=>first|omega|(simp;omega)
    intro v' w2 hown2 hg2 _;have hb2:Below w.heap.size w w2:=Below.grown (hbel.alloc (by omega) _) hg2 (by simp;omega) (fun k' hk'=>(World.ownsRow.lt HO.o k' hk').1);have HR:=qS (jy w n es (aN p) v' (.int .i64 ((k+1:Nat):Int)) w2) (⟨k+1,rfl,by omega,by rw[HT.o];unfold bq;rw[dP,List.length_append];exact hown2,hb2⟩);clear hown2 hg2 hb2 e0 e1 e2 e3 e4 e5 e6 e7;go_wp2;go_roundw;case rel=>exact HR.o
    case measure=>simp[intOf];omega
   ·have b1:(x.per !=p)=false:=by simp[bne,hp]
    cases hk14:(x.kind==14)
    ·have HR:=qS (jy w n es (aN p) u5 (.int .i64 ((k+1:Nat):Int)) wr) (⟨k+1,rfl,by omega,by rw[I7.o (by rw[Sr.o,b1,hk14];rfl)];exact HO.o,hbel⟩);clear kv I7 Sr df;go_wp2;go_roundw;case rel=>exact HR.o
     case measure=>simp[intOf];omega
    ·have HT:=qH (kv.o (by rw[Sr.o,b1,hk14];rfl));clear kv I7 Sr df;go_wp2_with(at_builtin;refine aj (P:=Tryz.prog) rfl (.tmp 29) (.tmp 34) 22 rfl 28 i0 _ 8 96 Tryz.underlying22 HI.o HZ0.o HZ1.o HZ2.o rfl (by decide) w.heap.size _ out.length (ai out) rfl ?c1 (wr.heap.size+1) _ _ _ x.cells rfl ?c2 (cells_one x) ?c4 ?c5 ?c6 ?_);case c1=>exact World.ownsRow.alloc HO.o _
     case c2=>exact ax.new wr _ _ (by unfold maxLen;omega) rfl
     case c4=>unfold maxLen;omega
     case c5=>omega
     case c6=>first|omega|(simp;omega)
     intro v' w2 hown2 hg2 _;have hb2:Below w.heap.size w w2:=Below.grown (hbel.alloc (by omega) _) hg2 (by simp;omega) (fun k' hk'=>(World.ownsRow.lt HO.o k' hk').1);have HR:=qS (jy w n es (aN p) v' (.int .i64 ((k+1:Nat):Int)) w2) (⟨k+1,rfl,by omega,by rw[HT.o];unfold bq;rw[dP,List.length_append];exact hown2,hb2⟩);clear hown2 hg2 hb2 e0 e1 e2 e3 e4 e5 e6 e7;go_wp2;go_roundw;case rel=>exact HR.o
     case measure=>simp[intOf];omega
  ·have hkk:es.take k=es:=List.take_of_length_le (by rw[HH.o.len];omega);have HKK:=qH hkk;clear hkk;go_wp2;go_ret;exact⟨u5,rfl,by have:=HO.o;rw[HKK.o]at this;exact this,hbel⟩
end Go.Proofs.YtladegonienapaaGreatDoor
