/-
  Layer 2, the document's: Less.
-/
import Derived.Test.YtbejfgmdkmddnaaGreatDoorVEvListing
import Derived.StillTailTactics
set_option maxRecDepth 100000
set_option maxHeartbeats 16000000
namespace Go.Proofs.YtbejfgmdkmddnaaGreatDoor
open Go.RowKit Go.Maps Go.Sort
def iy(e:Ev):Bool:=if e.kind=0 then ag e.per&&ag e.item&&(e.val==0)&&e.text.isEmpty else if e.kind=1 then ag e.per&&ag e.item&&(e.val==0)&&e.text.isEmpty else if e.kind=2 then ag e.per&&ag e.item&&(e.val==0)&&e.text.isEmpty else if e.kind=3 then ag e.per&&ag e.item&&(e.val==0)&&e.text.isEmpty else if e.kind=4 then ag e.per&&ag e.item&&decide (1≤e.val)&&decide (e.val≤5)&&e.text.isEmpty else if e.kind=5 then ag e.per&&ag e.item&&(e.val==0)&&e.text.isEmpty else if e.kind=6 then ag e.per&&ag e.item&&(e.val==0)&&e.text.isEmpty else if e.kind=7 then ag e.per&&e.item.isEmpty&&(e.val==0)&&ag e.text else if e.kind=8 then ag e.per&&e.item.isEmpty&&(e.val==0)&&ag e.text else if e.kind=9 then ag e.per&&e.item.isEmpty&&(e.val==0)&&ag e.text else if e.kind=10 then ag e.per&&e.item.isEmpty&&(e.val==0)&&ag e.text else if e.kind=11 then e.per.isEmpty&&ag e.item&&decide (0≤e.val)&&decide (e.val≤1048576)&&bQ e.text else if e.kind=12 then e.per.isEmpty&&ag e.item&&decide (0≤e.val)&&decide (e.val≤1048576)&&e.text.isEmpty else if e.kind=13 then e.per.isEmpty&&ag e.item&&(e.val==0)&&e.text.isEmpty else if e.kind=14 then ag e.per&&e.item.isEmpty&&(e.val==0)&&e.text.isEmpty else false
def bA(e:Ev):Bool:=nk e&&iy e
theorem Vl(w:World)(l:List UInt8):Calls Tryz.prog 60 #[.string ⟨l.toArray⟩] w fun e w'=>e=.returned (.bool (ag l))∧w'=w:=(jN w l).mono fun _ _ h=>⟨h.1,h.2.symm⟩
theorem Oz(w:World)(e:Ev)(hs:e.small)(hmx:bf w)(hh:nk e=true)(hnf:e.kind≠14):Calls Tryz.prog 81 #[e.agg] w (Says (iy e) w):=by
 obtain⟨s1,s2,s3,s4⟩:=hs;have jS:=qH hmx;clear hmx;generalize htb:iy e=tb;have BO:=qH htb;clear htb;have hh':(ag e.src&&decide (1≤e.num)&&decide (e.num≤1099511627776)&&decide (0≤e.at_)&&decide (e.at_≤1099511627776))=true:=hh;simp only[Bool.and_eq_true,decide_eq_true_eq]at hh';obtain⟨⟨⟨⟨hns,h1⟩,h2⟩,h3⟩,h4⟩:=hh';have Wn:=qH hns;clear hns hh;have d1:decide (e.num<1)=false:=decide_eq_false (by omega);have d2:decide (1099511627776<e.num)=false:=decide_eq_false (by omega);have d3:decide (e.at_<0)=false:=decide_eq_false (by omega);have d4:decide (1099511627776<e.at_)=false:=decide_eq_false (by omega);unfold Ev.agg;go_enter Tryz.func81,Tryz.ntmps81;go_wp2_with fail;refine(jN _ e.src).mono ?_;rintro r w1⟨rfl,rfl⟩;rw[Wn.o];have hb:Below w.heap.size w (w.alloc (ai e)):=(Below.refl _ _).alloc (Nat.le_refl _) _;obtain⟨f0,f1,f2,f3,f4,f5,f6,f7⟩:=dO.new w e;generalize w.alloc (ai e)=w1 at*;generalize hke:e.kind=kd at*;have GQ:=qH hke;clear hke;go_wp2;clear d1 d2 d3 d4;go_quiet((go_at_call 60;exact Calls.quiet_of_same (Vl _ _)));have hbq:Below w.heap.size w (w1.drewN nq):=below_drewN hb nq;by_cases hx:kd<0∨14<kd;·have HT:=qS (tb=false) (by rw[←BO.o];unfold iy;rw[GQ.o];rw[if_neg (by omega),if_neg (by omega),if_neg (by omega),if_neg (by omega),if_neg (by omega),if_neg (by omega),if_neg (by omega),if_neg (by omega),if_neg (by omega),if_neg (by omega),if_neg (by omega),if_neg (by omega),if_neg (by omega),if_neg (by omega),if_neg (by omega)]);have hq: ∀j:Int,0≤j→j≤14→(kd==j)=false:=fun j _ _=>beq_eq_false_iff_ne.2 (by omega);have k0:=hq 0 (by decide) (by decide);have k1:=hq 1 (by decide) (by decide);have k2:=hq 2 (by decide) (by decide);have k3:=hq 3 (by decide) (by decide);have k4:=hq 4 (by decide) (by decide);have k5:=hq 5 (by decide) (by decide);have k6:=hq 6 (by decide) (by decide);have k7:=hq 7 (by decide) (by decide);have k8:=hq 8 (by decide) (by decide);have k9:=hq 9 (by decide) (by decide);have k10:=hq 10 (by decide) (by decide);have k11:=hq 11 (by decide) (by decide);have k12:=hq 12 (by decide) (by decide);have k13:=hq 13 (by decide) (by decide);have k14:=hq 14 (by decide) (by decide);clear hq hx;generalize ag e.per=np at*;generalize ag e.item=ni at*;go_wp2;go_ret;exact⟨ae HT.o.symm,hbq⟩
 rcases(show(kd=0∨kd=1∨kd=2∨kd=3∨kd=5∨kd=6)∨(kd=4)∨(kd=7∨kd=8∨kd=9∨kd=10)∨(kd=11)∨(kd=12)∨(kd=13)by omega)with hk|hk|hk|hk|hk|hk
 ·have HT:=qS (tb=(ag e.per&&ag e.item&&(e.val==0)&&e.text.isEmpty)) (by rw[←BO.o];unfold iy;rw[GQ.o];rcases hk with rfl|rfl|rfl|rfl|rfl|rfl<;>rfl);clear hx;rcases hk with rfl|rfl|rfl|rfl|rfl|rfl;all_goals
   generalize ag e.per=np at*;generalize ag e.item=ni at*;cases np;·go_wp2;go_ret;exact⟨ae (by rw[HT.o];first|rfl|simp),hbq⟩
   cases ni;·go_wp2;go_ret;exact⟨ae (by rw[HT.o];first|rfl|simp),hbq⟩
   cases zv0:(e.val==0);·go_wp2;go_ret;exact⟨ae (by rw[HT.o];rw[zv0];rfl),hbq⟩
   go_wp2;go_ret;exact⟨ae (by rw[HT.o];rw[zv0];first|rfl|simp),hbq⟩
 ·have HT:=qS (tb=(ag e.per&&ag e.item&&decide (1≤e.val)&&decide (e.val≤5)&&e.text.isEmpty)) (by rw[←BO.o];unfold iy;rw[GQ.o];rw[hk];rfl);subst hk;clear hx;generalize ag e.per=np at*;generalize ag e.item=ni at*;cases np;·go_wp2;go_ret;exact⟨ae (by rw[HT.o];first|rfl|simp),hbq⟩
  cases ni;·go_wp2;go_ret;exact⟨ae (by rw[HT.o];first|rfl|simp),hbq⟩
  cases zv1:decide (1≤e.val);·go_wp2;go_ret;exact⟨ae (by rw[HT.o];rw[zv1];rfl),hbq⟩
  cases zv5:decide (e.val≤5);·go_wp2;go_ret;exact⟨ae (by rw[HT.o];rw[zv1];rw[zv5];rfl),hbq⟩
  go_wp2;go_ret;exact⟨ae (by rw[HT.o];rw[zv1];rw[zv5];first|rfl|simp),hbq⟩
 ·have HT:=qS (tb=(ag e.per&&e.item.isEmpty&&(e.val==0)&&ag e.text)) (by rw[←BO.o];unfold iy;rw[GQ.o];rcases hk with rfl|rfl|rfl|rfl<;>rfl);clear hx;rcases hk with rfl|rfl|rfl|rfl;all_goals
   generalize ag e.per=np at*;generalize ag e.item=ni at*;cases np;·go_wp2;go_ret;exact⟨ae (by rw[HT.o];first|rfl|simp),hbq⟩
   cases zie:e.item.isEmpty;·go_wp2;go_ret;exact⟨ae (by rw[HT.o];rw[zie];rfl),hbq⟩
   cases zv0:(e.val==0);·go_wp2;go_ret;exact⟨ae (by rw[HT.o];rw[zie];rw[zv0];rfl),hbq⟩
   go_wp2_with fail;refine(jN _ e.text).mono ?_;rintro r w2⟨rfl,rfl⟩;generalize ag e.text=nt at*;go_wp2;go_ret;exact⟨ae (by rw[HT.o];rw[zie];rw[zv0];rfl),hbq⟩
 ·have HT:=qS (tb=(e.per.isEmpty&&ag e.item&&decide (0≤e.val)&&decide (e.val≤1048576)&&bQ e.text)) (by rw[←BO.o];unfold iy;rw[GQ.o];rw[hk];rfl);subst hk;clear hx;generalize ag e.per=np at*;generalize ag e.item=ni at*;cases GK:e.per.isEmpty;·go_wp2;go_ret;exact⟨ae (by rw[HT.o];rw[GK];rfl),hbq⟩
  cases ni;·go_wp2;go_ret;exact⟨ae (by rw[HT.o];rw[GK];first|rfl|simp),hbq⟩
  cases GV:decide (0≤e.val);·go_wp2;go_ret;exact⟨ae (by rw[HT.o];rw[GK];rw[GV];rfl),hbq⟩
  cases zv20:decide (e.val≤1048576);·go_wp2;go_ret;exact⟨ae (by rw[HT.o];rw[GK];rw[GV];rw[zv20];rfl),hbq⟩
  have NA:=qS (bf (w1.drewN nq)) (jS.o.up hbq);go_wp2_with fail;refine(Fa (w1.drewN nq) e.text s4 NA.o).mono ?_;rintro r w3⟨rfl,hb3⟩;have hbz:Below w.heap.size w w3:=hbq.trans (hb3.mono hbq.size);generalize bQ e.text=li at*;go_wp2;go_ret;exact⟨ae (by rw[HT.o];rw[GK];rw[GV];rw[zv20];rfl),hbz⟩
 ·have HT:=qS (tb=(e.per.isEmpty&&ag e.item&&decide (0≤e.val)&&decide (e.val≤1048576)&&e.text.isEmpty)) (by rw[←BO.o];unfold iy;rw[GQ.o];rw[hk];rfl);subst hk;clear hx;generalize ag e.per=np at*;generalize ag e.item=ni at*;cases GK:e.per.isEmpty;·go_wp2;go_ret;exact⟨ae (by rw[HT.o];rw[GK];rfl),hbq⟩
  cases ni;·go_wp2;go_ret;exact⟨ae (by rw[HT.o];rw[GK];first|rfl|simp),hbq⟩
  cases GV:decide (0≤e.val);·go_wp2;go_ret;exact⟨ae (by rw[HT.o];rw[GK];rw[GV];rfl),hbq⟩
  cases zv20:decide (e.val≤1048576);·go_wp2;go_ret;exact⟨ae (by rw[HT.o];rw[GK];rw[GV];rw[zv20];rfl),hbq⟩
  go_wp2;go_ret;exact⟨ae (by rw[HT.o];rw[GK];rw[GV];rw[zv20];first|rfl|simp),hbq⟩
 ·have HT:=qS (tb=(e.per.isEmpty&&ag e.item&&(e.val==0)&&e.text.isEmpty)) (by rw[←BO.o];unfold iy;rw[GQ.o];rw[hk];rfl);subst hk;clear hx;generalize ag e.per=np at*;generalize ag e.item=ni at*;cases GK:e.per.isEmpty;·go_wp2;go_ret;exact⟨ae (by rw[HT.o];rw[GK];rfl),hbq⟩
  cases ni;·go_wp2;go_ret;exact⟨ae (by rw[HT.o];rw[GK];first|rfl|simp),hbq⟩
  cases zv0:(e.val==0);·go_wp2;go_ret;exact⟨ae (by rw[HT.o];rw[GK];rw[zv0];rfl),hbq⟩
  go_wp2;go_ret;exact⟨ae (by rw[HT.o];rw[GK];rw[zv0];first|rfl|simp),hbq⟩
theorem tH(w:World)(e:Ev)(hs:e.small)(hmx:bf w):Calls Tryz.prog 81 #[e.agg] w (Says (bA e) w):=by
 unfold bA;cases hh:nk e;·exact OA w e hs hh
 rw[Bool.true_and];by_cases hk:e.kind=14
 ·have hq:iy e=(ag e.per&&e.item.isEmpty&&(e.val==0)&&e.text.isEmpty):=by unfold iy;rw[hk];rfl
  rw[hq];exact Il w e hs hh hk
 ·exact Oz w e hs hmx hh hk
def LJ(a b c:Int):Int:=if a≠0 then a else if b≠0 then b else c
def pR(a b:Ev):Int:=LJ (Lib.compareInt a.at_ b.at_) (Lib.compareBytes a.src b.src) (Lib.compareInt a.num b.num)
theorem RZ(w:World)(b:Nat)(x y z:Int)(h0:w.cell? ⟨b,0,none⟩=some (.int .i64 x))(h1:w.cell? ⟨b,1,none⟩=some (.int .i64 y))(h2:w.cell? ⟨b,2,none⟩=some (.int .i64 z)):Calls Tryz.prog 147 #[.slice (some ⟨b,0,none⟩) 3 3] w fun e w'=>e=.returned (.int .i64 (LJ x y z))∧w=w':=by
 have HO:=qS (LJ x y z=if x≠0 then x else if y≠0 then y else z) (rfl);have hget: ∀k:Nat,k<3→w.cell? ⟨b,0+k,none⟩=some (.int .i64 ([x,y,z].getD k 0)):=fun k hk=>by
  rcases(show k=0∨k=1∨k=2 by omega)with rfl|rfl|rfl;·exact h0
  ·exact h1
  ·exact h2
 have HG:=qH hget;have HR:=qS (∀k:Nat,k<3→(∀j,j<k→[x,y,z].getD j 0=0)→[x,y,z].getD k 0≠0→LJ x y z=[x,y,z].getD k 0) (fun k hk hz hn=>by
  rcases(show k=0∨k=1∨k=2 by omega)with rfl|rfl|rfl;·simp at hn;simp[LJ,hn]
  ·have a0:=hz 0 (by omega);simp at hn a0;simp[LJ,hn,a0]
  ·have a0:=hz 0 (by omega);have a1:=hz 1 (by omega);simp at hn a0 a1;simp[LJ,a0,a1]);have HE:=qS ((∀j,j<3→[x,y,z].getD j 0=0)→LJ x y z=0) (fun hz=>by have a0:=hz 0 (by omega);have a1:=hz 1 (by omega);have a2:=hz 2 (by omega);simp at a0 a1 a2;simp[LJ,a0,a1,a2]);clear hget h0 h1 h2 HO;generalize LJ x y z=r at*;generalize[x,y,z]=l at*;go_enter Tryz.func147,Tryz.ntmps147;go_wp2;go_loop[8](fun i=> ∃k:Nat,i=.int .i64 k∧k≤3∧Hid (∀j,j<k→l.getD j 0=0))(fun i=>3-(intOf i).toNat);case atStart=>exact⟨0,rfl,by omega,fun j hj=>by omega⟩
 case round=>
  obtain⟨k,rfl,hk,HZ⟩:=hrel;by_cases hk3:k<3
  ·have hc:=HG.o k hk3;have HRK:=qH (HR.o k hk3 HZ.o);have HN:=qS (l.getD k 0=0→ ∀j,j<k+1→l.getD j 0=0) (fun h j hj=>by
    by_cases e:j=k;·subst e;exact h
    ·exact HZ.o j (by omega));rw[Nat.zero_add]at hc;generalize l.getD k 0=v at*;have t3:(k:Int)<3:=by omega
   by_cases hv:v=0
   ·have Gw:=qH (HN.o hv);have bv:(v !=0)=false:=by simpa using hv
    clear hv;go_wp2;go_round;case rel=>exact⟨k+1,by go_num,by omega,Gw.o⟩
    case measure=>simp[intOf];omega
   ·have HV:=qH (HRK.o hv);have bv:(v !=0)=true:=by simpa using hv
    clear hv;go_wp2;go_ret;exact⟨aQ HV.o.symm,rfl⟩
  ·have HV:=qH (HE.o (fun j hj=>HZ.o j (by omega)));have t3: ¬(k:Int)<3:=by omega
   go_wp2;go_ret;exact⟨aQ HV.o.symm,rfl⟩
theorem wU(w:World)(a b:Ev):Calls Tryz.prog 88 #[a.agg,b.agg] w fun e w'=>e=.returned (.int .i64 (pR a b))∧Below w.heap.size w w':=by
 have HC:=qS (pR a b=LJ (Lib.compareInt a.at_ b.at_) (Lib.compareBytes a.src b.src) (Lib.compareInt a.num b.num)) (rfl);unfold Ev.agg;go_enter Tryz.func88,Tryz.ntmps88;go_wp2;have bJ:Below w.heap.size w ((w.alloc (ai a)).alloc (ai b)):=((Below.refl _ _).alloc (Nat.le_refl _) _).alloc (by simp) _;have hb1:Below (w.alloc (ai a)).heap.size (w.alloc (ai a)) ((w.alloc (ai a)).alloc (ai b)):=(Below.refl _ _).alloc (Nat.le_refl _) _;obtain⟨f0,f1,f2,f3,f4,f5,f6,f7⟩:=(dO.new w a).below hb1 (by simp);obtain⟨g0,g1,g2,g3,g4,g5,g6,g7⟩:=dO.new (w.alloc (ai a)) b;have hsA:(w.alloc (ai a)).heap.size=w.heap.size+1:=by simp
 rw[hsA]at g0 g1 g2 g3 g4 g5 g6 g7;have hs1:((w.alloc (ai a)).alloc (ai b)).heap.size=w.heap.size+2:=by simp
 have ky:=qH hs1;clear hb1 hsA hs1;generalize(w.alloc (ai a)).alloc (ai b)=w1 at*;go_still_tail 15,(by kernel_rfl);still_call(Tryz.cmp_Compare_int _ _ _);repeat still_step
 still_call(Tryz.strings_Compare _ _ _);repeat still_step
 still_call(Tryz.cmp_Compare_int _ _ _);repeat still_step
 refine wpStill_nil ?_;change wpList _ _ _ _ _ (w1.drewN 1);have hbq:Below w.heap.size w (w1.drewN 1):=below_drewN bJ 1;have Sl:w.heap.size+2=(w1.drewN 1).heap.size:=by show _=w1.heap.size;rw[ky.o]
 generalize w1.drewN 1=w2 at*;generalize Lib.compareInt a.at_ b.at_=x at*;generalize Lib.compareBytes a.src b.src=y at*;generalize Lib.compareInt a.num b.num=z at*;have KP:=qH Sl;clear Sl;go_wp2_with fail;have key: ∀o,(w2.alloc (.cells #[.int .i64 x,.int .i64 y,.int .i64 z] 3)).cell? ⟨w2.heap.size,o,none⟩=_:=fun o=>cell_of_row _ w2.heap.size o _ _ (0,0) (heap_alloc_new w2 _);refine(RZ _ w2.heap.size x y z ((key 0).trans rfl) ((key 1).trans rfl) ((key 2).trans rfl)).mono ?_;rintro e w3⟨rfl,rfl⟩;clear key;go_wp2;go_ret;exact⟨aQ HC.o.symm,hbq.alloc (by have:=KP.o;omega) _⟩
/-!### the order of events -/
theorem VK{x y:Int}:Lib.compareInt x y<0↔x<y:=by unfold Lib.compareInt;split<;>(try split)<;>omega
theorem SX{x y:Int}:Lib.compareInt x y=0↔x=y:=by unfold Lib.compareInt;split<;>(try split)<;>omega
theorem PS{x y:Int}:0<Lib.compareInt x y↔y<x:=by unfold Lib.compareInt;split<;>(try split)<;>omega
theorem PV: ∀(a b:List UInt8),(Lib.compareBytes a b<0↔bytesBefore a b=true)∧(Lib.compareBytes a b=0↔a=b)∧(0<Lib.compareBytes a b↔bytesBefore b a=true)
 |[],[]=>by simp[Lib.compareBytes,bytesBefore]
 |[],_::_=>by simp[Lib.compareBytes,bytesBefore]
 |_::_,[]=>by simp[Lib.compareBytes,bytesBefore]
 |x::a,y::b=>by
  have ih:=PV a b;unfold Lib.compareBytes bytesBefore;by_cases h1:x<y;·have h2: ¬y<x:=UInt8.lt_asymm h1;have h3:x≠y:=fun e=>UInt8.lt_irrefl _ (e▸h1);have h4:y≠x:=fun e=>h3 e.symm;simp[h1,h2,h3,h4]
  ·by_cases h2:y<x;·have h3:x≠y:=fun e=>UInt8.lt_irrefl _ (e▸h2);simp[h1,h2,h3]
   ·have e:x=y:=Classical.byContradiction fun hne=>(UInt8.lt_or_lt_of_ne hne).elim h1 h2;subst e;simp[h1,ih.1,ih.2.1,ih.2.2]
def gU(a b:Ev):Prop:=a.at_<b.at_∨(a.at_=b.at_∧(bytesBefore a.src b.src=true∨(a.src=b.src∧a.num<b.num)))
theorem pQ{a b:Ev}:0<pR a b↔gU b a:=by
 unfold pR LJ gU;have h1:= @VK a.at_ b.at_;have h2:= @SX a.at_ b.at_;have h3:= @PS a.at_ b.at_;have k:=PV a.src b.src;have n3:= @PS a.num b.num;by_cases e:Lib.compareInt a.at_ b.at_=0
 ·have ea:=h2.1 e;rw[if_neg (by simp[e])];by_cases e2:Lib.compareBytes a.src b.src=0
  ·have es:=k.2.1.1 e2;rw[if_neg (by simp[e2]),n3];constructor;·intro h;exact .inr ⟨ea.symm,.inr ⟨es.symm,h⟩⟩
   ·rintro(h|⟨_,h|⟨_,h⟩⟩);·omega
    ·rw[es,aF]at h;cases h
    ·exact h
  ·rw[if_pos (by simpa using e2),k.2.2];constructor;·intro h;exact .inr ⟨ea.symm,.inl h⟩
   ·rintro(h|⟨_,h|⟨h,_⟩⟩);·omega
    ·exact h
    ·exact absurd (k.2.1.2 h.symm) e2
 ·rw[if_pos (by simpa using e),h3];constructor;·exact fun h=>.inl h
  ·rintro(h|⟨h,_⟩);·exact h
   ·exact absurd (h2.2 h.symm) e
theorem gU.trans{a b c:Ev}(h:gU a b)(h':gU b c):gU a c:=by
 unfold gU at*;rcases h with h|⟨h1,h2⟩<;>rcases h' with h'|⟨h1',h2'⟩;·left;omega
 ·left;omega
 ·left;omega
 ·right;refine⟨by omega,?_⟩;rcases h2 with h2|⟨h2,h3⟩<;>rcases h2' with h2'|⟨h2',h3'⟩;·exact .inl (gQ h2 h2')
  ·exact .inl (h2'▸h2)
  ·exact .inl (h2▸h2')
  ·exact .inr ⟨h2.trans h2',by omega⟩
theorem gU.irrefl(a:Ev): ¬gU a a:=by
 unfold gU;rintro(h|⟨_,h|⟨_,h⟩⟩);·omega
 ·rw[aF]at h;cases h
 ·omega
theorem gU.total{a b:Ev}(h: ¬gU a b):gU b a∨(a.at_=b.at_∧a.src=b.src∧a.num=b.num):=by
 unfold gU at*;by_cases e:a.at_=b.at_
 ·by_cases e2:a.src=b.src
  ·by_cases e3:a.num=b.num;·exact .inr ⟨e,e2,e3⟩
   ·left;right;refine⟨e.symm,.inr ⟨e2.symm,?_⟩⟩;rcases Int.lt_or_gt_of_ne e3 with h'|h';·exact absurd (.inr ⟨e,.inr ⟨e2,h'⟩⟩) h
    ·exact h'
  ·left;right;refine⟨e.symm,.inl ?_⟩;rcases jQ e2 with h'|h';·exact absurd (.inr ⟨e,.inl h'⟩) h
   ·exact h'
 ·left;left;rcases Int.lt_or_gt_of_ne e with h'|h';·exact absurd (.inl h') h
  ·exact h'
instance(a b:Ev):Decidable (gU a b):=by unfold gU;infer_instance
def VQ(a b:Ev):Prop:= ¬gU b a
theorem VQ.lt{a b e:Ev}(h:VQ a b)(h':gU e a):gU e b:=by
 by_cases hab:gU a b;·exact h'.trans hab
 ·rcases gU.total hab with h2|⟨e1,e2,e3⟩;·exact absurd h2 h
  ·unfold gU at*;rw[←e1,←e2,←e3];exact h'
theorem VQ.at_{a b:Ev}(h:VQ a b):a.at_≤b.at_:=by
 unfold VQ gU at h;rcases Int.lt_or_le b.at_ a.at_ with h'|h';·exact absurd (.inl h') h
 ·exact h'
def dL(l:List Ev):Prop:=l.Pairwise VQ
def eX(e:Ev)(l:List Ev):List Ev:=(l.takeWhile fun a=>!decide (gU e a))++e::(l.dropWhile fun a=>!decide (gU e a))
def zP(e:Ev)(l:List Ev):Nat:=(l.takeWhile fun a=>!decide (gU e a)).length
theorem JW(e:Ev)(l:List Ev):zP e l≤l.length:=(List.takeWhile_prefix _).length_le
theorem qm(e:Ev)(l:List Ev):eX e l=l.take (zP e l)++[e]++l.drop (zP e l):=by
 unfold eX zP;have h:l.takeWhile (fun a=>!decide (gU e a))++l.dropWhile (fun a=>!decide (gU e a))=l:=List.takeWhile_append_dropWhile;have h1:l.take (l.takeWhile fun a=>!decide (gU e a)).length=l.takeWhile fun a=>!decide (gU e a):=by
  conv=>lhs;arg 2;rw[←h]
  exact List.take_left' rfl
 have h2:l.drop (l.takeWhile fun a=>!decide (gU e a)).length=l.dropWhile fun a=>!decide (gU e a):=by
  conv=>lhs;arg 2;rw[←h]
  exact List.drop_left' rfl
 rw[h1,h2];simp
theorem jf{e x:Ev}{l:List Ev}:x∈eX e l↔x=e∨x∈l:=by
 have h:l.takeWhile (fun a=>!decide (gU e a))++l.dropWhile (fun a=>!decide (gU e a))=l:=List.takeWhile_append_dropWhile;unfold eX;conv=>rhs;rw[←h]
 simp only[List.mem_append,List.mem_cons];constructor;·rintro(h|h|h)<;>simp[h]
 ·rintro(h|h|h)<;>simp[h]
theorem iU(e:Ev)(l:List Ev):(eX e l).length=l.length+1:=by rw[qm];have:=JW e l;simp;omega
theorem Kn{e:Ev}: ∀{l:List Ev},dL l→ ∀x∈l.dropWhile (fun a=>!decide (gU e a)),gU e x
 |[],_,x,hx=>by simp at hx
 |a::t,h,x,hx=>by
  obtain⟨h1,h2⟩:=List.pairwise_cons.1 h;by_cases ha:gU e a
  ·rw[List.dropWhile_cons_of_neg (by simpa using ha)]at hx;rcases List.mem_cons.1 hx with rfl|hx;·exact ha
   ·exact(h1 x hx).lt ha
  ·rw[List.dropWhile_cons_of_pos (by simpa using ha)]at hx;exact Kn h2 x hx
theorem mf{e:Ev}{l:List Ev}(h:dL l):dL (eX e l):=by
 have h0:l.takeWhile (fun a=>!decide (gU e a))++l.dropWhile (fun a=>!decide (gU e a))=l:=List.takeWhile_append_dropWhile;have h':=h;unfold dL at h;rw[←h0]at h;obtain⟨u1,u2,u3⟩:=List.pairwise_append.1 h;unfold eX dL;refine List.pairwise_append.2 ⟨u1,List.pairwise_cons.2 ⟨fun x hx=>?_,u2⟩,fun a ha b hb=>?_⟩;·have:=Kn h' x hx;intro h2;exact gU.irrefl _ (this.trans h2)
 ·have ha': ¬gU e a:=by simpa using List.all_eq_true.1 List.all_takeWhile a ha
  rcases List.mem_cons.1 hb with rfl|hb;·exact ha'
  ·exact u3 a ha b hb
theorem wD{e:Ev}{l:List Ev}(k:Nat)(hk:k≤l.length)(h1: ∀i(h:i<l.length),i<k→ ¬gU e l[i])(h2: ∀i(h:i<l.length),k≤i→gU e l[i]):k=zP e l:=by
 have e0:l=l.take k++l.drop k:=(List.take_append_drop k l).symm;unfold zP;conv=>rhs;rw[e0]
 rw[List.takeWhile_append_of_pos (fun x hx=>by obtain⟨i,hi,rfl⟩:=List.getElem_of_mem hx;rw[List.length_take]at hi;rw[List.getElem_take];simpa using h1 i (by omega) (by omega))];have:(l.drop k).takeWhile (fun a=>!decide (gU e a))=[]:=by
  cases hd:l.drop k with
   |nil=>rfl
   |cons b t=>
    have hlt:k<l.length:=by
     rcases Nat.lt_or_ge k l.length with h|h;·exact h
     ·rw[List.drop_of_length_le h]at hd;cases hd
    have hb:b=l[k]:=by have:=List.drop_eq_getElem_cons hlt;rw[hd]at this;injection this
    rw[List.takeWhile_cons_of_neg (by rw[hb];simpa using h2 k hlt (Nat.le_refl _))]
 rw[this];simp;omega
theorem dL.filter{l:List Ev}(h:dL l)(p:Ev→Bool):dL (l.filter p):=List.Pairwise.filter p h
/-!### intakes -/
structure ay where
 au:aZ
 had:eZ
 taken:List Ev
 late:List Ev
 gone:List (List UInt8)
def bB(e:Ev):List UInt8×Int:=(e.src,e.num)
def bT(p:List UInt8)(e:Ev):Bool:=(e.per !=p)||(e.kind==14)
def ay.wrong(x:ay)(e:Ev):Bool:=!bA e||(decide (e.per∈x.gone)&&(e.kind !=14))||decide (1048576≤x.taken.length)
def ay.verdict(x:ay)(e:Ev):Int:=if x.wrong e then 3 else if hadB x.had e.src e.num then 1 else 0
def ay.refuses(x:ay)(e:Ev):Bool:=x.wrong e||hadB x.had e.src e.num
def ay.drop(x:ay)(p:Ev→Bool):ay:={x with taken:=x.taken.filter p,late:=x.late.filter p}
def ay.put(x:ay)(e:Ev):ay:={x with had:=oC x.had e.src e.num,taken:=eX e x.taken}
def ay.took(x:ay)(e:Ev):ay:=if e.kind=14 then({x.put e with gone:=e.per::x.gone}:ay).drop (bT e.per)else x.put e
def ay.tick(x:ay)(now:Int):ay:={x with au:=x.au.tick now}
def ay.hear(x:ay)(e:Ev)(now:Int):ay:={x with au:=x.au.hear e.src e.at_ now}
def ay.bu(x:ay)(e:Ev):ay:=if bB e∈x.late.map bB then x else{x with late:=x.late++[e]}
def ay.offer(x:ay)(e:Ev)(now:Int):ay:=if(x.tick now).refuses e then x.tick now else if((x.tick now).au.tick now).hears e.src e.at_ then((x.tick now).hear e now).took e else((x.tick now).hear e now).bu e
def ay.offered(x:ay)(e:Ev)(now:Int):Int:=if(x.tick now).refuses e then(x.tick now).verdict e else if((x.tick now).au.tick now).hears e.src e.at_ then 0 else 2
def ay.admits(x:ay)(e:Ev):ay:=if x.refuses e then x else(x.hear e x.au.now).took e
def ay.iL(x:ay)(e:Ev):Int:=if x.refuses e then x.verdict e else 0
def ay.new(aa idle:Int):ay:=⟨aZ.new aa idle,[],[],[],[]⟩
structure dR(N:Nat)(x:ay):Prop where
 sorted:dL x.taken
 may: ∀e,e∈x.taken∨e∈x.late→bA e=true
 src:x.au.src.length≤N
 had:x.had.length≤N
 rows: ∀s,(aM x.had s).length≤N
 taken:x.taken.length≤N
 late:x.late.length≤N
theorem dR.more{N M:Nat}{x:ay}(h:dR N x)(hN:N≤M):dR M x:=⟨h.sorted,h.may,Nat.le_trans h.src hN,Nat.le_trans h.had hN,fun s=>Nat.le_trans (h.rows s) hN,Nat.le_trans h.taken hN,Nat.le_trans h.late hN⟩
theorem dR.new(aa idle:Int):dR 0 (ay.new aa idle):=⟨List.Pairwise.nil,fun e he=>by rcases he with he|he<;>simp[ay.new]at he,Nat.le_refl _,Nat.le_refl _,fun s=>by simp[ay.new,aM,bO],Nat.le_refl _,Nat.le_refl _⟩
theorem dR.tick{N:Nat}{x:ay}(h:dR N x)(now:Int):dR N (x.tick now):=⟨h.sorted,h.may,by show(x.au.tick now).src.length≤N;rw[xQ];exact h.src,h.had,h.rows,h.taken,h.late⟩
theorem dR.hear{N:Nat}{x:ay}(h:dR N x)(e:Ev)(now:Int):dR (N+1) (x.hear e now):=⟨h.sorted,h.may,Nat.le_trans (Pj x.au e.src e.at_ now) (by have:=h.src;omega),Nat.le_succ_of_le h.had,fun s=>Nat.le_succ_of_le (h.rows s),Nat.le_succ_of_le h.taken,Nat.le_succ_of_le h.late⟩
theorem dR.drop{N:Nat}{x:ay}(h:dR N x)(p:Ev→Bool):dR N (x.drop p):=⟨h.sorted.filter p,fun e he=>h.may e (he.imp (fun h=>(List.mem_filter.1 h).1) (fun h=>(List.mem_filter.1 h).1)),h.src,h.had,h.rows,Nat.le_trans (List.length_filter_le _ _) h.taken,Nat.le_trans (List.length_filter_le _ _) h.late⟩
theorem dR.put{N:Nat}{x:ay}(h:dR N x)(hok:dJ x.had)(e:Ev)(he:bA e=true)(hh:hadB x.had e.src e.num=false):dR (N+1) (x.put e):=by
 refine⟨mf h.sorted,fun a ha=>?_,Nat.le_succ_of_le h.src,?_,fun s=>?_,?_,Nat.le_succ_of_le h.late⟩
 ·rcases ha with ha|ha
  ·rcases jf.1 ha with rfl|ha;·exact he
   ·exact h.may a (.inl ha)
  ·exact h.may a (.inr ha)
 ·exact Nat.le_trans (gK _ _ _) (by have:=h.had;omega)
 ·show(aM (oC x.had e.src e.num) s).length≤N+1;unfold oC;by_cases es:s=e.src;·subst es;rw[j4];have:=Oh (aM x.had e.src) (hok.row _) hh;have:=h.rows e.src;omega
  ·rw[gZ _ _ es];exact Nat.le_succ_of_le (h.rows s)
 ·show(eX e x.taken).length≤N+1;rw[iU];have:=h.taken;omega
theorem dR.gone{N:Nat}{x:ay}(h:dR N x)(g:List (List UInt8)):dR N {x with gone:=g}:=⟨h.sorted,h.may,h.src,h.had,h.rows,h.taken,h.late⟩
theorem Cs{m:eZ}{e:Ev}(he:bA e=true)(hh:hadB m e.src e.num=false):o9 m e.src e.num=true:=by unfold bA nk at he;simp only[Bool.and_eq_true,decide_eq_true_eq]at he;unfold o9;simp only[Bool.and_eq_true,decide_eq_true_eq,Bool.not_eq_true'];exact⟨⟨⟨he.1.1.1.1.1,he.1.1.1.1.2⟩,he.1.1.1.2⟩,hh⟩
theorem blbb2: ∀a b:List UInt8,Op.bytesLess a b=bytesBefore a b|[],[]=>rfl|[],_::_=>rfl|_::_,[]=>rfl|x::a,y::b=>by unfold Op.bytesLess bytesBefore;rw[blbb2 a b]
theorem Ls(w:World)(a b:Ev):Calls Tryz.prog 215 #[a.agg,b.agg] w (Says (decide (gU a b)) w):=by
 have kE:=qS (gU a b↔(a.at_<b.at_∨(a.at_=b.at_∧(bytesBefore a.src b.src=true∨(a.src=b.src∧a.num<b.num))))) (Iff.rfl);have hb1:Below w.heap.size w (w.alloc (ai a)):=(Below.refl _ _).alloc (Nat.le_refl _) _;have hb:Below w.heap.size w ((w.alloc (ai a)).alloc (ai b)):=hb1.alloc (by simp) _;have hbs:=blbb2 a.src b.src;unfold Ev.agg;by_cases h1:a.at_=b.at_
 ·by_cases h2:a.src=b.src
  ·have HR:=qS (decide (gU a b)=decide (a.num<b.num)) (by rw[decide_eq_decide,kE.o,h1,h2,aF];simp);have c1:(a.at_==b.at_)=true:=by simp[h1]
   have c2:(a.src==b.src)=true:=by simp[h2]
   have c1':(a.at_ !=b.at_)=false:=by simp[h1]
   have c2':(a.src !=b.src)=false:=by simp[h2]
   clear h1 h2 kE hbs;go_enter Tryz.func215,Tryz.ntmps215;go_wp2;go_ret;exact⟨ae HR.o.symm,hb⟩
  ·have HR:=qS (decide (gU a b)=Op.bytesLess a.src b.src) (by rw[hbs,Bool.eq_iff_iff,decide_eq_true_iff,kE.o,h1];simp[h2]);have c1:(a.at_==b.at_)=true:=by simp[h1]
   have c2:(a.src==b.src)=false:=by simp[h2]
   have c1':(a.at_ !=b.at_)=false:=by simp[h1]
   have c2':(a.src !=b.src)=true:=by simp[h2]
   clear h1 h2 kE hbs;go_enter Tryz.func215,Tryz.ntmps215;go_wp2;go_ret;exact⟨ae HR.o.symm,hb⟩
 ·have HR:=qS (decide (gU a b)=decide (a.at_<b.at_)) (by
   rw[decide_eq_decide,kE.o];constructor
   ·rintro(h|⟨h,_⟩);·exact h
    ·exact absurd h h1
   ·exact .inl);have c1:(a.at_==b.at_)=false:=by simp[h1]
  have c1':(a.at_ !=b.at_)=true:=by simp[h1]
  clear h1 kE hbs;go_enter Tryz.func215,Tryz.ntmps215;go_wp2;go_ret;exact⟨ae HR.o.symm,hb⟩
theorem EI{e:Ev}{l:List Ev}(hs:dL l)(j:Nat)(hj:j≤l.length)(h1: ∀i(h:i<l.length),j≤i→gU e l[i])(h2: ∀h:0<j,¬gU e (l[j-1]'(by omega))):j=zP e l:=by
 refine wD j hj (fun i hi hij hlt=>?_) h1;by_cases e0:i=j-1;·subst e0;exact h2 (by omega) hlt
 ·have hle:VQ l[i] (l[j-1]'(by omega)):=List.pairwise_iff_getElem.1 hs i (j-1) hi (by omega) (by omega);exact h2 (by omega) (hle.lt hlt)
def kK(l:List Ev):List Ev:=l.foldl (fun out e=>eX e out) []
theorem yj(l:List Ev)(e:Ev):kK (l++[e])=eX e (kK l):=by unfold kK;simp
theorem Cb: ∀(l:List Ev),dL (kK l):=fun l=>by suffices h: ∀(l out:List Ev),dL out→dL (l.foldl (fun out e=>eX e out) out)from h l [] List.Pairwise.nil;intro l;induction l with|nil=>intro out h;exact h|cons e l ih=>intro out h;exact ih _ (mf h)
theorem Cc(l:List Ev):(kK l).length=l.length:=by
 suffices h: ∀(l out:List Ev),(l.foldl (fun out e=>eX e out) out).length=out.length+l.length by have:=h l [];unfold kK;simpa using this
 intro l;induction l with|nil=>intro out;rfl|cons e l ih=>intro out;rw[List.foldl_cons,ih,iU,List.length_cons];omega
theorem Mj{e:Ev}{l:List Ev}(h: ∀a∈l,¬gU e a):eX e l=l++[e]:=by
 have:l.takeWhile (fun a=>!decide (gU e a))=l:=by
  have: ∀a∈l,(fun a=>!decide (gU e a)) a=true:=fun a ha=>by simpa using h a ha
  clear this;induction l with|nil=>rfl|cons a l ih=>rw[List.takeWhile_cons_of_pos (by simpa using h a (by simp)),ih fun b hb=>h b (by simp[hb])]
 have h2:l.dropWhile (fun a=>!decide (gU e a))=[]:=by have e0:l.takeWhile (fun a=>!decide (gU e a))++l.dropWhile (fun a=>!decide (gU e a))=l:=List.takeWhile_append_dropWhile;rw[this]at e0;simpa using e0
 unfold eX;rw[this,h2]
theorem G5{l:List Ev}(h:dL l):kK l=l:=by suffices hh: ∀(l out:List Ev),dL (out++l)→l.foldl (fun out e=>eX e out) out=out++l from hh l [] h;intro l;induction l with|nil=>intro out _;simp|cons e l ih=>intro out h;rw[List.foldl_cons,Mj (fun a ha=>(List.pairwise_append.1 h).2.2 a ha e (by simp))];rw[ih (out++[e]) (by simpa using h)];simp
end Go.Proofs.YtbejfgmdkmddnaaGreatDoor
