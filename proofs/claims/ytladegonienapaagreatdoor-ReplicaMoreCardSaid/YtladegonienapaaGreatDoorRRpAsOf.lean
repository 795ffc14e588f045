/-
  Layer 33: AsOf.
-/
import Derived.Test.YtladegonienapaaGreatDoorRRMay3
import Derived.Test.YtladegonienapaaGreatDoorRRpPull
set_option maxRecDepth 100000
set_option maxHeartbeats 16000000
namespace Go.Proofs.YtladegonienapaaGreatDoor
open Go.RowKit Go.Maps Go.Sort
theorem DN(w:World)(e:Ev)(hs:e.small)(hh:jE e=true):Calls Tryz.prog 65 #[e.agg] w (Says (aB e) w):=by
 obtain⟨s1,s2,s3,s4⟩:=hs;have xU:=qH hh;have hh':(ae e.src&&decide (1≤e.num)&&decide (e.num≤1099511627776)&&decide (0≤e.at_)&&decide (e.at_≤1099511627776))=true:=hh;simp only[Bool.and_eq_true,decide_eq_true_eq]at hh';obtain⟨⟨⟨⟨hns,h1⟩,h2⟩,h3⟩,h4⟩:=hh';have M4:=qH hns;have I7:=qS ((decide (1≤e.num)&&decide (e.num≤1099511627776))=true) (by simp[h1,h2]);have XN:=qS ((decide (0≤e.at_)&&decide (e.at_≤1099511627776))=true) (by simp[h3,h4]);clear hns hh h1 h2 h3 h4;unfold Ev.agg;go_enter Tryz.func65,Tryz.ntmps65;have hb:Below w.heap.size w (w.alloc (aj e)):=(Below.refl _ _).alloc (Nat.le_refl _) _;obtain⟨f0,f1,f2,f3,f4,f5,f6,f7⟩:=dK.new w e;go_wp2_with fail;refine(jw _ e.src s1).mono ?_;rintro r w1⟨rfl,rfl⟩;rw[M4.o];generalize w.alloc (aj e)=w1 at*;generalize hke:e.kind=kd at*;have Aa:=qH hke;clear hke;go_wp2_with fail;refine(jN w1 e.num 1 1099511627776).mono ?_;rintro r w2⟨rfl,hw2⟩;rw[hw2,I7.o];clear hw2;go_wp2_with fail;refine(jN w1 e.at_ 0 1099511627776).mono ?_;rintro r w2⟨rfl,hw2⟩;rw[hw2,XN.o];clear hw2;go_wp2;go_quiet(fail);have hbq:Below w.heap.size w (w1.drewN nq):=below_drewN hb nq;have g3:(w1.drewN nq).cell? ⟨w.heap.size,3,none⟩=_:=f3;have g4:(w1.drewN nq).cell? ⟨w.heap.size,4,none⟩=_:=f4;have g5:(w1.drewN nq).cell? ⟨w.heap.size,5,none⟩=_:=f5;have g6:(w1.drewN nq).cell? ⟨w.heap.size,6,none⟩=_:=f6;have g7:(w1.drewN nq).cell? ⟨w.heap.size,7,none⟩=_:=f7;clear f0 f1 f2 f3 f4 f5 f6 f7 hb;generalize w1.drewN nq=w2 at*;by_cases hx:kd<0∨14<kd;·have HT:=qS (aB e=false) (by unfold aB eO;rw[Aa.o];rw[if_neg (by omega),if_neg (by omega),if_neg (by omega),if_neg (by omega),if_neg (by omega),if_neg (by omega),if_neg (by omega),if_neg (by omega),if_neg (by omega),if_neg (by omega),if_neg (by omega),if_neg (by omega),if_neg (by omega),if_neg (by omega),if_neg (by omega),Bool.and_false]);have hq: ∀j:Int,0≤j→j≤14→(kd==j)=false:=fun j _ _=>beq_eq_false_iff_ne.2 (by omega);have k0:=hq 0 (by decide) (by decide);have k1:=hq 1 (by decide) (by decide);have k2:=hq 2 (by decide) (by decide);have k3:=hq 3 (by decide) (by decide);have k4:=hq 4 (by decide) (by decide);have k5:=hq 5 (by decide) (by decide);have k6:=hq 6 (by decide) (by decide);have k7:=hq 7 (by decide) (by decide);have k8:=hq 8 (by decide) (by decide);have k9:=hq 9 (by decide) (by decide);have k10:=hq 10 (by decide) (by decide);have k11:=hq 11 (by decide) (by decide);have k12:=hq 12 (by decide) (by decide);have k13:=hq 13 (by decide) (by decide);have k14:=hq 14 (by decide) (by decide);clear hq hx;go_wp2;go_ret;exact⟨aa HT.o.symm,hbq⟩
 rcases(show(kd=0∨kd=1∨kd=2∨kd=3∨kd=5∨kd=6)∨(kd=4)∨(kd=7∨kd=8∨kd=9∨kd=10)∨(kd=11)∨(kd=12)∨(kd=13)∨(kd=14)by omega)with hk|hk|hk|hk|hk|hk|hk
 ·have HT:=qS (aB e=(ae e.per&&ae e.item&&e.text.isEmpty&&(e.val==0))) (by unfold aB eO;rw[xU.o,Aa.o];rcases hk with rfl|rfl|rfl|rfl|rfl|rfl<;>(simp;cases ae e.per<;>cases ae e.item<;>cases ae e.text<;>cases aQ e.text<;>cases e.per.isEmpty<;>cases e.item.isEmpty<;>cases e.text.isEmpty<;>simp));clear hx;rcases hk with rfl|rfl|rfl|rfl|rfl|rfl;all_goals
   go_wp2_with fail;refine(jw w2 e.per s2).mono ?_;rintro r w3⟨rfl,hw3⟩;rw[hw3];clear hw3;go_wp2_with fail;refine(jw w2 e.item s3).mono ?_;rintro r w3⟨rfl,hw3⟩;rw[hw3];clear hw3;generalize ae e.per=b0 at*;generalize ae e.item=b1 at*;generalize e.text.isEmpty=b2 at*;generalize(e.val==0)=b3 at*;cases b0;·go_wp2;go_ret;exact⟨aa (by rw[HT.o];rfl),hbq⟩
   cases b1;·go_wp2;go_ret;exact⟨aa (by rw[HT.o];rfl),hbq⟩
   cases b2;·go_wp2;go_ret;exact⟨aa (by rw[HT.o];rfl),hbq⟩
   cases b3;·go_wp2;go_ret;exact⟨aa (by rw[HT.o];rfl),hbq⟩
   go_wp2;go_ret;exact⟨aa (by rw[HT.o];rfl),hbq⟩
 ·have HT:=qS (aB e=(ae e.per&&ae e.item&&e.text.isEmpty&&(decide (1≤e.val)&&decide (e.val≤5)))) (by unfold aB eO;rw[xU.o,Aa.o];rw[hk];simp;cases ae e.per<;>cases ae e.item<;>cases ae e.text<;>cases aQ e.text<;>cases e.per.isEmpty<;>cases e.item.isEmpty<;>cases e.text.isEmpty<;>simp);subst hk;clear hx;go_wp2_with fail;refine(jw w2 e.per s2).mono ?_;rintro r w3⟨rfl,hw3⟩;rw[hw3];clear hw3;go_wp2_with fail;refine(jw w2 e.item s3).mono ?_;rintro r w3⟨rfl,hw3⟩;rw[hw3];clear hw3;go_wp2_with fail;refine(jN w2 e.val 1 5).mono ?_;rintro r w3⟨rfl,hw3⟩;rw[hw3];clear hw3;generalize ae e.per=b0 at*;generalize ae e.item=b1 at*;generalize e.text.isEmpty=b2 at*;generalize(decide (1≤e.val)&&decide (e.val≤5))=b3 at*;cases b0;·go_wp2;go_ret;exact⟨aa (by rw[HT.o];rfl),hbq⟩
  cases b1;·go_wp2;go_ret;exact⟨aa (by rw[HT.o];rfl),hbq⟩
  cases b2;·go_wp2;go_ret;exact⟨aa (by rw[HT.o];rfl),hbq⟩
  cases b3;·go_wp2;go_ret;exact⟨aa (by rw[HT.o];rfl),hbq⟩
  go_wp2;go_ret;exact⟨aa (by rw[HT.o];rfl),hbq⟩
 ·have HT:=qS (aB e=(ae e.per&&e.item.isEmpty&&ae e.text&&(e.val==0))) (by unfold aB eO;rw[xU.o,Aa.o];rcases hk with rfl|rfl|rfl|rfl<;>(simp;cases ae e.per<;>cases ae e.item<;>cases ae e.text<;>cases aQ e.text<;>cases e.per.isEmpty<;>cases e.item.isEmpty<;>cases e.text.isEmpty<;>simp));clear hx;rcases hk with rfl|rfl|rfl|rfl;all_goals
   go_wp2_with fail;refine(jw w2 e.per s2).mono ?_;rintro r w3⟨rfl,hw3⟩;rw[hw3];clear hw3;go_wp2_with fail;refine(jw w2 e.text s4).mono ?_;rintro r w3⟨rfl,hw3⟩;rw[hw3];clear hw3;generalize ae e.per=b0 at*;generalize e.item.isEmpty=b1 at*;generalize ae e.text=b2 at*;generalize(e.val==0)=b3 at*;cases b0;·go_wp2;go_ret;exact⟨aa (by rw[HT.o];rfl),hbq⟩
   cases b1;·go_wp2;go_ret;exact⟨aa (by rw[HT.o];rfl),hbq⟩
   cases b2;·go_wp2;go_ret;exact⟨aa (by rw[HT.o];rfl),hbq⟩
   cases b3;·go_wp2;go_ret;exact⟨aa (by rw[HT.o];rfl),hbq⟩
   go_wp2;go_ret;exact⟨aa (by rw[HT.o];rfl),hbq⟩
 ·have HT:=qS (aB e=(e.per.isEmpty&&ae e.item&&aQ e.text&&(decide (0≤e.val)&&decide (e.val≤1048576)))) (by unfold aB eO;rw[xU.o,Aa.o];rw[hk];simp;cases ae e.per<;>cases ae e.item<;>cases ae e.text<;>cases aQ e.text<;>cases e.per.isEmpty<;>cases e.item.isEmpty<;>cases e.text.isEmpty<;>simp);subst hk;clear hx;go_wp2_with fail;refine(jw w2 e.item s3).mono ?_;rintro r w3⟨rfl,hw3⟩;rw[hw3];clear hw3;go_wp2_with fail;refine(jN w2 e.val 0 1048576).mono ?_;rintro r w3⟨rfl,hw3⟩;rw[hw3];clear hw3;go_wp2_with fail;refine(Av w2 e.text s4).mono ?_;rintro r w3⟨rfl,hb3⟩;have hbq3:Below w.heap.size w w3:=hbq.trans (hb3.mono hbq.size);clear hbq hb3;generalize e.per.isEmpty=b0 at*;generalize ae e.item=b1 at*;generalize aQ e.text=b2 at*;generalize(decide (0≤e.val)&&decide (e.val≤1048576))=b3 at*;clear g3 g4 g5 g6 g7;cases b0;·go_wp2;go_ret;exact⟨aa (by rw[HT.o];rfl),hbq3⟩
  cases b1;·go_wp2;go_ret;exact⟨aa (by rw[HT.o];rfl),hbq3⟩
  cases b2;·go_wp2;go_ret;exact⟨aa (by rw[HT.o];rfl),hbq3⟩
  cases b3;·go_wp2;go_ret;exact⟨aa (by rw[HT.o];rfl),hbq3⟩
  go_wp2;go_ret;exact⟨aa (by rw[HT.o];rfl),hbq3⟩
 ·have HT:=qS (aB e=(e.per.isEmpty&&ae e.item&&e.text.isEmpty&&(decide (0≤e.val)&&decide (e.val≤1048576)))) (by unfold aB eO;rw[xU.o,Aa.o];rw[hk];simp;cases ae e.per<;>cases ae e.item<;>cases ae e.text<;>cases aQ e.text<;>cases e.per.isEmpty<;>cases e.item.isEmpty<;>cases e.text.isEmpty<;>simp);subst hk;clear hx;go_wp2_with fail;refine(jw w2 e.item s3).mono ?_;rintro r w3⟨rfl,hw3⟩;rw[hw3];clear hw3;go_wp2_with fail;refine(jN w2 e.val 0 1048576).mono ?_;rintro r w3⟨rfl,hw3⟩;rw[hw3];clear hw3;generalize e.per.isEmpty=b0 at*;generalize ae e.item=b1 at*;generalize e.text.isEmpty=b2 at*;generalize(decide (0≤e.val)&&decide (e.val≤1048576))=b3 at*;cases b0;·go_wp2;go_ret;exact⟨aa (by rw[HT.o];rfl),hbq⟩
  cases b1;·go_wp2;go_ret;exact⟨aa (by rw[HT.o];rfl),hbq⟩
  cases b2;·go_wp2;go_ret;exact⟨aa (by rw[HT.o];rfl),hbq⟩
  cases b3;·go_wp2;go_ret;exact⟨aa (by rw[HT.o];rfl),hbq⟩
  go_wp2;go_ret;exact⟨aa (by rw[HT.o];rfl),hbq⟩
 ·have HT:=qS (aB e=(e.per.isEmpty&&ae e.item&&e.text.isEmpty&&(e.val==0))) (by unfold aB eO;rw[xU.o,Aa.o];rw[hk];simp;cases ae e.per<;>cases ae e.item<;>cases ae e.text<;>cases aQ e.text<;>cases e.per.isEmpty<;>cases e.item.isEmpty<;>cases e.text.isEmpty<;>simp);subst hk;clear hx;go_wp2_with fail;refine(jw w2 e.item s3).mono ?_;rintro r w3⟨rfl,hw3⟩;rw[hw3];clear hw3;generalize e.per.isEmpty=b0 at*;generalize ae e.item=b1 at*;generalize e.text.isEmpty=b2 at*;generalize(e.val==0)=b3 at*;cases b0;·go_wp2;go_ret;exact⟨aa (by rw[HT.o];rfl),hbq⟩
  cases b1;·go_wp2;go_ret;exact⟨aa (by rw[HT.o];rfl),hbq⟩
  cases b2;·go_wp2;go_ret;exact⟨aa (by rw[HT.o];rfl),hbq⟩
  cases b3;·go_wp2;go_ret;exact⟨aa (by rw[HT.o];rfl),hbq⟩
  go_wp2;go_ret;exact⟨aa (by rw[HT.o];rfl),hbq⟩
 ·have HT:=qS (aB e=(ae e.per&&e.item.isEmpty&&e.text.isEmpty&&(e.val==0))) (by unfold aB eO;rw[xU.o,Aa.o];rw[hk];simp;cases ae e.per<;>cases ae e.item<;>cases ae e.text<;>cases aQ e.text<;>cases e.per.isEmpty<;>cases e.item.isEmpty<;>cases e.text.isEmpty<;>simp);subst hk;clear hx;go_wp2_with fail;refine(jw w2 e.per s2).mono ?_;rintro r w3⟨rfl,hw3⟩;rw[hw3];clear hw3;generalize ae e.per=b0 at*;generalize e.item.isEmpty=b1 at*;generalize e.text.isEmpty=b2 at*;generalize(e.val==0)=b3 at*;cases b0;·go_wp2;go_ret;exact⟨aa (by rw[HT.o];rfl),hbq⟩
  cases b1;·go_wp2;go_ret;exact⟨aa (by rw[HT.o];rfl),hbq⟩
  cases b2;·go_wp2;go_ret;exact⟨aa (by rw[HT.o];rfl),hbq⟩
  cases b3;·go_wp2;go_ret;exact⟨aa (by rw[HT.o];rfl),hbq⟩
  go_wp2;go_ret;exact⟨aa (by rw[HT.o];rfl),hbq⟩
theorem DR(w:World)(e:Ev)(hs:e.small)(hh:jE e=false):Calls Tryz.prog 65 #[e.agg] w (Says (aB e) w):=by
 obtain⟨s1,s2,s3,s4⟩:=hs;have HT:=qS (aB e=false) (by unfold aB;rw[hh];rfl);have HH:=qS ((ae e.src&&(decide (1≤e.num)&&decide (e.num≤1099511627776))&&(decide (0≤e.at_)&&decide (e.at_≤1099511627776)))=false) (by rw[←hh];unfold jE;simp only[Bool.and_assoc]);clear hh;unfold Ev.agg;go_enter Tryz.func65,Tryz.ntmps65;have hb:Below w.heap.size w (w.alloc (aj e)):=(Below.refl _ _).alloc (Nat.le_refl _) _;obtain⟨f0,f1,f2,f3,f4,f5,f6,f7⟩:=dK.new w e;go_wp2_with fail;refine(jw _ e.src s1).mono ?_;rintro r w1⟨rfl,rfl⟩;generalize w.alloc (aj e)=w1 at*;generalize ae e.src=b0 at*;cases b0;·go_wp2;go_ret;exact⟨aa HT.o.symm,hb⟩
 go_wp2_with fail;refine(jN w1 e.num 1 1099511627776).mono ?_;rintro r w2⟨rfl,hw2⟩;rw[hw2];clear hw2;generalize(decide (1≤e.num)&&decide (e.num≤1099511627776))=b1 at*;cases b1;·go_wp2;go_ret;exact⟨aa HT.o.symm,hb⟩
 go_wp2_with fail;refine(jN w1 e.at_ 0 1099511627776).mono ?_;rintro r w2⟨rfl,hw2⟩;rw[hw2];clear hw2;generalize(decide (0≤e.at_)&&decide (e.at_≤1099511627776))=b2 at*;cases b2;·go_wp2;go_ret;exact⟨aa HT.o.symm,hb⟩
 ·have:=HH.o;simp at this
theorem FO(w:World)(e:Ev)(hs:e.small):Calls Tryz.prog 65 #[e.agg] w (Says (aB e) w):=by
 cases hh:jE e;·exact DR w e hs hh
 ·exact DN w e hs hh
def Qu(w:World)(es:List Ev)(i:Value)(wr:World):Prop:= ∃k:Nat,i=.int .i64 k∧k≤es.length∧(∀d∈es.take k,aB d=true)∧Below w.heap.size w wr
theorem EJ(w:World)(A:Option Addr)(n c:Nat)(ds:List Ev)(h:eD w w.heap.size A n c ds)(hn:n≤140737488355328)(hs: ∀e∈ds,e.small):Calls Tryz.prog 34 #[.slice A n c] w (Says (ds.all aB) w):=by
 have HH:=qH h;have HS:=qH hs;clear h hs;have hl:=HH.o.len;have HL:=qH hl;clear hl;go_enter Tryz.func34,Tryz.ntmps34;go_wp2;go_loopw[3](fun i wr=>Qu w ds i wr)(fun i _=>n-(intOf i).toNat);case atStart=>exact⟨0,rfl,Nat.zero_le _,fun d hd=>by simp at hd,Below.refl _ _⟩
 case round=>
  obtain⟨k,rfl,hk,hno,hbel⟩:=hrel;have uu:=qH hno;clear hno;have QC:k≤n:=by rw[←HL.o];exact hk
  by_cases hkn:k<n
  ·have hkl:k<ds.length:=by rw[HL.o];exact hkn
   obtain⟨b,off,rfl,hb,hd⟩:=HH.o.ev k hkl;obtain⟨e0,e1,e2,e3,e4,e5,e6,e7⟩:=hd.below hbel hb;have HT:=qS (aB ds[k]=true→ ∀d∈ds.take (k+1),aB d=true) (fun h d hd=>by
    rw[List.take_add_one,List.getElem?_eq_getElem hkl,Option.toList_some]at hd;rcases List.mem_append.1 hd with hd|hd;·exact uu.o d hd
    ·simp at hd;subst hd;exact h);have HY:=qS (aB ds[k]=false→ds.all aB=false) (fun h=>List.all_eq_false.2 ⟨_,List.getElem_mem hkl,by simp[h]⟩);have xD:=qH (HS.o _ (List.getElem_mem hkl));generalize ds[k]=d at*;have t1:(k:Int)<n:=by omega
   go_wp2_with fail;refine(FO wr d xD.o).mono ?_;rintro r w2⟨rfl,hb2⟩;have hbw2:Below w.heap.size w w2:=hbel.trans (hb2.mono hbel.size);clear hb2 e0 e1 e2 e3 e4 e5 e6 e7 hd;cases hbg:aB d;·have Sg:=qH (HY.o hbg);clear hbg;go_wp2;go_ret;exact⟨aa (by rw[Sg.o]),hbw2⟩
   ·have Po:=qH (HT.o hbg);clear hbg;go_wp2;go_roundw;case rel=>exact⟨k+1,by go_num,by omega,Po.o,hbw2⟩
    case measure=>simp[intOf];omega
  ·have HZ:=qS (ds.all aB=true) (by rw[List.all_eq_true];intro d hd;exact uu.o d (by rw[List.take_of_length_le (by rw[HL.o];omega)];exact hd));have t1: ¬(k:Int)<n:=by omega
   go_wp2;go_ret;exact⟨aa (by rw[HZ.o]),hbel⟩
open Go.Shelf
def vO(w:World)(G F:Nat→Prop)(bj bd:Nat)(j:Jl)(x:az)(e:Ending)(w':World):Prop:= ∃br bi R,e=.returned (.pointer (some ⟨br,0,none⟩))∧dD w' G F R br bj bd bi 0 j x 0∧Below w.heap.size w w'∧(∀b,R b→w.heap.size≤b)∧w.heap.size≤br
theorem fQ(w:World)(G F:Nat→Prop)(bj bd:Nat)(j:Jl)(hj:fo w G F bj bd j)(ag idle:Int)(hmx:aM w):Calls Tryz.prog 17 #[.pointer (some ⟨bj,0,none⟩),.int .i64 ag,.int .i64 idle] w (vO w G F bj bd j (az.new ag idle)):=by
 have HJ:=qH hj;have wQ:=hmx.lt;clear hj hmx;go_enter Tryz.func17,Tryz.ntmps17;go_wp2_with fail;refine(sF w ag idle).mono ?_;rintro r w1⟨bi,R,rfl,hI,hb1,hR⟩;have HI:=qH hI;have HR:=qH hR;have hs1:=hb1.size;have hbq:Below w1.heap.size w1 (w1.alloc (ym bj bi 0)):=(Below.refl _ _).alloc (Nat.le_refl _) _;have hjl:=HJ.o.lt;have hRl: ∀b,R b→b<w1.heap.size:=by obtain⟨A,_,_,_,_,_,h6⟩:=hI;exact h6
 have HP:=qS (vO w G F bj bd j (az.new ag idle) (.returned (.pointer (some ⟨w1.heap.size,0,none⟩))) (w1.alloc (ym bj bi 0))) (⟨w1.heap.size,bi,R,rfl,⟨(HJ.o.up hb1).up hbq,hI.up hbq,heap_alloc_new w1 _,fun h=>by
  rcases h with h|h|h;·have:=hjl _ (.inl h);omega
  ·have:=hjl _ (.inr h);omega
  ·have:=hRl _ h;omega,fun b hb hg=>by have:=hjl b hg;have:=hR b hb;omega,fun h=>by have:=hR _ h;omega⟩,hb1.trans (hbq.mono hs1),hR,hs1⟩);clear hI hR hb1 hbq hjl hRl;go_wp2;go_ret;exact HP.o
theorem oZ(w:World)(G F R:Nat→Prop)(br bj bd bi N:Nat)(j:Jl)(x:az)(off:Nat)(h:dD w G F R br bj bd bi N j x off):Calls Tryz.prog 20 #[.pointer (some ⟨br,0,none⟩)] w fun e w'=>e=.returned (.int .i64 off)∧w=w':=by obtain⟨_,_,c2⟩:=h.cells;clear h;go_enter Tryz.func20,Tryz.ntmps20;go_wp2;go_ret;exact⟨rfl,rfl⟩
def Bo(k:Nat):List Ev:=(List.range k).map fun(i:Nat)=>⟨[115],(i:Int)+1,(i:Int)+1,0,[112],[120],0,[]⟩
theorem GI(k:Nat):Bo (k+1)=Bo k++[⟨[115],(k:Int)+1,(k:Int)+1,0,[112],[120],0,[]⟩]:=by unfold Bo;rw[List.range_succ,List.map_append];rfl
theorem JU:(Bo 3).all aB=true:=by decide+kernel
def xy(w:World)(v i:Value)(wr:World):Prop:= ∃k:Nat,i=.int .i64 ((k:Int)+1)∧k≤3∧aU wr w.heap.size v (Bo k)∧RowKit.Below w.heap.size w wr
theorem iV(w:World)(hmx:aM w):Calls Tryz.prog 8 #[] w (Says true w):=by
 have dO:=qH hmx;clear hmx;obtain⟨i0,hi,hz0,hz1,hz2⟩:=info_parts jX;have HI:=qH hi;have HZ0:=qH hz0;have HZ1:=qH hz1;have HZ2:=qH hz2;clear hi hz0 hz1 hz2;have HST:=qS (xy w (.slice none 0 0) (.int .i64 1) w) (⟨0,rfl,Nat.zero_le _,World.ownsRow_nil _ _ _ _,Below.refl _ _⟩);go_enter Tryz.func8,Tryz.ntmps8;go_wp2;go_loopw[1,2](fun v i wr=>xy w v i wr)(fun _ i _=>4-(intOf i).toNat);case atStart=>exact HST.o
 case round=>
  obtain⟨k,rfl,hk,ho,hbel⟩:=hrel;have HO:=qH ho;have HB:=qH hbel;have qX:=hbel.size;clear ho HST;by_cases hkn:k<3
  ·have t1:(k:Int)+1≤3:=by omega
   have hlen:(Bo k).length=k:=by unfold Bo;simp
   have fH:=qH (GI k);obtain⟨y,hy⟩: ∃y:Ev,y=⟨[115],(k:Int)+1,(k:Int)+1,0,[112],[120],0,[]⟩:=⟨_,rfl⟩;have HY:=qH hy;rw[←hy]at fH;have WR:=qS (y.cells=[.string ⟨#[115]⟩,.int .i64 ((k:Int)+1),.int .i64 ((k:Int)+1),.int .i64 0,.string ⟨#[112]⟩,.string ⟨#[120]⟩,.int .i64 0,.string ⟨#[]⟩]) (by rw[hy];rfl);clear hy;generalize Bo k=out at*;clear hbel;go_wp2_with(at_builtin;refine aJ (P:=Tryz.prog) rfl (.tmp 9) (.tmp 13) 22 rfl 28 i0 _ 8 96 Tryz.underlying22 HI.o HZ0.o HZ1.o HZ2.o rfl (by decide) w.heap.size _ out.length (au out) rfl ?c1 (wr.heap.size+1) _ _ _ y.cells rfl ?c2 (cells_one y) ?c4 ?c5 ?c6 ?_);case c1=>exact World.ownsRow.alloc HO.o _
   case c2=>rw[WR.o];exact aI.new wr _ _ (by unfold maxLen;omega) rfl
   case c4=>unfold maxLen;omega
   case c5=>omega
   case c6=>first|omega|(simp;omega)
   intro v' w3 hown3 hg3 hvv;have hown4:aU w3 w.heap.size v' (out++[y]):=by unfold aU;rw[gG,List.length_append,hlen];exact hown3
   have gI:=qS (xy w v' (.int .i64 (((k+1:Nat):Int)+1)) w3) (⟨k+1,rfl,by omega,by rw[fH.o];exact hown4,Below.grown (HB.o.alloc qX _) hg3 (by simp;omega) (fun k' hk'=>(World.ownsRow.lt HO.o k' hk').1)⟩);have HI2:=qS ((((k+1:Nat):Int)+1)=(k:Int)+1+1) (by omega);clear hown3 hown4 hg3 hvv;go_wp2;go_roundw;case rel=>rw[←HI2.o];exact gI.o
   case measure=>simp[intOf];omega
  ·have hk3:k=3:=by omega
   subst hk3;have hl3:(Bo 3).length=3:=rfl;obtain⟨A1,c1,hv,_⟩:=HO.o.form;subst hv;have HE:=qS (eD wr wr.heap.size A1 (Bo 3).length c1 (Bo 3)) (aI.bz HO.o);rw[hl3]at HE⊢;have M9:=qH (dO.o.up HB.o);clear hbel HO hkn hk;go_wp2_with fail;refine(jv wr A1 3 c1 (Bo 3) HE.o (by omega) JU 2 (by omega) (by omega) M9.o).mono ?_;rintro r w1⟨bd,bj,G,F,j,rfl,hj1,hn1,hb1,hes1⟩;have P8:=qH hj1;have uw:=qH hes1;have HB1:=qH (HB.o.trans (hb1.mono qX));have SQ:=qH (dO.o.up HB1.o);clear hj1 hn1 hb1 hes1;go_wp2_with fail;refine(fQ w1 G F bj bd j P8.o 0 0 SQ.o).mono ?_;rintro r w2⟨br,bi,R,rfl,hr2,hb2,hR2,hbr2⟩;have HR2:=qH hr2;have hs1:=HB1.o.size;have HB2:=qH (HB1.o.trans (hb2.mono hs1));have Fp:=qS ((∀b,R b→w.heap.size≤b)∧w.heap.size≤br) (⟨fun b hb=>by have:=hR2 b hb;omega,by omega⟩);have hs2:=HB2.o.size;clear hr2 hb2 hR2 hbr2;go_wp2_with fail;refine(bG w2 G F R br bj bd bi 0 j _ 0 HR2.o (Bo 3) uw.o 2 2 (by rw[hl3];decide) (by omega) (by rw[hl3];omega) (by omega) (dO.o.up HB2.o)).mono ?_;rintro r w3⟨rfl,R3,hr3,hk3,JN⟩;have HR3:=qH hr3;have HB3:=qH (HB2.o.trans (hk3.below hs2 (fun b hb hg=>by rcases hg with h|h;(·have:=Fp.o.1 b h;omega);(·have:=Fp.o.2;omega))));have PW:=qS (∀b,R3 b→w.heap.size≤b) (fun b hb=>(JN b hb).elim (Fp.o.1 b) (fun h=>by omega));have hs3:=HB3.o.size;generalize av (az.new 0 0) _=x3 at*;clear hr3 hk3 JN;go_wp2_with fail;refine(bG w3 G F R3 br bj bd bi _ j _ _ HR3.o (Bo 3) uw.o 9 1 (by rw[hl3];decide) (by rw[hl3];omega) (by rw[hl3];omega) (by omega) (dO.o.up HB3.o)).mono ?_;rintro r w4⟨rfl,R4,hr4,hk4,Um⟩;have HR4:=qH hr4;have fA:=qH (HB3.o.trans (hk4.below hs3 (fun b hb hg=>by rcases hg with h|h;(·have:=PW.o b h;omega);(·have:=Fp.o.2;omega))));have Xv:=qS (∀b,R4 b→w.heap.size≤b) (fun b hb=>(Um b hb).elim (PW.o b) (fun h=>by omega));have hs4:=fA.o.size;generalize av x3 _=x4 at*;clear hr4 hk4 Um;go_wp2_with fail;refine(bG w4 G F R4 br bj bd bi _ j _ _ HR4.o (Bo 3) uw.o 1 0 (by rw[hl3];decide) (by rw[hl3];omega) (by rw[hl3];omega) (by omega) (dO.o.up fA.o)).mono ?_;rintro r w5⟨rfl,R5,hr5,hk5,QE⟩;have Km:=qH hr5;have jJ:=qH (fA.o.trans (hk5.below hs4 (fun b hb hg=>by rcases hg with h|h;(·have:=Xv.o b h;omega);(·have:=Fp.o.2;omega))));generalize av x4 _=x5 at*;clear hr5 hk5 QE;go_wp2_with fail;refine(oZ w5 G F R5 br bj bd bi _ j _ _ Km.o).mono ?_;rintro r w6⟨rfl,rfl⟩;go_wp2;go_ret;exact⟨rfl,jJ.o⟩
def ow(ds:List Ev):Bool:=decide (ds.length≤30)&&!ds.any (fun d=>gN d 300)&&ds.all aB
theorem qM{ds:List Ev}(h:ds.any (fun d=>gN d 300)=false): ∀e∈ds,e.small:=fun e he=>by have:=List.any_eq_false.1 h e he;unfold gN at this;simp only[Bool.or_eq_true,decide_eq_true_eq,not_or,Int.not_lt]at this;exact⟨by omega,by omega,by omega,by omega⟩
theorem lM(w:World)(A:Option Addr)(n c:Nat)(ds:List Ev)(h:eD w w.heap.size A n c ds)(hn:n≤140737488355328):Calls Tryz.prog 9 #[.slice A n c] w (Says (ow ds) w):=by
 have HH:=qH h;have HF:=qS (ow ds=(decide (n≤30)&&!ds.any (fun d=>gN d 300)&&ds.all aB)) (by unfold ow;rw[h.len]);clear h;by_cases h30:n≤30
 ·have t1:(n:Int)≤30:=by omega
  have HD:=qS (decide (n≤30)=true) (by simp[h30]);go_enter Tryz.func9,Tryz.ntmps9;go_wp2_with fail;refine(FJ w A n c ds HH.o hn 300).mono ?_;rintro r w1⟨rfl,hb1⟩;have HS:=qH (@qM ds);cases hs:ds.any (fun d=>gN d 300);·have xD:=qH (HS.o hs);have Ad:=qS (ow ds=ds.all aB) (by rw[HF.o,HD.o,hs];rfl);have HE:=qS (eD w1 w1.heap.size A n c ds) (aI.more (aI.below HH.o hb1) hb1.size);clear hs;go_wp2_with fail;refine(EJ w1 A n c ds HE.o hn xD.o).mono ?_;rintro r w2⟨rfl,hb2⟩;have hbw:Below w.heap.size w w2:=hb1.trans (hb2.mono hb1.size);clear hb2;generalize ds.all aB=b at*;go_wp2;go_ret;exact⟨aa Ad.o.symm,hbw⟩
  ·have Ad:=qS (ow ds=false) (by rw[HF.o,HD.o,hs];rfl);clear hs;go_wp2;go_ret;exact⟨aa Ad.o.symm,hb1⟩
 ·have t1: ¬(n:Int)≤30:=by omega
  have HD:=qS (ow ds=false) (by rw[HF.o,decide_eq_false h30];rfl);go_enter Tryz.func9,Tryz.ntmps9;go_wp2;go_ret;exact⟨aa HD.o.symm,Below.refl _ _⟩
def zL(w:World)(N:Nat)(x:az)(e:Ending)(w':World):Prop:= ∃bi R,e=.returned (.tuple #[.pointer (some ⟨bi,0,none⟩),.int .i64 0])∧aS w' R bi N x∧RowKit.Below w.heap.size w w'∧ ∀b,R b→w.heap.size≤b
theorem mP(w:World)(G F:Nat→Prop)(bj bd:Nat)(j:Jl)(hj:fo w G F bj bd j)(ds:List Ev)(hes:j.es=ds.map some)(ag idle:Int)(off:Nat)(hoff:off≤ds.length)(hlen:ds.length≤60)(hmx:aM w):Calls Tryz.prog 12 #[.pointer (some ⟨bj,0,none⟩),.int .i64 ag,.int .i64 idle,.int .i64 off] w (zL w (2*off) (av (az.new ag idle) (ds.take off))):=by
 have HJ:=qH hj;have dO:=qH hmx;have uw:=qH hes;have NS:=qS (j.es.length=ds.length) (by rw[hes,List.length_map]);have xI:=qH (pG w G F bj bd j hj);rw[NS.o]at xI;have t1: ¬(off:Int)<0:=by omega
 have t2: ¬(ds.length:Int)<off:=by omega
 clear hj hmx hes;go_enter Tryz.func12,Tryz.ntmps12;go_wp2_with fail;refine xI.o.mono ?_;rintro r w1⟨rfl,rfl⟩;go_wp2_with fail;refine(fQ w G F bj bd j HJ.o ag idle dO.o).mono ?_;rintro r w2⟨br,bi,R,rfl,hr2,hb2,hR2,hbr2⟩;have HR2:=qH hr2;have HB2:=qH hb2;have Fp:=qS ((∀b,R b→w.heap.size≤b)∧w.heap.size≤br) (⟨hR2,hbr2⟩);have hs2:=hb2.size;clear hr2 hb2 hR2 hbr2;go_wp2_with fail;refine(bG w2 G F R br bj bd bi 0 j _ 0 HR2.o ds uw.o off off (by omega) (by omega) hlen (by omega) (dO.o.up HB2.o)).mono ?_;rintro r w3⟨rfl,R3,hr3,hk3,JN⟩;obtain⟨_,c1,_⟩:=hr3.cells;have HP:=qS (zL w (2*off) (av (az.new ag idle) (ds.take off)) (.returned (.tuple #[.pointer (some ⟨bi,0,none⟩),.int .i64 0])) w3) (by refine⟨bi,R3,rfl,?_,HB2.o.trans (hk3.below hs2 (fun b hb hg=>by rcases hg with h|h;(·have:=Fp.o.1 b h;omega);(·have:=Fp.o.2;omega))),fun b hb=>(JN b hb).elim (Fp.o.1 b) (fun h=>by omega)⟩;have:=hr3.it;rw[List.drop_zero,Nat.zero_add]at this;exact this);clear hr3 hk3 JN;generalize av (az.new ag idle) _=x3 at*;go_wp2;exact bodyPost_ret (v:=.tuple #[.pointer (some ⟨bi,0,none⟩),.int .i64 0]) (by simp[results,Tryz.results12,go_sem]) rfl HP.o
end Go.Proofs.YtladegonienapaaGreatDoor
