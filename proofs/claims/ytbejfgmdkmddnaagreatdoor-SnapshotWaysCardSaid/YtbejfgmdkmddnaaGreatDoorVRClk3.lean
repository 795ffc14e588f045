/-
  Layer 6, the document's clock: Tick, place.
-/
import Derived.Deep.RegionLaw
import Derived.Test.YtbejfgmdkmddnaaGreatDoorVClkHear
import Derived.BigRegion
import Derived.Deep.DeepCutAuto
set_option maxRecDepth 100000
set_option maxHeartbeats 16000000
namespace Go.Proofs.YtbejfgmdkmddnaaGreatDoor
open Go.RowKit
theorem rn06(w:World)(l:List UInt8)(hm:l.length≤1000000000):Calls Tryz.prog 177 #[.string ⟨l.toArray⟩] w fun e w'=>e=.returned (.bool (ag l))∧w=w':=by
 go_enter Tryz.func177,Tryz.ntmps177;go_wp2;go_loop[3](fun i=> ∃k:Nat,i=.int .i64 k∧k≤l.length∧Hid (∀j(hj:j<l.length),j<k→eG l[j]=true))(fun i=>l.length-(intOf i).toNat);case atStart=>exact⟨0,rfl,Nat.zero_le _,fun j _ h=>by omega⟩
 case round=>
  obtain⟨k,rfl,hk,HK⟩:=hrel;by_cases hkn:k<l.length
  ·have g0:(⟨l.toArray⟩:ByteArray)[k]'(by simpa[ByteArray.size]using hkn)=l[k]:=rfl;have HC:=qS (eG l[k]=((decide (97≤l[k].toNat)&&decide (l[k].toNat≤122))||(decide (48≤l[k].toNat)&&decide (l[k].toNat≤57))||decide (l[k].toNat=45))) (rfl);have HB:=qH (fun h=>qj (l:=l) k hkn h);have HN:=qS (∀h:eG l[k]=true,∀j(hj:j<l.length),j<k+1→eG l[j]=true) (fun h j hj hlt=>by
    by_cases e:j=k;·subst e;exact h
    ·exact HK.o j hj (by omega));have hx:=l[k].toNat_lt;generalize hc:eG l[k]=cc at*;clear hc;generalize Sk:l[k]=x at*;clear Sk;have hcc:cc=true∨cc=false:=by cases cc<;>simp
   rcases hcc with hcc|hcc
   ·have nG:Hid (((97≤x.toNat∧x.toNat≤122)∨(48≤x.toNat∧x.toNat≤57))∨x.toNat=45):=by have:=HC.o;rw[hcc]at this;unfold Hid;simpa using this.symm
    have Gw:=qH (HN.o hcc);clear hcc HC HB HN;rcases nG.o with(⟨a1,a2⟩|⟨a1,a2⟩)|a1
    ·have b1:decide (97≤(x.toNat:Int))=true:=decide_eq_true (by omega);have b2:decide ((x.toNat:Int)≤122)=true:=decide_eq_true (by omega);go_wp2;go_round;case rel=>exact⟨k+1,by go_num,by omega,Gw.o⟩
     case measure=>simp[intOf];omega
    ·have b1:decide (97≤(x.toNat:Int))=false:=decide_eq_false (by omega);have b2:decide (48≤(x.toNat:Int))=true:=decide_eq_true (by omega);have b3:decide ((x.toNat:Int)≤57)=true:=decide_eq_true (by omega);go_wp2;go_round;case rel=>exact⟨k+1,by go_num,by omega,Gw.o⟩
     case measure=>simp[intOf];omega
    ·have b1:decide (97≤(x.toNat:Int))=false:=decide_eq_false (by omega);have b2:decide (48≤(x.toNat:Int))=false:=decide_eq_false (by omega);have b3:((x.toNat:Int)!=45)=false:=by simp;omega
     have A1:=qH a1;clear a1;go_wp2;go_round;case rel=>exact⟨k+1,by go_num,by omega,Gw.o⟩
     case measure=>simp[intOf];omega
   ·have nG:Hid (¬(((97≤x.toNat∧x.toNat≤122)∨(48≤x.toNat∧x.toNat≤57))∨x.toNat=45)):=by
     have:=HC.o;rw[hcc]at this;unfold Hid;intro hh;have h2:(decide (97≤x.toNat)&&decide (x.toNat≤122)||decide (48≤x.toNat)&&decide (x.toNat≤57)||decide (x.toNat=45))=true:=by simpa using hh
     rw[h2]at this;cases this
    have hB:=HB.o hcc;have si:=qH hB;clear hcc HC HN HB hB;have b5:((x.toNat:Int)!=45)=true:=by have:=nG.o;simp;omega
    have hcases:(123≤x.toNat)∨(97>x.toNat∧58≤x.toNat)∨(x.toNat<48):=by have:=nG.o;omega
    rcases hcases with a1|⟨a1,a2⟩|a1;·have b1:decide (97≤(x.toNat:Int))=true:=decide_eq_true (by omega);have b2:decide ((x.toNat:Int)≤122)=false:=decide_eq_false (by omega);have b3:decide (48≤(x.toNat:Int))=true:=decide_eq_true (by omega);have b4:decide ((x.toNat:Int)≤57)=false:=decide_eq_false (by omega);go_wp2;go_ret;rw[si.o];exact⟨rfl,rfl⟩
    ·have b1:decide (97≤(x.toNat:Int))=false:=decide_eq_false (by omega);have b3:decide (48≤(x.toNat:Int))=true:=decide_eq_true (by omega);have b4:decide ((x.toNat:Int)≤57)=false:=decide_eq_false (by omega);go_wp2;go_ret;rw[si.o];exact⟨rfl,rfl⟩
    ·have b1:decide (97≤(x.toNat:Int))=false:=decide_eq_false (by omega);have b3:decide (48≤(x.toNat:Int))=false:=decide_eq_false (by omega);go_wp2;go_ret;rw[si.o];exact⟨rfl,rfl⟩
  ·by_cases h1:l.length<1;·have hB:=dN (l:=l) (.inl h1);have si:=qH hB;clear hB;have d1:decide (1≤(l.length:Int))=false:=decide_eq_false (by omega);go_wp2;go_ret;rw[si.o];exact⟨rfl,rfl⟩
   by_cases h24:24<l.length;·have hB:=dN (l:=l) (.inr h24);have si:=qH hB;clear hB;have d1:decide (1≤(l.length:Int))=true:=decide_eq_true (by omega);have d2:decide ((l.length:Int)≤24)=false:=decide_eq_false (by omega);go_wp2;go_ret;rw[si.o];exact⟨rfl,rfl⟩
   have hB:ag l=true:=kW (by omega) (by omega) (fun j hj=>HK.o j hj (by omega));have si:=qH hB;clear hB;have d1:decide (1≤(l.length:Int))=true:=decide_eq_true (by omega);have d2:decide ((l.length:Int)≤24)=true:=decide_eq_true (by omega);go_wp2;go_ret;rw[si.o];exact⟨rfl,rfl⟩
theorem rn07(w:World)(l:List UInt8)(hm:l.length≤1000000000):Calls Tryz.prog 213 #[.string ⟨l.toArray⟩] w fun e w'=>e=.returned (.bool (ag l))∧w=w':=by
 go_enter Tryz.func213,Tryz.ntmps213;go_wp2;go_loop[3](fun i=> ∃k:Nat,i=.int .i64 k∧k≤l.length∧Hid (∀j(hj:j<l.length),j<k→eG l[j]=true))(fun i=>l.length-(intOf i).toNat);case atStart=>exact⟨0,rfl,Nat.zero_le _,fun j _ h=>by omega⟩
 case round=>
  obtain⟨k,rfl,hk,HK⟩:=hrel;by_cases hkn:k<l.length
  ·have g0:(⟨l.toArray⟩:ByteArray)[k]'(by simpa[ByteArray.size]using hkn)=l[k]:=rfl;have HC:=qS (eG l[k]=((decide (97≤l[k].toNat)&&decide (l[k].toNat≤122))||(decide (48≤l[k].toNat)&&decide (l[k].toNat≤57))||decide (l[k].toNat=45))) (rfl);have HB:=qH (fun h=>qj (l:=l) k hkn h);have HN:=qS (∀h:eG l[k]=true,∀j(hj:j<l.length),j<k+1→eG l[j]=true) (fun h j hj hlt=>by
    by_cases e:j=k;·subst e;exact h
    ·exact HK.o j hj (by omega));have hx:=l[k].toNat_lt;generalize hc:eG l[k]=cc at*;clear hc;generalize Sk:l[k]=x at*;clear Sk;have hcc:cc=true∨cc=false:=by cases cc<;>simp
   rcases hcc with hcc|hcc
   ·have nG:Hid (((97≤x.toNat∧x.toNat≤122)∨(48≤x.toNat∧x.toNat≤57))∨x.toNat=45):=by have:=HC.o;rw[hcc]at this;unfold Hid;simpa using this.symm
    have Gw:=qH (HN.o hcc);clear hcc HC HB HN;rcases nG.o with(⟨a1,a2⟩|⟨a1,a2⟩)|a1
    ·have b1:decide ((x.toNat:Int)<97)=false:=decide_eq_false (by omega);have b2:decide (122<(x.toNat:Int))=false:=decide_eq_false (by omega);go_wp2;go_round;case rel=>exact⟨k+1,by go_num,by omega,Gw.o⟩
     case measure=>simp[intOf];omega
    ·have b1:decide ((x.toNat:Int)<97)=true:=decide_eq_true (by omega);have b2:decide ((x.toNat:Int)<48)=false:=decide_eq_false (by omega);have b3:decide (57<(x.toNat:Int))=false:=decide_eq_false (by omega);go_wp2;go_round;case rel=>exact⟨k+1,by go_num,by omega,Gw.o⟩
     case measure=>simp[intOf];omega
    ·have b1:decide ((x.toNat:Int)<97)=true:=decide_eq_true (by omega);have b2:decide ((x.toNat:Int)<48)=true:=decide_eq_true (by omega);have b3:((x.toNat:Int)!=45)=false:=by simp;omega
     have A1:=qH a1;clear a1;go_wp2;go_round;case rel=>exact⟨k+1,by go_num,by omega,Gw.o⟩
     case measure=>simp[intOf];omega
   ·have nG:Hid (¬(((97≤x.toNat∧x.toNat≤122)∨(48≤x.toNat∧x.toNat≤57))∨x.toNat=45)):=by
     have:=HC.o;rw[hcc]at this;unfold Hid;intro hh;have h2:(decide (97≤x.toNat)&&decide (x.toNat≤122)||decide (48≤x.toNat)&&decide (x.toNat≤57)||decide (x.toNat=45))=true:=by simpa using hh
     rw[h2]at this;cases this
    have hB:=HB.o hcc;have si:=qH hB;clear hcc HC HN HB hB;have b5:((x.toNat:Int)!=45)=true:=by have:=nG.o;simp;omega
    have hcases:(123≤x.toNat)∨(97>x.toNat∧58≤x.toNat)∨(x.toNat<48):=by have:=nG.o;omega
    rcases hcases with a1|⟨a1,a2⟩|a1;·have b1:decide ((x.toNat:Int)<97)=false:=decide_eq_false (by omega);have b2:decide (122<(x.toNat:Int))=true:=decide_eq_true (by omega);have b3:decide ((x.toNat:Int)<48)=false:=decide_eq_false (by omega);have b4:decide (57<(x.toNat:Int))=true:=decide_eq_true (by omega);go_wp2;go_ret;rw[si.o];exact⟨rfl,rfl⟩
    ·have b1:decide ((x.toNat:Int)<97)=true:=decide_eq_true (by omega);have b3:decide ((x.toNat:Int)<48)=false:=decide_eq_false (by omega);have b4:decide (57<(x.toNat:Int))=true:=decide_eq_true (by omega);go_wp2;go_ret;rw[si.o];exact⟨rfl,rfl⟩
    ·have b1:decide ((x.toNat:Int)<97)=true:=decide_eq_true (by omega);have b3:decide ((x.toNat:Int)<48)=true:=decide_eq_true (by omega);go_wp2;go_ret;rw[si.o];exact⟨rfl,rfl⟩
  ·by_cases h1:l.length<1;·have hB:=dN (l:=l) (.inl h1);have si:=qH hB;clear hB;have d1:decide (1≤(l.length:Int))=false:=decide_eq_false (by omega);go_wp2;go_ret;rw[si.o];exact⟨rfl,rfl⟩
   by_cases h24:24<l.length;·have hB:=dN (l:=l) (.inr h24);have si:=qH hB;clear hB;have d1:decide (1≤(l.length:Int))=true:=decide_eq_true (by omega);have d2:decide ((l.length:Int)≤24)=false:=decide_eq_false (by omega);go_wp2;go_ret;rw[si.o];exact⟨rfl,rfl⟩
   have hB:ag l=true:=kW (by omega) (by omega) (fun j hj=>HK.o j hj (by omega));have si:=qH hB;clear hB;have d1:decide (1≤(l.length:Int))=true:=decide_eq_true (by omega);have d2:decide ((l.length:Int)≤24)=true:=decide_eq_true (by omega);go_wp2;go_ret;rw[si.o];exact⟨rfl,rfl⟩
open Go.Maps Go.Sort
def cu(p:List UInt8×Int×Int):List Value:=[.string ⟨p.1.toArray⟩,.int .i64 p.2.1,.int .i64 p.2.2]
def aB(l:Row (Int×Int)):List Value:=l.flatMap cu
theorem xe(l:Row (Int×Int)):(aB l).length=l.length*3:=by induction l with|nil=>rfl|cons p l ih=>simp only[aB,List.flatMap_cons,List.length_append,List.length_cons]at*;rw[ih];simp[cu];omega
theorem xg(a b:Row (Int×Int)):aB (a++b)=aB a++aB b:=by simp[aB]
theorem Ca(l:Row (Int×Int))(k j:Nat)(hk:k<l.length)(hj:j<3):(aB l)[k*3+j]?=(cu l[k])[j]?:=by induction l generalizing k with|nil=>simp at hk|cons p l ih=>have hc:(cu p).length=3:=rfl;simp only[aB,List.flatMap_cons];cases k with|zero=>rw[Nat.zero_mul,Nat.zero_add,List.getElem?_append_left (by omega)];rfl|succ k=>rw[List.getElem?_append_right (by omega),hc,show(k+1)*3+j-3=k*3+j by omega];exact ih k (by simpa using hk)
def Gl(w:World)(B:Nat)(A:Option Addr)(n c:Nat)(l:Row (Int×Int)):Prop:=az w B 3 A n c (aB l)
theorem Gl.len{w:World}{B n c:Nat}{A:Option Addr}{l:Row (Int×Int)}(h:Gl w B A n c l):l.length=n:=by have:=az.len h;rw[xe]at this;omega
theorem Gl.at_{w:World}{B n c:Nat}{A:Option Addr}{l:Row (Int×Int)}(h:Gl w B A n c l)(k:Nat)(hk:k<l.length): ∃b off,A=some ⟨b,off,none⟩∧b<B∧w.cell? ⟨b,off+k*3,none⟩=some (.string ⟨l[k].1.toArray⟩)∧w.cell? ⟨b,off+k*3+1,none⟩=some (.int .i64 l[k].2.1)∧w.cell? ⟨b,off+k*3+2,none⟩=some (.int .i64 l[k].2.2):=by
 have hl:=h.len;obtain⟨b,off,e,hb,hc⟩:=az.cell h (by omega);have key: ∀j u,j<3→(cu l[k])[j]?=some u→w.cell? ⟨b,off+k*3+j,none⟩=some u:=fun j u hj hu=>by rw[Nat.add_assoc];exact hc _ u (by rw[Ca l k j hk hj,hu])
 exact⟨b,off,e,hb,key 0 _ (by omega) rfl,key 1 _ (by omega) rfl,key 2 _ (by omega) rfl⟩
abbrev qf(c:aZ)(vL:Value):Obj:=.cells #[.int .i64 c.aa,.int .i64 c.idle,.int .i64 c.now,.int .i64 c.mark,vL] 59
structure iO(w:World)(bc:Nat)(S:Nat→Prop)(N:Nat)(c:aZ):Prop where
 view: ∃A n cp,w.heap[bc]?=some (qf c (.slice A n cp))∧Gl w w.heap.size A n cp c.src∧lF S A n
 ns: ¬S bc
 low: ∀b,S b→b<w.heap.size
 ok:fD c
 len:c.src.length≤N
theorem yP(w:World)(n:Int):Calls Tryz.prog 131 #[.int .i64 n] w fun e w'=>e=.returned (.int .i64 (df n))∧w'=w:=by
 by_cases h:n<0;·go_enter Tryz.func131,Tryz.ntmps131;go_wp2;go_ret;exact⟨aQ (by unfold df;omega),rfl⟩
 by_cases h2:1099511627776<n;·go_enter Tryz.func131,Tryz.ntmps131;go_wp2;go_ret;exact⟨aQ (by unfold df;omega),rfl⟩
 ·go_enter Tryz.func131,Tryz.ntmps131;go_wp2;go_ret;exact⟨aQ (by unfold df;omega),rfl⟩
def NR(p:List UInt8×Int×Int):Value:=.agg #[.string ⟨p.1.toArray⟩,.int .i64 p.2.1,.int .i64 p.2.2]
abbrev x8(p:List UInt8×Int×Int):Obj:=.cells #[.string ⟨p.1.toArray⟩,.int .i64 p.2.1,.int .i64 p.2.2] 122
theorem Oe(w:World)(bc:Nat)(idle now:Int)(h1:w.cell? ⟨bc,1,none⟩=some (.int .i64 idle))(h2:w.cell? ⟨bc,2,none⟩=some (.int .i64 now))(p:List UInt8×Int×Int)(hn:0≤now∧now≤1099511627776)(hp:0≤p.2.2∧p.2.2≤now):Calls Tryz.prog 183 #[.pointer (some ⟨bc,0,none⟩),NR p] w (Says (lU idle now p.2) w):=by
 have hlt:bc<w.heap.size:=World.block_lt_of_cell? w ⟨bc,1,none⟩ h1;have hb:Below w.heap.size w (w.alloc (x8 p)):=(Below.refl _ _).alloc (Nat.le_refl _) _;have c1:(w.alloc (x8 p)).cell? ⟨bc,1,none⟩=some (.int .i64 idle):=(hb.cell (p:=⟨bc,1,none⟩) hlt).trans h1;have c2:(w.alloc (x8 p)).cell? ⟨bc,2,none⟩=some (.int .i64 now):=(hb.cell (p:=⟨bc,2,none⟩) hlt).trans h2;have c3:(w.alloc (x8 p)).cell? ⟨w.heap.size,2,none⟩=some (.int .i64 p.2.2):=(cell_of_row _ w.heap.size 2 _ _ (0,0) (heap_alloc_new w (x8 p))).trans rfl;have HA:=qS (lU idle now p.2=(decide (idle=0)||decide (now-p.2.2≤idle))) (rfl);obtain⟨hn1,hn2⟩:=hn;obtain⟨hp1,hp2⟩:=hp;clear h1 h2;unfold NR;by_cases h0:idle=0
 ·have b0:(idle==0)=true:=by simp[h0]
  have HA':=qS (lU idle now p.2=true) (by rw[HA.o,decide_eq_true h0];rfl);clear h0;go_enter Tryz.func183,Tryz.ntmps183;go_wp2;go_quiet(fail);go_wp2;go_ret;exact⟨ae HA'.o.symm,below_drewN hb _⟩
 ·have b0:(idle==0)=false:=by simp[h0]
  have HA':=qS (lU idle now p.2=decide (now-p.2.2≤idle)) (by rw[HA.o,decide_eq_false h0];rfl);clear h0;go_enter Tryz.func183,Tryz.ntmps183;go_wp2;go_quiet(fail);go_wp2;go_ret;exact⟨ae HA'.o.symm,below_drewN hb _⟩
theorem Ff(l:List Int)(x:Int):fG (l++[x])=match fG l with|none=>some x|some y=>some (if x<y then x else y):=by
 induction l with
  |nil=>rfl
  |cons a l ih=>
   simp only[List.cons_append,fG];rw[ih];cases fG l with
    |none=>simp only;congr 1;split<;>split<;>omega
    |some y=>
     simp only;congr 1;by_cases h1:x<y
     ·by_cases h2:a≤x
      ·simp[h1,h2];have:a≤y:=by omega
       simp[this];omega
      ·by_cases h3:a≤y<;>simp[h1,h2,h3]<;>omega
     ·by_cases h3:a≤y;·simp[h1,h3];omega
      ·simp[h1,h3]
def iP(c:aZ):Int:=match c.told with|none=> -2|some m=>if m< -2 then-2 else m
def xI(w:World)(n:Int)(e:Ending)(w':World):Prop:=e=.returned (.int .i64 n)∧Below w.heap.size w w'
structure iE(w:World)(bc:Nat)(c:aZ)(v:Value):Prop where
 c0:w.cell? ⟨bc,0,none⟩=some (.int .i64 c.aa)
 c1:w.cell? ⟨bc,1,none⟩=some (.int .i64 c.idle)
 c2:w.cell? ⟨bc,2,none⟩=some (.int .i64 c.now)
 c3:w.cell? ⟨bc,3,none⟩=some (.int .i64 c.mark)
 c4:w.cell? ⟨bc,4,none⟩=some v
theorem iE.of{w:World}{bc:Nat}{c:aZ}{v:Value}(h:w.heap[bc]?=some (qf c v)):iE w bc c v:=by have key: ∀o,w.cell? ⟨bc,o,none⟩=_:=fun o=>cell_of_row w bc o _ _ (0,0) h;exact⟨(key 0).trans rfl,(key 1).trans rfl,(key 2).trans rfl,(key 3).trans rfl,(key 4).trans rfl⟩
theorem iE.below{w w':World}{B bc:Nat}{c:aZ}{v:Value}(h:iE w bc c v)(hb:Below B w w')(hB:bc<B):iE w' bc c v:=by have key: ∀o u,w.cell? ⟨bc,o,none⟩=some u→w'.cell? ⟨bc,o,none⟩=some u:=fun o u hu=>(hb.cell (p:=⟨bc,o,none⟩) hB).trans hu;exact⟨key _ _ h.c0,key _ _ h.c1,key _ _ h.c2,key _ _ h.c3,key _ _ h.c4⟩
def JQ(o:Option Int)(x:Int):Option Int:=match o with|none=>some x|some y=>some (if x<y then x else y)
theorem Fb(l:List Int)(x:Int):fG (l++[x])=JQ (fG l) x:=Ff l x
def Ja(c:aZ)(l:Row (Int×Int)):List Int:=(l.filter fun p=>lU c.idle c.now p.2).map fun p=>p.2.1-c.aa-1
def Gj(w:World)(c:aZ)(l a i:Value)(wr:World):Prop:= ∃(k:Nat)(o:Option Int),i=.int .i64 k∧k≤c.src.length∧l=.int .i64 (o.getD 0)∧a=.bool o.isSome∧fG (Ja c (c.src.take k))=o∧Below w.heap.size w wr
theorem MW(c:aZ)(k:Nat)(hk:k<c.src.length):Ja c (c.src.take (k+1))=Ja c (c.src.take k)++(if lU c.idle c.now c.src[k].2 then[c.src[k].2.1-c.aa-1]else[]):=by unfold Ja;rw[List.take_add_one,List.getElem?_eq_getElem hk,Option.toList_some,List.filter_append,List.map_append];congr 1;simp only[List.filter_cons,List.filter_nil];split<;>simp
theorem AQ(w:World)(bc:Nat)(S:Nat→Prop)(N:Nat)(c:aZ)(h:iO w bc S N c)(hN:N≤100000):Calls Tryz.prog 132 #[.pointer (some ⟨bc,0,none⟩)] w (xI w (iP c)):=by
 obtain⟨A,n,cp,hblk,hsrc,hvw⟩:=h.view;have hok:=h.ok;obtain⟨hsl1,hsl2⟩:=hok.aa;obtain⟨hnw1,hnw2⟩:=hok.now;have M9:=qH hsrc;have HRC:=qH (iE.of hblk);have jU:=qH h.ok;have hlen:=h.len;have hnl:=hsrc.len;have Dw:=qH hnl;have Yp:bc<w.heap.size:=(Array.getElem?_eq_some_iff.1 hblk).1;have Nv:=qS (iP c=match fG (Ja c c.src)with|none=> -2|some m=>if m< -2 then-2 else m) (rfl);clear hblk hsrc h hok hvw;have hn1:n≤100000:=by omega
 obtain⟨c0,c1,c2,c3,c4⟩:=HRC.o;go_enter Tryz.func132,Tryz.ntmps132;clear hnl;go_wp2;go_loopw[3,4,5](fun l a i wr=>Gj w c l a i wr)(fun _ _ i _=>n-(intOf i).toNat);case atStart=>exact⟨0,none,rfl,Nat.zero_le _,rfl,rfl,rfl,Below.refl _ _⟩
 case round=>
  obtain⟨k,o,rfl,hk,rfl,rfl,ho,hbel⟩:=hrel;have HO:=qH ho;clear ho;obtain⟨d0,d1,d2,d3,d4⟩:=HRC.o.below hbel Yp;clear c0 c1 c2 c3 c4;by_cases hkn:k<n
  ·have hkl:k<c.src.length:=by rw[Dw.o];exact hkn
   obtain⟨b,off,rfl,hb,e0,e1,e2⟩:=M9.o.at_ k hkl;have Ut:=(hbel.cell (p:=⟨b,off+k*3,none⟩) hb).trans e0;have Rf:=(hbel.cell (p:=⟨b,off+k*3+1,none⟩) hb).trans e1;have e2':=(hbel.cell (p:=⟨b,off+k*3+2,none⟩) hb).trans e2;clear e0 e1 e2;obtain⟨_,hp1,hp2,hp3,hp4⟩:=jU.o.src _ (List.getElem_mem hkl);have dx:=qH (MW c k hkl);generalize c.src[k]=p at*;obtain⟨nm,pa,pl⟩:=p;simp only at*;have t1:(k:Int)<n:=by omega
   have w1:IntKind.i64.wrap (pa-c.aa)=pa-c.aa:=IntWalk.i64_in _ (by omega);have w2:IntKind.i64.wrap (pa-c.aa-1)=pa-c.aa-1:=IntWalk.i64_in _ (by omega);go_wp2;go_quiet(fail);have hbq:Below w.heap.size w (wr.drewN nq):=below_drewN hbel nq;have a1:(wr.drewN nq).cell? ⟨bc,1,none⟩=some (.int .i64 c.idle):=d1;have a2:(wr.drewN nq).cell? ⟨bc,2,none⟩=some (.int .i64 c.now):=d2;have a4:(wr.drewN nq).cell? ⟨bc,4,none⟩=some (.slice (some ⟨b,off,none⟩) n cp):=d4;have q0:(wr.drewN nq).cell? ⟨b,off+k*3,none⟩=_:=Ut;have q1:(wr.drewN nq).cell? ⟨b,off+k*3+1,none⟩=_:=Rf;have q2:(wr.drewN nq).cell? ⟨b,off+k*3+2,none⟩=_:=e2';clear d0 d1 d2 d3 d4 Ut Rf e2';generalize wr.drewN nq=w3 at*;go_wp2_with fail;refine(Oe w3 bc c.idle c.now a1 a2 (nm,pa,pl) ⟨hnw1,hnw2⟩ ⟨hp3,hp4⟩).mono ?_;rintro r w4⟨rfl,hb4⟩;have hbw4:Below w.heap.size w w4:=hbq.trans (hb4.mono hbq.size);clear a1 a2 a4 q0 q1 q2 hb4 hbq;simp only;have vT:=qS (fG (Ja c (c.src.take (k+1)))=if lU c.idle c.now (pa,pl)then JQ o (pa-c.aa-1)else o) (by
    rw[dx.o];split;·rw[Fb,HO.o]
    ·rw[List.append_nil,HO.o]);clear dx HO;generalize lU c.idle c.now (pa,pl)=ab at*;generalize pa-c.aa-1=nn at*;cases ab
   ·have HR:=qS (Gj w c (.int .i64 (o.getD 0)) (.bool o.isSome) (.int .i64 ((k+1:Nat):Int)) w4) (⟨k+1,o,rfl,by omega,rfl,rfl,by rw[vT.o];rfl,hbw4⟩);clear vT;go_wp2;go_roundw;case rel=>exact HR.o
    case measure=>simp[intOf];omega
   cases o with
    |none=>
     have HR:=qS (Gj w c (.int .i64 nn) (.bool true) (.int .i64 ((k+1:Nat):Int)) w4) (⟨k+1,some nn,rfl,by omega,rfl,rfl,by rw[vT.o];rfl,hbw4⟩);clear vT;simp only[Option.getD_none,Option.isSome_none];go_wp2;go_roundw;case rel=>exact HR.o
     case measure=>simp[intOf];omega
    |some y=>
     simp only[Option.getD_some,Option.isSome_some];by_cases hny:nn<y
     ·have HR:=qS (Gj w c (.int .i64 nn) (.bool true) (.int .i64 ((k+1:Nat):Int)) w4) (⟨k+1,some nn,rfl,by omega,rfl,rfl,by rw[vT.o];simp[JQ,hny],hbw4⟩);clear vT;go_wp2;go_roundw;case rel=>exact HR.o
      case measure=>simp[intOf];omega
     ·have HR:=qS (Gj w c (.int .i64 y) (.bool true) (.int .i64 ((k+1:Nat):Int)) w4) (⟨k+1,some y,rfl,by omega,rfl,rfl,by rw[vT.o];simp[JQ,hny],hbw4⟩);clear vT;go_wp2;go_roundw;case rel=>exact HR.o
      case measure=>simp[intOf];omega
  ·have t1: ¬(k:Int)<n:=by omega
   have HO':=qS (fG (Ja c c.src)=o) (by have:=HO.o;rw[List.take_of_length_le (by rw[Dw.o];omega)]at this;exact this);cases o with
    |none=>have HR:=qS (iP c= -2) (by rw[Nv.o,HO'.o]);simp only[Option.getD_none,Option.isSome_none];go_wp2;go_ret;exact⟨aQ HR.o.symm,hbel⟩
    |some y=>
     simp only[Option.getD_some,Option.isSome_some];by_cases hy:y< -2;·have HR:=qS (iP c= -2) (by rw[Nv.o,HO'.o];simp[hy]);go_wp2;go_ret;exact⟨aQ HR.o.symm,hbel⟩
     ·have HR:=qS (iP c=y) (by rw[Nv.o,HO'.o];simp[hy]);go_wp2;go_ret;exact⟨aQ HR.o.symm,hbel⟩
theorem iO.stay{w w':World}{bc N:Nat}{S F:Nat→Prop}{c:aZ}(h:iO w bc S N c)(hk:ak F w w')(hF: ∀b,F b→ ¬S b∧b≠bc):iO w' bc S N c:=by obtain⟨⟨A,n,cp,hblk,hsrc,hvw⟩,hns,hlow,hok,hlen⟩:=h;have hlt:bc<w.heap.size:=(Array.getElem?_eq_some_iff.1 hblk).1;exact⟨⟨A,n,cp,(hk.block bc hlt (fun hf=>(hF _ hf).2 rfl)).trans hblk,az.stay hsrc hvw hk.size (fun b off hb hlt=>hk.cell (p:=⟨b,off,none⟩) hlt (fun hf=>(hF _ hf).1 hb)),hvw⟩,hns,fun b hb=>Nat.lt_of_lt_of_le (hlow b hb) hk.size,hok,hlen⟩
theorem iO.wide{w:World}{bc N M:Nat}{S T:Nat→Prop}{c:aZ}(h:iO w bc S N c)(hT: ∀b,S b→T b)(hn: ¬T bc)(hl: ∀b,T b→b<w.heap.size)(hM:N≤M):iO w bc T M c:=by obtain⟨⟨A,n,cp,hblk,hsrc,hvw⟩,hns,hlow,hok,hlen⟩:=h;exact⟨⟨A,n,cp,hblk,hsrc,hvw.mono hT⟩,hn,hl,hok,by omega⟩
theorem iO.lt{w:World}{bc N:Nat}{S:Nat→Prop}{c:aZ}(h:iO w bc S N c):bc<w.heap.size:=by obtain⟨A,n,cp,hblk,_⟩:=h.view;exact(Array.getElem?_eq_some_iff.1 hblk).1
theorem iO.put{w:World}{bc N:Nat}{S:Nat→Prop}{c c':aZ}(h:iO w bc S N c)(o:Nat)(u:Value)(hc':fD c')(hs:c'.src=c.src)(hset: ∀v,(#[Value.int .i64 c.aa,.int .i64 c.idle,.int .i64 c.now,.int .i64 c.mark,v]:Array Value).setIfInBounds o u= #[.int .i64 c'.aa,.int .i64 c'.idle,.int .i64 c'.now,.int .i64 c'.mark,v]):iO (w.setCell ⟨bc,o,none⟩ u) bc S N c':=by
 obtain⟨⟨A,n,cp,hblk,hsrc,hvw⟩,hns,hlow,hok,hlen⟩:=h;refine⟨⟨A,n,cp,?_,?_,hvw⟩,hns,fun b hb=>by have:=hlow b hb;simpa[World.setCell]using this,hc',by rw[hs];exact hlen⟩;·have:=heap_setCell_same w bc o _ _ u hblk;rw[hset]at this;exact this
 ·rw[hs];exact az.stay hsrc hvw (by simp[World.setCell]) (fun b off hb _=>World.cell?_setCell_other w _ _ _ (fun e=>hns (by injection e with e1;rw[e1];exact hb)))
theorem AY{c:aZ}(h:fD c):c.rise={c with mark:=max c.mark (iP c)}:=by have:=h.mark;unfold aZ.rise iP;cases c.told with|none=>simp only;obtain⟨a1,a2,a3,a4,a5⟩:=c;simp only at*;congr 1;omega|some m=>simp only;congr 1;split<;>omega
def M0(w:World)(bc N:Nat)(S:Nat→Prop)(c:aZ)(e:Ending)(w':World):Prop:=e=.returned (.int .i64 c.mark)∧iO w' bc S N c∧ak (·=bc) w w'
theorem uK(w:World)(bc:Nat)(S:Nat→Prop)(N:Nat)(c:aZ)(h:iO w bc S N c)(hN:N≤100000)(now:Int):Calls Tryz.prog 70 #[.pointer (some ⟨bc,0,none⟩),.int .i64 now] w (M0 w bc N S (c.tick now)):=by
 have HC:=qH h;obtain⟨A,n,cp,hblk,hsrc,hvw⟩:=h.view;obtain⟨c0,c1,c2,c3,c4⟩:=iE.of hblk;have f2: ∀o,w.frozen? ⟨bc,o,none⟩=false:=fun o=>frozen_of_row w bc o _ _ hblk;have hbl:=qw now;have hbh:=qy now;have hn:=h.ok.now;have hok:=h.ok;have HT:=qS (c.tick now=({c with now:=max c.now (df now)}:aZ).rise) (rfl);have zz:=qS (fD ({c with now:=max c.now (df now)}:aZ)) (⟨hok.aa,hok.idle,by show 0≤max c.now (df now)∧max c.now (df now)≤1099511627776;omega,hok.mark,hok.rising,fun p hp=>by obtain⟨q1,q2,q3,q4,q5⟩:=hok.src p hp;exact⟨q1,q2,q3,q4,by show p.2.2≤max c.now (df now);omega⟩⟩);clear hblk hsrc hvw h hok;go_enter Tryz.func70,Tryz.ntmps70;go_wp2;go_still_tail 10,(by kernel_rfl);still_call(yP _ _);repeat still_step
 refine wpStill_nil ?_;change wpList _ _ _ _ _ (w.drewN 1);have jG:=qS (iO (w.drewN 1) bc S N c) (HC.o.stay ((ak.refl (fun _=>False) w).drewN 1) (fun _ h=>h.elim));have HK:=qS (ak (·=bc) w (w.drewN 1)) ((ak.refl _ _).drewN 1);have d2:(w.drewN 1).cell? ⟨bc,2,none⟩=some (.int .i64 c.now):=c2;have d3:(w.drewN 1).frozen? ⟨bc,2,none⟩=false:=f2 2;generalize df now=nb at*;generalize w.drewN 1=w1 at*;clear c0 c1 c2 c3 c4 f2;go_upto_region 2 with fail;have dS:=qH (jG.o.put (c':={c with now:=max c.now nb}) 2 (.int .i64 (max c.now nb)) zz.o rfl (fun _=>rfl));have qW:=qH (HK.o.setCell (p:=⟨bc,2,none⟩) (fun _=>rfl) (.int .i64 (max c.now nb)));clear jG HK d2 d3;generalize w1.setCell ⟨bc,2,none⟩ (Value.int IntKind.i64 (max c.now nb))=w2 at*;generalize({c with now:=max c.now nb}:aZ)=c2 at*;obtain⟨A,n,cp,hblk,hsrc,hvw⟩:=dS.o.view;obtain⟨e0,e1,e2,e3,e4⟩:=iE.of hblk;have g3:w2.frozen? ⟨bc,3,none⟩=false:=frozen_of_row w2 bc 3 _ _ hblk;have hlt2:=dS.o.lt;have Nw:=qH (AY zz.o);have BO:=qS (-1≤max c2.mark (iP c2)∧max c2.mark (iP c2)≤1099511627776) (by have:=zz.o.rise.mark;rw[Nw.o]at this;exact this);have Zp:=qH zz.o.rise;have Jp:=qS (Calls Tryz.prog 132 #[.pointer (some ⟨bc,0,none⟩)] w2.drew (xI w2.drew (iP c2))) (AQ w2.drew bc S N c2 (dS.o.stay ((ak.refl (fun _=>False) w2).drewN 1) (fun _ h=>h.elim)) hN);clear hblk hsrc hvw HC zz e0 e1 e2 e4;go_wp2;go_region_law((go_simp;go_at_call 132;refine Jp.o.mono ?_;rintro r w3⟨rfl,hb3⟩;have HB3:=qH hb3;have d3:w3.cell? ⟨bc,3,none⟩=some (.int .i64 c2.mark):=(hb3.cell (p:=⟨bc,3,none⟩) hlt2).trans e3;have k3:w3.frozen? ⟨bc,3,none⟩=false:=(hb3.frozen (p:=⟨bc,3,none⟩) hlt2).trans g3;clear hb3));all_goals
  have om:=qS (iO w3 bc S N c2) (dS.o.stay (F:=fun _=>False) (((ak.refl (fun _=>False) w2).drewN 1).trans (G:=fun _=>False) (ak.of_below (w:=w2.drew) HB3.o) (fun _ _ h=>h)) (fun _ h=>h.elim));have DF:=qS (iO (w3.setCell ⟨bc,3,none⟩ (.int .i64 (max c2.mark (iP c2)))) bc S N (c.tick now)) (by rw[HT.o,Nw.o];refine om.o.put 3 _ ?_ rfl (fun _=>rfl);rw[←Nw.o];exact Zp.o);have HM:=qS ((c.tick now).mark=max c2.mark (iP c2)) (by rw[HT.o,Nw.o]);have xN:=qS (ak (·=bc) w (w3.setCell ⟨bc,3,none⟩ (.int .i64 (max c2.mark (iP c2))))) (((qW.o.drewN 1).trans (G:=fun _=>False) (ak.of_below (w:=w2.drew) HB3.o) (fun _ _ h=>h.elim)).setCell (fun _=>rfl) _);clear om Nw HT dS Jp BO Zp HB3 qW;generalize max c2.mark (iP c2)=mm at*;have q3:(w3.setCell ⟨bc,3,none⟩ (.int .i64 mm)).cell? ⟨bc,3,none⟩=some (.int .i64 mm):=by obtain⟨A,n,cp,hblk,_⟩:=DF.o.view;have h3:=(iE.of hblk).c3;rw[HM.o]at h3;exact h3
  clear d3 k3 e3 g3;generalize w3.setCell ⟨bc,3,none⟩ (.int .i64 mm)=w4 at*;go_wp2;go_ret;exact⟨aQ HM.o.symm,DF.o,xN.o⟩
def gG(l:Row (Int×Int))(s:List UInt8):Nat:=(l.takeWhile fun p=>Op.bytesLess p.1 s).length
def Dq(l:Row (Int×Int))(s:List UInt8):Bool:=(l[gG l s]?).any fun p=>p.1==s
theorem JX{l:Row (Int×Int)}{s:List UInt8}(k:Nat)(hk:k≤l.length)(h1: ∀i(h:i<l.length),i<k→Op.bytesLess l[i].1 s=true)(h2: ∀h:k<l.length,Op.bytesLess l[k].1 s=false):gG l s=k:=by
 have e0:l=l.take k++l.drop k:=(List.take_append_drop k l).symm;unfold gG;conv=>lhs;rw[e0]
 rw[List.takeWhile_append_of_pos (fun x hx=>by obtain⟨i,hi,rfl⟩:=List.getElem_of_mem hx;rw[List.length_take]at hi;rw[List.getElem_take];exact h1 i (by omega) (by omega))];have:(l.drop k).takeWhile (fun p=>Op.bytesLess p.1 s)=[]:=by
  rcases Nat.lt_or_ge k l.length with hlt|hge;·rw[List.drop_eq_getElem_cons hlt,List.takeWhile_cons_of_neg (by rw[h2 hlt];simp)]
  ·rw[List.drop_of_length_le hge];rfl
 rw[this];simp;omega
def Da(w:World)(l:Row (Int×Int))(s:List UInt8)(e:Ending)(w':World):Prop:=e=.returned (.tuple #[.int .i64 (gG l s),.bool (Dq l s)])∧ ∃q,w'=w.drewN q
theorem NY(w:World)(bc:Nat)(S:Nat→Prop)(N:Nat)(c:aZ)(h:iO w bc S N c)(hN:N≤100000)(s:List UInt8):Calls Tryz.prog 178 #[.pointer (some ⟨bc,0,none⟩),.string ⟨s.toArray⟩] w (Da w c.src s):=by
 obtain⟨A,n,cp,hblk,hsrc,hvw⟩:=h.view;obtain⟨c0,c1,c2,c3,c4⟩:=iE.of hblk;have M9:=qH hsrc;have Dw:=qH hsrc.len;have hlen:=h.len;have hn1:n≤100000:=by have:=hsrc.len;omega
 clear hblk hsrc h hvw c0 c1 c2 c3;generalize c.src=l at*;clear hlen;go_enter Tryz.func178,Tryz.ntmps178;go_wp2;go_loop[6](fun i=> ∃k:Nat,i=.int .i64 k∧k≤n∧Hid (∀j(h:j<l.length),j<k→Op.bytesLess l[j].1 s=true))(fun i=>n-(intOf i).toNat);case atStart=>exact⟨0,rfl,Nat.zero_le _,fun j _ h=>by omega⟩
 case round=>
  obtain⟨k,rfl,hk,HK⟩:=hrel;by_cases hkn:k<n
  ·have hkl:k<l.length:=by rw[Dw.o];exact hkn
   obtain⟨b,off,rfl,hb,e0,e1,e2⟩:=M9.o.at_ k hkl;have t1:(k:Int)<n:=by omega
   cases hbl:Op.bytesLess l[k].1 s
   ·have HP:=qH (JX k (by omega) HK.o (fun _=>hbl));have HA:=qS (Dq l s=(l[k].1==s)) (by unfold Dq;rw[HP.o,List.getElem?_eq_getElem hkl];rfl);generalize l[k]=p at*;clear e1 e2;have HR:=qS (∀q,Da w l s (.returned (.tuple #[.int .i64 k,.bool (p.1==s)])) (w.drewN q)) (fun q=>⟨by rw[HP.o,HA.o],q,rfl⟩);clear HA HP;cases hps:(p.1==s);·rw[hps]at HR;go_wp2;go_quiet(fail);go_wp2;go_ret2;exact HR.o _
    ·rw[hps]at HR;go_wp2;go_quiet(fail);go_wp2;go_ret2;exact HR.o _
   ·have HN:=qS (∀j(h:j<l.length),j<k+1→Op.bytesLess l[j].1 s=true) (fun j hj hlt=>by
     by_cases e:j=k;·subst e;exact hbl
     ·exact HK.o j hj (by omega));generalize l[k]=p at*;clear e1 e2;go_wp2;go_round;case rel=>exact⟨k+1,by go_num,by omega,HN.o⟩
    case measure=>simp[intOf];omega
  ·have t1: ¬(k:Int)<n:=by omega
   have HP:=qH (JX (l:=l) (s:=s) k (by rw[Dw.o];omega) HK.o (fun h=>by rw[Dw.o]at h;omega));have HA:=qS (Dq l s=false) (by unfold Dq;rw[HP.o,List.getElem?_eq_none (by rw[Dw.o];omega)];rfl);have HR:=qS (∀q,Da w l s (.returned (.tuple #[.int .i64 k,.bool false])) (w.drewN q)) (fun q=>⟨by rw[HP.o,HA.o],q,rfl⟩);clear HA HP;go_wp2;go_quiet(fail);go_wp2;go_ret2;exact HR.o _
end Go.Proofs.YtbejfgmdkmddnaaGreatDoor
