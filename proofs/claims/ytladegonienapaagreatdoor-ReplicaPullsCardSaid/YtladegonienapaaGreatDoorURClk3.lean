/-
  Layer 6, the document's clock: Tick, place.
-/
import Derived.Deep.RegionLaw
import Derived.Test.YtladegonienapaaGreatDoorUClkHear
import Derived.BigRegion
set_option maxRecDepth 100000
set_option maxHeartbeats 16000000
namespace Go.Proofs.YtladegonienapaaGreatDoor
open Go.RowKit
theorem rn06(w:World)(l:List UInt8)(hm:l.length≤1000000000):Calls Tryz.prog 159 #[.string ⟨l.toArray⟩] w fun e w'=>e=.returned (.bool (af l))∧w=w':=by
 go_enter Tryz.func159,Tryz.ntmps159;go_wp2;go_loop[3](fun i=> ∃k:Nat,i=.int .i64 k∧k≤l.length∧Hid (∀j(hj:j<l.length),j<k→dK l[j]=true))(fun i=>l.length-(intOf i).toNat);case atStart=>exact⟨0,rfl,Nat.zero_le _,fun j _ h=>by omega⟩
 case round=>
  obtain⟨k,rfl,hk,HK⟩:=hrel;by_cases hkn:k<l.length
  ·have g0:(⟨l.toArray⟩:ByteArray)[k]'(by simpa[ByteArray.size]using hkn)=l[k]:=rfl;have HC:=qS (dK l[k]=((decide (97≤l[k].toNat)&&decide (l[k].toNat≤122))||(decide (48≤l[k].toNat)&&decide (l[k].toNat≤57))||decide (l[k].toNat=45))) (rfl);have HB:=qH (fun h=>o7 (l:=l) k hkn h);have HN:=qS (∀h:dK l[k]=true,∀j(hj:j<l.length),j<k+1→dK l[j]=true) (fun h j hj hlt=>by
    by_cases e:j=k;·subst e;exact h
    ·exact HK.o j hj (by omega));have hx:=l[k].toNat_lt;generalize hc:dK l[k]=cc at*;clear hc;generalize Qn:l[k]=x at*;clear Qn;have hcc:cc=true∨cc=false:=by cases cc<;>simp
   rcases hcc with hcc|hcc
   ·have l5:Hid (((97≤x.toNat∧x.toNat≤122)∨(48≤x.toNat∧x.toNat≤57))∨x.toNat=45):=by have:=HC.o;rw[hcc]at this;unfold Hid;simpa using this.symm
    have EJ:=qH (HN.o hcc);clear hcc HC HB HN;rcases l5.o with(⟨a1,a2⟩|⟨a1,a2⟩)|a1
    ·have b1:decide (97≤(x.toNat:Int))=true:=decide_eq_true (by omega);have b2:decide ((x.toNat:Int)≤122)=true:=decide_eq_true (by omega);go_wp2;go_round;case rel=>exact⟨k+1,by go_num,by omega,EJ.o⟩
     case measure=>simp[intOf];omega
    ·have b1:decide (97≤(x.toNat:Int))=false:=decide_eq_false (by omega);have b2:decide (48≤(x.toNat:Int))=true:=decide_eq_true (by omega);have b3:decide ((x.toNat:Int)≤57)=true:=decide_eq_true (by omega);go_wp2;go_round;case rel=>exact⟨k+1,by go_num,by omega,EJ.o⟩
     case measure=>simp[intOf];omega
    ·have b1:decide (97≤(x.toNat:Int))=false:=decide_eq_false (by omega);have b2:decide (48≤(x.toNat:Int))=false:=decide_eq_false (by omega);have b3:((x.toNat:Int)!=45)=false:=by simp;omega
     have A1:=qH a1;clear a1;go_wp2;go_round;case rel=>exact⟨k+1,by go_num,by omega,EJ.o⟩
     case measure=>simp[intOf];omega
   ·have l5:Hid (¬(((97≤x.toNat∧x.toNat≤122)∨(48≤x.toNat∧x.toNat≤57))∨x.toNat=45)):=by
     have:=HC.o;rw[hcc]at this;unfold Hid;intro hh;have h2:(decide (97≤x.toNat)&&decide (x.toNat≤122)||decide (48≤x.toNat)&&decide (x.toNat≤57)||decide (x.toNat=45))=true:=by simpa using hh
     rw[h2]at this;cases this
    have hB:=HB.o hcc;have qU:=qH hB;clear hcc HC HN HB hB;have b5:((x.toNat:Int)!=45)=true:=by have:=l5.o;simp;omega
    have hcases:(123≤x.toNat)∨(97>x.toNat∧58≤x.toNat)∨(x.toNat<48):=by have:=l5.o;omega
    rcases hcases with a1|⟨a1,a2⟩|a1;·have b1:decide (97≤(x.toNat:Int))=true:=decide_eq_true (by omega);have b2:decide ((x.toNat:Int)≤122)=false:=decide_eq_false (by omega);have b3:decide (48≤(x.toNat:Int))=true:=decide_eq_true (by omega);have b4:decide ((x.toNat:Int)≤57)=false:=decide_eq_false (by omega);go_wp2;go_ret;rw[qU.o];exact⟨rfl,rfl⟩
    ·have b1:decide (97≤(x.toNat:Int))=false:=decide_eq_false (by omega);have b3:decide (48≤(x.toNat:Int))=true:=decide_eq_true (by omega);have b4:decide ((x.toNat:Int)≤57)=false:=decide_eq_false (by omega);go_wp2;go_ret;rw[qU.o];exact⟨rfl,rfl⟩
    ·have b1:decide (97≤(x.toNat:Int))=false:=decide_eq_false (by omega);have b3:decide (48≤(x.toNat:Int))=false:=decide_eq_false (by omega);go_wp2;go_ret;rw[qU.o];exact⟨rfl,rfl⟩
  ·by_cases h1:l.length<1;·have hB:=dn (l:=l) (.inl h1);have qU:=qH hB;clear hB;have d1:decide (1≤(l.length:Int))=false:=decide_eq_false (by omega);go_wp2;go_ret;rw[qU.o];exact⟨rfl,rfl⟩
   by_cases h24:24<l.length;·have hB:=dn (l:=l) (.inr h24);have qU:=qH hB;clear hB;have d1:decide (1≤(l.length:Int))=true:=decide_eq_true (by omega);have d2:decide ((l.length:Int)≤24)=false:=decide_eq_false (by omega);go_wp2;go_ret;rw[qU.o];exact⟨rfl,rfl⟩
   have hB:af l=true:=jX (by omega) (by omega) (fun j hj=>HK.o j hj (by omega));have qU:=qH hB;clear hB;have d1:decide (1≤(l.length:Int))=true:=decide_eq_true (by omega);have d2:decide ((l.length:Int)≤24)=true:=decide_eq_true (by omega);go_wp2;go_ret;rw[qU.o];exact⟨rfl,rfl⟩
theorem rn07(w:World)(l:List UInt8)(hm:l.length≤1000000000):Calls Tryz.prog 210 #[.string ⟨l.toArray⟩] w fun e w'=>e=.returned (.bool (af l))∧w=w':=by
 go_enter Tryz.func210,Tryz.ntmps210;go_wp2;go_loop[3](fun i=> ∃k:Nat,i=.int .i64 k∧k≤l.length∧Hid (∀j(hj:j<l.length),j<k→dK l[j]=true))(fun i=>l.length-(intOf i).toNat);case atStart=>exact⟨0,rfl,Nat.zero_le _,fun j _ h=>by omega⟩
 case round=>
  obtain⟨k,rfl,hk,HK⟩:=hrel;by_cases hkn:k<l.length
  ·have g0:(⟨l.toArray⟩:ByteArray)[k]'(by simpa[ByteArray.size]using hkn)=l[k]:=rfl;have HC:=qS (dK l[k]=((decide (97≤l[k].toNat)&&decide (l[k].toNat≤122))||(decide (48≤l[k].toNat)&&decide (l[k].toNat≤57))||decide (l[k].toNat=45))) (rfl);have HB:=qH (fun h=>o7 (l:=l) k hkn h);have HN:=qS (∀h:dK l[k]=true,∀j(hj:j<l.length),j<k+1→dK l[j]=true) (fun h j hj hlt=>by
    by_cases e:j=k;·subst e;exact h
    ·exact HK.o j hj (by omega));have hx:=l[k].toNat_lt;generalize hc:dK l[k]=cc at*;clear hc;generalize Qn:l[k]=x at*;clear Qn;have hcc:cc=true∨cc=false:=by cases cc<;>simp
   rcases hcc with hcc|hcc
   ·have l5:Hid (((97≤x.toNat∧x.toNat≤122)∨(48≤x.toNat∧x.toNat≤57))∨x.toNat=45):=by have:=HC.o;rw[hcc]at this;unfold Hid;simpa using this.symm
    have EJ:=qH (HN.o hcc);clear hcc HC HB HN;rcases l5.o with(⟨a1,a2⟩|⟨a1,a2⟩)|a1
    ·have b1:decide ((x.toNat:Int)<97)=false:=decide_eq_false (by omega);have b2:decide (122<(x.toNat:Int))=false:=decide_eq_false (by omega);go_wp2;go_round;case rel=>exact⟨k+1,by go_num,by omega,EJ.o⟩
     case measure=>simp[intOf];omega
    ·have b1:decide ((x.toNat:Int)<97)=true:=decide_eq_true (by omega);have b2:decide ((x.toNat:Int)<48)=false:=decide_eq_false (by omega);have b3:decide (57<(x.toNat:Int))=false:=decide_eq_false (by omega);go_wp2;go_round;case rel=>exact⟨k+1,by go_num,by omega,EJ.o⟩
     case measure=>simp[intOf];omega
    ·have b1:decide ((x.toNat:Int)<97)=true:=decide_eq_true (by omega);have b2:decide ((x.toNat:Int)<48)=true:=decide_eq_true (by omega);have b3:((x.toNat:Int)!=45)=false:=by simp;omega
     have A1:=qH a1;clear a1;go_wp2;go_round;case rel=>exact⟨k+1,by go_num,by omega,EJ.o⟩
     case measure=>simp[intOf];omega
   ·have l5:Hid (¬(((97≤x.toNat∧x.toNat≤122)∨(48≤x.toNat∧x.toNat≤57))∨x.toNat=45)):=by
     have:=HC.o;rw[hcc]at this;unfold Hid;intro hh;have h2:(decide (97≤x.toNat)&&decide (x.toNat≤122)||decide (48≤x.toNat)&&decide (x.toNat≤57)||decide (x.toNat=45))=true:=by simpa using hh
     rw[h2]at this;cases this
    have hB:=HB.o hcc;have qU:=qH hB;clear hcc HC HN HB hB;have b5:((x.toNat:Int)!=45)=true:=by have:=l5.o;simp;omega
    have hcases:(123≤x.toNat)∨(97>x.toNat∧58≤x.toNat)∨(x.toNat<48):=by have:=l5.o;omega
    rcases hcases with a1|⟨a1,a2⟩|a1;·have b1:decide ((x.toNat:Int)<97)=false:=decide_eq_false (by omega);have b2:decide (122<(x.toNat:Int))=true:=decide_eq_true (by omega);have b3:decide ((x.toNat:Int)<48)=false:=decide_eq_false (by omega);have b4:decide (57<(x.toNat:Int))=true:=decide_eq_true (by omega);go_wp2;go_ret;rw[qU.o];exact⟨rfl,rfl⟩
    ·have b1:decide ((x.toNat:Int)<97)=true:=decide_eq_true (by omega);have b3:decide ((x.toNat:Int)<48)=false:=decide_eq_false (by omega);have b4:decide (57<(x.toNat:Int))=true:=decide_eq_true (by omega);go_wp2;go_ret;rw[qU.o];exact⟨rfl,rfl⟩
    ·have b1:decide ((x.toNat:Int)<97)=true:=decide_eq_true (by omega);have b3:decide ((x.toNat:Int)<48)=true:=decide_eq_true (by omega);go_wp2;go_ret;rw[qU.o];exact⟨rfl,rfl⟩
  ·by_cases h1:l.length<1;·have hB:=dn (l:=l) (.inl h1);have qU:=qH hB;clear hB;have d1:decide (1≤(l.length:Int))=false:=decide_eq_false (by omega);go_wp2;go_ret;rw[qU.o];exact⟨rfl,rfl⟩
   by_cases h24:24<l.length;·have hB:=dn (l:=l) (.inr h24);have qU:=qH hB;clear hB;have d1:decide (1≤(l.length:Int))=true:=decide_eq_true (by omega);have d2:decide ((l.length:Int)≤24)=false:=decide_eq_false (by omega);go_wp2;go_ret;rw[qU.o];exact⟨rfl,rfl⟩
   have hB:af l=true:=jX (by omega) (by omega) (fun j hj=>HK.o j hj (by omega));have qU:=qH hB;clear hB;have d1:decide (1≤(l.length:Int))=true:=decide_eq_true (by omega);have d2:decide ((l.length:Int)≤24)=true:=decide_eq_true (by omega);go_wp2;go_ret;rw[qU.o];exact⟨rfl,rfl⟩
open Go.Maps Go.Sort
def bM(p:List UInt8×Int×Int):List Value:=[.string ⟨p.1.toArray⟩,.int .i64 p.2.1,.int .i64 p.2.2]
def ay(l:Row (Int×Int)):List Value:=l.flatMap bM
theorem vz(l:Row (Int×Int)):(ay l).length=l.length*3:=by induction l with|nil=>rfl|cons p l ih=>simp only[ay,List.flatMap_cons,List.length_append,List.length_cons]at*;rw[ih];simp[bM];omega
theorem vB(a b:Row (Int×Int)):ay (a++b)=ay a++ay b:=by simp[ay]
theorem Am(l:Row (Int×Int))(k j:Nat)(hk:k<l.length)(hj:j<3):(ay l)[k*3+j]?=(bM l[k])[j]?:=by induction l generalizing k with|nil=>simp at hk|cons p l ih=>have hc:(bM p).length=3:=rfl;simp only[ay,List.flatMap_cons];cases k with|zero=>rw[Nat.zero_mul,Nat.zero_add,List.getElem?_append_left (by omega)];rfl|succ k=>rw[List.getElem?_append_right (by omega),hc,show(k+1)*3+j-3=k*3+j by omega];exact ih k (by simpa using hk)
def EA(w:World)(B:Nat)(A:Option Addr)(n c:Nat)(l:Row (Int×Int)):Prop:=ax w B 3 A n c (ay l)
theorem EA.len{w:World}{B n c:Nat}{A:Option Addr}{l:Row (Int×Int)}(h:EA w B A n c l):l.length=n:=by have:=ax.len h;rw[vz]at this;omega
theorem EA.at_{w:World}{B n c:Nat}{A:Option Addr}{l:Row (Int×Int)}(h:EA w B A n c l)(k:Nat)(hk:k<l.length): ∃b off,A=some ⟨b,off,none⟩∧b<B∧w.cell? ⟨b,off+k*3,none⟩=some (.string ⟨l[k].1.toArray⟩)∧w.cell? ⟨b,off+k*3+1,none⟩=some (.int .i64 l[k].2.1)∧w.cell? ⟨b,off+k*3+2,none⟩=some (.int .i64 l[k].2.2):=by
 have hl:=h.len;obtain⟨b,off,e,hb,hc⟩:=ax.cell h (by omega);have key: ∀j u,j<3→(bM l[k])[j]?=some u→w.cell? ⟨b,off+k*3+j,none⟩=some u:=fun j u hj hu=>by rw[Nat.add_assoc];exact hc _ u (by rw[Am l k j hk hj,hu])
 exact⟨b,off,e,hb,key 0 _ (by omega) rfl,key 1 _ (by omega) rfl,key 2 _ (by omega) rfl⟩
abbrev oU(c:bu)(vL:Value):Obj:=.cells #[.int .i64 c.ag,.int .i64 c.idle,.int .i64 c.now,.int .i64 c.mark,vL] 112
structure iL(w:World)(bc:Nat)(S:Nat→Prop)(N:Nat)(c:bu):Prop where
 view: ∃A n cp,w.heap[bc]?=some (oU c (.slice A n cp))∧EA w w.heap.size A n cp c.src∧j4 S A n
 ns: ¬S bc
 low: ∀b,S b→b<w.heap.size
 ok:eu c
 len:c.src.length≤N
theorem xE(w:World)(n:Int):Calls Tryz.prog 155 #[.int .i64 n] w fun e w'=>e=.returned (.int .i64 (bX n))∧w'=w:=by
 by_cases h:n<0;·go_enter Tryz.func155,Tryz.ntmps155;go_wp2;go_ret;exact⟨aY (by unfold bX;omega),rfl⟩
 by_cases h2:1099511627776<n;·go_enter Tryz.func155,Tryz.ntmps155;go_wp2;go_ret;exact⟨aY (by unfold bX;omega),rfl⟩
 ·go_enter Tryz.func155,Tryz.ntmps155;go_wp2;go_ret;exact⟨aY (by unfold bX;omega),rfl⟩
def LX(p:List UInt8×Int×Int):Value:=.agg #[.string ⟨p.1.toArray⟩,.int .i64 p.2.1,.int .i64 p.2.2]
abbrev wM(p:List UInt8×Int×Int):Obj:=.cells #[.string ⟨p.1.toArray⟩,.int .i64 p.2.1,.int .i64 p.2.2] 228
theorem Mk(w:World)(bc:Nat)(idle now:Int)(h1:w.cell? ⟨bc,1,none⟩=some (.int .i64 idle))(h2:w.cell? ⟨bc,2,none⟩=some (.int .i64 now))(p:List UInt8×Int×Int)(hn:0≤now∧now≤1099511627776)(hp:0≤p.2.2∧p.2.2≤now):Calls Tryz.prog 209 #[.pointer (some ⟨bc,0,none⟩),LX p] w (Says (kK idle now p.2) w):=by
 have hlt:bc<w.heap.size:=World.block_lt_of_cell? w ⟨bc,1,none⟩ h1;have hb:Below w.heap.size w (w.alloc (wM p)):=(Below.refl _ _).alloc (Nat.le_refl _) _;have c1:(w.alloc (wM p)).cell? ⟨bc,1,none⟩=some (.int .i64 idle):=(hb.cell (p:=⟨bc,1,none⟩) hlt).trans h1;have c2:(w.alloc (wM p)).cell? ⟨bc,2,none⟩=some (.int .i64 now):=(hb.cell (p:=⟨bc,2,none⟩) hlt).trans h2;have c3:(w.alloc (wM p)).cell? ⟨w.heap.size,2,none⟩=some (.int .i64 p.2.2):=(cell_of_row _ w.heap.size 2 _ _ (0,0) (heap_alloc_new w (wM p))).trans rfl;have HA:=qS (kK idle now p.2=(decide (idle=0)||decide (now-p.2.2≤idle))) (rfl);obtain⟨hn1,hn2⟩:=hn;obtain⟨hp1,hp2⟩:=hp;clear h1 h2;unfold LX;by_cases h0:idle=0
 ·have b0:(idle==0)=true:=by simp[h0]
  have Yf:=qS (kK idle now p.2=true) (by rw[HA.o,decide_eq_true h0];rfl);clear h0;go_enter Tryz.func209,Tryz.ntmps209;go_wp2;go_quiet(fail);go_wp2;go_ret;exact⟨aa Yf.o.symm,below_drewN hb _⟩
 ·have b0:(idle==0)=false:=by simp[h0]
  have Yf:=qS (kK idle now p.2=decide (now-p.2.2≤idle)) (by rw[HA.o,decide_eq_false h0];rfl);clear h0;go_enter Tryz.func209,Tryz.ntmps209;go_wp2;go_quiet(fail);go_wp2;go_ret;exact⟨aa Yf.o.symm,below_drewN hb _⟩
theorem DD(l:List Int)(x:Int):eQ (l++[x])=match eQ l with|none=>some x|some y=>some (if x<y then x else y):=by
 induction l with
  |nil=>rfl
  |cons a l ih=>
   simp only[List.cons_append,eQ];rw[ih];cases eQ l with
    |none=>simp only;congr 1;split<;>split<;>omega
    |some y=>
     simp only;congr 1;by_cases h1:x<y
     ·by_cases h2:a≤x
      ·simp[h1,h2];have:a≤y:=by omega
       simp[this];omega
      ·by_cases h3:a≤y<;>simp[h1,h2,h3]<;>omega
     ·by_cases h3:a≤y;·simp[h1,h3];omega
      ·simp[h1,h3]
def gW(c:bu):Int:=match c.told with|none=> -2|some m=>if m< -2 then-2 else m
def wC(w:World)(n:Int)(e:Ending)(w':World):Prop:=e=.returned (.int .i64 n)∧Below w.heap.size w w'
structure gJ(w:World)(bc:Nat)(c:bu)(v:Value):Prop where
 c0:w.cell? ⟨bc,0,none⟩=some (.int .i64 c.ag)
 c1:w.cell? ⟨bc,1,none⟩=some (.int .i64 c.idle)
 c2:w.cell? ⟨bc,2,none⟩=some (.int .i64 c.now)
 c3:w.cell? ⟨bc,3,none⟩=some (.int .i64 c.mark)
 c4:w.cell? ⟨bc,4,none⟩=some v
theorem gJ.of{w:World}{bc:Nat}{c:bu}{v:Value}(h:w.heap[bc]?=some (oU c v)):gJ w bc c v:=by have key: ∀o,w.cell? ⟨bc,o,none⟩=_:=fun o=>cell_of_row w bc o _ _ (0,0) h;exact⟨(key 0).trans rfl,(key 1).trans rfl,(key 2).trans rfl,(key 3).trans rfl,(key 4).trans rfl⟩
theorem gJ.below{w w':World}{B bc:Nat}{c:bu}{v:Value}(h:gJ w bc c v)(hb:Below B w w')(hB:bc<B):gJ w' bc c v:=by have key: ∀o u,w.cell? ⟨bc,o,none⟩=some u→w'.cell? ⟨bc,o,none⟩=some u:=fun o u hu=>(hb.cell (p:=⟨bc,o,none⟩) hB).trans hu;exact⟨key _ _ h.c0,key _ _ h.c1,key _ _ h.c2,key _ _ h.c3,key _ _ h.c4⟩
def Ia(o:Option Int)(x:Int):Option Int:=match o with|none=>some x|some y=>some (if x<y then x else y)
theorem Dz(l:List Int)(x:Int):eQ (l++[x])=Ia (eQ l) x:=DD l x
def GG(c:bu)(l:Row (Int×Int)):List Int:=(l.filter fun p=>kK c.idle c.now p.2).map fun p=>p.2.1-c.ag-1
def Ez(w:World)(c:bu)(l a i:Value)(wr:World):Prop:= ∃(k:Nat)(o:Option Int),i=.int .i64 k∧k≤c.src.length∧l=.int .i64 (o.getD 0)∧a=.bool o.isSome∧eQ (GG c (c.src.take k))=o∧Below w.heap.size w wr
theorem KT(c:bu)(k:Nat)(hk:k<c.src.length):GG c (c.src.take (k+1))=GG c (c.src.take k)++(if kK c.idle c.now c.src[k].2 then[c.src[k].2.1-c.ag-1]else[]):=by unfold GG;rw[List.take_add_one,List.getElem?_eq_getElem hk,Option.toList_some,List.filter_append,List.map_append];congr 1;simp only[List.filter_cons,List.filter_nil];split<;>simp
theorem zb(w:World)(bc:Nat)(S:Nat→Prop)(N:Nat)(c:bu)(h:iL w bc S N c)(hN:N≤100000):Calls Tryz.prog 161 #[.pointer (some ⟨bc,0,none⟩)] w (wC w (gW c)):=by
 obtain⟨A,n,cp,hblk,hsrc,hvw⟩:=h.view;have hok:=h.ok;obtain⟨hsl1,hsl2⟩:=hok.ag;obtain⟨hnw1,hnw2⟩:=hok.now;have La:=qH hsrc;have HRC:=qH (gJ.of hblk);have mQ:=qH h.ok;have hlen:=h.len;have hnl:=hsrc.len;have BX:=qH hnl;have Wh:bc<w.heap.size:=(Array.getElem?_eq_some_iff.1 hblk).1;have Lt:=qS (gW c=match eQ (GG c c.src)with|none=> -2|some m=>if m< -2 then-2 else m) (rfl);clear hblk hsrc h hok hvw;have hn1:n≤100000:=by omega
 obtain⟨c0,c1,c2,c3,c4⟩:=HRC.o;go_enter Tryz.func161,Tryz.ntmps161;clear hnl;go_wp2;go_loopw[3,4,5](fun l a i wr=>Ez w c l a i wr)(fun _ _ i _=>n-(intOf i).toNat);case atStart=>exact⟨0,none,rfl,Nat.zero_le _,rfl,rfl,rfl,Below.refl _ _⟩
 case round=>
  obtain⟨k,o,rfl,hk,rfl,rfl,ho,hbel⟩:=hrel;have HO:=qH ho;clear ho;obtain⟨d0,d1,d2,d3,d4⟩:=HRC.o.below hbel Wh;clear c0 c1 c2 c3 c4;by_cases hkn:k<n
  ·have hkl:k<c.src.length:=by rw[BX.o];exact hkn
   obtain⟨b,off,rfl,hb,e0,e1,e2⟩:=La.o.at_ k hkl;have RX:=(hbel.cell (p:=⟨b,off+k*3,none⟩) hb).trans e0;have RV:=(hbel.cell (p:=⟨b,off+k*3+1,none⟩) hb).trans e1;have e2':=(hbel.cell (p:=⟨b,off+k*3+2,none⟩) hb).trans e2;clear e0 e1 e2;obtain⟨_,hp1,hp2,hp3,hp4⟩:=mQ.o.src _ (List.getElem_mem hkl);have df:=qH (KT c k hkl);generalize c.src[k]=p at*;obtain⟨nm,pa,pl⟩:=p;simp only at*;have t1:(k:Int)<n:=by omega
   have w1:IntKind.i64.wrap (pa-c.ag)=pa-c.ag:=IntWalk.i64_in _ (by omega);have w2:IntKind.i64.wrap (pa-c.ag-1)=pa-c.ag-1:=IntWalk.i64_in _ (by omega);go_wp2;go_quiet(fail);have hbq:Below w.heap.size w (wr.drewN nq):=below_drewN hbel nq;have a1:(wr.drewN nq).cell? ⟨bc,1,none⟩=some (.int .i64 c.idle):=d1;have a2:(wr.drewN nq).cell? ⟨bc,2,none⟩=some (.int .i64 c.now):=d2;have a4:(wr.drewN nq).cell? ⟨bc,4,none⟩=some (.slice (some ⟨b,off,none⟩) n cp):=d4;have q0:(wr.drewN nq).cell? ⟨b,off+k*3,none⟩=_:=RX;have q1:(wr.drewN nq).cell? ⟨b,off+k*3+1,none⟩=_:=RV;have q2:(wr.drewN nq).cell? ⟨b,off+k*3+2,none⟩=_:=e2';clear d0 d1 d2 d3 d4 RX RV e2';generalize wr.drewN nq=w3 at*;go_wp2_with fail;refine(Mk w3 bc c.idle c.now a1 a2 (nm,pa,pl) ⟨hnw1,hnw2⟩ ⟨hp3,hp4⟩).mono ?_;rintro r w4⟨rfl,hb4⟩;have hbw4:Below w.heap.size w w4:=hbq.trans (hb4.mono hbq.size);clear a1 a2 a4 q0 q1 q2 hb4 hbq;simp only;have uk:=qS (eQ (GG c (c.src.take (k+1)))=if kK c.idle c.now (pa,pl)then Ia o (pa-c.ag-1)else o) (by
    rw[df.o];split;·rw[Dz,HO.o]
    ·rw[List.append_nil,HO.o]);clear df HO;generalize kK c.idle c.now (pa,pl)=ab at*;generalize pa-c.ag-1=nn at*;cases ab
   ·have HR:=qS (Ez w c (.int .i64 (o.getD 0)) (.bool o.isSome) (.int .i64 ((k+1:Nat):Int)) w4) (⟨k+1,o,rfl,by omega,rfl,rfl,by rw[uk.o];rfl,hbw4⟩);clear uk;go_wp2;go_roundw;case rel=>exact HR.o
    case measure=>simp[intOf];omega
   cases o with
    |none=>
     have HR:=qS (Ez w c (.int .i64 nn) (.bool true) (.int .i64 ((k+1:Nat):Int)) w4) (⟨k+1,some nn,rfl,by omega,rfl,rfl,by rw[uk.o];rfl,hbw4⟩);clear uk;simp only[Option.getD_none,Option.isSome_none];go_wp2;go_roundw;case rel=>exact HR.o
     case measure=>simp[intOf];omega
    |some y=>
     simp only[Option.getD_some,Option.isSome_some];by_cases hny:nn<y
     ·have HR:=qS (Ez w c (.int .i64 nn) (.bool true) (.int .i64 ((k+1:Nat):Int)) w4) (⟨k+1,some nn,rfl,by omega,rfl,rfl,by rw[uk.o];simp[Ia,hny],hbw4⟩);clear uk;go_wp2;go_roundw;case rel=>exact HR.o
      case measure=>simp[intOf];omega
     ·have HR:=qS (Ez w c (.int .i64 y) (.bool true) (.int .i64 ((k+1:Nat):Int)) w4) (⟨k+1,some y,rfl,by omega,rfl,rfl,by rw[uk.o];simp[Ia,hny],hbw4⟩);clear uk;go_wp2;go_roundw;case rel=>exact HR.o
      case measure=>simp[intOf];omega
  ·have t1: ¬(k:Int)<n:=by omega
   have HO':=qS (eQ (GG c c.src)=o) (by have:=HO.o;rw[List.take_of_length_le (by rw[BX.o];omega)]at this;exact this);cases o with
    |none=>have HR:=qS (gW c= -2) (by rw[Lt.o,HO'.o]);simp only[Option.getD_none,Option.isSome_none];go_wp2;go_ret;exact⟨aY HR.o.symm,hbel⟩
    |some y=>
     simp only[Option.getD_some,Option.isSome_some];by_cases hy:y< -2;·have HR:=qS (gW c= -2) (by rw[Lt.o,HO'.o];simp[hy]);go_wp2;go_ret;exact⟨aY HR.o.symm,hbel⟩
     ·have HR:=qS (gW c=y) (by rw[Lt.o,HO'.o];simp[hy]);go_wp2;go_ret;exact⟨aY HR.o.symm,hbel⟩
theorem iL.stay{w w':World}{bc N:Nat}{S F:Nat→Prop}{c:bu}(h:iL w bc S N c)(hk:ah F w w')(hF: ∀b,F b→ ¬S b∧b≠bc):iL w' bc S N c:=by obtain⟨⟨A,n,cp,hblk,hsrc,hvw⟩,hns,hlow,hok,hlen⟩:=h;have hlt:bc<w.heap.size:=(Array.getElem?_eq_some_iff.1 hblk).1;exact⟨⟨A,n,cp,(hk.block bc hlt (fun hf=>(hF _ hf).2 rfl)).trans hblk,ax.stay hsrc hvw hk.size (fun b off hb hlt=>hk.cell (p:=⟨b,off,none⟩) hlt (fun hf=>(hF _ hf).1 hb)),hvw⟩,hns,fun b hb=>Nat.lt_of_lt_of_le (hlow b hb) hk.size,hok,hlen⟩
theorem iL.wide{w:World}{bc N M:Nat}{S T:Nat→Prop}{c:bu}(h:iL w bc S N c)(hT: ∀b,S b→T b)(hn: ¬T bc)(hl: ∀b,T b→b<w.heap.size)(hM:N≤M):iL w bc T M c:=by obtain⟨⟨A,n,cp,hblk,hsrc,hvw⟩,hns,hlow,hok,hlen⟩:=h;exact⟨⟨A,n,cp,hblk,hsrc,hvw.mono hT⟩,hn,hl,hok,by omega⟩
theorem iL.lt{w:World}{bc N:Nat}{S:Nat→Prop}{c:bu}(h:iL w bc S N c):bc<w.heap.size:=by obtain⟨A,n,cp,hblk,_⟩:=h.view;exact(Array.getElem?_eq_some_iff.1 hblk).1
theorem iL.put{w:World}{bc N:Nat}{S:Nat→Prop}{c c':bu}(h:iL w bc S N c)(o:Nat)(u:Value)(hc':eu c')(hs:c'.src=c.src)(hset: ∀v,(#[Value.int .i64 c.ag,.int .i64 c.idle,.int .i64 c.now,.int .i64 c.mark,v]:Array Value).setIfInBounds o u= #[.int .i64 c'.ag,.int .i64 c'.idle,.int .i64 c'.now,.int .i64 c'.mark,v]):iL (w.setCell ⟨bc,o,none⟩ u) bc S N c':=by
 obtain⟨⟨A,n,cp,hblk,hsrc,hvw⟩,hns,hlow,hok,hlen⟩:=h;refine⟨⟨A,n,cp,?_,?_,hvw⟩,hns,fun b hb=>by have:=hlow b hb;simpa[World.setCell]using this,hc',by rw[hs];exact hlen⟩;·have:=heap_setCell_same w bc o _ _ u hblk;rw[hset]at this;exact this
 ·rw[hs];exact ax.stay hsrc hvw (by simp[World.setCell]) (fun b off hb _=>World.cell?_setCell_other w _ _ _ (fun e=>hns (by injection e with e1;rw[e1];exact hb)))
theorem zk{c:bu}(h:eu c):c.rise={c with mark:=max c.mark (gW c)}:=by have:=h.mark;unfold bu.rise gW;cases c.told with|none=>simp only;obtain⟨a1,a2,a3,a4,a5⟩:=c;simp only at*;congr 1;omega|some m=>simp only;congr 1;split<;>omega
def KW(w:World)(bc N:Nat)(S:Nat→Prop)(c:bu)(e:Ending)(w':World):Prop:=e=.returned (.int .i64 c.mark)∧iL w' bc S N c∧ah (·=bc) w w'
theorem Jz(w:World)(bc:Nat)(S:Nat→Prop)(N:Nat)(c:bu)(h:iL w bc S N c)(hN:N≤100000)(now:Int):Calls Tryz.prog 158 #[.pointer (some ⟨bc,0,none⟩),.int .i64 now] w (KW w bc N S (c.tick now)):=by
 have HC:=qH h;obtain⟨A,n,cp,hblk,hsrc,hvw⟩:=h.view;obtain⟨c0,c1,c2,c3,c4⟩:=gJ.of hblk;have f2: ∀o,w.frozen? ⟨bc,o,none⟩=false:=fun o=>frozen_of_row w bc o _ _ hblk;have hbl:=pz now;have Yu:=pE now;have hn:=h.ok.now;have hok:=h.ok;have HT:=qS (c.tick now=({c with now:=max c.now (bX now)}:bu).rise) (rfl);have yQ:=qS (eu ({c with now:=max c.now (bX now)}:bu)) (⟨hok.ag,hok.idle,by show 0≤max c.now (bX now)∧max c.now (bX now)≤1099511627776;omega,hok.mark,hok.rising,fun p hp=>by obtain⟨q1,q2,q3,q4,q5⟩:=hok.src p hp;exact⟨q1,q2,q3,q4,by show p.2.2≤max c.now (bX now);omega⟩⟩);clear hblk hsrc hvw h hok;go_enter Tryz.func158,Tryz.ntmps158;go_wp2;go_still_tail 10,(by kernel_rfl);still_call(xE _ _);repeat still_step
 refine wpStill_nil ?_;change wpList _ _ _ _ _ (w.drewN 1);have kD:=qS (iL (w.drewN 1) bc S N c) (HC.o.stay ((ah.refl (fun _=>False) w).drewN 1) (fun _ h=>h.elim));have HK:=qS (ah (·=bc) w (w.drewN 1)) ((ah.refl _ _).drewN 1);have d2:(w.drewN 1).cell? ⟨bc,2,none⟩=some (.int .i64 c.now):=c2;have d3:(w.drewN 1).frozen? ⟨bc,2,none⟩=false:=f2 2;generalize bX now=nb at*;generalize w.drewN 1=w1 at*;clear c0 c1 c2 c3 c4 f2;go_upto_region 2 with fail;have ku:=qH (kD.o.put (c':={c with now:=max c.now nb}) 2 (.int .i64 (max c.now nb)) yQ.o rfl (fun _=>rfl));have sD:=qH (HK.o.setCell (p:=⟨bc,2,none⟩) (fun _=>rfl) (.int .i64 (max c.now nb)));clear kD HK d2 d3;generalize w1.setCell ⟨bc,2,none⟩ (Value.int IntKind.i64 (max c.now nb))=w2 at*;generalize({c with now:=max c.now nb}:bu)=c2 at*;obtain⟨A,n,cp,hblk,hsrc,hvw⟩:=ku.o.view;obtain⟨e0,e1,e2,e3,e4⟩:=gJ.of hblk;have g3:w2.frozen? ⟨bc,3,none⟩=false:=frozen_of_row w2 bc 3 _ _ hblk;have hlt2:=ku.o.lt;have Lu:=qH (zk yQ.o);have GZ:=qS (-1≤max c2.mark (gW c2)∧max c2.mark (gW c2)≤1099511627776) (by have:=yQ.o.rise.mark;rw[Lu.o]at this;exact this);have Xr:=qH yQ.o.rise;have T9:=qS (Calls Tryz.prog 161 #[.pointer (some ⟨bc,0,none⟩)] w2.drew (wC w2.drew (gW c2))) (zb w2.drew bc S N c2 (ku.o.stay ((ah.refl (fun _=>False) w2).drewN 1) (fun _ h=>h.elim)) hN);clear hblk hsrc hvw HC yQ e0 e1 e2 e4;go_wp2;go_region_law((go_simp;go_at_call 161;refine T9.o.mono ?_;rintro r w3⟨rfl,hb3⟩;have HB3:=qH hb3;have d3:w3.cell? ⟨bc,3,none⟩=some (.int .i64 c2.mark):=(hb3.cell (p:=⟨bc,3,none⟩) hlt2).trans e3;have k3:w3.frozen? ⟨bc,3,none⟩=false:=(hb3.frozen (p:=⟨bc,3,none⟩) hlt2).trans g3;clear hb3));all_goals
  have oL:=qS (iL w3 bc S N c2) (ku.o.stay (F:=fun _=>False) (((ah.refl (fun _=>False) w2).drewN 1).trans (G:=fun _=>False) (ah.of_below (w:=w2.drew) HB3.o) (fun _ _ h=>h)) (fun _ h=>h.elim));have E5:=qS (iL (w3.setCell ⟨bc,3,none⟩ (.int .i64 (max c2.mark (gW c2)))) bc S N (c.tick now)) (by rw[HT.o,Lu.o];refine oL.o.put 3 _ ?_ rfl (fun _=>rfl);rw[←Lu.o];exact Xr.o);have HM:=qS ((c.tick now).mark=max c2.mark (gW c2)) (by rw[HT.o,Lu.o]);have Lh:=qS (ah (·=bc) w (w3.setCell ⟨bc,3,none⟩ (.int .i64 (max c2.mark (gW c2))))) (((sD.o.drewN 1).trans (G:=fun _=>False) (ah.of_below (w:=w2.drew) HB3.o) (fun _ _ h=>h.elim)).setCell (fun _=>rfl) _);clear oL Lu HT ku T9 GZ Xr HB3 sD;generalize max c2.mark (gW c2)=mm at*;have q3:(w3.setCell ⟨bc,3,none⟩ (.int .i64 mm)).cell? ⟨bc,3,none⟩=some (.int .i64 mm):=by obtain⟨A,n,cp,hblk,_⟩:=E5.o.view;have h3:=(gJ.of hblk).c3;rw[HM.o]at h3;exact h3
  clear d3 k3 e3 g3;generalize w3.setCell ⟨bc,3,none⟩ (.int .i64 mm)=w4 at*;go_wp2;go_ret;exact⟨aY HM.o.symm,E5.o,Lh.o⟩
def fO(l:Row (Int×Int))(s:List UInt8):Nat:=(l.takeWhile fun p=>Op.bytesLess p.1 s).length
def BR(l:Row (Int×Int))(s:List UInt8):Bool:=(l[fO l s]?).any fun p=>p.1==s
theorem Ih{l:Row (Int×Int)}{s:List UInt8}(k:Nat)(hk:k≤l.length)(h1: ∀i(h:i<l.length),i<k→Op.bytesLess l[i].1 s=true)(h2: ∀h:k<l.length,Op.bytesLess l[k].1 s=false):fO l s=k:=by
 have e0:l=l.take k++l.drop k:=(List.take_append_drop k l).symm;unfold fO;conv=>lhs;rw[e0]
 rw[List.takeWhile_append_of_pos (fun x hx=>by obtain⟨i,hi,rfl⟩:=List.getElem_of_mem hx;rw[List.length_take]at hi;rw[List.getElem_take];exact h1 i (by omega) (by omega))];have:(l.drop k).takeWhile (fun p=>Op.bytesLess p.1 s)=[]:=by
  rcases Nat.lt_or_ge k l.length with hlt|hge;·rw[List.drop_eq_getElem_cons hlt,List.takeWhile_cons_of_neg (by rw[h2 hlt];simp)]
  ·rw[List.drop_of_length_le hge];rfl
 rw[this];simp;omega
def Bv(w:World)(l:Row (Int×Int))(s:List UInt8)(e:Ending)(w':World):Prop:=e=.returned (.tuple #[.int .i64 (fO l s),.bool (BR l s)])∧ ∃q,w'=w.drewN q
theorem Mc(w:World)(bc:Nat)(S:Nat→Prop)(N:Nat)(c:bu)(h:iL w bc S N c)(hN:N≤100000)(s:List UInt8):Calls Tryz.prog 160 #[.pointer (some ⟨bc,0,none⟩),.string ⟨s.toArray⟩] w (Bv w c.src s):=by
 obtain⟨A,n,cp,hblk,hsrc,hvw⟩:=h.view;obtain⟨c0,c1,c2,c3,c4⟩:=gJ.of hblk;have La:=qH hsrc;have BX:=qH hsrc.len;have hlen:=h.len;have hn1:n≤100000:=by have:=hsrc.len;omega
 clear hblk hsrc h hvw c0 c1 c2 c3;generalize c.src=l at*;clear hlen;go_enter Tryz.func160,Tryz.ntmps160;go_wp2;go_loop[6](fun i=> ∃k:Nat,i=.int .i64 k∧k≤n∧Hid (∀j(h:j<l.length),j<k→Op.bytesLess l[j].1 s=true))(fun i=>n-(intOf i).toNat);case atStart=>exact⟨0,rfl,Nat.zero_le _,fun j _ h=>by omega⟩
 case round=>
  obtain⟨k,rfl,hk,HK⟩:=hrel;by_cases hkn:k<n
  ·have hkl:k<l.length:=by rw[BX.o];exact hkn
   obtain⟨b,off,rfl,hb,e0,e1,e2⟩:=La.o.at_ k hkl;have t1:(k:Int)<n:=by omega
   cases hbl:Op.bytesLess l[k].1 s
   ·have HP:=qH (Ih k (by omega) HK.o (fun _=>hbl));have HA:=qS (BR l s=(l[k].1==s)) (by unfold BR;rw[HP.o,List.getElem?_eq_getElem hkl];rfl);generalize l[k]=p at*;clear e1 e2;have HR:=qS (∀q,Bv w l s (.returned (.tuple #[.int .i64 k,.bool (p.1==s)])) (w.drewN q)) (fun q=>⟨by rw[HP.o,HA.o],q,rfl⟩);clear HA HP;cases hps:(p.1==s);·rw[hps]at HR;go_wp2;go_quiet(fail);go_wp2;go_ret2;exact HR.o _
    ·rw[hps]at HR;go_wp2;go_quiet(fail);go_wp2;go_ret2;exact HR.o _
   ·have HN:=qS (∀j(h:j<l.length),j<k+1→Op.bytesLess l[j].1 s=true) (fun j hj hlt=>by
     by_cases e:j=k;·subst e;exact hbl
     ·exact HK.o j hj (by omega));generalize l[k]=p at*;clear e1 e2;go_wp2;go_round;case rel=>exact⟨k+1,by go_num,by omega,HN.o⟩
    case measure=>simp[intOf];omega
  ·have t1: ¬(k:Int)<n:=by omega
   have HP:=qH (Ih (l:=l) (s:=s) k (by rw[BX.o];omega) HK.o (fun h=>by rw[BX.o]at h;omega));have HA:=qS (BR l s=false) (by unfold BR;rw[HP.o,List.getElem?_eq_none (by rw[BX.o];omega)];rfl);have HR:=qS (∀q,Bv w l s (.returned (.tuple #[.int .i64 k,.bool false])) (w.drewN q)) (fun q=>⟨by rw[HP.o,HA.o],q,rfl⟩);clear HA HP;go_wp2;go_quiet(fail);go_wp2;go_ret2;exact HR.o _
end Go.Proofs.YtladegonienapaaGreatDoor
