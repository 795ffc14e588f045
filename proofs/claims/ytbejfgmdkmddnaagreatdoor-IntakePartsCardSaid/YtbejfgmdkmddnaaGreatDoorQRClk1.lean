/-
  A sieve's round.
-/
import Derived.Test.YtbejfgmdkmddnaaGreatDoorQSets
import Derived.Test.YtbejfgmdkmddnaaGreatDoorQHadPlain
import Derived.Lib.Walk
import Derived.Test.YtbejfgmdkmddnaaGreatDoorQKeys
import Derived.OwnWalkIn
set_option maxRecDepth 100000
set_option maxHeartbeats 16000000
namespace Go.Proofs.YtbejfgmdkmddnaaGreatDoor
open Go.RowKit
def Says(b:Bool)(w:World)(e:Ending)(w':World):Prop:=e=.returned (.bool b)∧Below w.heap.size w w'
def OwnE(w:World)(base:Nat)(v:Value)(es:List Ev):Prop:=w.ownsRow base 31 8 v es.length (evCells es)
def SievePost(w:World)(es:List Ev)(p:Ev→Bool)(e:Ending)(w':World):Prop:= ∃v,e=.returned v∧OwnE w' w.heap.size v (es.filter p)∧Below w.heap.size w w'
theorem OwnE.base_le{w:World}{base base':Nat}{v:Value}{es:List Ev}(h:OwnE w base v es)(hb:base'≤base):OwnE w base' v es:=by
 refine⟨h.1,?_⟩;rcases h.2 with⟨e,hl⟩|⟨g,cap,cur,e,hb',hg,hr⟩;·exact .inl ⟨e,hl⟩
 ·exact .inr ⟨g,cap,cur,e,by omega,hg,hr⟩
def SearchPost(n:Nat)(p:Nat→Bool)(w:World)(e:Ending)(w':World):Prop:= ∃k:Nat,e=.returned (.int .i64 k)∧k≤n∧(∀i,i<k→p i=false)∧(∀i,k≤i→i<n→p i=true)∧Below w.heap.size w w'
def SearchRel(n:Nat)(p:Nat→Bool)(w:World)(s5 s6:Value)(wr:World):Prop:= ∃lo hi:Nat,s5=.int .i64 lo∧s6=.int .i64 hi∧lo≤hi∧hi≤n∧Below w.heap.size w wr∧(∀i,i<lo→p i=false)∧(∀i,hi≤i→i<n→p i=true)
theorem search_any(w:World)(g:Nat)(cb:Array Value)(n:Nat)(p:Nat→Bool)(hn:n≤1000000000)(hcall: ∀(args:Array Value)(w:World),(callFunc g args).run Tryz.prog w=.ok (.enter g args) w)(hf: ∀(w1:World)(i:Nat),Below w.heap.size w w1→i<n→Calls Tryz.prog g (#[.int .i64 i]++cb) w1 (Says (p i) w1))(hmono: ∀i j,i≤j→j<n→p i=true→p j=true):Calls Tryz.prog 86 #[.int .i64 n,.func (.func g) #[] cb] w (SearchPost n p w):=by
 have HF:=qH hf;have HM:=qH hmono;clear hf hmono;go_enter Tryz.func86,Tryz.ntmps86;go_wp2;go_loopw[5,6](fun s5 s6 wr=>SearchRel n p w s5 s6 wr)(fun s5 s6 _=>(intOf s6-intOf s5).toNat);case atStart=>exact⟨0,n,rfl,rfl,Nat.zero_le _,Nat.le_refl _,Below.refl _ _,fun i h=>by omega,fun i h h'=>by omega⟩
 case round=>
  obtain⟨lo,hi,rfl,rfl,hlh,hhn,hbel,h1,h2⟩:=hrel;have H1:=qH h1;have H2:=qH h2;clear h1 h2;by_cases hlt:lo<hi
  ·have hc:=HF.out wr ((lo+hi)/2) hbel (by omega);rw[show(((lo+hi)/2:Nat):Int)=((lo:Int)+(hi:Int))/2 by omega]at hc;have HC:=qH hc;clear hc;go_wp2_with fail;refine HC.out.mono ?_;rintro e w1⟨rfl,hb1⟩;have hbw:Below w.heap.size w w1:=hbel.trans (hb1.mono hbel.size);clear hb1 hcall;cases hp:p ((lo+hi)/2)
   ·have HP:=qH hp;clear hp;go_wp2;go_roundw;case rel=>
     refine⟨(lo+hi)/2+1,hi,by go_num,rfl,by omega,hhn,hbw,fun i hi'=>?_,H2.out⟩;cases hpi:p i;·rfl
     ·have:=HM.out i ((lo+hi)/2) (by omega) (by omega) hpi;rw[HP.out]at this;cases this
    case measure=>simp[intOf];omega
   ·have HP:=qH hp;clear hp;go_wp2;go_roundw;case rel=>refine⟨lo,(lo+hi)/2,rfl,by go_num,by omega,by omega,hbw,H1.out,fun i hi' hn'=>?_⟩;exact HM.out _ _ hi' hn' HP.out
    case measure=>simp[intOf];omega
  ·have e:hi=lo:=by omega
   have HE:=qH e;clear e;go_wp2;go_ret;exact⟨lo,rfl,by omega,H1.out,fun i hi' hn'=>H2.out i (by rw[HE.out];exact hi') hn',hbel⟩
open Go.Maps Go.Sort
theorem str_info:(Tryz.prog.info? 9).map (fun i=>(i.zero,i.size,i.bytes))=some (some (.string ByteArray.empty),1,16):=by kernel_rfl
def Strs(w:World)(B:Nat)(A:Option Addr)(n c:Nat)(ss:List (List UInt8)):Prop:=Cel w B 1 A n c (ss.map encStr)
theorem Strs.len{w:World}{B n c:Nat}{A:Option Addr}{ss:List (List UInt8)}(h:Strs w B A n c ss):ss.length=n:=by have:=Cel.len h;simpa using this
theorem Strs.at_{w:World}{B n c:Nat}{A:Option Addr}{ss:List (List UInt8)}(h:Strs w B A n c ss)(k:Nat)(hk:k<ss.length): ∃b off,A=some ⟨b,off,none⟩∧b<B∧w.cell? ⟨b,off+k,none⟩=some (.string ⟨ss[k].toArray⟩):=by have hl:=h.len;obtain⟨b,off,e,hb,hc⟩:=Cel.cell h (by omega);exact⟨b,off,e,hb,hc k _ (by simp[hk,encStr])⟩
open Go.Shelf
def GonePost(w:World)(ks:List (List UInt8))(e:Ending)(w':World):Prop:= ∃v r,e=.returned v∧Rising r ks∧w'.ownsRow w.heap.size 9 1 v r.length (r.map encStr)∧Below w.heap.size w w'
theorem nodup_dedup(ks:List (List UInt8)): ∃ss:List (List UInt8),ss.Nodup∧ ∀x,x∈ss↔x∈ks:=by
 induction ks with
  |nil=>exact⟨[],List.nodup_nil,fun x=>Iff.rfl⟩
  |cons k ks ih=>
   obtain⟨ss,h1,h2⟩:=ih;by_cases h:k∈ks;·exact⟨ss,h1,fun x=>by rw[h2 x];simp;intro e;subst e;exact h⟩
   ·exact⟨k::ss,List.nodup_cons.2 ⟨fun hk=>h ((h2 k).1 hk),h1⟩,fun x=>by simp[h2 x]⟩
theorem rn06(w:World)(l:List UInt8)(hm:l.length≤1000000000):Calls Tryz.prog 177 #[.string ⟨l.toArray⟩] w fun e w'=>e=.returned (.bool (nameB l))∧w=w':=by
 go_enter Tryz.func177,Tryz.ntmps177;go_wp2;go_loop[3](fun i=> ∃k:Nat,i=.int .i64 k∧k≤l.length∧Hid (∀j(hj:j<l.length),j<k→nameC l[j]=true))(fun i=>l.length-(intOf i).toNat);case atStart=>exact⟨0,rfl,Nat.zero_le _,fun j _ h=>by omega⟩
 case round=>
  obtain⟨k,rfl,hk,HK⟩:=hrel;by_cases hkn:k<l.length
  ·have g0:(⟨l.toArray⟩:ByteArray)[k]'(by simpa[ByteArray.size]using hkn)=l[k]:=rfl;have HC:=qH (show nameC l[k]=((decide (97≤l[k].toNat)&&decide (l[k].toNat≤122))||(decide (48≤l[k].toNat)&&decide (l[k].toNat≤57))||decide (l[k].toNat=45))from rfl);have HB:=qH (fun h=>nameB_bad (l:=l) k hkn h);have HN:=qH (show∀h:nameC l[k]=true,∀j(hj:j<l.length),j<k+1→nameC l[j]=true from fun h j hj hlt=>by
    by_cases e:j=k;·subst e;exact h
    ·exact HK.out j hj (by omega));have hx:=l[k].toNat_lt;generalize hc:nameC l[k]=cc at*;clear hc;generalize hxx:l[k]=x at*;clear hxx;have hcc:cc=true∨cc=false:=by cases cc<;>simp
   rcases hcc with hcc|hcc
   ·have HCC:Hid (((97≤x.toNat∧x.toNat≤122)∨(48≤x.toNat∧x.toNat≤57))∨x.toNat=45):=by have:=HC.out;rw[hcc]at this;unfold Hid;simpa using this.symm
    have HN':=qH (HN.out hcc);clear hcc HC HB HN;rcases HCC.out with(⟨a1,a2⟩|⟨a1,a2⟩)|a1
    ·have b1:decide (97≤(x.toNat:Int))=true:=decide_eq_true (by omega);have b2:decide ((x.toNat:Int)≤122)=true:=decide_eq_true (by omega);go_wp2;go_round;case rel=>exact⟨k+1,by go_num,by omega,HN'.out⟩
     case measure=>simp[intOf];omega
    ·have b1:decide (97≤(x.toNat:Int))=false:=decide_eq_false (by omega);have b2:decide (48≤(x.toNat:Int))=true:=decide_eq_true (by omega);have b3:decide ((x.toNat:Int)≤57)=true:=decide_eq_true (by omega);go_wp2;go_round;case rel=>exact⟨k+1,by go_num,by omega,HN'.out⟩
     case measure=>simp[intOf];omega
    ·have b1:decide (97≤(x.toNat:Int))=false:=decide_eq_false (by omega);have b2:decide (48≤(x.toNat:Int))=false:=decide_eq_false (by omega);have b3:((x.toNat:Int)!=45)=false:=by simp;omega
     have A1:=qH a1;clear a1;go_wp2;go_round;case rel=>exact⟨k+1,by go_num,by omega,HN'.out⟩
     case measure=>simp[intOf];omega
   ·have HCC:Hid (¬(((97≤x.toNat∧x.toNat≤122)∨(48≤x.toNat∧x.toNat≤57))∨x.toNat=45)):=by
     have:=HC.out;rw[hcc]at this;unfold Hid;intro hh;have h2:(decide (97≤x.toNat)&&decide (x.toNat≤122)||decide (48≤x.toNat)&&decide (x.toNat≤57)||decide (x.toNat=45))=true:=by simpa using hh
     rw[h2]at this;cases this
    have hB:=HB.out hcc;have HB':=qH hB;clear hcc HC HN HB hB;have b5:((x.toNat:Int)!=45)=true:=by have:=HCC.out;simp;omega
    have hcases:(123≤x.toNat)∨(97>x.toNat∧58≤x.toNat)∨(x.toNat<48):=by have:=HCC.out;omega
    rcases hcases with a1|⟨a1,a2⟩|a1;·have b1:decide (97≤(x.toNat:Int))=true:=decide_eq_true (by omega);have b2:decide ((x.toNat:Int)≤122)=false:=decide_eq_false (by omega);have b3:decide (48≤(x.toNat:Int))=true:=decide_eq_true (by omega);have b4:decide ((x.toNat:Int)≤57)=false:=decide_eq_false (by omega);go_wp2;go_ret;rw[HB'.out];exact⟨rfl,rfl⟩
    ·have b1:decide (97≤(x.toNat:Int))=false:=decide_eq_false (by omega);have b3:decide (48≤(x.toNat:Int))=true:=decide_eq_true (by omega);have b4:decide ((x.toNat:Int)≤57)=false:=decide_eq_false (by omega);go_wp2;go_ret;rw[HB'.out];exact⟨rfl,rfl⟩
    ·have b1:decide (97≤(x.toNat:Int))=false:=decide_eq_false (by omega);have b3:decide (48≤(x.toNat:Int))=false:=decide_eq_false (by omega);go_wp2;go_ret;rw[HB'.out];exact⟨rfl,rfl⟩
  ·by_cases h1:l.length<1;·have hB:=nameB_short (l:=l) (.inl h1);have HB':=qH hB;clear hB;have d1:decide (1≤(l.length:Int))=false:=decide_eq_false (by omega);go_wp2;go_ret;rw[HB'.out];exact⟨rfl,rfl⟩
   by_cases h24:24<l.length;·have hB:=nameB_short (l:=l) (.inr h24);have HB':=qH hB;clear hB;have d1:decide (1≤(l.length:Int))=true:=decide_eq_true (by omega);have d2:decide ((l.length:Int)≤24)=false:=decide_eq_false (by omega);go_wp2;go_ret;rw[HB'.out];exact⟨rfl,rfl⟩
   have hB:nameB l=true:=nameB_good (by omega) (by omega) (fun j hj=>HK.out j hj (by omega));have HB':=qH hB;clear hB;have d1:decide (1≤(l.length:Int))=true:=decide_eq_true (by omega);have d2:decide ((l.length:Int)≤24)=true:=decide_eq_true (by omega);go_wp2;go_ret;rw[HB'.out];exact⟨rfl,rfl⟩
theorem rn07(w:World)(l:List UInt8)(hm:l.length≤1000000000):Calls Tryz.prog 213 #[.string ⟨l.toArray⟩] w fun e w'=>e=.returned (.bool (nameB l))∧w=w':=by
 go_enter Tryz.func213,Tryz.ntmps213;go_wp2;go_loop[3](fun i=> ∃k:Nat,i=.int .i64 k∧k≤l.length∧Hid (∀j(hj:j<l.length),j<k→nameC l[j]=true))(fun i=>l.length-(intOf i).toNat);case atStart=>exact⟨0,rfl,Nat.zero_le _,fun j _ h=>by omega⟩
 case round=>
  obtain⟨k,rfl,hk,HK⟩:=hrel;by_cases hkn:k<l.length
  ·have g0:(⟨l.toArray⟩:ByteArray)[k]'(by simpa[ByteArray.size]using hkn)=l[k]:=rfl;have HC:=qH (show nameC l[k]=((decide (97≤l[k].toNat)&&decide (l[k].toNat≤122))||(decide (48≤l[k].toNat)&&decide (l[k].toNat≤57))||decide (l[k].toNat=45))from rfl);have HB:=qH (fun h=>nameB_bad (l:=l) k hkn h);have HN:=qH (show∀h:nameC l[k]=true,∀j(hj:j<l.length),j<k+1→nameC l[j]=true from fun h j hj hlt=>by
    by_cases e:j=k;·subst e;exact h
    ·exact HK.out j hj (by omega));have hx:=l[k].toNat_lt;generalize hc:nameC l[k]=cc at*;clear hc;generalize hxx:l[k]=x at*;clear hxx;have hcc:cc=true∨cc=false:=by cases cc<;>simp
   rcases hcc with hcc|hcc
   ·have HCC:Hid (((97≤x.toNat∧x.toNat≤122)∨(48≤x.toNat∧x.toNat≤57))∨x.toNat=45):=by have:=HC.out;rw[hcc]at this;unfold Hid;simpa using this.symm
    have HN':=qH (HN.out hcc);clear hcc HC HB HN;rcases HCC.out with(⟨a1,a2⟩|⟨a1,a2⟩)|a1
    ·have b1:decide ((x.toNat:Int)<97)=false:=decide_eq_false (by omega);have b2:decide (122<(x.toNat:Int))=false:=decide_eq_false (by omega);go_wp2;go_round;case rel=>exact⟨k+1,by go_num,by omega,HN'.out⟩
     case measure=>simp[intOf];omega
    ·have b1:decide ((x.toNat:Int)<97)=true:=decide_eq_true (by omega);have b2:decide ((x.toNat:Int)<48)=false:=decide_eq_false (by omega);have b3:decide (57<(x.toNat:Int))=false:=decide_eq_false (by omega);go_wp2;go_round;case rel=>exact⟨k+1,by go_num,by omega,HN'.out⟩
     case measure=>simp[intOf];omega
    ·have b1:decide ((x.toNat:Int)<97)=true:=decide_eq_true (by omega);have b2:decide ((x.toNat:Int)<48)=true:=decide_eq_true (by omega);have b3:((x.toNat:Int)!=45)=false:=by simp;omega
     have A1:=qH a1;clear a1;go_wp2;go_round;case rel=>exact⟨k+1,by go_num,by omega,HN'.out⟩
     case measure=>simp[intOf];omega
   ·have HCC:Hid (¬(((97≤x.toNat∧x.toNat≤122)∨(48≤x.toNat∧x.toNat≤57))∨x.toNat=45)):=by
     have:=HC.out;rw[hcc]at this;unfold Hid;intro hh;have h2:(decide (97≤x.toNat)&&decide (x.toNat≤122)||decide (48≤x.toNat)&&decide (x.toNat≤57)||decide (x.toNat=45))=true:=by simpa using hh
     rw[h2]at this;cases this
    have hB:=HB.out hcc;have HB':=qH hB;clear hcc HC HN HB hB;have b5:((x.toNat:Int)!=45)=true:=by have:=HCC.out;simp;omega
    have hcases:(123≤x.toNat)∨(97>x.toNat∧58≤x.toNat)∨(x.toNat<48):=by have:=HCC.out;omega
    rcases hcases with a1|⟨a1,a2⟩|a1;·have b1:decide ((x.toNat:Int)<97)=false:=decide_eq_false (by omega);have b2:decide (122<(x.toNat:Int))=true:=decide_eq_true (by omega);have b3:decide ((x.toNat:Int)<48)=false:=decide_eq_false (by omega);have b4:decide (57<(x.toNat:Int))=true:=decide_eq_true (by omega);go_wp2;go_ret;rw[HB'.out];exact⟨rfl,rfl⟩
    ·have b1:decide ((x.toNat:Int)<97)=true:=decide_eq_true (by omega);have b3:decide ((x.toNat:Int)<48)=false:=decide_eq_false (by omega);have b4:decide (57<(x.toNat:Int))=true:=decide_eq_true (by omega);go_wp2;go_ret;rw[HB'.out];exact⟨rfl,rfl⟩
    ·have b1:decide ((x.toNat:Int)<97)=true:=decide_eq_true (by omega);have b3:decide ((x.toNat:Int)<48)=true:=decide_eq_true (by omega);go_wp2;go_ret;rw[HB'.out];exact⟨rfl,rfl⟩
  ·by_cases h1:l.length<1;·have hB:=nameB_short (l:=l) (.inl h1);have HB':=qH hB;clear hB;have d1:decide (1≤(l.length:Int))=false:=decide_eq_false (by omega);go_wp2;go_ret;rw[HB'.out];exact⟨rfl,rfl⟩
   by_cases h24:24<l.length;·have hB:=nameB_short (l:=l) (.inr h24);have HB':=qH hB;clear hB;have d1:decide (1≤(l.length:Int))=true:=decide_eq_true (by omega);have d2:decide ((l.length:Int)≤24)=false:=decide_eq_false (by omega);go_wp2;go_ret;rw[HB'.out];exact⟨rfl,rfl⟩
   have hB:nameB l=true:=nameB_good (by omega) (by omega) (fun j hj=>HK.out j hj (by omega));have HB':=qH hB;clear hB;have d1:decide (1≤(l.length:Int))=true:=decide_eq_true (by omega);have d2:decide ((l.length:Int)≤24)=true:=decide_eq_true (by omega);go_wp2;go_ret;rw[HB'.out];exact⟨rfl,rfl⟩
def srcOne(p:List UInt8×Int×Int):List Value:=[.string ⟨p.1.toArray⟩,.int .i64 p.2.1,.int .i64 p.2.2]
def srcCells(l:Row (Int×Int)):List Value:=l.flatMap srcOne
theorem srcCells_length(l:Row (Int×Int)):(srcCells l).length=l.length*3:=by induction l with|nil=>rfl|cons p l ih=>simp only[srcCells,List.flatMap_cons,List.length_append,List.length_cons]at*;rw[ih];simp[srcOne];omega
theorem srcCells_append(a b:Row (Int×Int)):srcCells (a++b)=srcCells a++srcCells b:=by simp[srcCells]
theorem srcCells_get(l:Row (Int×Int))(k j:Nat)(hk:k<l.length)(hj:j<3):(srcCells l)[k*3+j]?=(srcOne l[k])[j]?:=by induction l generalizing k with|nil=>simp at hk|cons p l ih=>have hc:(srcOne p).length=3:=rfl;simp only[srcCells,List.flatMap_cons];cases k with|zero=>rw[Nat.zero_mul,Nat.zero_add,List.getElem?_append_left (by omega)];rfl|succ k=>rw[List.getElem?_append_right (by omega),hc,show(k+1)*3+j-3=k*3+j by omega];exact ih k (by simpa using hk)
def Srcs(w:World)(B:Nat)(A:Option Addr)(n c:Nat)(l:Row (Int×Int)):Prop:=Cel w B 3 A n c (srcCells l)
theorem Srcs.len{w:World}{B n c:Nat}{A:Option Addr}{l:Row (Int×Int)}(h:Srcs w B A n c l):l.length=n:=by have:=Cel.len h;rw[srcCells_length]at this;omega
theorem Srcs.at_{w:World}{B n c:Nat}{A:Option Addr}{l:Row (Int×Int)}(h:Srcs w B A n c l)(k:Nat)(hk:k<l.length): ∃b off,A=some ⟨b,off,none⟩∧b<B∧w.cell? ⟨b,off+k*3,none⟩=some (.string ⟨l[k].1.toArray⟩)∧w.cell? ⟨b,off+k*3+1,none⟩=some (.int .i64 l[k].2.1)∧w.cell? ⟨b,off+k*3+2,none⟩=some (.int .i64 l[k].2.2):=by
 have hl:=h.len;obtain⟨b,off,e,hb,hc⟩:=Cel.cell h (by omega);have key: ∀j u,j<3→(srcOne l[k])[j]?=some u→w.cell? ⟨b,off+k*3+j,none⟩=some u:=fun j u hj hu=>by rw[Nat.add_assoc];exact hc _ u (by rw[srcCells_get l k j hk hj,hu])
 exact⟨b,off,e,hb,key 0 _ (by omega) rfl,key 1 _ (by omega) rfl,key 2 _ (by omega) rfl⟩
abbrev rclkObj(c:Clk)(vL:Value):Obj:=.cells #[.int .i64 c.slack,.int .i64 c.idle,.int .i64 c.now,.int .i64 c.mark,vL] 59
structure RClk(w:World)(bc:Nat)(S:Nat→Prop)(N:Nat)(c:Clk):Prop where
 view: ∃A n cp,w.heap[bc]?=some (rclkObj c (.slice A n cp))∧Srcs w w.heap.size A n cp c.src∧VwIn S A n
 ns: ¬S bc
 low: ∀b,S b→b<w.heap.size
 ok:ClkOk c
 len:c.src.length≤N
theorem held_any(w:World)(n:Int):Calls Tryz.prog 131 #[.int .i64 n] w fun e w'=>e=.returned (.int .i64 (boundI n))∧w'=w:=by
 by_cases h:n<0;·go_enter Tryz.func131,Tryz.ntmps131;go_wp2;go_ret;exact⟨ret_int (by unfold boundI;omega),rfl⟩
 by_cases h2:1099511627776<n;·go_enter Tryz.func131,Tryz.ntmps131;go_wp2;go_ret;exact⟨ret_int (by unfold boundI;omega),rfl⟩
 ·go_enter Tryz.func131,Tryz.ntmps131;go_wp2;go_ret;exact⟨ret_int (by unfold boundI;omega),rfl⟩
def srcAgg(p:List UInt8×Int×Int):Value:=.agg #[.string ⟨p.1.toArray⟩,.int .i64 p.2.1,.int .i64 p.2.2]
abbrev srcObj(p:List UInt8×Int×Int):Obj:=.cells #[.string ⟨p.1.toArray⟩,.int .i64 p.2.1,.int .i64 p.2.2] 122
theorem ract_any(w:World)(bc:Nat)(idle now:Int)(h1:w.cell? ⟨bc,1,none⟩=some (.int .i64 idle))(h2:w.cell? ⟨bc,2,none⟩=some (.int .i64 now))(p:List UInt8×Int×Int)(hn:0≤now∧now≤1099511627776)(hp:0≤p.2.2∧p.2.2≤now):Calls Tryz.prog 183 #[.pointer (some ⟨bc,0,none⟩),srcAgg p] w (Says (actB idle now p.2) w):=by
 have hlt:bc<w.heap.size:=World.block_lt_of_cell? w ⟨bc,1,none⟩ h1;have hb:Below w.heap.size w (w.alloc (srcObj p)):=(Below.refl _ _).alloc (Nat.le_refl _) _;have c1:(w.alloc (srcObj p)).cell? ⟨bc,1,none⟩=some (.int .i64 idle):=(hb.cell (p:=⟨bc,1,none⟩) hlt).trans h1;have c2:(w.alloc (srcObj p)).cell? ⟨bc,2,none⟩=some (.int .i64 now):=(hb.cell (p:=⟨bc,2,none⟩) hlt).trans h2;have c3:(w.alloc (srcObj p)).cell? ⟨w.heap.size,2,none⟩=some (.int .i64 p.2.2):=(cell_of_row _ w.heap.size 2 _ _ (0,0) (heap_alloc_new w (srcObj p))).trans rfl;have HA:=qH (show actB idle now p.2=(decide (idle=0)||decide (now-p.2.2≤idle))from rfl);obtain⟨hn1,hn2⟩:=hn;obtain⟨hp1,hp2⟩:=hp;clear h1 h2;unfold srcAgg;by_cases h0:idle=0
 ·have b0:(idle==0)=true:=by simp[h0]
  have HA':=qH (show actB idle now p.2=true by rw[HA.out,decide_eq_true h0];rfl);clear h0;go_enter Tryz.func183,Tryz.ntmps183;go_wp2;go_quiet(fail);go_wp2;go_ret;exact⟨ret_bool HA'.out.symm,below_drewN hb _⟩
 ·have b0:(idle==0)=false:=by simp[h0]
  have HA':=qH (show actB idle now p.2=decide (now-p.2.2≤idle)by rw[HA.out,decide_eq_false h0];rfl);clear h0;go_enter Tryz.func183,Tryz.ntmps183;go_wp2;go_quiet(fail);go_wp2;go_ret;exact⟨ret_bool HA'.out.symm,below_drewN hb _⟩
theorem leastI_snoc(l:List Int)(x:Int):leastI (l++[x])=match leastI l with|none=>some x|some y=>some (if x<y then x else y):=by
 induction l with
  |nil=>rfl
  |cons a l ih=>
   simp only[List.cons_append,leastI];rw[ih];cases leastI l with
    |none=>simp only;congr 1;split<;>split<;>omega
    |some y=>
     simp only;congr 1;by_cases h1:x<y
     ·by_cases h2:a≤x
      ·simp[h1,h2];have:a≤y:=by omega
       simp[this];omega
      ·by_cases h3:a≤y<;>simp[h1,h2,h3]<;>omega
     ·by_cases h3:a≤y;·simp[h1,h3];omega
      ·simp[h1,h3]
theorem same02_any(w:World)(B B':Nat)(A A':Option Addr)(n c c':Nat)(es:List Ev)(h:Evs w B A n c es)(h':Evs w B' A' n c' es)(hn:n≤100000):Calls Tryz.prog 52 #[.slice A n c,.slice A' n c'] w fun e w'=>e=.returned (.bool true)∧ ∃k,w'=w.drewN k:=by
 have HH:=qH h;clear h;have HH':=qH h';clear h';have hnn:((n:Int)!=(n:Int))=false:=by simp
 go_enter Tryz.func52,Tryz.ntmps52;go_wp2;clear hnn;go_loopw[5](fun i wr=> ∃k q:Nat,i=.int .i64 k∧k≤n∧wr=w.drewN q)(fun i _=>n-(intOf i).toNat);case atStart=>exact⟨0,0,rfl,Nat.zero_le _,rfl⟩
 case round=>
  obtain⟨k,q,rfl,hk,rfl⟩:=hrel;by_cases hkn:k<n
  ·have hkl:k<es.length:=by rw[HH.out.len];exact hkn
   obtain⟨b,off,rfl,hb,hc⟩:=HH.out.ev k hkl;obtain⟨b',off',rfl,hb',hc'⟩:=HH'.out.ev k hkl;obtain⟨e0,e1,e2,e3,e4,e5,e6,e7⟩:=hc;obtain⟨f0,f1,f2,f3,f4,f5,f6,f7⟩:=hc';have t1:(k:Int)<n:=by omega
   generalize es[k]=x at*;go_wp2;go_quiet(fail);go_wp2;go_roundw;case rel=>exact⟨k+1,q+nq,by go_num,by omega,by first|rfl|exact World.drewN_drewN ..⟩
   case measure=>simp[intOf];omega
  ·go_wp2;go_ret;exact⟨rfl,_,rfl⟩
def bigB(e:Ev)(m:Int):Bool:=decide (m<e.src.length)||decide (m<e.per.length)||decide (m<e.item.length)||decide (m<e.text.length)
theorem big_any(w:World)(e:Ev)(m:Int):Calls Tryz.prog 23 #[e.agg,.int .i64 m] w (Says (bigB e m) w):=by
 have HB:=qH (show bigB e m=(decide (m<e.src.length)||decide (m<e.per.length)||decide (m<e.item.length)||decide (m<e.text.length))from rfl);have hb:Below w.heap.size w (w.alloc (evObj e)):=(Below.refl _ _).alloc (Nat.le_refl _) _;unfold Ev.agg;cases h1:decide (m<(e.src.length:Int))
 ·cases h2:decide (m<(e.per.length:Int))
  ·cases h3:decide (m<(e.item.length:Int));·have HX:=qH (show bigB e m=decide (m<e.text.length)by rw[HB.out,h1,h2,h3];rfl);go_enter Tryz.func23,Tryz.ntmps23;go_wp2;go_ret;exact⟨ret_bool HX.out.symm,hb⟩
   ·have HX:=qH (show bigB e m=true by rw[HB.out,h1,h2,h3];rfl);go_enter Tryz.func23,Tryz.ntmps23;go_wp2;go_ret;exact⟨ret_bool HX.out.symm,hb⟩
  ·have HX:=qH (show bigB e m=true by rw[HB.out,h1,h2];rfl);go_enter Tryz.func23,Tryz.ntmps23;go_wp2;go_ret;exact⟨ret_bool HX.out.symm,hb⟩
 ·have HX:=qH (show bigB e m=true by rw[HB.out,h1];rfl);go_enter Tryz.func23,Tryz.ntmps23;go_wp2;go_ret;exact⟨ret_bool HX.out.symm,hb⟩
theorem texts_any(w:World)(B B':Nat)(A A':Option Addr)(n c c':Nat)(ss:List (List UInt8))(h:Strs w B A n c ss)(h':Strs w B' A' n c' ss)(hn:n≤100000):Calls Tryz.prog 53 #[.slice A n c,.slice A' n c'] w fun e w'=>e=.returned (.bool true)∧ ∃k,w'=w.drewN k:=by
 have HH:=qH h;clear h;have HH':=qH h';clear h';have hnn:((n:Int)!=(n:Int))=false:=by simp
 go_enter Tryz.func53,Tryz.ntmps53;go_wp2;clear hnn;go_loopw[5](fun i wr=> ∃k q:Nat,i=.int .i64 k∧k≤n∧wr=w.drewN q)(fun i _=>n-(intOf i).toNat);case atStart=>exact⟨0,0,rfl,Nat.zero_le _,rfl⟩
 case round=>
  obtain⟨k,q,rfl,hk,rfl⟩:=hrel;by_cases hkn:k<n
  ·have hkl:k<ss.length:=by rw[HH.out.len];exact hkn
   obtain⟨b,off,rfl,hb,hc⟩:=HH.out.at_ k hkl;obtain⟨b',off',rfl,hb',hc'⟩:=HH'.out.at_ k hkl;have t1:(k:Int)<n:=by omega
   generalize ss[k]=x at*;have t5:(!(x==x))=false:=by simp
   go_wp2;go_quiet(fail);go_wp2;go_roundw;case rel=>exact⟨k+1,_,by go_num,by omega,rfl⟩
   case measure=>simp[intOf];omega
  ·go_wp2;go_ret;exact⟨rfl,_,rfl⟩
def SieveRel(w:World)(n:Nat)(es:List Ev)(p:Ev→Bool)(v i:Value)(wr:World):Prop:= ∃k:Nat,i=.int .i64 k∧k≤n∧OwnE wr w.heap.size v ((es.take k).filter p)∧Below w.heap.size w wr
end Go.Proofs.YtbejfgmdkmddnaaGreatDoor
