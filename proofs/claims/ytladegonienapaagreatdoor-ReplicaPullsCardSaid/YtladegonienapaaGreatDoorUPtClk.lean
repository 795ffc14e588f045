/-
  The document's names (layers 2, 6, 7).
-/
import Derived.Lib.AtoiAll
import Derived.Lib.ItoaNum
import Derived.Lib.SplitLaws
import Derived.Lib.IndexBytes
import Derived.Lib.ItoaLen
import Derived.Lib.Walk
import Derived.Test.YtladegonienapaaGreatDoorUKeys
set_option maxRecDepth 100000
set_option maxHeartbeats 16000000
namespace Go.Proofs.YtladegonienapaaGreatDoor
open Go.RowKit
def dK(c:UInt8):Bool:=(decide (97≤c.toNat)&&decide (c.toNat≤122))||(decide (48≤c.toNat)&&decide (c.toNat≤57))||decide (c.toNat=45)
def af(l:List UInt8):Bool:=decide (1≤l.length)&&decide (l.length≤24)&&l.all dK
theorem dn{l:List UInt8}(h:l.length<1∨24<l.length):af l=false:=by unfold af;rcases h with h|h<;>simp<;>omega
theorem o7{l:List UInt8}(k:Nat)(hk:k<l.length)(h:dK l[k]=false):af l=false:=by
 unfold af;have:l.all dK=false:=by rw[List.all_eq_false];exact⟨l[k],List.getElem_mem hk,by simp[h]⟩
 simp[this]
theorem jX{l:List UInt8}(h1:1≤l.length)(h2:l.length≤24)(h: ∀j(hj:j<l.length),dK l[j]=true):af l=true:=by
 unfold af;have:l.all dK=true:=by rw[List.all_eq_true];intro x hx;obtain⟨j,hj,rfl⟩:=List.getElem_of_mem hx;exact h j hj
 simp[this,h1,h2]
theorem nR(w:World)(l:List UInt8)(hm:l.length≤1000000000):Calls Tryz.prog 66 #[.string ⟨l.toArray⟩] w fun e w'=>e=.returned (.bool (af l))∧w=w':=by
 by_cases h0:l.length<1;·go_enter Tryz.func66,Tryz.ntmps66;go_wp2;go_ret;rw[dn (.inl h0)];exact⟨rfl,rfl⟩
 by_cases h24:24<l.length;·go_enter Tryz.func66,Tryz.ntmps66;go_wp2;go_ret;rw[dn (.inr h24)];exact⟨rfl,rfl⟩
 have d0:decide ((l.length:Int)<1)=false:=decide_eq_false (by omega);have d1:decide (24<(l.length:Int))=false:=decide_eq_false (by omega);go_enter Tryz.func66,Tryz.ntmps66;go_wp2;go_loop[15](fun i=> ∃k:Nat,i=.int .i64 k∧k≤l.length∧Hid (∀j(hj:j<l.length),j<k→dK l[j]=true))(fun i=>l.length-(intOf i).toNat);case atStart=>exact⟨0,rfl,Nat.zero_le _,fun j _ h=>by omega⟩
 case round=>
  obtain⟨k,rfl,hk,HK⟩:=hrel;by_cases hkn:k<l.length
  ·have g0:(⟨l.toArray⟩:ByteArray)[k]'(by simpa[ByteArray.size]using hkn)=l[k]:=rfl;have HC:=qS (dK l[k]=((decide (97≤l[k].toNat)&&decide (l[k].toNat≤122))||(decide (48≤l[k].toNat)&&decide (l[k].toNat≤57))||decide (l[k].toNat=45))) (rfl);have HB:=qH (fun h=>o7 (l:=l) k hkn h);have HN:=qS (∀h:dK l[k]=true,∀j(hj:j<l.length),j<k+1→dK l[j]=true) (fun h j hj hlt=>by
    by_cases e:j=k;·subst e;exact h
    ·exact HK.o j hj (by omega));have hx:=l[k].toNat_lt;generalize hc:dK l[k]=cc at*;clear hc;generalize Qn:l[k]=x at*;clear Qn;have hcc:cc=true∨cc=false:=by cases cc<;>simp
   rcases hcc with hcc|hcc
   ·have l5:Hid (((97≤x.toNat∧x.toNat≤122)∨(48≤x.toNat∧x.toNat≤57))∨x.toNat=45):=by have:=HC.o;rw[hcc]at this;unfold Hid;simpa using this.symm
    have EJ:=qH (HN.o hcc);clear hcc HC HB HN;have e45:Hid ((x.toNat:Int)=45↔x.toNat=45):=by unfold Hid;omega
    rcases l5.o with(⟨a1,a2⟩|⟨a1,a2⟩)|a1
    ·have b1:decide (97≤(x.toNat:Int))=true:=decide_eq_true (by omega);have b2:decide ((x.toNat:Int)≤122)=true:=decide_eq_true (by omega);go_wp2;go_round;case rel=>exact⟨k+1,by go_num,by omega,EJ.o⟩
     case measure=>simp[intOf];omega
    ·have b1:decide (97≤(x.toNat:Int))=false:=decide_eq_false (by omega);have b2:decide (48≤(x.toNat:Int))=true:=decide_eq_true (by omega);have b3:decide ((x.toNat:Int)≤57)=true:=decide_eq_true (by omega);go_wp2;go_round;case rel=>exact⟨k+1,by go_num,by omega,EJ.o⟩
     case measure=>simp[intOf];omega
    ·have b1:decide (97≤(x.toNat:Int))=false:=decide_eq_false (by omega);have b2:decide (48≤(x.toNat:Int))=false:=decide_eq_false (by omega);have b3:((x.toNat:Int)==45)=true:=by simp;omega
     have A1:=qH a1;clear a1;go_wp2;go_round;case rel=>exact⟨k+1,by go_num,by omega,EJ.o⟩
     case measure=>simp[intOf];omega
   ·have l5:Hid (¬(((97≤x.toNat∧x.toNat≤122)∨(48≤x.toNat∧x.toNat≤57))∨x.toNat=45)):=by
     have:=HC.o;rw[hcc]at this;unfold Hid;intro hh;have h2:(decide (97≤x.toNat)&&decide (x.toNat≤122)||decide (48≤x.toNat)&&decide (x.toNat≤57)||decide (x.toNat=45))=true:=by simpa using hh
     rw[h2]at this;cases this
    have hB:=HB.o hcc;have qU:=qH hB;clear hcc HC HN HB hB;have b5:((x.toNat:Int)==45)=false:=by have:=l5.o;simp;omega
    have hcases:(123≤x.toNat)∨(97>x.toNat∧58≤x.toNat)∨(x.toNat<48):=by have:=l5.o;omega
    rcases hcases with a1|⟨a1,a2⟩|a1;·have b1:decide (97≤(x.toNat:Int))=true:=decide_eq_true (by omega);have b2:decide ((x.toNat:Int)≤122)=false:=decide_eq_false (by omega);have b3:decide (48≤(x.toNat:Int))=true:=decide_eq_true (by omega);have b4:decide ((x.toNat:Int)≤57)=false:=decide_eq_false (by omega);go_wp2;go_ret;rw[qU.o];exact⟨rfl,rfl⟩
    ·have b1:decide (97≤(x.toNat:Int))=false:=decide_eq_false (by omega);have b3:decide (48≤(x.toNat:Int))=true:=decide_eq_true (by omega);have b4:decide ((x.toNat:Int)≤57)=false:=decide_eq_false (by omega);go_wp2;go_ret;rw[qU.o];exact⟨rfl,rfl⟩
    ·have b1:decide (97≤(x.toNat:Int))=false:=decide_eq_false (by omega);have b3:decide (48≤(x.toNat:Int))=false:=decide_eq_false (by omega);go_wp2;go_ret;rw[qU.o];exact⟨rfl,rfl⟩
  ·have hB:af l=true:=jX (by omega) (by omega) (fun j hj=>HK.o j hj (by omega));have qU:=qH hB;clear hB;go_wp2;go_ret;rw[qU.o];exact⟨rfl,rfl⟩
open Go.Maps Go.Sort
def bX(n:Int):Int:=min (max n 0) 1099511627776
theorem pz(n:Int):0≤bX n:=by unfold bX;omega
theorem pE(n:Int):bX n≤1099511627776:=by unfold bX;omega
def eQ:List Int→Option Int|[]=>none|x::r=>match eQ r with|none=>some x|some y=>some (if x≤y then x else y)
theorem uJ{l:List Int}:eQ l=none↔l=[]:=by cases l with|nil=>simp[eQ]|cons x r=>simp only[eQ];split<;>simp
theorem DC{l:List Int}{m:Int}:eQ l=some m↔m∈l∧ ∀x∈l,m≤x:=by
 induction l generalizing m with
  |nil=>simp[eQ]
  |cons x r ih=>
   simp only[eQ];cases hr:eQ r with
    |none=>
     have:=uJ.1 hr;subst this;simp;constructor;·rintro rfl;exact⟨rfl,Int.le_refl _⟩
     ·exact fun h=>h.1.symm
    |some y=>
     obtain⟨h1,h2⟩:=ih.1 hr;simp only[Option.some.injEq,List.mem_cons];constructor
     ·rintro rfl;split
      ·refine⟨.inl rfl,fun z hz=>?_⟩;rcases hz with rfl|hz;·exact Int.le_refl _
       ·have:=h2 z hz;omega
      ·refine⟨.inr h1,fun z hz=>?_⟩;rcases hz with rfl|hz;·omega
       ·exact h2 z hz
     ·rintro⟨h3,h4⟩;have a1:=h4 x (.inl rfl);have a2:=h4 y (.inr h1);rcases h3 with rfl|h3;·rw[if_pos a2]
      ·have:=h2 m h3;split<;>omega
structure bu where
 ag:Int
 idle:Int
 now:Int
 mark:Int
 src:Row (Int×Int)
def kK(idle now:Int)(s:Int×Int):Bool:=decide (idle=0)||decide (now-s.2≤idle)
def bu.told(c:bu):Option Int:=eQ ((c.src.filter fun p=>kK c.idle c.now p.2).map fun p=>p.2.1-c.ag-1)
def bu.rise(c:bu):bu:=match c.told with|none=>c|some m=>{c with mark:=max c.mark m}
def bu.tick(c:bu)(now:Int):bu:=({c with now:=max c.now (bX now)}:bu).rise
def bu.hears(c:bu)(name:List UInt8)(at_:Int):Bool:=af name&&decide (0≤at_)&&decide (at_≤1099511627776)&&decide (c.mark<at_)
def bu.heard(c:bu)(name:List UInt8)(at_:Int):bu:=({c with src:=aL name (max ((aC c.src name).getD (0,0)).1 at_,c.now) c.src}:bu).rise
def bu.hear(c:bu)(name:List UInt8)(at_ now:Int):bu:=if(c.tick now).hears name at_ then(c.tick now).heard name at_ else c.tick now
def bu.new(ag idle:Int):bu:=⟨bX ag,bX idle,0,-1,[]⟩
structure eu(c:bu):Prop where
 ag:0≤c.ag∧c.ag≤1099511627776
 idle:0≤c.idle∧c.idle≤1099511627776
 now:0≤c.now∧c.now≤1099511627776
 mark: -1≤c.mark∧c.mark≤1099511627776
 rising:bP c.src
 src: ∀p∈c.src,af p.1=true∧0≤p.2.1∧p.2.1≤1099511627776∧0≤p.2.2∧p.2.2≤c.now
theorem yV{c:bu}{m:Int}:c.told=some m↔(∃p∈c.src,kK c.idle c.now p.2=true∧m=p.2.1-c.ag-1)∧ ∀p∈c.src,kK c.idle c.now p.2=true→m≤p.2.1-c.ag-1:=by
 unfold bu.told;rw[DC];simp only[List.mem_map,List.mem_filter];constructor;·rintro⟨⟨p,⟨h1,h2⟩,rfl⟩,h3⟩;exact⟨⟨p,h1,h2,rfl⟩,fun q hq ha=>h3 _ ⟨q,⟨hq,ha⟩,rfl⟩⟩
 ·rintro⟨⟨p,h1,h2,rfl⟩,h3⟩;refine⟨⟨p,⟨h1,h2⟩,rfl⟩,?_⟩;rintro _⟨q,⟨hq,ha⟩,rfl⟩;exact h3 q hq ha
theorem told_none{c:bu}:c.told=none↔ ∀p∈c.src,kK c.idle c.now p.2=false:=by
 unfold bu.told;rw[uJ];simp only[List.map_eq_nil_iff,List.filter_eq_nil_iff];constructor;·intro h p hp;simpa using h p hp
 ·intro h p hp;simp[h p hp]
theorem eu.told{c:bu}(h:eu c){m:Int}(ht:c.told=some m): -1099511627777≤m∧m≤1099511627776:=by obtain⟨⟨p,hp,_,rfl⟩,_⟩:=yV.1 ht;have:=h.src p hp;have:=h.ag;omega
theorem eu.rise{c:bu}(h:eu c):eu c.rise:=by unfold bu.rise;cases ht:c.told with|none=>exact h|some m=>have:=h.told ht;have:=h.mark;exact⟨h.ag,h.idle,h.now,by simp only;omega,h.rising,h.src⟩
theorem eu.said{c:bu}(h:eu c){name:List UInt8}{at_:Int}(hh:c.hears name at_=true):eu {c with src:=aL name (max ((aC c.src name).getD (0,0)).1 at_,c.now) c.src}:=by
 unfold bu.hears at hh;simp only[Bool.and_eq_true,decide_eq_true_eq]at hh;obtain⟨⟨⟨h1,h2⟩,h3⟩,h4⟩:=hh;have hn:=h.now;refine⟨h.ag,h.idle,h.now,h.mark,aZ h.rising _ _,fun p hp=>?_⟩;rcases aJ.1 hp with rfl|⟨hp,_⟩;·refine⟨h1,?_⟩;cases hg:aC c.src name with|none=>simp only[Option.getD_none];omega|some q=>have:=h.src _ (ak hg);simp only[Option.getD_some]at*;omega
 ·exact h.src p hp
theorem Cj(c:bu)(now:Int):(c.tick now).src.length=c.src.length:=by unfold bu.tick bu.rise;split<;>rfl
theorem M7(c:bu)(name:List UInt8)(at_ now:Int):(c.hear name at_ now).src.length≤c.src.length+1:=by
 unfold bu.hear;split
 ·have:((c.tick now).heard name at_).src=aL name (max ((aC (c.tick now).src name).getD (0,0)).1 at_,(c.tick now).now) (c.tick now).src:=by unfold bu.heard bu.rise;split<;>rfl
  rw[this];have:=dJ (c.tick now).src name (max ((aC (c.tick now).src name).getD (0,0)).1 at_,(c.tick now).now);rw[Cj]at this;exact this
 ·rw[Cj];omega
theorem eu.new(ag idle:Int):eu (bu.new ag idle):=⟨⟨pz _,pE _⟩,⟨pz _,pE _⟩,by simp[bu.new],by simp[bu.new],by simp[bu.new,bP],fun p hp=>by simp[bu.new]at hp⟩
theorem zl(c:bu):c.rise.rise=c.rise:=by unfold bu.rise;cases ht:c.told with|none=>simp only[ht]|some m=>simp only;have:({c with mark:=max c.mark m}:bu).told=some m:=ht;rw[this];simp only;congr 1;omega
theorem CQ(c:bu):c.rise.now=c.now:=by unfold bu.rise;split<;>rfl
theorem Mg(c:bu):c.rise.src=c.src:=by unfold bu.rise;split<;>rfl
theorem vX(k:Nat)(h:k<10):(UInt8.ofNat (48+k)).toNat=48+k:=by simp;omega
theorem FM(l:List UInt8): ∀(acc u k:Nat),Lib.parseUint10 acc l=.ok u→k<10→u*10+k<18446744073709551610→Lib.parseUint10 acc (l++[UInt8.ofNat (48+k)])=.ok (u*10+k):=by
 induction l with
  |nil=>intro acc u k h hk hu;simp only[Lib.parseUint10]at h;injection h with h;subst h;simp only[List.nil_append,Lib.parseUint10,vX k hk];rw[if_pos (by omega),if_neg (by omega),if_neg (by omega)];congr 1;omega
  |cons c r ih=>
   intro acc u k h hk hu;simp only[List.cons_append,Lib.parseUint10]at h⊢;split at h
   ·split at h;·cases h
    ·split at h;·cases h
     ·rename_i h1 h2 h3;rw[if_pos h1,if_neg h2,if_neg h3];exact ih _ _ _ h hk hu
   ·cases h
theorem zu(u:Nat):u<9223372036854775809→Lib.parseUint10 0 (Lib.decDigits u)=.ok u:=by
 induction u using Nat.strongRecOn with
  |_ u ih=>
   intro hu;by_cases h:u<10;·rw[Lib.decDigits,dif_pos h];simp only[Lib.parseUint10,vX u h];rw[if_pos (by omega),if_neg (by omega),if_neg (by omega)];congr 1;omega
   ·rw[Lib.decDigits,dif_neg h];rw[FM _ 0 (u/10) (u%10) (ih (u/10) (by omega) (by omega)) (by omega) (by omega)];congr 1;omega
theorem tQ(k:Nat): ∀c∈Lib.decDigits k,48≤c.toNat∧c.toNat≤57:=by
 induction k using Nat.strongRecOn with
  |_ k ih=>
   intro c hc;by_cases h:k<10;·rw[Lib.decDigits,dif_pos h]at hc;simp only[List.mem_singleton]at hc;subst hc;rw[vX k h];omega
   ·rw[Lib.decDigits,dif_neg h]at hc;rcases List.mem_append.1 hc with hc|hc;·exact ih _ (by omega) c hc
    ·simp only[List.mem_singleton]at hc;subst hc;rw[vX _ (by omega)];omega
theorem Gq(k:Nat):Lib.decDigits k≠[]:=by rw[Lib.decDigits];split<;>simp
theorem FZ(n:Int): ∀c∈Lib.itoa n,c.toNat=45∨(48≤c.toNat∧c.toNat≤57):=by
 intro c hc;unfold Lib.itoa at hc;split at hc
 ·rcases List.mem_cons.1 hc with rfl|hc;·left;rfl
  ·right;exact tQ _ c hc
 ·right;exact tQ _ c hc
theorem Ir(n:Int)(c:UInt8)(hc:c.toNat≠45)(h:c.toNat<48):c∉Lib.itoa n:=fun hm=>by
 rcases FZ n c hm with h1|h1;·exact hc h1
 ·omega
theorem tV(n:Int)(h0: -9223372036854775808≤n)(h1:n≤9223372036854775807):Lib.atoiAll (Lib.itoa n)=.ok n:=by
 unfold Lib.itoa;split
 ·rename_i hn;show(match Lib.parseMag (if(45:UInt8).toNat=43∨(45:UInt8).toNat=45 then _ else _)with|.syntax=>_|.range=>_|.ok u=>_)=_;rw[if_pos (.inr rfl)];have:Lib.parseMag (Lib.decDigits n.natAbs)=.ok n.natAbs:=by unfold Lib.parseMag;rw[if_neg (Gq _)];exact zu _ (by omega)
  rw[this];simp;rw[if_neg (by omega)];congr 1;omega
 ·rename_i hn;obtain⟨c,r,hcr⟩: ∃c r,Lib.decDigits n.toNat=c::r:=by cases hd:Lib.decDigits n.toNat with|nil=>exact absurd hd (Gq _)|cons c r=>exact⟨c,r,rfl⟩
  have hc:=tQ n.toNat c (by rw[hcr];simp);have hp:Lib.parseMag (Lib.decDigits n.toNat)=.ok n.toNat:=by unfold Lib.parseMag;rw[if_neg (Gq _)];exact zu _ (by omega)
  rw[hcr]at hp⊢;unfold Lib.atoiAll;simp only;rw[if_neg (by omega),hp];have h45: ¬c.toNat=45:=by omega
  simp only[h45,not_false_eq_true,true_and,false_and,if_false];rw[if_neg (by omega)];congr 1;omega
theorem F9(c:UInt8): ∀(a b:List UInt8),c∉a→Lib.indexByte (a++c::b) c=a.length|[],b,_=>by simp[Lib.indexByte]|x::a,b,h=>by have hx: ¬x=c:=fun e=>h (by rw[e];simp);have ih:=F9 c a b (fun hm=>h (by simp[hm]));simp only[List.cons_append,Lib.indexByte,ih];rw[if_neg (by simpa using hx),if_neg (by simp)];simp
theorem Iy(c:UInt8): ∀(a:List UInt8),c∉a→Lib.indexByte a c= -1|[],_=>rfl|x::a,h=>by have hx: ¬x=c:=fun e=>h (by rw[e];simp);have ih:=Iy c a (fun hm=>h (by simp[hm]));simp only[Lib.indexByte,ih];rw[if_neg (by simpa using hx)];rfl
theorem pq(c:UInt8)(a b:List UInt8)(h:c∉a):Lib.cut (a++c::b) [c]=(a,b,true):=by unfold Lib.cut;rw[Lib.index_one,F9 c a b h,if_pos (by omega)];simp
theorem rW(c:UInt8)(a:List UInt8)(h:c∉a):Lib.cut a [c]=(a,[],false):=by unfold Lib.cut;rw[Lib.index_one,Iy c a h,if_neg (by omega)]
theorem y9(c:UInt8)(a b:List UInt8)(h:c∉a):Lib.split (a++c::b) [c]=a::Lib.split b [c]:=by unfold Lib.split;rw[Lib.count_one,Lib.count_one,List.count_append,List.count_cons_self,List.count_eq_zero.2 h,Nat.zero_add];show(if Lib.index (a++c::b) [c]== -1 then _ else _)=_;rw[Lib.index_one,F9 c a b h,if_neg (by simp)];simp
theorem qm(c:UInt8)(a:List UInt8)(h:c∉a):Lib.split a [c]=[a]:=by unfold Lib.split;rw[Lib.count_one,List.count_eq_zero.2 h];rfl
theorem lT(c:UInt8)(l:List UInt8):c∉l∨ ∃a b,l=a++c::b∧c∉a:=by
 induction l with
  |nil=>left;simp
  |cons x l ih=>
   by_cases hx:x=c;·right;exact⟨[],l,by rw[hx];rfl,by simp⟩
   ·rcases ih with h|⟨a,b,h1,h2⟩;·left;simp[Ne.symm hx,h]
    ·right;exact⟨x::a,b,by rw[h1];rfl,by simp[Ne.symm hx,h2]⟩
theorem nJ(c:UInt8): ∀(n:Nat)(l:List UInt8),l.length≤n→ ∀w∈Lib.split l [c],w.length≤l.length:=by
 intro n;induction n with
  |zero=>intro l hl w hw;have:l=[]:=List.length_eq_zero_iff.1 (by omega);subst this;rw[qm c [] (by simp)]at hw;simp at hw;subst hw;simp
  |succ n ih=>
   intro l hl w hw;rcases lT c l with h|⟨a,b,rfl,h⟩;·rw[qm c l h]at hw;simp at hw;subst hw;exact Nat.le_refl _
   ·rw[y9 c a b h]at hw;simp only[List.length_append,List.length_cons]at hl⊢;rcases List.mem_cons.1 hw with rfl|hw;·omega
    ·have:=ih b (by omega) w hw;omega
/-!### a clock's bytes -/
def dS(ns:List Int):List UInt8:=ns.flatMap fun n=>32::Lib.itoa n
def eY(s:List UInt8)(ns:List Int):List UInt8:=s++dS ns++[10]
def fC(m:Row (Int×Int)):List UInt8:=m.flatMap fun p=>eY p.1 [p.2.1,p.2.2]
def fZ(c:bu):List UInt8:=eY [99,108,111,99,107] [c.ag,c.idle,c.now,c.mark]++fC c.src
theorem FO(ns:List Int)(k:Nat)(hk:k<ns.length):dS (ns.take (k+1))=dS (ns.take k)++[32]++Lib.itoa ns[k]:=by unfold dS;rw[List.take_add_one,List.getElem?_eq_getElem hk,Option.toList_some,List.flatMap_append];simp
theorem qB(n:Int)(ns:List Int):dS (n::ns)=32::(Lib.itoa n++dS ns):=by simp[dS]
theorem sU(ns:List Int)(h: ∀n∈ns,-9223372036854775808≤n∧n≤9223372036854775807):(dS ns).length≤22*ns.length:=by induction ns with|nil=>simp[dS]|cons n ns ih=>have h1:=ih fun x hx=>h x (List.mem_cons_of_mem _ hx);have h2:=Lib.itoa_length_le n (h n (List.mem_cons_self)).1 (h n (List.mem_cons_self)).2;rw[qB];simp only[List.length_append,List.length_cons];omega
theorem Dh(c:UInt8)(hc:c.toNat≠45)(h32:c≠32)(h:c.toNat<48)(ns:List Int):c∉dS ns:=by
 induction ns with
  |nil=>simp[dS]
  |cons n ns ih=>
   rw[qB];intro hm;rcases List.mem_cons.1 hm with hm|hm;·exact h32 hm
   ·rcases List.mem_append.1 hm with hm|hm;·exact Ir n c hc h hm
    ·exact ih hm
theorem qi: ∀(ns:List Int)(s:List UInt8),32∉s→Lib.split (s++dS ns) [32]=s::ns.map Lib.itoa|[],s,h=>by simp only[dS,List.flatMap_nil,List.append_nil,List.map_nil];exact qm 32 s h|n::ns,s,h=>by rw[qB,y9 32 s _ h,qi ns (Lib.itoa n) (Ir n 32 (by decide) (by decide))];rfl
def ed(w:List UInt8):Int:=match Lib.atoiAll w with|.ok v=>v|.syntax=>0|.range=>Lib.atoiSat w
def qf(w:List UInt8):Bool:=match Lib.atoiAll w with|.ok _=>true|_=>false
def eH(w:List UInt8):Bool:=qf w&&decide (-1≤ed w)&&decide (ed w≤1099511627776)
theorem yc{n:Int}(h0: -9223372036854775808≤n)(h1:n≤9223372036854775807):ed (Lib.itoa n)=n:=by unfold ed;rw[tV n h0 h1]
theorem Gy{n:Int}(h0: -1≤n)(h1:n≤1099511627776):eH (Lib.itoa n)=true:=by unfold eH qf;rw[yc (by omega) (by omega),tV n (by omega) (by omega)];simp[h0,h1]
structure Vi where
 word:List UInt8
 nums:List Int
 rest:List UInt8
 ok:Bool
def aB(n:Nat)(rest:List UInt8)(ok:Bool):Vi:=if(Lib.cut rest [10]).2.2&&decide ((Lib.split (Lib.cut rest [10]).1 [32]).length=n+1)then⟨(Lib.split (Lib.cut rest [10]).1 [32]).headD [],((Lib.split (Lib.cut rest [10]).1 [32]).drop 1).map ed,(Lib.cut rest [10]).2.1,ok&&((Lib.split (Lib.cut rest [10]).1 [32]).drop 1).all eH⟩else⟨[],List.replicate n 0,rest,false⟩
theorem zA(n:Nat)(rest:List UInt8)(ok:Bool):(aB n rest ok).nums.length=n:=by
 unfold aB;split;·rename_i h;simp only[Bool.and_eq_true,decide_eq_true_eq]at h;simp only[List.length_map,List.length_drop];omega
 ·simp
theorem QH(rest:List UInt8)(h:(Lib.cut rest [10]).2.2=true):(Lib.cut rest [10]).2.1.length<rest.length:=by
 rcases lT 10 rest with h1|⟨a,b,rfl,h1⟩;·rw[rW 10 rest h1]at h;cases h
 ·rw[pq 10 a b h1];simp;omega
theorem qC(n:Nat)(rest:List UInt8)(ok:Bool):(aB n rest ok).rest.length≤rest.length∧((aB n rest ok).ok=true→(aB n rest ok).rest.length<rest.length∧ok=true):=by
 unfold aB;split;·rename_i h;simp only[Bool.and_eq_true,decide_eq_true_eq]at h;have:=QH rest h.1;simp only[Bool.and_eq_true];exact⟨by omega,fun h=>⟨this,h.1⟩⟩
 ·simp
theorem FT(n:Nat)(rest:List UInt8)(ok:Bool)(h:(aB n rest ok).ok=true): ∀v∈(aB n rest ok).nums,-1≤v∧v≤1099511627776:=by
 unfold aB at h⊢;split;·rename_i hc;rw[if_pos hc]at h;simp only[Bool.and_eq_true]at h;intro v hv;simp only at hv;obtain⟨x,hx,rfl⟩:=List.mem_map.1 hv;have:=List.all_eq_true.1 h.2 x hx;unfold eH at this;simp only[Bool.and_eq_true,decide_eq_true_eq]at this;omega
 ·rename_i hc;rw[if_neg hc]at h;cases h
theorem xn(s:List UInt8)(ns:List Int)(r:List UInt8)(h1:32∉s)(h2:10∉s)(hb: ∀v∈ns,-1≤v∧v≤1099511627776):aB ns.length (eY s ns++r) true=⟨s,ns,r,true⟩:=by
 have hc:Lib.cut (eY s ns++r) [10]=(s++dS ns,r,true):=by
  have:eY s ns++r=(s++dS ns)++10::r:=by unfold eY;simp
  rw[this];exact pq 10 _ _ fun hm=>(List.mem_append.1 hm).elim h2 (Dh 10 (by decide) (by decide) (by decide) ns)
 unfold aB;rw[hc];simp only;rw[qi ns s h1];simp only[List.length_cons,List.length_map,decide_true,Bool.and_self,if_true,List.headD_cons,List.drop_succ_cons,List.drop_zero,List.map_map];have e1:(ns.map (ed∘Lib.itoa))=ns:=by
  conv=>rhs;rw[←List.map_id ns]
  exact List.map_congr_left fun v hv=>by have:=hb v hv;exact yc (by omega) (by omega)
 have e2:(ns.map Lib.itoa).all eH=true:=by rw[List.all_map];exact List.all_eq_true.2 fun v hv=>by have:=hb v hv;exact Gy this.1 this.2
 rw[e1,e2];rfl
def qY(now:Int)(d:Vi):Bool:=d.ok&&af d.word&&decide (0≤d.nums.getD 0 0)&&decide (0≤d.nums.getD 1 0)&&decide (d.nums.getD 1 0≤now)
def jS:Nat→Int→List UInt8→Bool→Row (Int×Int)→Bool×Row (Int×Int)|0,_,_,ok,m=>(ok,m)|f+1,now,rest,ok,m=>if ok&&!rest.isEmpty then jS f now (aB 2 rest ok).rest (qY now (aB 2 rest ok)) (aL (aB 2 rest ok).word ((aB 2 rest ok).nums.getD 0 0,(aB 2 rest ok).nums.getD 1 0) m)else(ok,m)
def cK(d:Vi):Bool:=d.ok&&decide (0≤d.nums.getD 0 0)&&decide (0≤d.nums.getD 1 0)&&decide (0≤d.nums.getD 2 0)
def j3(d:Vi)(m:Row (Int×Int)):bu:=⟨d.nums.getD 0 0,d.nums.getD 1 0,d.nums.getD 2 0,d.nums.getD 3 0,m⟩
def uI(c:bu):Bool:=match c.told with|none=>true|some m=>decide (m≤c.mark)
def xZ(b:List UInt8):Option bu:=if(jS (b.length+1) ((aB 4 b true).nums.getD 2 0) (aB 4 b true).rest (cK (aB 4 b true)) []).1&&(fZ (j3 (aB 4 b true) (jS (b.length+1) ((aB 4 b true).nums.getD 2 0) (aB 4 b true).rest (cK (aB 4 b true)) []).2)==b)&&uI (j3 (aB 4 b true) (jS (b.length+1) ((aB 4 b true).nums.getD 2 0) (aB 4 b true).rest (cK (aB 4 b true)) []).2)then some (j3 (aB 4 b true) (jS (b.length+1) ((aB 4 b true).nums.getD 2 0) (aB 4 b true).rest (cK (aB 4 b true)) []).2)else none
theorem zD{α:Type}(k:List UInt8)(v:α): ∀m:Row α,(∀p∈m,bytesBefore p.1 k=true)→fQ (k,v) m=m++[(k,v)]
 |[],_=>rfl
 |y::r,h=>by
  have hy:=h y (by simp);have:bytesBefore k y.1=false:=by cases hb:bytesBefore k y.1 with|false=>rfl|true=>have:=fq hb hy;rw[az]at this;cases this
  unfold fQ;simp only[this];rw[zD k v r fun p hp=>h p (by simp[hp])];rfl
theorem zq{α:Type}(k:List UInt8)(v:α)(m:Row α)(h: ∀p∈m,bytesBefore p.1 k=true):aL k v m=m++[(k,v)]:=by
 unfold aL;have:m.filter (fun p=>!(p.1==k))=m:=List.filter_eq_self.2 fun p hp=>by
  have:=h p hp;have:p.1≠k:=fun e=>by rw[e,az]at this;cases this
  simp[this]
 rw[this,zD k v m h]
theorem Dl{c:UInt8}(h:dK c=true):c≠10∧c≠32:=by
 constructor;·rintro rfl;revert h;decide
 ·rintro rfl;revert h;decide
theorem Dm{s:List UInt8}(h:af s=true):32∉s∧10∉s:=by
 unfold af at h;simp only[Bool.and_eq_true,decide_eq_true_eq]at h;constructor;·intro hm;exact(Dl (List.all_eq_true.1 h.2 _ hm)).2 rfl
 ·intro hm;exact(Dl (List.all_eq_true.1 h.2 _ hm)).1 rfl
theorem Cr(a b:Row (Int×Int)):fC (a++b)=fC a++fC b:=by unfold fC;rw[List.flatMap_append]
theorem MI(s:List UInt8)(ns:List Int):(eY s ns).isEmpty=false:=by unfold eY;simp
theorem Cy(c:bu)(hc:eu c): ∀(m done:Row (Int×Int))(f:Nat),done++m=c.src→m.length<f→jS f c.now (fC m) true done=(true,c.src)
 |[],done,f,h,hf=>by obtain⟨g,rfl⟩: ∃g,f=g+1:=⟨f-1,by simp at hf;omega⟩;unfold jS;simp at h;simp[fC,h]
 |(s,a,q)::m,done,f,h,hf=>by
  obtain⟨g,rfl⟩: ∃g,f=g+1:=⟨f-1,by simp at hf;omega⟩;have hmem:(s,a,q)∈c.src:=by rw[←h];simp
  have hs:=hc.src _ hmem;simp only at hs;have hn:=hc.now;have e0:fC ((s,a,q)::m)=eY s [a,q]++fC m:=by simp[fC]
  have hl:=xn s [a,q] (fC m) (Dm hs.1).1 (Dm hs.1).2 (by intro v hv;simp at hv;rcases hv with rfl|rfl<;>omega);simp only[List.length_cons,List.length_nil,Nat.zero_add,Nat.reduceAdd]at hl;have hup:=hc.rising;rw[←h]at hup;have hlast:=zq s (a,q) done fun p hp=>(List.pairwise_append.1 hup).2.2 p hp (s,a,q) (by simp);have hne:(fC ((s,a,q)::m)).isEmpty=false:=by rw[e0];have:=MI s [a,q];simp at this⊢;intro h;exact absurd h this
  unfold jS;rw[hne];simp only[Bool.not_false,Bool.and_self,if_true];rw[e0,hl];simp only[qY,hs.1,List.getD_cons_zero,List.getD_cons_succ,Bool.true_and];rw[hlast,decide_eq_true hs.2.1,decide_eq_true hs.2.2.2.1,decide_eq_true hs.2.2.2.2];exact Cy c hc m (done++[(s,a,q)]) g (by rw[←h];simp) (by simp at hf;omega)
theorem Cq(m:Row (Int×Int)):m.length≤(fC m).length:=by
 induction m with
  |nil=>simp[fC]
  |cons p m ih=>
   have e0:fC (p::m)=eY p.1 [p.2.1,p.2.2]++fC m:=by simp[fC]
   rw[e0];have:0<(eY p.1 [p.2.1,p.2.2]).length:=by unfold eY;simp;omega
   simp;omega
theorem Dr{c:bu}(h:c.rise=c):uI c=true:=by
 unfold uI;cases ht:c.told with
  |none=>rfl
  |some m=>
   have:c.rise.mark=max c.mark m:=by unfold bu.rise;rw[ht]
   rw[h]at this;simp only[decide_eq_true_eq];omega
theorem NF{c:bu}(hc:eu c)(hr:c.rise=c):xZ (fZ c)=some c:=by
 have h1:=hc.ag;have h2:=hc.idle;have h3:=hc.now;have h4:=hc.mark;have hl:=xn [99,108,111,99,107] [c.ag,c.idle,c.now,c.mark] (fC c.src) (by decide) (by decide) (by intro v hv;simp at hv;rcases hv with rfl|rfl|rfl|rfl<;>omega);simp only[List.length_cons,List.length_nil,Nat.zero_add,Nat.reduceAdd]at hl;have hl':aB 4 (fZ c) true=⟨[99,108,111,99,107],[c.ag,c.idle,c.now,c.mark],fC c.src,true⟩:=hl;have hrun:=Cy c hc c.src [] ((fZ c).length+1) rfl (by
  have:=Cq c.src;have:(fZ c).length=(eY [99,108,111,99,107] [c.ag,c.idle,c.now,c.mark]).length+(fC c.src).length:=by unfold fZ;rw[List.length_append]
  omega);unfold xZ;rw[hl'];have hh:cK ⟨[99,108,111,99,107],[c.ag,c.idle,c.now,c.mark],fC c.src,true⟩=true:=by simp only[cK,List.getD_cons_zero,List.getD_cons_succ,Bool.true_and];rw[decide_eq_true h1.1,decide_eq_true h2.1,decide_eq_true h3.1];rfl
 rw[hh];simp only[List.getD_cons_zero,List.getD_cons_succ];rw[hrun];have e:j3 ⟨[99,108,111,99,107],[c.ag,c.idle,c.now,c.mark],fC c.src,true⟩ c.src=c:=by simp only[j3,List.getD_cons_zero,List.getD_cons_succ]
 rw[e,Dr hr];simp
structure rZ(now:Int)(ok:Bool)(m:Row (Int×Int)):Prop where
 up:bP m
 each:ok=true→ ∀p∈m,af p.1=true∧0≤p.2.1∧p.2.1≤1099511627776∧0≤p.2.2∧p.2.2≤now
theorem rZ.nil(now:Int)(ok:Bool):rZ now ok []:=⟨List.Pairwise.nil,fun _ p hp=>by simp at hp⟩
theorem zz(n:Nat)(rest:List UInt8)(ok:Bool)(h:(aB n rest ok).ok=true)(k:Nat):(aB n rest ok).nums.getD k 0≤1099511627776∧ -1≤(aB n rest ok).nums.getD k 0:=by rw[List.getD_eq_getElem?_getD];cases hg:(aB n rest ok).nums[k]? with|none=>simp|some v=>have:=FT n rest ok h v (List.mem_of_getElem? hg);simp;omega
theorem rZ.step{now:Int}{ok:Bool}{m:Row (Int×Int)}(h:rZ now ok m)(rest:List UInt8):rZ now (qY now (aB 2 rest ok)) (aL (aB 2 rest ok).word ((aB 2 rest ok).nums.getD 0 0,(aB 2 rest ok).nums.getD 1 0) m):=by
 refine⟨aZ h.up _ _,fun ho p hp=>?_⟩;unfold qY at ho;simp only[Bool.and_eq_true,decide_eq_true_eq]at ho;obtain⟨⟨⟨⟨h1,h2⟩,h3⟩,h4⟩,h5⟩:=ho;have hok:=((qC 2 rest ok).2 h1).2;rcases aJ.1 hp with rfl|⟨hp,_⟩;·exact⟨h2,h3,(zz 2 rest ok h1 0).1,h4,h5⟩
 ·exact h.each hok p hp
theorem x9{b:List UInt8}{m:Row (Int×Int)}(hh:cK (aB 4 b true)=true)(h:rZ ((aB 4 b true).nums.getD 2 0) true m):eu (j3 (aB 4 b true) m):=by unfold cK at hh;simp only[Bool.and_eq_true,decide_eq_true_eq]at hh;obtain⟨⟨⟨h1,h2⟩,h3⟩,h4⟩:=hh;have k:=zz 4 b true h1;exact⟨⟨h2,(k 0).1⟩,⟨h3,(k 1).1⟩,⟨h4,(k 2).1⟩,⟨(k 3).2,(k 3).1⟩,h.up,h.each rfl⟩
theorem Au: ∀(f:Nat)(now:Int)(rest:List UInt8)(ok:Bool)(m:Row (Int×Int)),rZ now ok m→rZ now (jS f now rest ok m).1 (jS f now rest ok m).2∧((jS f now rest ok m).1=true→ok=true)
 |0,now,rest,ok,m,h=>⟨h,fun h=>h⟩
 |f+1,now,rest,ok,m,h=>by
  unfold jS;split;·rename_i hc;have:=Au f now (aB 2 rest ok).rest (qY now (aB 2 rest ok)) _ (h.step rest);refine⟨this.1,fun _=>?_⟩;simp only[Bool.and_eq_true]at hc;exact hc.1
  ·exact⟨h,fun h=>h⟩
theorem KN{b:List UInt8}{c:bu}(h:xZ b=some c):eu c∧fZ c=b∧uI c=true:=by
 unfold xZ at h;split at h;·rename_i hc;injection h with h;simp only[Bool.and_eq_true,beq_iff_eq]at hc;obtain⟨⟨h1,h2⟩,h3⟩:=hc;have k:=Au (b.length+1) ((aB 4 b true).nums.getD 2 0) (aB 4 b true).rest (cK (aB 4 b true)) [] (rZ.nil _ _);rw[h1]at k;rw[←h];exact⟨x9 (k.2 rfl) k.1,h2,h3⟩
 ·cases h
def Says(b:Bool)(w:World)(e:Ending)(w':World):Prop:=e=.returned (.bool b)∧Below w.heap.size w w'
def bq(w:World)(base:Nat)(v:Value)(es:List Ev):Prop:=w.ownsRow base 28 8 v es.length (ai es)
def tZ(w:World)(es:List Ev)(p:Ev→Bool)(e:Ending)(w':World):Prop:= ∃v,e=.returned v∧bq w' w.heap.size v (es.filter p)∧Below w.heap.size w w'
theorem bq.eU{w:World}{base base':Nat}{v:Value}{es:List Ev}(h:bq w base v es)(hb:base'≤base):bq w base' v es:=by
 refine⟨h.1,?_⟩;rcases h.2 with⟨e,hl⟩|⟨g,cap,cur,e,hb',hg,hr⟩;·exact .inl ⟨e,hl⟩
 ·exact .inr ⟨g,cap,cur,e,by omega,hg,hr⟩
def GH(n:Nat)(p:Nat→Bool)(w:World)(e:Ending)(w':World):Prop:= ∃k:Nat,e=.returned (.int .i64 k)∧k≤n∧(∀i,i<k→p i=false)∧(∀i,k≤i→i<n→p i=true)∧Below w.heap.size w w'
def KV(n:Nat)(p:Nat→Bool)(w:World)(s5 s6:Value)(wr:World):Prop:= ∃lo hi:Nat,s5=.int .i64 lo∧s6=.int .i64 hi∧lo≤hi∧hi≤n∧Below w.heap.size w wr∧(∀i,i<lo→p i=false)∧(∀i,hi≤i→i<n→p i=true)
theorem qo(w:World)(g:Nat)(cb:Array Value)(n:Nat)(p:Nat→Bool)(hn:n≤1000000000)(hcall: ∀(args:Array Value)(w:World),(callFunc g args).run Tryz.prog w=.ok (.enter g args) w)(hf: ∀(w1:World)(i:Nat),Below w.heap.size w w1→i<n→Calls Tryz.prog g (#[.int .i64 i]++cb) w1 (Says (p i) w1))(hmono: ∀i j,i≤j→j<n→p i=true→p j=true):Calls Tryz.prog 55 #[.int .i64 n,.func (.func g) #[] cb] w (GH n p w):=by
 have HF:=qH hf;have HM:=qH hmono;clear hf hmono;go_enter Tryz.func55,Tryz.ntmps55;go_wp2;go_loopw[5,6](fun s5 s6 wr=>KV n p w s5 s6 wr)(fun s5 s6 _=>(intOf s6-intOf s5).toNat);case atStart=>exact⟨0,n,rfl,rfl,Nat.zero_le _,Nat.le_refl _,Below.refl _ _,fun i h=>by omega,fun i h h'=>by omega⟩
 case round=>
  obtain⟨lo,hi,rfl,rfl,hlh,hhn,hbel,h1,h2⟩:=hrel;have H1:=qH h1;have H2:=qH h2;clear h1 h2;by_cases hlt:lo<hi
  ·have hc:=HF.o wr ((lo+hi)/2) hbel (by omega);rw[show(((lo+hi)/2:Nat):Int)=((lo:Int)+(hi:Int))/2 by omega]at hc;have HC:=qH hc;clear hc;go_wp2_with fail;refine HC.o.mono ?_;rintro e w1⟨rfl,hb1⟩;have hbw:Below w.heap.size w w1:=hbel.trans (hb1.mono hbel.size);clear hb1 hcall;cases hp:p ((lo+hi)/2)
   ·have HP:=qH hp;clear hp;go_wp2;go_roundw;case rel=>
     refine⟨(lo+hi)/2+1,hi,by go_num,rfl,by omega,hhn,hbw,fun i hi'=>?_,H2.o⟩;cases hpi:p i;·rfl
     ·have:=HM.o i ((lo+hi)/2) (by omega) (by omega) hpi;rw[HP.o]at this;cases this
    case measure=>simp[intOf];omega
   ·have HP:=qH hp;clear hp;go_wp2;go_roundw;case rel=>refine⟨lo,(lo+hi)/2,rfl,by go_num,by omega,by omega,hbw,H1.o,fun i hi' hn'=>?_⟩;exact HM.o _ _ hi' hn' HP.o
    case measure=>simp[intOf];omega
  ·have e:hi=lo:=by omega
   have HE:=qH e;clear e;go_wp2;go_ret;exact⟨lo,rfl,by omega,H1.o,fun i hi' hn'=>H2.o i (by rw[HE.o];exact hi') hn',hbel⟩
def jy(w:World)(n:Nat)(es:List Ev)(p:Ev→Bool)(v i:Value)(wr:World):Prop:= ∃k:Nat,i=.int .i64 k∧k≤n∧bq wr w.heap.size v ((es.take k).filter p)∧Below w.heap.size w wr
open Go.Shelf
def EO(w:World)(ks:List (List UInt8))(e:Ending)(w':World):Prop:= ∃v r,e=.returned v∧iK r ks∧w'.ownsRow w.heap.size 9 1 v r.length (r.map encStr)∧Below w.heap.size w w'
theorem Dj(ks:List (List UInt8)): ∃ss:List (List UInt8),ss.Nodup∧ ∀x,x∈ss↔x∈ks:=by
 induction ks with
  |nil=>exact⟨[],List.nodup_nil,fun x=>Iff.rfl⟩
  |cons k ks ih=>
   obtain⟨ss,h1,h2⟩:=ih;by_cases h:k∈ks;·exact⟨ss,h1,fun x=>by rw[h2 x];simp;intro e;subst e;exact h⟩
   ·exact⟨k::ss,List.nodup_cons.2 ⟨fun hk=>h ((h2 k).1 hk),h1⟩,fun x=>by simp[h2 x]⟩
theorem rn02(w:World)(l:List UInt8)(hm:l.length≤1000000000):Calls Tryz.prog 109 #[.string ⟨l.toArray⟩] w fun e w'=>e=.returned (.bool (af l))∧w=w':=by
 by_cases h0:l.length<1;·go_enter Tryz.func109,Tryz.ntmps109;go_wp2;go_ret;rw[dn (.inl h0)];exact⟨rfl,rfl⟩
 by_cases h24:24<l.length;·go_enter Tryz.func109,Tryz.ntmps109;go_wp2;go_ret;rw[dn (.inr h24)];exact⟨rfl,rfl⟩
 have d0:decide ((l.length:Int)<1)=false:=decide_eq_false (by omega);have d1:decide (24<(l.length:Int))=false:=decide_eq_false (by omega);go_enter Tryz.func109,Tryz.ntmps109;go_wp2;go_loop[3](fun i=> ∃k:Nat,i=.int .i64 k∧k≤l.length∧Hid (∀j(hj:j<l.length),j<k→dK l[j]=true))(fun i=>l.length-(intOf i).toNat);case atStart=>exact⟨0,rfl,Nat.zero_le _,fun j _ h=>by omega⟩
 case round=>
  obtain⟨k,rfl,hk,HK⟩:=hrel;by_cases hkn:k<l.length
  ·have g0:(⟨l.toArray⟩:ByteArray)[k]'(by simpa[ByteArray.size]using hkn)=l[k]:=rfl;have HC:=qS (dK l[k]=((decide (97≤l[k].toNat)&&decide (l[k].toNat≤122))||(decide (48≤l[k].toNat)&&decide (l[k].toNat≤57))||decide (l[k].toNat=45))) (rfl);have HB:=qH (fun h=>o7 (l:=l) k hkn h);have HN:=qS (∀h:dK l[k]=true,∀j(hj:j<l.length),j<k+1→dK l[j]=true) (fun h j hj hlt=>by
    by_cases e:j=k;·subst e;exact h
    ·exact HK.o j hj (by omega));have hx:=l[k].toNat_lt;generalize hc:dK l[k]=cc at*;clear hc;generalize Qn:l[k]=x at*;clear Qn;have hcc:cc=true∨cc=false:=by cases cc<;>simp
   rcases hcc with hcc|hcc
   ·have l5:Hid (((97≤x.toNat∧x.toNat≤122)∨(48≤x.toNat∧x.toNat≤57))∨x.toNat=45):=by have:=HC.o;rw[hcc]at this;unfold Hid;simpa using this.symm
    have EJ:=qH (HN.o hcc);clear hcc HC HB HN;have e45:Hid ((x.toNat:Int)=45↔x.toNat=45):=by unfold Hid;omega
    rcases l5.o with(⟨a1,a2⟩|⟨a1,a2⟩)|a1
    ·have b1:decide (97≤(x.toNat:Int))=true:=decide_eq_true (by omega);have b2:decide ((x.toNat:Int)≤122)=true:=decide_eq_true (by omega);go_wp2;go_round;case rel=>exact⟨k+1,by go_num,by omega,EJ.o⟩
     case measure=>simp[intOf];omega
    ·have b1:decide (97≤(x.toNat:Int))=false:=decide_eq_false (by omega);have b2:decide (48≤(x.toNat:Int))=true:=decide_eq_true (by omega);have b3:decide ((x.toNat:Int)≤57)=true:=decide_eq_true (by omega);go_wp2;go_round;case rel=>exact⟨k+1,by go_num,by omega,EJ.o⟩
     case measure=>simp[intOf];omega
    ·have b1:decide (97≤(x.toNat:Int))=false:=decide_eq_false (by omega);have b2:decide (48≤(x.toNat:Int))=false:=decide_eq_false (by omega);have b3:((x.toNat:Int)==45)=true:=by simp;omega
     have A1:=qH a1;clear a1;go_wp2;go_round;case rel=>exact⟨k+1,by go_num,by omega,EJ.o⟩
     case measure=>simp[intOf];omega
   ·have l5:Hid (¬(((97≤x.toNat∧x.toNat≤122)∨(48≤x.toNat∧x.toNat≤57))∨x.toNat=45)):=by
     have:=HC.o;rw[hcc]at this;unfold Hid;intro hh;have h2:(decide (97≤x.toNat)&&decide (x.toNat≤122)||decide (48≤x.toNat)&&decide (x.toNat≤57)||decide (x.toNat=45))=true:=by simpa using hh
     rw[h2]at this;cases this
    have hB:=HB.o hcc;have qU:=qH hB;clear hcc HC HN HB hB;have b5:((x.toNat:Int)==45)=false:=by have:=l5.o;simp;omega
    have hcases:(123≤x.toNat)∨(97>x.toNat∧58≤x.toNat)∨(x.toNat<48):=by have:=l5.o;omega
    rcases hcases with a1|⟨a1,a2⟩|a1;·have b1:decide (97≤(x.toNat:Int))=true:=decide_eq_true (by omega);have b2:decide ((x.toNat:Int)≤122)=false:=decide_eq_false (by omega);have b3:decide (48≤(x.toNat:Int))=true:=decide_eq_true (by omega);have b4:decide ((x.toNat:Int)≤57)=false:=decide_eq_false (by omega);go_wp2;go_ret;rw[qU.o];exact⟨rfl,rfl⟩
    ·have b1:decide (97≤(x.toNat:Int))=false:=decide_eq_false (by omega);have b3:decide (48≤(x.toNat:Int))=true:=decide_eq_true (by omega);have b4:decide ((x.toNat:Int)≤57)=false:=decide_eq_false (by omega);go_wp2;go_ret;rw[qU.o];exact⟨rfl,rfl⟩
    ·have b1:decide (97≤(x.toNat:Int))=false:=decide_eq_false (by omega);have b3:decide (48≤(x.toNat:Int))=false:=decide_eq_false (by omega);go_wp2;go_ret;rw[qU.o];exact⟨rfl,rfl⟩
  ·have hB:af l=true:=jX (by omega) (by omega) (fun j hj=>HK.o j hj (by omega));have qU:=qH hB;clear hB;go_wp2;go_ret;rw[qU.o];exact⟨rfl,rfl⟩
end Go.Proofs.YtladegonienapaaGreatDoor
