/-
  Layer 7, plain: ranges of numbers.
-/
import Derived.Test.YtladegonienapaaGreatDoorRRowK
set_option maxRecDepth 100000
set_option maxHeartbeats 16000000
namespace Go.Proofs.YtladegonienapaaGreatDoor
open Go.RowKit
def eU(c:UInt8):Bool:=(decide (97≤c.toNat)&&decide (c.toNat≤122))||(decide (48≤c.toNat)&&decide (c.toNat≤57))||decide (c.toNat=45)
def ae(l:List UInt8):Bool:=decide (1≤l.length)&&decide (l.length≤24)&&l.all eU
theorem dX{l:List UInt8}(h:l.length<1∨24<l.length):ae l=false:=by unfold ae;rcases h with h|h<;>simp<;>omega
theorem vB{l:List UInt8}(k:Nat)(hk:k<l.length)(h:eU l[k]=false):ae l=false:=by
 unfold ae;have:l.all eU=false:=by rw[List.all_eq_false];exact⟨l[k],List.getElem_mem hk,by simp[h]⟩
 simp[this]
theorem mV{l:List UInt8}(h1:1≤l.length)(h2:l.length≤24)(h: ∀j(hj:j<l.length),eU l[j]=true):ae l=true:=by
 unfold ae;have:l.all eU=true:=by rw[List.all_eq_true];intro x hx;obtain⟨j,hj,rfl⟩:=List.getElem_of_mem hx;exact h j hj
 simp[this,h1,h2]
theorem kN(w:World)(l:List UInt8)(hm:l.length≤1000000000):Calls Tryz.prog 66 #[.string ⟨l.toArray⟩] w fun e w'=>e=.returned (.bool (ae l))∧w=w':=by
 by_cases h0:l.length<1;·go_enter Tryz.func66,Tryz.ntmps66;go_wp2;go_ret;rw[dX (.inl h0)];exact⟨rfl,rfl⟩
 by_cases h24:24<l.length;·go_enter Tryz.func66,Tryz.ntmps66;go_wp2;go_ret;rw[dX (.inr h24)];exact⟨rfl,rfl⟩
 have d0:decide ((l.length:Int)<1)=false:=decide_eq_false (by omega);have d1:decide (24<(l.length:Int))=false:=decide_eq_false (by omega);go_enter Tryz.func66,Tryz.ntmps66;go_wp2;go_loop[15](fun i=> ∃k:Nat,i=.int .i64 k∧k≤l.length∧Hid (∀j(hj:j<l.length),j<k→eU l[j]=true))(fun i=>l.length-(intOf i).toNat);case atStart=>exact⟨0,rfl,Nat.zero_le _,fun j _ h=>by omega⟩
 case round=>
  obtain⟨k,rfl,hk,HK⟩:=hrel;by_cases hkn:k<l.length
  ·have g0:(⟨l.toArray⟩:ByteArray)[k]'(by simpa[ByteArray.size]using hkn)=l[k]:=rfl;have HC:=qS (eU l[k]=((decide (97≤l[k].toNat)&&decide (l[k].toNat≤122))||(decide (48≤l[k].toNat)&&decide (l[k].toNat≤57))||decide (l[k].toNat=45))) (rfl);have HB:=qH (fun h=>vB (l:=l) k hkn h);have HN:=qS (∀h:eU l[k]=true,∀j(hj:j<l.length),j<k+1→eU l[j]=true) (fun h j hj hlt=>by
    by_cases e:j=k;·subst e;exact h
    ·exact HK.o j hj (by omega));have hx:=l[k].toNat_lt;generalize hc:eU l[k]=cc at*;clear hc;generalize Og:l[k]=x at*;clear Og;have hcc:cc=true∨cc=false:=by cases cc<;>simp
   rcases hcc with hcc|hcc
   ·have uf:Hid (((97≤x.toNat∧x.toNat≤122)∨(48≤x.toNat∧x.toNat≤57))∨x.toNat=45):=by have:=HC.o;rw[hcc]at this;unfold Hid;simpa using this.symm
    have Kw:=qH (HN.o hcc);clear hcc HC HB HN;have e45:Hid ((x.toNat:Int)=45↔x.toNat=45):=by unfold Hid;omega
    rcases uf.o with(⟨a1,a2⟩|⟨a1,a2⟩)|a1
    ·have b1:decide (97≤(x.toNat:Int))=true:=decide_eq_true (by omega);have b2:decide ((x.toNat:Int)≤122)=true:=decide_eq_true (by omega);go_wp2;go_round;case rel=>exact⟨k+1,by go_num,by omega,Kw.o⟩
     case measure=>simp[intOf];omega
    ·have b1:decide (97≤(x.toNat:Int))=false:=decide_eq_false (by omega);have b2:decide (48≤(x.toNat:Int))=true:=decide_eq_true (by omega);have b3:decide ((x.toNat:Int)≤57)=true:=decide_eq_true (by omega);go_wp2;go_round;case rel=>exact⟨k+1,by go_num,by omega,Kw.o⟩
     case measure=>simp[intOf];omega
    ·have b1:decide (97≤(x.toNat:Int))=false:=decide_eq_false (by omega);have b2:decide (48≤(x.toNat:Int))=false:=decide_eq_false (by omega);have b3:((x.toNat:Int)==45)=true:=by simp;omega
     have A1:=qH a1;clear a1;go_wp2;go_round;case rel=>exact⟨k+1,by go_num,by omega,Kw.o⟩
     case measure=>simp[intOf];omega
   ·have uf:Hid (¬(((97≤x.toNat∧x.toNat≤122)∨(48≤x.toNat∧x.toNat≤57))∨x.toNat=45)):=by
     have:=HC.o;rw[hcc]at this;unfold Hid;intro hh;have h2:(decide (97≤x.toNat)&&decide (x.toNat≤122)||decide (48≤x.toNat)&&decide (x.toNat≤57)||decide (x.toNat=45))=true:=by simpa using hh
     rw[h2]at this;cases this
    have hB:=HB.o hcc;have IQ:=qH hB;clear hcc HC HN HB hB;have b5:((x.toNat:Int)==45)=false:=by have:=uf.o;simp;omega
    have hcases:(123≤x.toNat)∨(97>x.toNat∧58≤x.toNat)∨(x.toNat<48):=by have:=uf.o;omega
    rcases hcases with a1|⟨a1,a2⟩|a1;·have b1:decide (97≤(x.toNat:Int))=true:=decide_eq_true (by omega);have b2:decide ((x.toNat:Int)≤122)=false:=decide_eq_false (by omega);have b3:decide (48≤(x.toNat:Int))=true:=decide_eq_true (by omega);have b4:decide ((x.toNat:Int)≤57)=false:=decide_eq_false (by omega);go_wp2;go_ret;rw[IQ.o];exact⟨rfl,rfl⟩
    ·have b1:decide (97≤(x.toNat:Int))=false:=decide_eq_false (by omega);have b3:decide (48≤(x.toNat:Int))=true:=decide_eq_true (by omega);have b4:decide ((x.toNat:Int)≤57)=false:=decide_eq_false (by omega);go_wp2;go_ret;rw[IQ.o];exact⟨rfl,rfl⟩
    ·have b1:decide (97≤(x.toNat:Int))=false:=decide_eq_false (by omega);have b3:decide (48≤(x.toNat:Int))=false:=decide_eq_false (by omega);go_wp2;go_ret;rw[IQ.o];exact⟨rfl,rfl⟩
  ·have hB:ae l=true:=mV (by omega) (by omega) (fun j hj=>HK.o j hj (by omega));have IQ:=qH hB;clear hB;go_wp2;go_ret;rw[IQ.o];exact⟨rfl,rfl⟩
open Go.Maps Go.Sort
def ed(n:Int):Int:=min (max n 0) 1099511627776
theorem pU(n:Int):0≤ed n:=by unfold ed;omega
theorem pV(n:Int):ed n≤1099511627776:=by unfold ed;omega
def jT:List Int→Option Int|[]=>none|x::r=>match jT r with|none=>some x|some y=>some (if x≤y then x else y)
theorem qD{l:List Int}:jT l=none↔l=[]:=by cases l with|nil=>simp[jT]|cons x r=>simp only[jT];split<;>simp
theorem yX{l:List Int}{m:Int}:jT l=some m↔m∈l∧ ∀x∈l,m≤x:=by
 induction l generalizing m with
  |nil=>simp[jT]
  |cons x r ih=>
   simp only[jT];cases hr:jT r with
    |none=>
     have:=qD.1 hr;subst this;simp;constructor;·rintro rfl;exact⟨rfl,Int.le_refl _⟩
     ·exact fun h=>h.1.symm
    |some y=>
     obtain⟨h1,h2⟩:=ih.1 hr;simp only[Option.some.injEq,List.mem_cons];constructor
     ·rintro rfl;split
      ·refine⟨.inl rfl,fun z hz=>?_⟩;rcases hz with rfl|hz;·exact Int.le_refl _
       ·have:=h2 z hz;omega
      ·refine⟨.inr h1,fun z hz=>?_⟩;rcases hz with rfl|hz;·omega
       ·exact h2 z hz
     ·rintro⟨h3,h4⟩;have a1:=h4 x (.inl rfl);have a2:=h4 y (.inr h1);rcases h3 with rfl|h3;·rw[if_pos a2]
      ·have:=h2 m h3;split<;>omega
structure bq where
 ag:Int
 idle:Int
 now:Int
 mark:Int
 src:Row (Int×Int)
def oJ(idle now:Int)(s:Int×Int):Bool:=decide (idle=0)||decide (now-s.2≤idle)
def bq.told(c:bq):Option Int:=jT ((c.src.filter fun p=>oJ c.idle c.now p.2).map fun p=>p.2.1-c.ag-1)
def bq.rise(c:bq):bq:=match c.told with|none=>c|some m=>{c with mark:=max c.mark m}
def bq.tick(c:bq)(now:Int):bq:=({c with now:=max c.now (ed now)}:bq).rise
def bq.hears(c:bq)(name:List UInt8)(at_:Int):Bool:=ae name&&decide (0≤at_)&&decide (at_≤1099511627776)&&decide (c.mark<at_)
def bq.heard(c:bq)(name:List UInt8)(at_:Int):bq:=({c with src:=aR name (max ((aA c.src name).getD (0,0)).1 at_,c.now) c.src}:bq).rise
def bq.hear(c:bq)(name:List UInt8)(at_ now:Int):bq:=if(c.tick now).hears name at_ then(c.tick now).heard name at_ else c.tick now
def bq.new(ag idle:Int):bq:=⟨ed ag,ed idle,0,-1,[]⟩
structure fP(c:bq):Prop where
 ag:0≤c.ag∧c.ag≤1099511627776
 idle:0≤c.idle∧c.idle≤1099511627776
 now:0≤c.now∧c.now≤1099511627776
 mark: -1≤c.mark∧c.mark≤1099511627776
 rising:bM c.src
 src: ∀p∈c.src,ae p.1=true∧0≤p.2.1∧p.2.1≤1099511627776∧0≤p.2.2∧p.2.2≤c.now
theorem uQ{c:bq}{m:Int}:c.told=some m↔(∃p∈c.src,oJ c.idle c.now p.2=true∧m=p.2.1-c.ag-1)∧ ∀p∈c.src,oJ c.idle c.now p.2=true→m≤p.2.1-c.ag-1:=by
 unfold bq.told;rw[yX];simp only[List.mem_map,List.mem_filter];constructor;·rintro⟨⟨p,⟨h1,h2⟩,rfl⟩,h3⟩;exact⟨⟨p,h1,h2,rfl⟩,fun q hq ha=>h3 _ ⟨q,⟨hq,ha⟩,rfl⟩⟩
 ·rintro⟨⟨p,h1,h2,rfl⟩,h3⟩;refine⟨⟨p,⟨h1,h2⟩,rfl⟩,?_⟩;rintro _⟨q,⟨hq,ha⟩,rfl⟩;exact h3 q hq ha
theorem told_none{c:bq}:c.told=none↔ ∀p∈c.src,oJ c.idle c.now p.2=false:=by
 unfold bq.told;rw[qD];simp only[List.map_eq_nil_iff,List.filter_eq_nil_iff];constructor;·intro h p hp;simpa using h p hp
 ·intro h p hp;simp[h p hp]
theorem fP.told{c:bq}(h:fP c){m:Int}(ht:c.told=some m): -1099511627777≤m∧m≤1099511627776:=by obtain⟨⟨p,hp,_,rfl⟩,_⟩:=uQ.1 ht;have:=h.src p hp;have:=h.ag;omega
theorem fP.said{c:bq}(h:fP c){name:List UInt8}{at_:Int}(hh:c.hears name at_=true):fP {c with src:=aR name (max ((aA c.src name).getD (0,0)).1 at_,c.now) c.src}:=by
 unfold bq.hears at hh;simp only[Bool.and_eq_true,decide_eq_true_eq]at hh;obtain⟨⟨⟨h1,h2⟩,h3⟩,h4⟩:=hh;have hn:=h.now;refine⟨h.ag,h.idle,h.now,h.mark,aY h.rising _ _,fun p hp=>?_⟩;rcases aF.1 hp with rfl|⟨hp,_⟩;·refine⟨h1,?_⟩;cases hg:aA c.src name with|none=>simp only[Option.getD_none];omega|some q=>have:=h.src _ (ah hg);simp only[Option.getD_some]at*;omega
 ·exact h.src p hp
theorem rC(c:bq)(now:Int):(c.tick now).src.length=c.src.length:=by unfold bq.tick bq.rise;split<;>rfl
theorem Gv(c:bq)(name:List UInt8)(at_ now:Int):(c.hear name at_ now).src.length≤c.src.length+1:=by
 unfold bq.hear;split
 ·have:((c.tick now).heard name at_).src=aR name (max ((aA (c.tick now).src name).getD (0,0)).1 at_,(c.tick now).now) (c.tick now).src:=by unfold bq.heard bq.rise;split<;>rfl
  rw[this];have:=df (c.tick now).src name (max ((aA (c.tick now).src name).getD (0,0)).1 at_,(c.tick now).now);rw[rC]at this;exact this
 ·rw[rC];omega
theorem fP.new(ag idle:Int):fP (bq.new ag idle):=⟨⟨pU _,pV _⟩,⟨pU _,pV _⟩,by simp[bq.new],by simp[bq.new],by simp[bq.new,bM],fun p hp=>by simp[bq.new]at hp⟩
theorem uX(c:bq):c.rise.rise=c.rise:=by unfold bq.rise;cases ht:c.told with|none=>simp only[ht]|some m=>simp only;have:({c with mark:=max c.mark m}:bq).told=some m:=ht;rw[this];simp only;congr 1;omega
theorem yn(c:bq):c.rise.now=c.now:=by unfold bq.rise;split<;>rfl
theorem FQ(c:bq):c.rise.src=c.src:=by unfold bq.rise;split<;>rfl
abbrev Rg:=List (Int×Int)
structure RgOk(rs:Rg):Prop where
 up:rs.Pairwise fun r s=>r.2<s.1
 each: ∀r∈rs,1≤r.1∧r.1<r.2∧r.2≤1099511627777
def dF(rs:Rg)(n:Int):Nat:=(rs.takeWhile fun r=>decide (r.2≤n)).length
def bS(rs:Rg)(n:Int):Bool:=rs.any fun r=>decide (r.1≤n)&&decide (n<r.2)
def iP(rs:Rg)(n:Int):Bool:=decide (0<dF rs n)&&((rs.getD (dF rs n-1) (0,0)).2==n)
def iA(rs:Rg)(n:Int):Bool:=decide (dF rs n<rs.length)&&((rs.getD (dF rs n) (0,0)).1==n+1)
def bD(rs:Rg)(n:Int):Rg:=if iP rs n then if iA rs n then(rs.set (dF rs n-1) ((rs.getD (dF rs n-1) (0,0)).1,(rs.getD (dF rs n) (0,0)).2)).take (dF rs n)++(rs.set (dF rs n-1) ((rs.getD (dF rs n-1) (0,0)).1,(rs.getD (dF rs n) (0,0)).2)).drop (dF rs n+1)else rs.set (dF rs n-1) ((rs.getD (dF rs n-1) (0,0)).1,n+1)else if iA rs n then rs.set (dF rs n) (n,(rs.getD (dF rs n) (0,0)).2)else rs.take (dF rs n)++[(n,n+1)]++rs.drop (dF rs n)
theorem FX(rs:Rg)(n:Int):dF rs n≤rs.length:=by unfold dF;exact(List.takeWhile_prefix _).length_le
theorem yz{rs:Rg}(h:RgOk rs)(n:Int): ∃A B,rs=A++B∧dF rs n=A.length∧(∀r∈A,r.2≤n)∧ ∀r∈B,n<r.2:=by
 refine⟨rs.takeWhile fun r=>decide (r.2≤n),rs.dropWhile fun r=>decide (r.2≤n),List.takeWhile_append_dropWhile.symm,rfl,fun r hr=>by simpa using List.all_eq_true.1 List.all_takeWhile r hr,?_⟩;have key: ∀l:Rg,l.Pairwise (fun r s=>r.2<s.1)→(∀r∈l,r.1<r.2)→ ∀r∈l.dropWhile (fun r=>decide (r.2≤n)),n<r.2:=by
  intro l;induction l with
   |nil=>intro _ _ r hr;simp at hr
   |cons a t ih=>
    intro hp he r hr;obtain⟨h1,h2⟩:=List.pairwise_cons.1 hp;by_cases ha:a.2≤n;·rw[List.dropWhile_cons_of_pos (by simpa using ha)]at hr;exact ih h2 (fun r hr=>he r (by simp[hr])) r hr
    ·rw[List.dropWhile_cons_of_neg (by simpa using ha)]at hr;rcases List.mem_cons.1 hr with rfl|hr;·omega
     ·have:=h1 r hr;have:=he r (by simp[hr]);omega
 exact key rs h.up (fun r hr=>(h.each r hr).2.1)
theorem L8{rs:Rg}{n:Int}{A B:Rg}(h:rs=A++B)(hA: ∀r∈A,r.2≤n)(hB: ∀r∈B,n<r.2):dF rs n=A.length:=by subst h;unfold dF;rw[List.takeWhile_append_of_pos (fun r hr=>by simpa using hA r hr)];cases B with|nil=>simp|cons b t=>rw[List.takeWhile_cons_of_neg (by have:=hB b (by simp);simp;omega)];simp
theorem Az{rs:Rg}{n:Int}(k:Nat)(hk:k≤rs.length)(h1: ∀i(h:i<rs.length),i<k→rs[i].2≤n)(h2: ∀i(h:i<rs.length),k≤i→n<rs[i].2):k=dF rs n:=by have:=L8 (rs:=rs) (n:=n) (A:=rs.take k) (B:=rs.drop k) (List.take_append_drop k rs).symm (fun r hr=>by obtain⟨i,hi,rfl⟩:=List.getElem_of_mem hr;rw[List.length_take]at hi;rw[List.getElem_take];exact h1 i (by omega) (by omega)) (fun r hr=>by obtain⟨i,hi,rfl⟩:=List.getElem_of_mem hr;rw[List.length_drop]at hi;rw[List.getElem_drop];exact h2 (k+i) (by omega) (by omega));rw[this,List.length_take];omega
theorem Jo{rs:Rg}(h:RgOk rs)(i j:Nat)(hij:i≤j)(hj:j<rs.length):rs[i].2≤rs[j].2:=by
 rcases Nat.lt_or_ge i j with hlt|hge;·have h1:=List.pairwise_iff_getElem.1 h.up i j (by omega) hj hlt;have h2:=(h.each rs[j] (List.getElem_mem hj)).2.1;omega
 ·have:i=j:=by omega
  subst this;exact Int.le_refl _
theorem CK{rs:Rg}(h:RgOk rs)(n:Int):bS rs n=(decide (dF rs n<rs.length)&&decide ((rs.getD (dF rs n) (0,0)).1≤n)):=by
 obtain⟨A,B,e,hp,hA,hB⟩:=yz h n;rw[hp];subst e;unfold bS;rw[List.any_append];have h0:(A.any fun r=>decide (r.1≤n)&&decide (n<r.2))=false:=by rw[List.any_eq_false];intro r hr;have:=hA r hr;simp;omega
 rw[h0,Bool.false_or];cases B with
  |nil=>simp
  |cons b t=>
   have hb:=hB b (by simp);have hup:=(List.pairwise_append.1 h.up).2.1;obtain⟨h1,h2⟩:=List.pairwise_cons.1 hup;have h3:(t.any fun r=>decide (r.1≤n)&&decide (n<r.2))=false:=by rw[List.any_eq_false];intro r hr;have:=h1 r hr;simp;omega
   rw[List.any_cons,h3,Bool.or_false];simp[hb]
theorem jQ{rs:Rg}(h:RgOk rs){n:Int}(hn:bS rs n=false): ∃A B a b,(rs=A++B∨rs=A++(a,n)::B∨rs=A++(n+1,b)::B∨rs=A++(a,n)::(n+1,b)::B)∧((rs=A++B∧bD rs n=A++(n,n+1)::B)∨(rs=A++(a,n)::B∧bD rs n=A++(a,n+1)::B)∨(rs=A++(n+1,b)::B∧bD rs n=A++(n,b)::B)∨(rs=A++(a,n)::(n+1,b)::B∧bD rs n=A++(a,b)::B))∧(∀r∈A,r.2<n)∧(∀r∈B,n+1<r.1):=by
 have hh:=CK h n;rw[hn]at hh;obtain⟨A,B,e,hp,hA,hB⟩:=yz h n;have hB1: ∀r∈B,n<r.1:=by
  cases B with
   |nil=>intro r hr;simp at hr
   |cons b t=>
    have h0:n<b.1:=by rw[hp]at hh;subst e;simp at hh;exact hh
    intro r hr;rcases List.mem_cons.1 hr with rfl|hr;·exact h0
    ·subst e;have hup:=(List.pairwise_append.1 h.up).2.1;have h1:=(List.pairwise_cons.1 hup).1 r hr;have h2:=h.each b (by simp);omega
 have Rb:=(List.pairwise_append.1 (e▸h.up)).1;have Ra:=(List.pairwise_append.1 (e▸h.up)).2.1;have left:(iP rs n=false∧ ∀r∈A,r.2<n)∨(iP rs n=true∧ ∃A' a,A=A'++[(a,n)]∧ ∀r∈A',r.2<n):=by
  unfold iP;rw[hp];rcases List.eq_nil_or_concat A with rfl|⟨A',x,rfl⟩;·left;exact⟨by simp,by simp⟩
  ·have hx:rs.getD ((A'++[x]).length-1) (0,0)=x:=by subst e;simp
   rw[List.concat_eq_append]at*;rw[hx];have hA2: ∀r∈A',r.2<n:=fun r hr=>by have h1:=(List.pairwise_append.1 Rb).2.2 r hr x (by simp);have h2:=hA x (by simp);have h3:=h.each x (by subst e;simp);omega
   by_cases zX:x.2=n;·right;exact⟨by simp[zX],A',x.1,by rw[←zX],hA2⟩
   ·left;refine⟨by simp[zX],fun r hr=>?_⟩;rcases List.mem_append.1 hr with hr|hr;·exact hA2 r hr
    ·have:=hA x (by simp);simp at hr;subst hr;omega
 have right:(iA rs n=false∧ ∀r∈B,n+1<r.1)∨(iA rs n=true∧ ∃b B',B=(n+1,b)::B'∧ ∀r∈B',n+1<r.1):=by
  unfold iA;rw[hp];cases B with
   |nil=>left;exact⟨by subst e;simp,by simp⟩
   |cons x t=>
    have hx:rs.getD A.length (0,0)=x:=by subst e;simp
    have hl:A.length<rs.length:=by subst e;simp
    rw[hx];have hB2: ∀r∈t,n+1<r.1:=fun r hr=>by have h1:=(List.pairwise_cons.1 Ra).1 r hr;have h2:=hB1 x (by simp);have h3:=h.each x (by subst e;simp);omega
    by_cases zX:x.1=n+1;·right;exact⟨by simp[zX,hl],x.2,t,by rw[←zX],hB2⟩
    ·left;refine⟨by simp[zX],fun r hr=>?_⟩;rcases List.mem_cons.1 hr with rfl|hr;·have:=hB1 r (by simp);omega
     ·exact hB2 r hr
 rcases left with⟨hl,hl2⟩|⟨hl,A',a,rfl,hl2⟩<;>rcases right with⟨hr,hr2⟩|⟨hr,b,B',rfl,hr2⟩;·refine⟨A,B,0,0,.inl e,.inl ⟨e,?_⟩,hl2,hr2⟩;unfold bD;rw[hl,hr,hp];subst e;simp
 ·refine⟨A,B',0,b,.inr (.inr (.inl e)),.inr (.inr (.inl ⟨e,?_⟩)),hl2,hr2⟩;unfold bD;rw[hl,hr,hp];subst e;simp
 ·refine⟨A',B,a,0,.inr (.inl (by rw[e];simp)),.inr (.inl ⟨by rw[e];simp,?_⟩),hl2,hr2⟩;unfold bD;rw[hl,hr,hp];subst e;simp
 ·refine⟨A',B',a,b,.inr (.inr (.inr (by rw[e];simp))),.inr (.inr (.inr ⟨by rw[e];simp,?_⟩)),hl2,hr2⟩;unfold bD;rw[hl,hr,hp];subst e;simp only[List.length_append,List.length_cons,List.length_nil,Nat.zero_add,Nat.add_sub_cancel];have e1:(A'++[(a,n)]++(n+1,b)::B').set A'.length (((A'++[(a,n)]++(n+1,b)::B').getD A'.length (0,0)).1,((A'++[(a,n)]++(n+1,b)::B').getD (A'.length+1) (0,0)).2)=(A'++[(a,b)])++([(n+1,b)]++B'):=by simp
  rw[e1,List.take_left' (by simp),←List.append_assoc,List.drop_left' (by simp)];simp
theorem FV{rs:Rg}(h:RgOk rs){n:Int}(hn:bS rs n=false)(m:Int):bS (bD rs n) m=(bS rs m||(m==n)):=by
 have Et:=h.up;have um:=h.each;obtain⟨A,B,a,b,_,hc,hA,hB⟩:=jQ h hn;rcases hc with⟨e,hp⟩|⟨e,hp⟩|⟨e,hp⟩|⟨e,hp⟩<;>rw[hp,e]<;>unfold bS<;>simp only[List.any_append,List.any_cons]<;>generalize(A.any fun r=>decide (r.1≤m)&&decide (m<r.2))=x<;>generalize(B.any fun r=>decide (r.1≤m)&&decide (m<r.2))=y;·cases x<;>cases y<;>first|(simp;done)|(rw[Bool.eq_iff_iff];simp;omega)
 ·have:=um (a,n) (by rw[e];simp);cases x<;>cases y<;>first|(simp;done)|(rw[Bool.eq_iff_iff];simp;omega)
 ·have:=um (n+1,b) (by rw[e];simp);cases x<;>cases y<;>first|(simp;done)|(rw[Bool.eq_iff_iff];simp;omega)
 ·have:=um (a,n) (by rw[e];simp);have:=um (n+1,b) (by rw[e];simp);cases x<;>cases y<;>first|(simp;done)|(rw[Bool.eq_iff_iff];simp;omega)
theorem Jr{rs:Rg}(h:RgOk rs){n:Int}(hn:bS rs n=false)(h1:1≤n)(h2:n≤1099511627776):RgOk (bD rs n):=by
 have Et:=h.up;have um:=h.each;obtain⟨A,B,a,b,_,hc,hA,hB⟩:=jQ h hn;rcases hc with⟨e,hp⟩|⟨e,hp⟩|⟨e,hp⟩|⟨e,hp⟩<;>rw[hp]<;>rw[e]at Et um
 ·obtain⟨u1,u2,u3⟩:=List.pairwise_append.1 Et;refine⟨List.pairwise_append.2 ⟨u1,List.pairwise_cons.2 ⟨fun r hr=>hB r hr,u2⟩,fun r hr s hs=>?_⟩,fun r hr=>?_⟩
  ·rcases List.mem_cons.1 hs with rfl|hs;·exact hA r hr
   ·exact u3 r hr s hs
  ·rcases List.mem_append.1 hr with hr|hr;·exact um r (by simp[hr])
   ·rcases List.mem_cons.1 hr with rfl|hr;·exact⟨h1,by simp only;omega,by simp only;omega⟩
    ·exact um r (by simp[hr])
 ·obtain⟨u1,u2,u3⟩:=List.pairwise_append.1 Et;obtain⟨u4,u5⟩:=List.pairwise_cons.1 u2;have ha:=um (a,n) (by simp);refine⟨List.pairwise_append.2 ⟨u1,List.pairwise_cons.2 ⟨fun r hr=>hB r hr,u5⟩,fun r hr s hs=>?_⟩,fun r hr=>?_⟩
  ·rcases List.mem_cons.1 hs with rfl|hs;·exact u3 r hr (a,n) (by simp)
   ·exact u3 r hr s (by simp[hs])
  ·rcases List.mem_append.1 hr with hr|hr;·exact um r (by simp[hr])
   ·rcases List.mem_cons.1 hr with rfl|hr;·simp only at*;omega
    ·exact um r (by simp[hr])
 ·obtain⟨u1,u2,u3⟩:=List.pairwise_append.1 Et;obtain⟨u4,u5⟩:=List.pairwise_cons.1 u2;have ha:=um (n+1,b) (by simp);refine⟨List.pairwise_append.2 ⟨u1,List.pairwise_cons.2 ⟨fun r hr=>u4 r hr,u5⟩,fun r hr s hs=>?_⟩,fun r hr=>?_⟩
  ·rcases List.mem_cons.1 hs with rfl|hs;·exact hA r hr
   ·exact u3 r hr s (by simp[hs])
  ·rcases List.mem_append.1 hr with hr|hr;·exact um r (by simp[hr])
   ·rcases List.mem_cons.1 hr with rfl|hr;·simp only at*;omega
    ·exact um r (by simp[hr])
 ·obtain⟨u1,u2,u3⟩:=List.pairwise_append.1 Et;obtain⟨u4,u5⟩:=List.pairwise_cons.1 u2;obtain⟨u6,u7⟩:=List.pairwise_cons.1 u5;have ha:=um (a,n) (by simp);have hb:=um (n+1,b) (by simp);refine⟨List.pairwise_append.2 ⟨u1,List.pairwise_cons.2 ⟨fun r hr=>u6 r hr,u7⟩,fun r hr s hs=>?_⟩,fun r hr=>?_⟩
  ·rcases List.mem_cons.1 hs with rfl|hs;·exact u3 r hr (a,n) (by simp)
   ·exact u3 r hr s (by simp[hs])
  ·rcases List.mem_append.1 hr with hr|hr;·exact um r (by simp[hr])
   ·rcases List.mem_cons.1 hr with rfl|hr;·simp only at*;omega
    ·exact um r (by simp[hr])
theorem gq(rs:Rg){n:Int}(h:RgOk rs)(hn:bS rs n=false):bD rs n≠[]:=by obtain⟨A,B,a,b,_,hc,hA,hB⟩:=jQ h hn;rcases hc with⟨e,hp⟩|⟨e,hp⟩|⟨e,hp⟩|⟨e,hp⟩<;>rw[hp]<;>simp
theorem FU(rs:Rg){n:Int}(h:RgOk rs)(hn:bS rs n=false):(bD rs n).length≤rs.length+1:=by obtain⟨A,B,a,b,_,hc,hA,hB⟩:=jQ h hn;rcases hc with⟨e,hp⟩|⟨e,hp⟩|⟨e,hp⟩|⟨e,hp⟩<;>rw[hp,e]<;>simp<;>omega
/-!### all sources -/
abbrev dV:=Row Rg
structure bV(m:dV):Prop where
 up:bM m
 each: ∀p∈m,ae p.1=true∧RgOk p.2∧p.2≠[]
def aC(m:dV)(s:List UInt8):Rg:=(aA m s).getD []
def hadB(m:dV)(s:List UInt8)(n:Int):Bool:=bS (aC m s) n
def qy(m:dV)(s:List UInt8)(n:Int):Bool:=ae s&&decide (1≤n)&&decide (n≤1099511627776)&&!hadB m s n
def rU(m:dV)(s:List UInt8)(n:Int):dV:=aR s (bD (aC m s) n) m
theorem RgOk.nil:RgOk []:=⟨List.Pairwise.nil,fun r hr=>by simp at hr⟩
theorem bV.row{m:dV}(h:bV m)(s:List UInt8):RgOk (aC m s):=by unfold aC;cases hg:aA m s with|none=>exact RgOk.nil|some rs=>exact(h.each _ (ah hg)).2.1
theorem bV.put{m:dV}(h:bV m){s:List UInt8}{n:Int}(hp:qy m s n=true):bV (rU m s n):=by
 unfold qy at hp;simp only[Bool.and_eq_true,decide_eq_true_eq,Bool.not_eq_true']at hp;obtain⟨⟨⟨h1,h2⟩,h3⟩,h4⟩:=hp;refine⟨aY h.up _ _,fun p hp=>?_⟩;rcases aF.1 hp with rfl|⟨hp,_⟩;·exact⟨h1,Jr (h.row s) h4 h2 h3,gq _ (h.row s) h4⟩
 ·exact h.each p hp
theorem bV.nil:bV []:=⟨List.Pairwise.nil,fun r hr=>by simp at hr⟩
theorem gM(m:dV)(s:List UInt8)(rs:Rg):aC (aR s rs m) s=rs:=by unfold aC;rw[gu];rfl
theorem eG(m:dV){s s':List UInt8}(rs:Rg)(h:s'≠s):aC (aR s rs m) s'=aC m s':=by unfold aC;rw[sO _ _ h]
theorem rT{m:dV}(h:bV m){s:List UInt8}{n:Int}(hp:qy m s n=true)(s':List UInt8)(n':Int):hadB (rU m s n) s' n'=(hadB m s' n'||(s'==s&&n'==n)):=by
 unfold qy at hp;simp only[Bool.and_eq_true,decide_eq_true_eq,Bool.not_eq_true']at hp;unfold hadB rU;by_cases e:s'=s;·subst e;rw[gM,FV (h.row s') hp.2];simp
 ·rw[eG _ _ e];simp[e]
end Go.Proofs.YtladegonienapaaGreatDoor
