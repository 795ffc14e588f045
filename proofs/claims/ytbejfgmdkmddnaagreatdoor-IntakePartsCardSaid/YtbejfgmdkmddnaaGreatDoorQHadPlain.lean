/-
  The document's names (layers 2, 6, 7).
-/
import Derived.Test.YtbejfgmdkmddnaaGreatDoorQSets
import Derived.Test.YtbejfgmdkmddnaaGreatDoorQRowK
set_option maxRecDepth 100000
set_option maxHeartbeats 16000000
namespace Go.Proofs.YtbejfgmdkmddnaaGreatDoor
open Go.RowKit
def nameC(c:UInt8):Bool:=(decide (97≤c.toNat)&&decide (c.toNat≤122))||(decide (48≤c.toNat)&&decide (c.toNat≤57))||decide (c.toNat=45)
def nameB(l:List UInt8):Bool:=decide (1≤l.length)&&decide (l.length≤24)&&l.all nameC
theorem nameB_short{l:List UInt8}(h:l.length<1∨24<l.length):nameB l=false:=by unfold nameB;rcases h with h|h<;>simp<;>omega
theorem nameB_bad{l:List UInt8}(k:Nat)(hk:k<l.length)(h:nameC l[k]=false):nameB l=false:=by
 unfold nameB;have:l.all nameC=false:=by rw[List.all_eq_false];exact⟨l[k],List.getElem_mem hk,by simp[h]⟩
 simp[this]
theorem nameB_good{l:List UInt8}(h1:1≤l.length)(h2:l.length≤24)(h: ∀j(hj:j<l.length),nameC l[j]=true):nameB l=true:=by
 unfold nameB;have:l.all nameC=true:=by rw[List.all_eq_true];intro x hx;obtain⟨j,hj,rfl⟩:=List.getElem_of_mem hx;exact h j hj
 simp[this,h1,h2]
theorem name_any(w:World)(l:List UInt8)(hm:l.length≤1000000000):Calls Tryz.prog 60 #[.string ⟨l.toArray⟩] w fun e w'=>e=.returned (.bool (nameB l))∧w=w':=by
 by_cases h0:l.length<1;·go_enter Tryz.func60,Tryz.ntmps60;go_wp2;go_ret;rw[nameB_short (.inl h0)];exact⟨rfl,rfl⟩
 by_cases h24:24<l.length;·go_enter Tryz.func60,Tryz.ntmps60;go_wp2;go_ret;rw[nameB_short (.inr h24)];exact⟨rfl,rfl⟩
 have d0:decide ((l.length:Int)<1)=false:=decide_eq_false (by omega);have d1:decide (24<(l.length:Int))=false:=decide_eq_false (by omega);go_enter Tryz.func60,Tryz.ntmps60;go_wp2;go_loop[15](fun i=> ∃k:Nat,i=.int .i64 k∧k≤l.length∧Hid (∀j(hj:j<l.length),j<k→nameC l[j]=true))(fun i=>l.length-(intOf i).toNat);case atStart=>exact⟨0,rfl,Nat.zero_le _,fun j _ h=>by omega⟩
 case round=>
  obtain⟨k,rfl,hk,HK⟩:=hrel;by_cases hkn:k<l.length
  ·have g0:(⟨l.toArray⟩:ByteArray)[k]'(by simpa[ByteArray.size]using hkn)=l[k]:=rfl;have HC:=qH (show nameC l[k]=((decide (97≤l[k].toNat)&&decide (l[k].toNat≤122))||(decide (48≤l[k].toNat)&&decide (l[k].toNat≤57))||decide (l[k].toNat=45))from rfl);have HB:=qH (fun h=>nameB_bad (l:=l) k hkn h);have HN:=qH (show∀h:nameC l[k]=true,∀j(hj:j<l.length),j<k+1→nameC l[j]=true from fun h j hj hlt=>by
    by_cases e:j=k;·subst e;exact h
    ·exact HK.out j hj (by omega));have hx:=l[k].toNat_lt;generalize hc:nameC l[k]=cc at*;clear hc;generalize hxx:l[k]=x at*;clear hxx;have hcc:cc=true∨cc=false:=by cases cc<;>simp
   rcases hcc with hcc|hcc
   ·have HCC:Hid (((97≤x.toNat∧x.toNat≤122)∨(48≤x.toNat∧x.toNat≤57))∨x.toNat=45):=by have:=HC.out;rw[hcc]at this;unfold Hid;simpa using this.symm
    have HN':=qH (HN.out hcc);clear hcc HC HB HN;have e45:Hid ((x.toNat:Int)=45↔x.toNat=45):=by unfold Hid;omega
    rcases HCC.out with(⟨a1,a2⟩|⟨a1,a2⟩)|a1
    ·have b1:decide (97≤(x.toNat:Int))=true:=decide_eq_true (by omega);have b2:decide ((x.toNat:Int)≤122)=true:=decide_eq_true (by omega);go_wp2;go_round;case rel=>exact⟨k+1,by go_num,by omega,HN'.out⟩
     case measure=>simp[intOf];omega
    ·have b1:decide (97≤(x.toNat:Int))=false:=decide_eq_false (by omega);have b2:decide (48≤(x.toNat:Int))=true:=decide_eq_true (by omega);have b3:decide ((x.toNat:Int)≤57)=true:=decide_eq_true (by omega);go_wp2;go_round;case rel=>exact⟨k+1,by go_num,by omega,HN'.out⟩
     case measure=>simp[intOf];omega
    ·have b1:decide (97≤(x.toNat:Int))=false:=decide_eq_false (by omega);have b2:decide (48≤(x.toNat:Int))=false:=decide_eq_false (by omega);have b3:((x.toNat:Int)==45)=true:=by simp;omega
     have A1:=qH a1;clear a1;go_wp2;go_round;case rel=>exact⟨k+1,by go_num,by omega,HN'.out⟩
     case measure=>simp[intOf];omega
   ·have HCC:Hid (¬(((97≤x.toNat∧x.toNat≤122)∨(48≤x.toNat∧x.toNat≤57))∨x.toNat=45)):=by
     have:=HC.out;rw[hcc]at this;unfold Hid;intro hh;have h2:(decide (97≤x.toNat)&&decide (x.toNat≤122)||decide (48≤x.toNat)&&decide (x.toNat≤57)||decide (x.toNat=45))=true:=by simpa using hh
     rw[h2]at this;cases this
    have hB:=HB.out hcc;have HB':=qH hB;clear hcc HC HN HB hB;have b5:((x.toNat:Int)==45)=false:=by have:=HCC.out;simp;omega
    have hcases:(123≤x.toNat)∨(97>x.toNat∧58≤x.toNat)∨(x.toNat<48):=by have:=HCC.out;omega
    rcases hcases with a1|⟨a1,a2⟩|a1;·have b1:decide (97≤(x.toNat:Int))=true:=decide_eq_true (by omega);have b2:decide ((x.toNat:Int)≤122)=false:=decide_eq_false (by omega);have b3:decide (48≤(x.toNat:Int))=true:=decide_eq_true (by omega);have b4:decide ((x.toNat:Int)≤57)=false:=decide_eq_false (by omega);go_wp2;go_ret;rw[HB'.out];exact⟨rfl,rfl⟩
    ·have b1:decide (97≤(x.toNat:Int))=false:=decide_eq_false (by omega);have b3:decide (48≤(x.toNat:Int))=true:=decide_eq_true (by omega);have b4:decide ((x.toNat:Int)≤57)=false:=decide_eq_false (by omega);go_wp2;go_ret;rw[HB'.out];exact⟨rfl,rfl⟩
    ·have b1:decide (97≤(x.toNat:Int))=false:=decide_eq_false (by omega);have b3:decide (48≤(x.toNat:Int))=false:=decide_eq_false (by omega);go_wp2;go_ret;rw[HB'.out];exact⟨rfl,rfl⟩
  ·have hB:nameB l=true:=nameB_good (by omega) (by omega) (fun j hj=>HK.out j hj (by omega));have HB':=qH hB;clear hB;go_wp2;go_ret;rw[HB'.out];exact⟨rfl,rfl⟩
open Go.Maps Go.Sort
abbrev Rg:=List (Int×Int)
structure RgOk(rs:Rg):Prop where
 up:rs.Pairwise fun r s=>r.2<s.1
 each: ∀r∈rs,1≤r.1∧r.1<r.2∧r.2≤1099511627777
def plc(rs:Rg)(n:Int):Nat:=(rs.takeWhile fun r=>decide (r.2≤n)).length
def hasR(rs:Rg)(n:Int):Bool:=rs.any fun r=>decide (r.1≤n)&&decide (n<r.2)
def lefB(rs:Rg)(n:Int):Bool:=decide (0<plc rs n)&&((rs.getD (plc rs n-1) (0,0)).2==n)
def rigB(rs:Rg)(n:Int):Bool:=decide (plc rs n<rs.length)&&((rs.getD (plc rs n) (0,0)).1==n+1)
def putR(rs:Rg)(n:Int):Rg:=if lefB rs n then if rigB rs n then(rs.set (plc rs n-1) ((rs.getD (plc rs n-1) (0,0)).1,(rs.getD (plc rs n) (0,0)).2)).take (plc rs n)++(rs.set (plc rs n-1) ((rs.getD (plc rs n-1) (0,0)).1,(rs.getD (plc rs n) (0,0)).2)).drop (plc rs n+1)else rs.set (plc rs n-1) ((rs.getD (plc rs n-1) (0,0)).1,n+1)else if rigB rs n then rs.set (plc rs n) (n,(rs.getD (plc rs n) (0,0)).2)else rs.take (plc rs n)++[(n,n+1)]++rs.drop (plc rs n)
theorem plc_le(rs:Rg)(n:Int):plc rs n≤rs.length:=by unfold plc;exact(List.takeWhile_prefix _).length_le
theorem rg_parts{rs:Rg}(h:RgOk rs)(n:Int): ∃A B,rs=A++B∧plc rs n=A.length∧(∀r∈A,r.2≤n)∧ ∀r∈B,n<r.2:=by
 refine⟨rs.takeWhile fun r=>decide (r.2≤n),rs.dropWhile fun r=>decide (r.2≤n),List.takeWhile_append_dropWhile.symm,rfl,fun r hr=>by simpa using List.all_eq_true.1 List.all_takeWhile r hr,?_⟩;have key: ∀l:Rg,l.Pairwise (fun r s=>r.2<s.1)→(∀r∈l,r.1<r.2)→ ∀r∈l.dropWhile (fun r=>decide (r.2≤n)),n<r.2:=by
  intro l;induction l with
   |nil=>intro _ _ r hr;simp at hr
   |cons a t ih=>
    intro hp he r hr;obtain⟨h1,h2⟩:=List.pairwise_cons.1 hp;by_cases ha:a.2≤n;·rw[List.dropWhile_cons_of_pos (by simpa using ha)]at hr;exact ih h2 (fun r hr=>he r (by simp[hr])) r hr
    ·rw[List.dropWhile_cons_of_neg (by simpa using ha)]at hr;rcases List.mem_cons.1 hr with rfl|hr;·omega
     ·have:=h1 r hr;have:=he r (by simp[hr]);omega
 exact key rs h.up (fun r hr=>(h.each r hr).2.1)
theorem plc_of{rs:Rg}{n:Int}{A B:Rg}(h:rs=A++B)(hA: ∀r∈A,r.2≤n)(hB: ∀r∈B,n<r.2):plc rs n=A.length:=by subst h;unfold plc;rw[List.takeWhile_append_of_pos (fun r hr=>by simpa using hA r hr)];cases B with|nil=>simp|cons b t=>rw[List.takeWhile_cons_of_neg (by have:=hB b (by simp);simp;omega)];simp
theorem plc_search{rs:Rg}{n:Int}(k:Nat)(hk:k≤rs.length)(h1: ∀i(h:i<rs.length),i<k→rs[i].2≤n)(h2: ∀i(h:i<rs.length),k≤i→n<rs[i].2):k=plc rs n:=by have:=plc_of (rs:=rs) (n:=n) (A:=rs.take k) (B:=rs.drop k) (List.take_append_drop k rs).symm (fun r hr=>by obtain⟨i,hi,rfl⟩:=List.getElem_of_mem hr;rw[List.length_take]at hi;rw[List.getElem_take];exact h1 i (by omega) (by omega)) (fun r hr=>by obtain⟨i,hi,rfl⟩:=List.getElem_of_mem hr;rw[List.length_drop]at hi;rw[List.getElem_drop];exact h2 (k+i) (by omega) (by omega));rw[this,List.length_take];omega
theorem rg_mono{rs:Rg}(h:RgOk rs)(i j:Nat)(hij:i≤j)(hj:j<rs.length):rs[i].2≤rs[j].2:=by
 rcases Nat.lt_or_ge i j with hlt|hge;·have h1:=List.pairwise_iff_getElem.1 h.up i j (by omega) hj hlt;have h2:=(h.each rs[j] (List.getElem_mem hj)).2.1;omega
 ·have:i=j:=by omega
  subst this;exact Int.le_refl _
theorem hasR_eq{rs:Rg}(h:RgOk rs)(n:Int):hasR rs n=(decide (plc rs n<rs.length)&&decide ((rs.getD (plc rs n) (0,0)).1≤n)):=by
 obtain⟨A,B,e,hp,hA,hB⟩:=rg_parts h n;rw[hp];subst e;unfold hasR;rw[List.any_append];have h0:(A.any fun r=>decide (r.1≤n)&&decide (n<r.2))=false:=by rw[List.any_eq_false];intro r hr;have:=hA r hr;simp;omega
 rw[h0,Bool.false_or];cases B with
  |nil=>simp
  |cons b t=>
   have hb:=hB b (by simp);have hup:=(List.pairwise_append.1 h.up).2.1;obtain⟨h1,h2⟩:=List.pairwise_cons.1 hup;have h3:(t.any fun r=>decide (r.1≤n)&&decide (n<r.2))=false:=by rw[List.any_eq_false];intro r hr;have:=h1 r hr;simp;omega
   rw[List.any_cons,h3,Bool.or_false];simp[hb]
theorem putR_parts{rs:Rg}(h:RgOk rs){n:Int}(hn:hasR rs n=false): ∃A B a b,(rs=A++B∨rs=A++(a,n)::B∨rs=A++(n+1,b)::B∨rs=A++(a,n)::(n+1,b)::B)∧((rs=A++B∧putR rs n=A++(n,n+1)::B)∨(rs=A++(a,n)::B∧putR rs n=A++(a,n+1)::B)∨(rs=A++(n+1,b)::B∧putR rs n=A++(n,b)::B)∨(rs=A++(a,n)::(n+1,b)::B∧putR rs n=A++(a,b)::B))∧(∀r∈A,r.2<n)∧(∀r∈B,n+1<r.1):=by
 have hh:=hasR_eq h n;rw[hn]at hh;obtain⟨A,B,e,hp,hA,hB⟩:=rg_parts h n;have hB1: ∀r∈B,n<r.1:=by
  cases B with
   |nil=>intro r hr;simp at hr
   |cons b t=>
    have h0:n<b.1:=by rw[hp]at hh;subst e;simp at hh;exact hh
    intro r hr;rcases List.mem_cons.1 hr with rfl|hr;·exact h0
    ·subst e;have hup:=(List.pairwise_append.1 h.up).2.1;have h1:=(List.pairwise_cons.1 hup).1 r hr;have h2:=h.each b (by simp);omega
 have hupA:=(List.pairwise_append.1 (e▸h.up)).1;have hupB:=(List.pairwise_append.1 (e▸h.up)).2.1;have left:(lefB rs n=false∧ ∀r∈A,r.2<n)∨(lefB rs n=true∧ ∃A' a,A=A'++[(a,n)]∧ ∀r∈A',r.2<n):=by
  unfold lefB;rw[hp];rcases List.eq_nil_or_concat A with rfl|⟨A',x,rfl⟩;·left;exact⟨by simp,by simp⟩
  ·have hx:rs.getD ((A'++[x]).length-1) (0,0)=x:=by subst e;simp
   rw[List.concat_eq_append]at*;rw[hx];have hA2: ∀r∈A',r.2<n:=fun r hr=>by have h1:=(List.pairwise_append.1 hupA).2.2 r hr x (by simp);have h2:=hA x (by simp);have h3:=h.each x (by subst e;simp);omega
   by_cases hxn:x.2=n;·right;exact⟨by simp[hxn],A',x.1,by rw[←hxn],hA2⟩
   ·left;refine⟨by simp[hxn],fun r hr=>?_⟩;rcases List.mem_append.1 hr with hr|hr;·exact hA2 r hr
    ·have:=hA x (by simp);simp at hr;subst hr;omega
 have right:(rigB rs n=false∧ ∀r∈B,n+1<r.1)∨(rigB rs n=true∧ ∃b B',B=(n+1,b)::B'∧ ∀r∈B',n+1<r.1):=by
  unfold rigB;rw[hp];cases B with
   |nil=>left;exact⟨by subst e;simp,by simp⟩
   |cons x t=>
    have hx:rs.getD A.length (0,0)=x:=by subst e;simp
    have hl:A.length<rs.length:=by subst e;simp
    rw[hx];have hB2: ∀r∈t,n+1<r.1:=fun r hr=>by have h1:=(List.pairwise_cons.1 hupB).1 r hr;have h2:=hB1 x (by simp);have h3:=h.each x (by subst e;simp);omega
    by_cases hxn:x.1=n+1;·right;exact⟨by simp[hxn,hl],x.2,t,by rw[←hxn],hB2⟩
    ·left;refine⟨by simp[hxn],fun r hr=>?_⟩;rcases List.mem_cons.1 hr with rfl|hr;·have:=hB1 r (by simp);omega
     ·exact hB2 r hr
 rcases left with⟨hl,hl2⟩|⟨hl,A',a,rfl,hl2⟩<;>rcases right with⟨hr,hr2⟩|⟨hr,b,B',rfl,hr2⟩;·refine⟨A,B,0,0,.inl e,.inl ⟨e,?_⟩,hl2,hr2⟩;unfold putR;rw[hl,hr,hp];subst e;simp
 ·refine⟨A,B',0,b,.inr (.inr (.inl e)),.inr (.inr (.inl ⟨e,?_⟩)),hl2,hr2⟩;unfold putR;rw[hl,hr,hp];subst e;simp
 ·refine⟨A',B,a,0,.inr (.inl (by rw[e];simp)),.inr (.inl ⟨by rw[e];simp,?_⟩),hl2,hr2⟩;unfold putR;rw[hl,hr,hp];subst e;simp
 ·refine⟨A',B',a,b,.inr (.inr (.inr (by rw[e];simp))),.inr (.inr (.inr ⟨by rw[e];simp,?_⟩)),hl2,hr2⟩;unfold putR;rw[hl,hr,hp];subst e;simp only[List.length_append,List.length_cons,List.length_nil,Nat.zero_add,Nat.add_sub_cancel];have e1:(A'++[(a,n)]++(n+1,b)::B').set A'.length (((A'++[(a,n)]++(n+1,b)::B').getD A'.length (0,0)).1,((A'++[(a,n)]++(n+1,b)::B').getD (A'.length+1) (0,0)).2)=(A'++[(a,b)])++([(n+1,b)]++B'):=by simp
  rw[e1,List.take_left' (by simp),←List.append_assoc,List.drop_left' (by simp)];simp
theorem putR_has{rs:Rg}(h:RgOk rs){n:Int}(hn:hasR rs n=false)(m:Int):hasR (putR rs n) m=(hasR rs m||(m==n)):=by
 have hord:=h.up;have hea:=h.each;obtain⟨A,B,a,b,_,hc,hA,hB⟩:=putR_parts h hn;rcases hc with⟨e,hp⟩|⟨e,hp⟩|⟨e,hp⟩|⟨e,hp⟩<;>rw[hp,e]<;>unfold hasR<;>simp only[List.any_append,List.any_cons]<;>generalize(A.any fun r=>decide (r.1≤m)&&decide (m<r.2))=x<;>generalize(B.any fun r=>decide (r.1≤m)&&decide (m<r.2))=y;·cases x<;>cases y<;>first|(simp;done)|(rw[Bool.eq_iff_iff];simp;omega)
 ·have:=hea (a,n) (by rw[e];simp);cases x<;>cases y<;>first|(simp;done)|(rw[Bool.eq_iff_iff];simp;omega)
 ·have:=hea (n+1,b) (by rw[e];simp);cases x<;>cases y<;>first|(simp;done)|(rw[Bool.eq_iff_iff];simp;omega)
 ·have:=hea (a,n) (by rw[e];simp);have:=hea (n+1,b) (by rw[e];simp);cases x<;>cases y<;>first|(simp;done)|(rw[Bool.eq_iff_iff];simp;omega)
theorem putR_ok{rs:Rg}(h:RgOk rs){n:Int}(hn:hasR rs n=false)(h1:1≤n)(h2:n≤1099511627776):RgOk (putR rs n):=by
 have hord:=h.up;have hea:=h.each;obtain⟨A,B,a,b,_,hc,hA,hB⟩:=putR_parts h hn;rcases hc with⟨e,hp⟩|⟨e,hp⟩|⟨e,hp⟩|⟨e,hp⟩<;>rw[hp]<;>rw[e]at hord hea
 ·obtain⟨u1,u2,u3⟩:=List.pairwise_append.1 hord;refine⟨List.pairwise_append.2 ⟨u1,List.pairwise_cons.2 ⟨fun r hr=>hB r hr,u2⟩,fun r hr s hs=>?_⟩,fun r hr=>?_⟩
  ·rcases List.mem_cons.1 hs with rfl|hs;·exact hA r hr
   ·exact u3 r hr s hs
  ·rcases List.mem_append.1 hr with hr|hr;·exact hea r (by simp[hr])
   ·rcases List.mem_cons.1 hr with rfl|hr;·exact⟨h1,by simp only;omega,by simp only;omega⟩
    ·exact hea r (by simp[hr])
 ·obtain⟨u1,u2,u3⟩:=List.pairwise_append.1 hord;obtain⟨u4,u5⟩:=List.pairwise_cons.1 u2;have ha:=hea (a,n) (by simp);refine⟨List.pairwise_append.2 ⟨u1,List.pairwise_cons.2 ⟨fun r hr=>hB r hr,u5⟩,fun r hr s hs=>?_⟩,fun r hr=>?_⟩
  ·rcases List.mem_cons.1 hs with rfl|hs;·exact u3 r hr (a,n) (by simp)
   ·exact u3 r hr s (by simp[hs])
  ·rcases List.mem_append.1 hr with hr|hr;·exact hea r (by simp[hr])
   ·rcases List.mem_cons.1 hr with rfl|hr;·simp only at*;omega
    ·exact hea r (by simp[hr])
 ·obtain⟨u1,u2,u3⟩:=List.pairwise_append.1 hord;obtain⟨u4,u5⟩:=List.pairwise_cons.1 u2;have ha:=hea (n+1,b) (by simp);refine⟨List.pairwise_append.2 ⟨u1,List.pairwise_cons.2 ⟨fun r hr=>u4 r hr,u5⟩,fun r hr s hs=>?_⟩,fun r hr=>?_⟩
  ·rcases List.mem_cons.1 hs with rfl|hs;·exact hA r hr
   ·exact u3 r hr s (by simp[hs])
  ·rcases List.mem_append.1 hr with hr|hr;·exact hea r (by simp[hr])
   ·rcases List.mem_cons.1 hr with rfl|hr;·simp only at*;omega
    ·exact hea r (by simp[hr])
 ·obtain⟨u1,u2,u3⟩:=List.pairwise_append.1 hord;obtain⟨u4,u5⟩:=List.pairwise_cons.1 u2;obtain⟨u6,u7⟩:=List.pairwise_cons.1 u5;have ha:=hea (a,n) (by simp);have hb:=hea (n+1,b) (by simp);refine⟨List.pairwise_append.2 ⟨u1,List.pairwise_cons.2 ⟨fun r hr=>u6 r hr,u7⟩,fun r hr s hs=>?_⟩,fun r hr=>?_⟩
  ·rcases List.mem_cons.1 hs with rfl|hs;·exact u3 r hr (a,n) (by simp)
   ·exact u3 r hr s (by simp[hs])
  ·rcases List.mem_append.1 hr with hr|hr;·exact hea r (by simp[hr])
   ·rcases List.mem_cons.1 hr with rfl|hr;·simp only at*;omega
    ·exact hea r (by simp[hr])
theorem putR_ne(rs:Rg){n:Int}(h:RgOk rs)(hn:hasR rs n=false):putR rs n≠[]:=by obtain⟨A,B,a,b,_,hc,hA,hB⟩:=putR_parts h hn;rcases hc with⟨e,hp⟩|⟨e,hp⟩|⟨e,hp⟩|⟨e,hp⟩<;>rw[hp]<;>simp
theorem putR_len(rs:Rg){n:Int}(h:RgOk rs)(hn:hasR rs n=false):(putR rs n).length≤rs.length+1:=by obtain⟨A,B,a,b,_,hc,hA,hB⟩:=putR_parts h hn;rcases hc with⟨e,hp⟩|⟨e,hp⟩|⟨e,hp⟩|⟨e,hp⟩<;>rw[hp,e]<;>simp<;>omega
/-!### all sources -/
abbrev Had:=Row Rg
structure HadOk(m:Had):Prop where
 up:RowUp m
 each: ∀p∈m,nameB p.1=true∧RgOk p.2∧p.2≠[]
def hadRow(m:Had)(s:List UInt8):Rg:=(getB m s).getD []
def hadB(m:Had)(s:List UInt8)(n:Int):Bool:=hasR (hadRow m s) n
def putsB(m:Had)(s:List UInt8)(n:Int):Bool:=nameB s&&decide (1≤n)&&decide (n≤1099511627776)&&!hadB m s n
def putH(m:Had)(s:List UInt8)(n:Int):Had:=putB s (putR (hadRow m s) n) m
theorem RgOk.nil:RgOk []:=⟨List.Pairwise.nil,fun r hr=>by simp at hr⟩
theorem HadOk.row{m:Had}(h:HadOk m)(s:List UInt8):RgOk (hadRow m s):=by unfold hadRow;cases hg:getB m s with|none=>exact RgOk.nil|some rs=>exact(h.each _ (getB_mem hg)).2.1
theorem HadOk.put{m:Had}(h:HadOk m){s:List UInt8}{n:Int}(hp:putsB m s n=true):HadOk (putH m s n):=by
 unfold putsB at hp;simp only[Bool.and_eq_true,decide_eq_true_eq,Bool.not_eq_true']at hp;obtain⟨⟨⟨h1,h2⟩,h3⟩,h4⟩:=hp;refine⟨putB_rising h.up _ _,fun p hp=>?_⟩;rcases putB_mem.1 hp with rfl|⟨hp,_⟩;·exact⟨h1,putR_ok (h.row s) h4 h2 h3,putR_ne _ (h.row s) h4⟩
 ·exact h.each p hp
theorem HadOk.nil:HadOk []:=⟨List.Pairwise.nil,fun r hr=>by simp at hr⟩
theorem hadRow_put_same(m:Had)(s:List UInt8)(rs:Rg):hadRow (putB s rs m) s=rs:=by unfold hadRow;rw[getB_put_same];rfl
theorem hadRow_put_other(m:Had){s s':List UInt8}(rs:Rg)(h:s'≠s):hadRow (putB s rs m) s'=hadRow m s':=by unfold hadRow;rw[getB_put_other _ _ h]
theorem putH_had{m:Had}(h:HadOk m){s:List UInt8}{n:Int}(hp:putsB m s n=true)(s':List UInt8)(n':Int):hadB (putH m s n) s' n'=(hadB m s' n'||(s'==s&&n'==n)):=by
 unfold putsB at hp;simp only[Bool.and_eq_true,decide_eq_true_eq,Bool.not_eq_true']at hp;unfold hadB putH;by_cases e:s'=s;·subst e;rw[hadRow_put_same,putR_has (h.row s') hp.2];simp
 ·rw[hadRow_put_other _ _ e];simp[e]
def boundI(n:Int):Int:=min (max n 0) 1099511627776
theorem boundI_lo(n:Int):0≤boundI n:=by unfold boundI;omega
theorem boundI_hi(n:Int):boundI n≤1099511627776:=by unfold boundI;omega
def leastI:List Int→Option Int|[]=>none|x::r=>match leastI r with|none=>some x|some y=>some (if x≤y then x else y)
theorem leastI_none{l:List Int}:leastI l=none↔l=[]:=by cases l with|nil=>simp[leastI]|cons x r=>simp only[leastI];split<;>simp
theorem leastI_some{l:List Int}{m:Int}:leastI l=some m↔m∈l∧ ∀x∈l,m≤x:=by
 induction l generalizing m with
  |nil=>simp[leastI]
  |cons x r ih=>
   simp only[leastI];cases hr:leastI r with
    |none=>
     have:=leastI_none.1 hr;subst this;simp;constructor;·rintro rfl;exact⟨rfl,Int.le_refl _⟩
     ·exact fun h=>h.1.symm
    |some y=>
     obtain⟨h1,h2⟩:=ih.1 hr;simp only[Option.some.injEq,List.mem_cons];constructor
     ·rintro rfl;split
      ·refine⟨.inl rfl,fun z hz=>?_⟩;rcases hz with rfl|hz;·exact Int.le_refl _
       ·have:=h2 z hz;omega
      ·refine⟨.inr h1,fun z hz=>?_⟩;rcases hz with rfl|hz;·omega
       ·exact h2 z hz
     ·rintro⟨h3,h4⟩;have a1:=h4 x (.inl rfl);have a2:=h4 y (.inr h1);rcases h3 with rfl|h3;·rw[if_pos a2]
      ·have:=h2 m h3;split<;>omega
structure Clk where
 slack:Int
 idle:Int
 now:Int
 mark:Int
 src:Row (Int×Int)
def actB(idle now:Int)(s:Int×Int):Bool:=decide (idle=0)||decide (now-s.2≤idle)
def Clk.told(c:Clk):Option Int:=leastI ((c.src.filter fun p=>actB c.idle c.now p.2).map fun p=>p.2.1-c.slack-1)
def Clk.rise(c:Clk):Clk:=match c.told with|none=>c|some m=>{c with mark:=max c.mark m}
def Clk.tick(c:Clk)(now:Int):Clk:=({c with now:=max c.now (boundI now)}:Clk).rise
def Clk.hears(c:Clk)(name:List UInt8)(at_:Int):Bool:=nameB name&&decide (0≤at_)&&decide (at_≤1099511627776)&&decide (c.mark<at_)
def Clk.heard(c:Clk)(name:List UInt8)(at_:Int):Clk:=({c with src:=putB name (max ((getB c.src name).getD (0,0)).1 at_,c.now) c.src}:Clk).rise
def Clk.hear(c:Clk)(name:List UInt8)(at_ now:Int):Clk:=if(c.tick now).hears name at_ then(c.tick now).heard name at_ else c.tick now
def Clk.new(slack idle:Int):Clk:=⟨boundI slack,boundI idle,0,-1,[]⟩
structure ClkOk(c:Clk):Prop where
 slack:0≤c.slack∧c.slack≤1099511627776
 idle:0≤c.idle∧c.idle≤1099511627776
 now:0≤c.now∧c.now≤1099511627776
 mark: -1≤c.mark∧c.mark≤1099511627776
 rising:RowUp c.src
 src: ∀p∈c.src,nameB p.1=true∧0≤p.2.1∧p.2.1≤1099511627776∧0≤p.2.2∧p.2.2≤c.now
theorem told_some{c:Clk}{m:Int}:c.told=some m↔(∃p∈c.src,actB c.idle c.now p.2=true∧m=p.2.1-c.slack-1)∧ ∀p∈c.src,actB c.idle c.now p.2=true→m≤p.2.1-c.slack-1:=by
 unfold Clk.told;rw[leastI_some];simp only[List.mem_map,List.mem_filter];constructor;·rintro⟨⟨p,⟨h1,h2⟩,rfl⟩,h3⟩;exact⟨⟨p,h1,h2,rfl⟩,fun q hq ha=>h3 _ ⟨q,⟨hq,ha⟩,rfl⟩⟩
 ·rintro⟨⟨p,h1,h2,rfl⟩,h3⟩;refine⟨⟨p,⟨h1,h2⟩,rfl⟩,?_⟩;rintro _⟨q,⟨hq,ha⟩,rfl⟩;exact h3 q hq ha
theorem told_none{c:Clk}:c.told=none↔ ∀p∈c.src,actB c.idle c.now p.2=false:=by
 unfold Clk.told;rw[leastI_none];simp only[List.map_eq_nil_iff,List.filter_eq_nil_iff];constructor;·intro h p hp;simpa using h p hp
 ·intro h p hp;simp[h p hp]
theorem ClkOk.told{c:Clk}(h:ClkOk c){m:Int}(ht:c.told=some m): -1099511627777≤m∧m≤1099511627776:=by obtain⟨⟨p,hp,_,rfl⟩,_⟩:=told_some.1 ht;have:=h.src p hp;have:=h.slack;omega
theorem ClkOk.rise{c:Clk}(h:ClkOk c):ClkOk c.rise:=by unfold Clk.rise;cases ht:c.told with|none=>exact h|some m=>have:=h.told ht;have:=h.mark;exact⟨h.slack,h.idle,h.now,by simp only;omega,h.rising,h.src⟩
theorem ClkOk.said{c:Clk}(h:ClkOk c){name:List UInt8}{at_:Int}(hh:c.hears name at_=true):ClkOk {c with src:=putB name (max ((getB c.src name).getD (0,0)).1 at_,c.now) c.src}:=by
 unfold Clk.hears at hh;simp only[Bool.and_eq_true,decide_eq_true_eq]at hh;obtain⟨⟨⟨h1,h2⟩,h3⟩,h4⟩:=hh;have hn:=h.now;refine⟨h.slack,h.idle,h.now,h.mark,putB_rising h.rising _ _,fun p hp=>?_⟩;rcases putB_mem.1 hp with rfl|⟨hp,_⟩;·refine⟨h1,?_⟩;cases hg:getB c.src name with|none=>simp only[Option.getD_none];omega|some q=>have:=h.src _ (getB_mem hg);simp only[Option.getD_some]at*;omega
 ·exact h.src p hp
theorem tick_len(c:Clk)(now:Int):(c.tick now).src.length=c.src.length:=by unfold Clk.tick Clk.rise;split<;>rfl
theorem hear_len(c:Clk)(name:List UInt8)(at_ now:Int):(c.hear name at_ now).src.length≤c.src.length+1:=by
 unfold Clk.hear;split
 ·have:((c.tick now).heard name at_).src=putB name (max ((getB (c.tick now).src name).getD (0,0)).1 at_,(c.tick now).now) (c.tick now).src:=by unfold Clk.heard Clk.rise;split<;>rfl
  rw[this];have:=putB_length_le (c.tick now).src name (max ((getB (c.tick now).src name).getD (0,0)).1 at_,(c.tick now).now);rw[tick_len]at this;exact this
 ·rw[tick_len];omega
theorem ClkOk.new(slack idle:Int):ClkOk (Clk.new slack idle):=⟨⟨boundI_lo _,boundI_hi _⟩,⟨boundI_lo _,boundI_hi _⟩,by simp[Clk.new],by simp[Clk.new],by simp[Clk.new,RowUp],fun p hp=>by simp[Clk.new]at hp⟩
theorem rise_rise(c:Clk):c.rise.rise=c.rise:=by unfold Clk.rise;cases ht:c.told with|none=>simp only[ht]|some m=>simp only;have:({c with mark:=max c.mark m}:Clk).told=some m:=ht;rw[this];simp only;congr 1;omega
theorem rise_now(c:Clk):c.rise.now=c.now:=by unfold Clk.rise;split<;>rfl
theorem rise_src(c:Clk):c.rise.src=c.src:=by unfold Clk.rise;split<;>rfl
theorem rn02(w:World)(l:List UInt8)(hm:l.length≤1000000000):Calls Tryz.prog 75 #[.string ⟨l.toArray⟩] w fun e w'=>e=.returned (.bool (nameB l))∧w=w':=by
 by_cases h0:l.length<1;·go_enter Tryz.func75,Tryz.ntmps75;go_wp2;go_ret;rw[nameB_short (.inl h0)];exact⟨rfl,rfl⟩
 by_cases h24:24<l.length;·go_enter Tryz.func75,Tryz.ntmps75;go_wp2;go_ret;rw[nameB_short (.inr h24)];exact⟨rfl,rfl⟩
 have d0:decide ((l.length:Int)<1)=false:=decide_eq_false (by omega);have d1:decide (24<(l.length:Int))=false:=decide_eq_false (by omega);go_enter Tryz.func75,Tryz.ntmps75;go_wp2;go_loop[3](fun i=> ∃k:Nat,i=.int .i64 k∧k≤l.length∧Hid (∀j(hj:j<l.length),j<k→nameC l[j]=true))(fun i=>l.length-(intOf i).toNat);case atStart=>exact⟨0,rfl,Nat.zero_le _,fun j _ h=>by omega⟩
 case round=>
  obtain⟨k,rfl,hk,HK⟩:=hrel;by_cases hkn:k<l.length
  ·have g0:(⟨l.toArray⟩:ByteArray)[k]'(by simpa[ByteArray.size]using hkn)=l[k]:=rfl;have HC:=qH (show nameC l[k]=((decide (97≤l[k].toNat)&&decide (l[k].toNat≤122))||(decide (48≤l[k].toNat)&&decide (l[k].toNat≤57))||decide (l[k].toNat=45))from rfl);have HB:=qH (fun h=>nameB_bad (l:=l) k hkn h);have HN:=qH (show∀h:nameC l[k]=true,∀j(hj:j<l.length),j<k+1→nameC l[j]=true from fun h j hj hlt=>by
    by_cases e:j=k;·subst e;exact h
    ·exact HK.out j hj (by omega));have hx:=l[k].toNat_lt;generalize hc:nameC l[k]=cc at*;clear hc;generalize hxx:l[k]=x at*;clear hxx;have hcc:cc=true∨cc=false:=by cases cc<;>simp
   rcases hcc with hcc|hcc
   ·have HCC:Hid (((97≤x.toNat∧x.toNat≤122)∨(48≤x.toNat∧x.toNat≤57))∨x.toNat=45):=by have:=HC.out;rw[hcc]at this;unfold Hid;simpa using this.symm
    have HN':=qH (HN.out hcc);clear hcc HC HB HN;have e45:Hid ((x.toNat:Int)=45↔x.toNat=45):=by unfold Hid;omega
    rcases HCC.out with(⟨a1,a2⟩|⟨a1,a2⟩)|a1
    ·have b1:decide (97≤(x.toNat:Int))=true:=decide_eq_true (by omega);have b2:decide ((x.toNat:Int)≤122)=true:=decide_eq_true (by omega);go_wp2;go_round;case rel=>exact⟨k+1,by go_num,by omega,HN'.out⟩
     case measure=>simp[intOf];omega
    ·have b1:decide (97≤(x.toNat:Int))=false:=decide_eq_false (by omega);have b2:decide (48≤(x.toNat:Int))=true:=decide_eq_true (by omega);have b3:decide ((x.toNat:Int)≤57)=true:=decide_eq_true (by omega);go_wp2;go_round;case rel=>exact⟨k+1,by go_num,by omega,HN'.out⟩
     case measure=>simp[intOf];omega
    ·have b1:decide (97≤(x.toNat:Int))=false:=decide_eq_false (by omega);have b2:decide (48≤(x.toNat:Int))=false:=decide_eq_false (by omega);have b3:((x.toNat:Int)==45)=true:=by simp;omega
     have A1:=qH a1;clear a1;go_wp2;go_round;case rel=>exact⟨k+1,by go_num,by omega,HN'.out⟩
     case measure=>simp[intOf];omega
   ·have HCC:Hid (¬(((97≤x.toNat∧x.toNat≤122)∨(48≤x.toNat∧x.toNat≤57))∨x.toNat=45)):=by
     have:=HC.out;rw[hcc]at this;unfold Hid;intro hh;have h2:(decide (97≤x.toNat)&&decide (x.toNat≤122)||decide (48≤x.toNat)&&decide (x.toNat≤57)||decide (x.toNat=45))=true:=by simpa using hh
     rw[h2]at this;cases this
    have hB:=HB.out hcc;have HB':=qH hB;clear hcc HC HN HB hB;have b5:((x.toNat:Int)==45)=false:=by have:=HCC.out;simp;omega
    have hcases:(123≤x.toNat)∨(97>x.toNat∧58≤x.toNat)∨(x.toNat<48):=by have:=HCC.out;omega
    rcases hcases with a1|⟨a1,a2⟩|a1;·have b1:decide (97≤(x.toNat:Int))=true:=decide_eq_true (by omega);have b2:decide ((x.toNat:Int)≤122)=false:=decide_eq_false (by omega);have b3:decide (48≤(x.toNat:Int))=true:=decide_eq_true (by omega);have b4:decide ((x.toNat:Int)≤57)=false:=decide_eq_false (by omega);go_wp2;go_ret;rw[HB'.out];exact⟨rfl,rfl⟩
    ·have b1:decide (97≤(x.toNat:Int))=false:=decide_eq_false (by omega);have b3:decide (48≤(x.toNat:Int))=true:=decide_eq_true (by omega);have b4:decide ((x.toNat:Int)≤57)=false:=decide_eq_false (by omega);go_wp2;go_ret;rw[HB'.out];exact⟨rfl,rfl⟩
    ·have b1:decide (97≤(x.toNat:Int))=false:=decide_eq_false (by omega);have b3:decide (48≤(x.toNat:Int))=false:=decide_eq_false (by omega);go_wp2;go_ret;rw[HB'.out];exact⟨rfl,rfl⟩
  ·have hB:nameB l=true:=nameB_good (by omega) (by omega) (fun j hj=>HK.out j hj (by omega));have HB':=qH hB;clear hB;go_wp2;go_ret;rw[HB'.out];exact⟨rfl,rfl⟩
end Go.Proofs.YtbejfgmdkmddnaaGreatDoor
