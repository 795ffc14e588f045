/-
  Layer 7, plain: ranges of numbers.
-/
import Derived.Test.YtcmmclliabhnjaaGreatDoorWMapL
import Derived.Test.YtcmmclliabhnjaaGreatDoorWEvForget
set_option maxRecDepth 100000
set_option maxHeartbeats 16000000
namespace Go.Proofs.YtcmmclliabhnjaaGreatDoor
open Go.RowKit Go.Maps Go.Sort
abbrev Rg:=List (Int×Int)
structure RgOk(rs:Rg):Prop where
 up:rs.Pairwise fun r s=>r.2<s.1
 each: ∀r∈rs,1≤r.1∧r.1<r.2∧r.2≤1099511627777
def plc(rs:Rg)(n:Int):Nat:=(rs.takeWhile fun r=>decide (r.2≤n)).length
def hasR(rs:Rg)(n:Int):Bool:=rs.any fun r=>decide (r.1≤n)&&decide (n<r.2)
def lefB(rs:Rg)(n:Int):Bool:=decide (0<plc rs n)&&((rs.getD (plc rs n-1) (0,0)).2==n)
def rigB(rs:Rg)(n:Int):Bool:=decide (plc rs n<rs.length)&&((rs.getD (plc rs n) (0,0)).1==n+1)
def putR(rs:Rg)(n:Int):Rg:=if lefB rs n then if rigB rs n then(rs.set (plc rs n-1) ((rs.getD (plc rs n-1) (0,0)).1,(rs.getD (plc rs n) (0,0)).2)).take (plc rs n)++(rs.set (plc rs n-1) ((rs.getD (plc rs n-1) (0,0)).1,(rs.getD (plc rs n) (0,0)).2)).drop (plc rs n+1)else rs.set (plc rs n-1) ((rs.getD (plc rs n-1) (0,0)).1,n+1)else if rigB rs n then rs.set (plc rs n) (n,(rs.getD (plc rs n) (0,0)).2)else rs.take (plc rs n)++[(n,n+1)]++rs.drop (plc rs n)
theorem plc_le(rs:Rg)(n:Int):plc rs n≤rs.length:=by unfold plc;exact(List.takeWhile_prefix _).length_le
theorem rg_parts{rs:Rg}(h:RgOk rs)(n:Int): ∃A B,rs=A++B∧plc rs n=A.length∧(∀r∈A,r.2≤n)∧ ∀r∈B,n<r.2:=by
 refine⟨rs.takeWhile fun r=>decide (r.2≤n),rs.dropWhile fun r=>decide (r.2≤n),List.takeWhile_append_dropWhile.symm,rfl,fun r hr=>by simpa using List.all_eq_true.1 List.all_takeWhile r hr,?_⟩;have key: ∀l:Rg,l.Pairwise (fun r s=>r.2<s.1)→(∀r∈l,r.1<r.2)→ ∀r∈l.dropWhile (fun r=>decide (r.2≤n)),n<r.2:=by
  intro l;induction l with
   |nil=>intro _ _ r hr;simp at hr
   |cons a t ih=>
    intro hp he r hr;obtain⟨h1,h2⟩:=List.pairwise_cons.1 hp;by_cases ha:a.2≤n;·rw[List.dropWhile_cons_of_pos (by simpa using ha)]at hr;exact ih h2 (fun r hr=>he r (by simp[hr])) r hr
    ·rw[List.dropWhile_cons_of_neg (by simpa using ha)]at hr;rcases List.mem_cons.1 hr with rfl|hr;·omega
     ·have:=h1 r hr;have:=he r (by simp[hr]);omega
 exact key rs h.up (fun r hr=>(h.each r hr).2.1)
theorem plc_of{rs:Rg}{n:Int}{A B:Rg}(h:rs=A++B)(hA: ∀r∈A,r.2≤n)(hB: ∀r∈B,n<r.2):plc rs n=A.length:=by subst h;unfold plc;rw[List.takeWhile_append_of_pos (fun r hr=>by simpa using hA r hr)];cases B with|nil=>simp|cons b t=>rw[List.takeWhile_cons_of_neg (by have:=hB b (by simp);simp;omega)];simp
theorem plc_search{rs:Rg}{n:Int}(k:Nat)(hk:k≤rs.length)(h1: ∀i(h:i<rs.length),i<k→rs[i].2≤n)(h2: ∀i(h:i<rs.length),k≤i→n<rs[i].2):k=plc rs n:=by have:=plc_of (rs:=rs) (n:=n) (A:=rs.take k) (B:=rs.drop k) (List.take_append_drop k rs).symm (fun r hr=>by obtain⟨i,hi,rfl⟩:=List.getElem_of_mem hr;rw[List.length_take]at hi;rw[List.getElem_take];exact h1 i (by omega) (by omega)) (fun r hr=>by obtain⟨i,hi,rfl⟩:=List.getElem_of_mem hr;rw[List.length_drop]at hi;rw[List.getElem_drop];exact h2 (k+i) (by omega) (by omega));rw[this,List.length_take];omega
theorem rg_mono{rs:Rg}(h:RgOk rs)(i j:Nat)(hij:i≤j)(hj:j<rs.length):rs[i].2≤rs[j].2:=by
 rcases Nat.lt_or_ge i j with hlt|hge;·have h1:=List.pairwise_iff_getElem.1 h.up i j (by omega) hj hlt;have h2:=(h.each rs[j] (List.getElem_mem hj)).2.1;omega
 ·have:i=j:=by omega
  subst this;exact Int.le_refl _
theorem hasR_eq{rs:Rg}(h:RgOk rs)(n:Int):hasR rs n=(decide (plc rs n<rs.length)&&decide ((rs.getD (plc rs n) (0,0)).1≤n)):=by
 obtain⟨A,B,e,hp,hA,hB⟩:=rg_parts h n;rw[hp];subst e;unfold hasR;rw[List.any_append];have h0:(A.any fun r=>decide (r.1≤n)&&decide (n<r.2))=false:=by rw[List.any_eq_false];intro r hr;have:=hA r hr;simp;omega
 rw[h0,Bool.false_or];cases B with
  |nil=>simp
  |cons b t=>
   have hb:=hB b (by simp);have hup:=(List.pairwise_append.1 h.up).2.1;obtain⟨h1,h2⟩:=List.pairwise_cons.1 hup;have h3:(t.any fun r=>decide (r.1≤n)&&decide (n<r.2))=false:=by rw[List.any_eq_false];intro r hr;have:=h1 r hr;simp;omega
   rw[List.any_cons,h3,Bool.or_false];simp[hb]
theorem putR_parts{rs:Rg}(h:RgOk rs){n:Int}(hn:hasR rs n=false): ∃A B a b,(rs=A++B∨rs=A++(a,n)::B∨rs=A++(n+1,b)::B∨rs=A++(a,n)::(n+1,b)::B)∧((rs=A++B∧putR rs n=A++(n,n+1)::B)∨(rs=A++(a,n)::B∧putR rs n=A++(a,n+1)::B)∨(rs=A++(n+1,b)::B∧putR rs n=A++(n,b)::B)∨(rs=A++(a,n)::(n+1,b)::B∧putR rs n=A++(a,b)::B))∧(∀r∈A,r.2<n)∧(∀r∈B,n+1<r.1):=by
 have hh:=hasR_eq h n;rw[hn]at hh;obtain⟨A,B,e,hp,hA,hB⟩:=rg_parts h n;have hB1: ∀r∈B,n<r.1:=by
  cases B with
   |nil=>intro r hr;simp at hr
   |cons b t=>
    have h0:n<b.1:=by rw[hp]at hh;subst e;simp at hh;exact hh
    intro r hr;rcases List.mem_cons.1 hr with rfl|hr;·exact h0
    ·subst e;have hup:=(List.pairwise_append.1 h.up).2.1;have h1:=(List.pairwise_cons.1 hup).1 r hr;have h2:=h.each b (by simp);omega
 have hupA:=(List.pairwise_append.1 (e▸h.up)).1;have hupB:=(List.pairwise_append.1 (e▸h.up)).2.1;have left:(lefB rs n=false∧ ∀r∈A,r.2<n)∨(lefB rs n=true∧ ∃A' a,A=A'++[(a,n)]∧ ∀r∈A',r.2<n):=by
  unfold lefB;rw[hp];rcases List.eq_nil_or_concat A with rfl|⟨A',x,rfl⟩;·left;exact⟨by simp,by simp⟩
  ·have hx:rs.getD ((A'++[x]).length-1) (0,0)=x:=by subst e;simp
   rw[List.concat_eq_append]at*;rw[hx];have hA2: ∀r∈A',r.2<n:=fun r hr=>by have h1:=(List.pairwise_append.1 hupA).2.2 r hr x (by simp);have h2:=hA x (by simp);have h3:=h.each x (by subst e;simp);omega
   by_cases hxn:x.2=n;·right;exact⟨by simp[hxn],A',x.1,by rw[←hxn],hA2⟩
   ·left;refine⟨by simp[hxn],fun r hr=>?_⟩;rcases List.mem_append.1 hr with hr|hr;·exact hA2 r hr
    ·have:=hA x (by simp);simp at hr;subst hr;omega
 have right:(rigB rs n=false∧ ∀r∈B,n+1<r.1)∨(rigB rs n=true∧ ∃b B',B=(n+1,b)::B'∧ ∀r∈B',n+1<r.1):=by
  unfold rigB;rw[hp];cases B with
   |nil=>left;exact⟨by subst e;simp,by simp⟩
   |cons x t=>
    have hx:rs.getD A.length (0,0)=x:=by subst e;simp
    have hl:A.length<rs.length:=by subst e;simp
    rw[hx];have hB2: ∀r∈t,n+1<r.1:=fun r hr=>by have h1:=(List.pairwise_cons.1 hupB).1 r hr;have h2:=hB1 x (by simp);have h3:=h.each x (by subst e;simp);omega
    by_cases hxn:x.1=n+1;·right;exact⟨by simp[hxn,hl],x.2,t,by rw[←hxn],hB2⟩
    ·left;refine⟨by simp[hxn],fun r hr=>?_⟩;rcases List.mem_cons.1 hr with rfl|hr;·have:=hB1 r (by simp);omega
     ·exact hB2 r hr
 rcases left with⟨hl,hl2⟩|⟨hl,A',a,rfl,hl2⟩<;>rcases right with⟨hr,hr2⟩|⟨hr,b,B',rfl,hr2⟩;·refine⟨A,B,0,0,.inl e,.inl ⟨e,?_⟩,hl2,hr2⟩;unfold putR;rw[hl,hr,hp];subst e;simp
 ·refine⟨A,B',0,b,.inr (.inr (.inl e)),.inr (.inr (.inl ⟨e,?_⟩)),hl2,hr2⟩;unfold putR;rw[hl,hr,hp];subst e;simp
 ·refine⟨A',B,a,0,.inr (.inl (by rw[e];simp)),.inr (.inl ⟨by rw[e];simp,?_⟩),hl2,hr2⟩;unfold putR;rw[hl,hr,hp];subst e;simp
 ·refine⟨A',B',a,b,.inr (.inr (.inr (by rw[e];simp))),.inr (.inr (.inr ⟨by rw[e];simp,?_⟩)),hl2,hr2⟩;unfold putR;rw[hl,hr,hp];subst e;simp only[List.length_append,List.length_cons,List.length_nil,Nat.zero_add,Nat.add_sub_cancel];have e1:(A'++[(a,n)]++(n+1,b)::B').set A'.length (((A'++[(a,n)]++(n+1,b)::B').getD A'.length (0,0)).1,((A'++[(a,n)]++(n+1,b)::B').getD (A'.length+1) (0,0)).2)=(A'++[(a,b)])++([(n+1,b)]++B'):=by simp
  rw[e1,List.take_left' (by simp),←List.append_assoc,List.drop_left' (by simp)];simp
theorem putR_has{rs:Rg}(h:RgOk rs){n:Int}(hn:hasR rs n=false)(m:Int):hasR (putR rs n) m=(hasR rs m||(m==n)):=by
 have hord:=h.up;have hea:=h.each;obtain⟨A,B,a,b,_,hc,hA,hB⟩:=putR_parts h hn;rcases hc with⟨e,hp⟩|⟨e,hp⟩|⟨e,hp⟩|⟨e,hp⟩<;>rw[hp,e]<;>unfold hasR<;>simp only[List.any_append,List.any_cons]<;>generalize(A.any fun r=>decide (r.1≤m)&&decide (m<r.2))=x<;>generalize(B.any fun r=>decide (r.1≤m)&&decide (m<r.2))=y;·cases x<;>cases y<;>first|(simp;done)|(rw[Bool.eq_iff_iff];simp;omega)
 ·have:=hea (a,n) (by rw[e];simp);cases x<;>cases y<;>first|(simp;done)|(rw[Bool.eq_iff_iff];simp;omega)
 ·have:=hea (n+1,b) (by rw[e];simp);cases x<;>cases y<;>first|(simp;done)|(rw[Bool.eq_iff_iff];simp;omega)
 ·have:=hea (a,n) (by rw[e];simp);have:=hea (n+1,b) (by rw[e];simp);cases x<;>cases y<;>first|(simp;done)|(rw[Bool.eq_iff_iff];simp;omega)
theorem putR_ok{rs:Rg}(h:RgOk rs){n:Int}(hn:hasR rs n=false)(h1:1≤n)(h2:n≤1099511627776):RgOk (putR rs n):=by
 have hord:=h.up;have hea:=h.each;obtain⟨A,B,a,b,_,hc,hA,hB⟩:=putR_parts h hn;rcases hc with⟨e,hp⟩|⟨e,hp⟩|⟨e,hp⟩|⟨e,hp⟩<;>rw[hp]<;>rw[e]at hord hea
 ·obtain⟨u1,u2,u3⟩:=List.pairwise_append.1 hord;refine⟨List.pairwise_append.2 ⟨u1,List.pairwise_cons.2 ⟨fun r hr=>hB r hr,u2⟩,fun r hr s hs=>?_⟩,fun r hr=>?_⟩
  ·rcases List.mem_cons.1 hs with rfl|hs;·exact hA r hr
   ·exact u3 r hr s hs
  ·rcases List.mem_append.1 hr with hr|hr;·exact hea r (by simp[hr])
   ·rcases List.mem_cons.1 hr with rfl|hr;·exact⟨h1,by simp only;omega,by simp only;omega⟩
    ·exact hea r (by simp[hr])
 ·obtain⟨u1,u2,u3⟩:=List.pairwise_append.1 hord;obtain⟨u4,u5⟩:=List.pairwise_cons.1 u2;have ha:=hea (a,n) (by simp);refine⟨List.pairwise_append.2 ⟨u1,List.pairwise_cons.2 ⟨fun r hr=>hB r hr,u5⟩,fun r hr s hs=>?_⟩,fun r hr=>?_⟩
  ·rcases List.mem_cons.1 hs with rfl|hs;·exact u3 r hr (a,n) (by simp)
   ·exact u3 r hr s (by simp[hs])
  ·rcases List.mem_append.1 hr with hr|hr;·exact hea r (by simp[hr])
   ·rcases List.mem_cons.1 hr with rfl|hr;·simp only at*;omega
    ·exact hea r (by simp[hr])
 ·obtain⟨u1,u2,u3⟩:=List.pairwise_append.1 hord;obtain⟨u4,u5⟩:=List.pairwise_cons.1 u2;have ha:=hea (n+1,b) (by simp);refine⟨List.pairwise_append.2 ⟨u1,List.pairwise_cons.2 ⟨fun r hr=>u4 r hr,u5⟩,fun r hr s hs=>?_⟩,fun r hr=>?_⟩
  ·rcases List.mem_cons.1 hs with rfl|hs;·exact hA r hr
   ·exact u3 r hr s (by simp[hs])
  ·rcases List.mem_append.1 hr with hr|hr;·exact hea r (by simp[hr])
   ·rcases List.mem_cons.1 hr with rfl|hr;·simp only at*;omega
    ·exact hea r (by simp[hr])
 ·obtain⟨u1,u2,u3⟩:=List.pairwise_append.1 hord;obtain⟨u4,u5⟩:=List.pairwise_cons.1 u2;obtain⟨u6,u7⟩:=List.pairwise_cons.1 u5;have ha:=hea (a,n) (by simp);have hb:=hea (n+1,b) (by simp);refine⟨List.pairwise_append.2 ⟨u1,List.pairwise_cons.2 ⟨fun r hr=>u6 r hr,u7⟩,fun r hr s hs=>?_⟩,fun r hr=>?_⟩
  ·rcases List.mem_cons.1 hs with rfl|hs;·exact u3 r hr (a,n) (by simp)
   ·exact u3 r hr s (by simp[hs])
  ·rcases List.mem_append.1 hr with hr|hr;·exact hea r (by simp[hr])
   ·rcases List.mem_cons.1 hr with rfl|hr;·simp only at*;omega
    ·exact hea r (by simp[hr])
theorem putR_ne(rs:Rg){n:Int}(h:RgOk rs)(hn:hasR rs n=false):putR rs n≠[]:=by obtain⟨A,B,a,b,_,hc,hA,hB⟩:=putR_parts h hn;rcases hc with⟨e,hp⟩|⟨e,hp⟩|⟨e,hp⟩|⟨e,hp⟩<;>rw[hp]<;>simp
theorem putR_len(rs:Rg){n:Int}(h:RgOk rs)(hn:hasR rs n=false):(putR rs n).length≤rs.length+1:=by obtain⟨A,B,a,b,_,hc,hA,hB⟩:=putR_parts h hn;rcases hc with⟨e,hp⟩|⟨e,hp⟩|⟨e,hp⟩|⟨e,hp⟩<;>rw[hp,e]<;>simp<;>omega
/-!### all sources -/
abbrev Had:=Row Rg
structure HadOk(m:Had):Prop where
 up:RowUp m
 each: ∀p∈m,nameB p.1=true∧RgOk p.2∧p.2≠[]
def hadRow(m:Had)(s:List UInt8):Rg:=(getB m s).getD []
def hadB(m:Had)(s:List UInt8)(n:Int):Bool:=hasR (hadRow m s) n
def putsB(m:Had)(s:List UInt8)(n:Int):Bool:=nameB s&&decide (1≤n)&&decide (n≤1099511627776)&&!hadB m s n
def putH(m:Had)(s:List UInt8)(n:Int):Had:=putB s (putR (hadRow m s) n) m
theorem RgOk.nil:RgOk []:=⟨List.Pairwise.nil,fun r hr=>by simp at hr⟩
theorem HadOk.row{m:Had}(h:HadOk m)(s:List UInt8):RgOk (hadRow m s):=by unfold hadRow;cases hg:getB m s with|none=>exact RgOk.nil|some rs=>exact(h.each _ (getB_mem hg)).2.1
theorem HadOk.put{m:Had}(h:HadOk m){s:List UInt8}{n:Int}(hp:putsB m s n=true):HadOk (putH m s n):=by
 unfold putsB at hp;simp only[Bool.and_eq_true,decide_eq_true_eq,Bool.not_eq_true']at hp;obtain⟨⟨⟨h1,h2⟩,h3⟩,h4⟩:=hp;refine⟨putB_rising h.up _ _,fun p hp=>?_⟩;rcases putB_mem.1 hp with rfl|⟨hp,_⟩;·exact⟨h1,putR_ok (h.row s) h4 h2 h3,putR_ne _ (h.row s) h4⟩
 ·exact h.each p hp
theorem HadOk.nil:HadOk []:=⟨List.Pairwise.nil,fun r hr=>by simp at hr⟩
theorem hadRow_put_same(m:Had)(s:List UInt8)(rs:Rg):hadRow (putB s rs m) s=rs:=by unfold hadRow;rw[getB_put_same];rfl
theorem hadRow_put_other(m:Had){s s':List UInt8}(rs:Rg)(h:s'≠s):hadRow (putB s rs m) s'=hadRow m s':=by unfold hadRow;rw[getB_put_other _ _ h]
theorem putH_had{m:Had}(h:HadOk m){s:List UInt8}{n:Int}(hp:putsB m s n=true)(s':List UInt8)(n':Int):hadB (putH m s n) s' n'=(hadB m s' n'||(s'==s&&n'==n)):=by
 unfold putsB at hp;simp only[Bool.and_eq_true,decide_eq_true_eq,Bool.not_eq_true']at hp;unfold hadB putH;by_cases e:s'=s;·subst e;rw[hadRow_put_same,putR_has (h.row s') hp.2];simp
 ·rw[hadRow_put_other _ _ e];simp[e]
end Go.Proofs.YtcmmclliabhnjaaGreatDoor
