/-
  Layer 7, plain: the bytes of a set.
-/
import Derived.Test.YtajihpcdplpcdaaGreatDoorTRowK
import Derived.Test.YtajihpcdplpcdaaGreatDoorTEvForget
import Derived.Test.YtajihpcdplpcdaaGreatDoorTWhole
import Derived.Test.YtajihpcdplpcdaaGreatDoorTSets
import Derived.Lib.AppendStr
import Derived.Test.YtajihpcdplpcdaaGreatDoorTEvMay
set_option maxRecDepth 100000
set_option maxHeartbeats 16000000
namespace Go.Proofs.YtajihpcdplpcdaaGreatDoor
open Go.RowKit Go.Maps Go.Sort
abbrev Rg:=List (Int×Int)
structure RgOk(rs:Rg):Prop where
 up:rs.Pairwise fun r s=>r.2<s.1
 each: ∀r∈rs,1≤r.1∧r.1<r.2∧r.2≤1099511627777
def plc(rs:Rg)(n:Int):Nat:=(rs.takeWhile fun r=>decide (r.2≤n)).length
def hasR(rs:Rg)(n:Int):Bool:=rs.any fun r=>decide (r.1≤n)&&decide (n<r.2)
def lefB(rs:Rg)(n:Int):Bool:=decide (0<plc rs n)&&((rs.getD (plc rs n-1) (0,0)).2==n)
def rigB(rs:Rg)(n:Int):Bool:=decide (plc rs n<rs.length)&&((rs.getD (plc rs n) (0,0)).1==n+1)
def putR(rs:Rg)(n:Int):Rg:=if lefB rs n then if rigB rs n then(rs.set (plc rs n-1) ((rs.getD (plc rs n-1) (0,0)).1,(rs.getD (plc rs n) (0,0)).2)).take (plc rs n)++(rs.set (plc rs n-1) ((rs.getD (plc rs n-1) (0,0)).1,(rs.getD (plc rs n) (0,0)).2)).drop (plc rs n+1)else rs.set (plc rs n-1) ((rs.getD (plc rs n-1) (0,0)).1,n+1)else if rigB rs n then rs.set (plc rs n) (n,(rs.getD (plc rs n) (0,0)).2)else rs.take (plc rs n)++[(n,n+1)]++rs.drop (plc rs n)
theorem plc_le(rs:Rg)(n:Int):plc rs n≤rs.length:=by unfold plc;exact(List.takeWhile_prefix _).length_le
theorem rg_parts{rs:Rg}(h:RgOk rs)(n:Int): ∃A B,rs=A++B∧plc rs n=A.length∧(∀r∈A,r.2≤n)∧ ∀r∈B,n<r.2:=by
 refine⟨rs.takeWhile fun r=>decide (r.2≤n),rs.dropWhile fun r=>decide (r.2≤n),List.takeWhile_append_dropWhile.symm,rfl,fun r hr=>by simpa using List.all_eq_true.1 List.all_takeWhile r hr,?_⟩;have key: ∀l:Rg,l.Pairwise (fun r s=>r.2<s.1)→(∀r∈l,r.1<r.2)→ ∀r∈l.dropWhile (fun r=>decide (r.2≤n)),n<r.2:=by
  intro l;induction l with
   |nil=>intro _ _ r hr;simp at hr
   |cons a t ih=>
    intro hp he r hr;obtain⟨h1,h2⟩:=List.pairwise_cons.1 hp;by_cases ha:a.2≤n;·rw[List.dropWhile_cons_of_pos (by simpa using ha)]at hr;exact ih h2 (fun r hr=>he r (by simp[hr])) r hr
    ·rw[List.dropWhile_cons_of_neg (by simpa using ha)]at hr;rcases List.mem_cons.1 hr with rfl|hr;·omega
     ·have:=h1 r hr;have:=he r (by simp[hr]);omega
 exact key rs h.up (fun r hr=>(h.each r hr).2.1)
theorem plc_of{rs:Rg}{n:Int}{A B:Rg}(h:rs=A++B)(hA: ∀r∈A,r.2≤n)(hB: ∀r∈B,n<r.2):plc rs n=A.length:=by subst h;unfold plc;rw[List.takeWhile_append_of_pos (fun r hr=>by simpa using hA r hr)];cases B with|nil=>simp|cons b t=>rw[List.takeWhile_cons_of_neg (by have:=hB b (by simp);simp;omega)];simp
theorem plc_search{rs:Rg}{n:Int}(k:Nat)(hk:k≤rs.length)(h1: ∀i(h:i<rs.length),i<k→rs[i].2≤n)(h2: ∀i(h:i<rs.length),k≤i→n<rs[i].2):k=plc rs n:=by have:=plc_of (rs:=rs) (n:=n) (A:=rs.take k) (B:=rs.drop k) (List.take_append_drop k rs).symm (fun r hr=>by obtain⟨i,hi,rfl⟩:=List.getElem_of_mem hr;rw[List.length_take]at hi;rw[List.getElem_take];exact h1 i (by omega) (by omega)) (fun r hr=>by obtain⟨i,hi,rfl⟩:=List.getElem_of_mem hr;rw[List.length_drop]at hi;rw[List.getElem_drop];exact h2 (k+i) (by omega) (by omega));rw[this,List.length_take];omega
theorem rg_mono{rs:Rg}(h:RgOk rs)(i j:Nat)(hij:i≤j)(hj:j<rs.length):rs[i].2≤rs[j].2:=by
 rcases Nat.lt_or_ge i j with hlt|hge;·have h1:=List.pairwise_iff_getElem.1 h.up i j (by omega) hj hlt;have h2:=(h.each rs[j] (List.getElem_mem hj)).2.1;omega
 ·have:i=j:=by omega
  subst this;exact Int.le_refl _
theorem hasR_eq{rs:Rg}(h:RgOk rs)(n:Int):hasR rs n=(decide (plc rs n<rs.length)&&decide ((rs.getD (plc rs n) (0,0)).1≤n)):=by
 obtain⟨A,B,e,hp,hA,hB⟩:=rg_parts h n;rw[hp];subst e;unfold hasR;rw[List.any_append];have h0:(A.any fun r=>decide (r.1≤n)&&decide (n<r.2))=false:=by rw[List.any_eq_false];intro r hr;have:=hA r hr;simp;omega
 rw[h0,Bool.false_or];cases B with
  |nil=>simp
  |cons b t=>
   have hb:=hB b (by simp);have hup:=(List.pairwise_append.1 h.up).2.1;obtain⟨h1,h2⟩:=List.pairwise_cons.1 hup;have h3:(t.any fun r=>decide (r.1≤n)&&decide (n<r.2))=false:=by rw[List.any_eq_false];intro r hr;have:=h1 r hr;simp;omega
   rw[List.any_cons,h3,Bool.or_false];simp[hb]
theorem putR_parts{rs:Rg}(h:RgOk rs){n:Int}(hn:hasR rs n=false): ∃A B a b,(rs=A++B∨rs=A++(a,n)::B∨rs=A++(n+1,b)::B∨rs=A++(a,n)::(n+1,b)::B)∧((rs=A++B∧putR rs n=A++(n,n+1)::B)∨(rs=A++(a,n)::B∧putR rs n=A++(a,n+1)::B)∨(rs=A++(n+1,b)::B∧putR rs n=A++(n,b)::B)∨(rs=A++(a,n)::(n+1,b)::B∧putR rs n=A++(a,b)::B))∧(∀r∈A,r.2<n)∧(∀r∈B,n+1<r.1):=by
 have hh:=hasR_eq h n;rw[hn]at hh;obtain⟨A,B,e,hp,hA,hB⟩:=rg_parts h n;have hB1: ∀r∈B,n<r.1:=by
  cases B with
   |nil=>intro r hr;simp at hr
   |cons b t=>
    have h0:n<b.1:=by rw[hp]at hh;subst e;simp at hh;exact hh
    intro r hr;rcases List.mem_cons.1 hr with rfl|hr;·exact h0
    ·subst e;have hup:=(List.pairwise_append.1 h.up).2.1;have h1:=(List.pairwise_cons.1 hup).1 r hr;have h2:=h.each b (by simp);omega
 have hupA:=(List.pairwise_append.1 (e▸h.up)).1;have hupB:=(List.pairwise_append.1 (e▸h.up)).2.1;have left:(lefB rs n=false∧ ∀r∈A,r.2<n)∨(lefB rs n=true∧ ∃A' a,A=A'++[(a,n)]∧ ∀r∈A',r.2<n):=by
  unfold lefB;rw[hp];rcases List.eq_nil_or_concat A with rfl|⟨A',x,rfl⟩;·left;exact⟨by simp,by simp⟩
  ·have hx:rs.getD ((A'++[x]).length-1) (0,0)=x:=by subst e;simp
   rw[List.concat_eq_append]at*;rw[hx];have hA2: ∀r∈A',r.2<n:=fun r hr=>by have h1:=(List.pairwise_append.1 hupA).2.2 r hr x (by simp);have h2:=hA x (by simp);have h3:=h.each x (by subst e;simp);omega
   by_cases hxn:x.2=n;·right;exact⟨by simp[hxn],A',x.1,by rw[←hxn],hA2⟩
   ·left;refine⟨by simp[hxn],fun r hr=>?_⟩;rcases List.mem_append.1 hr with hr|hr;·exact hA2 r hr
    ·have:=hA x (by simp);simp at hr;subst hr;omega
 have right:(rigB rs n=false∧ ∀r∈B,n+1<r.1)∨(rigB rs n=true∧ ∃b B',B=(n+1,b)::B'∧ ∀r∈B',n+1<r.1):=by
  unfold rigB;rw[hp];cases B with
   |nil=>left;exact⟨by subst e;simp,by simp⟩
   |cons x t=>
    have hx:rs.getD A.length (0,0)=x:=by subst e;simp
    have hl:A.length<rs.length:=by subst e;simp
    rw[hx];have hB2: ∀r∈t,n+1<r.1:=fun r hr=>by have h1:=(List.pairwise_cons.1 hupB).1 r hr;have h2:=hB1 x (by simp);have h3:=h.each x (by subst e;simp);omega
    by_cases hxn:x.1=n+1;·right;exact⟨by simp[hxn,hl],x.2,t,by rw[←hxn],hB2⟩
    ·left;refine⟨by simp[hxn],fun r hr=>?_⟩;rcases List.mem_cons.1 hr with rfl|hr;·have:=hB1 r (by simp);omega
     ·exact hB2 r hr
 rcases left with⟨hl,hl2⟩|⟨hl,A',a,rfl,hl2⟩<;>rcases right with⟨hr,hr2⟩|⟨hr,b,B',rfl,hr2⟩;·refine⟨A,B,0,0,.inl e,.inl ⟨e,?_⟩,hl2,hr2⟩;unfold putR;rw[hl,hr,hp];subst e;simp
 ·refine⟨A,B',0,b,.inr (.inr (.inl e)),.inr (.inr (.inl ⟨e,?_⟩)),hl2,hr2⟩;unfold putR;rw[hl,hr,hp];subst e;simp
 ·refine⟨A',B,a,0,.inr (.inl (by rw[e];simp)),.inr (.inl ⟨by rw[e];simp,?_⟩),hl2,hr2⟩;unfold putR;rw[hl,hr,hp];subst e;simp
 ·refine⟨A',B',a,b,.inr (.inr (.inr (by rw[e];simp))),.inr (.inr (.inr ⟨by rw[e];simp,?_⟩)),hl2,hr2⟩;unfold putR;rw[hl,hr,hp];subst e;simp only[List.length_append,List.length_cons,List.length_nil,Nat.zero_add,Nat.add_sub_cancel];have e1:(A'++[(a,n)]++(n+1,b)::B').set A'.length (((A'++[(a,n)]++(n+1,b)::B').getD A'.length (0,0)).1,((A'++[(a,n)]++(n+1,b)::B').getD (A'.length+1) (0,0)).2)=(A'++[(a,b)])++([(n+1,b)]++B'):=by simp
  rw[e1,List.take_left' (by simp),←List.append_assoc,List.drop_left' (by simp)];simp
theorem putR_has{rs:Rg}(h:RgOk rs){n:Int}(hn:hasR rs n=false)(m:Int):hasR (putR rs n) m=(hasR rs m||(m==n)):=by
 have hord:=h.up;have hea:=h.each;obtain⟨A,B,a,b,_,hc,hA,hB⟩:=putR_parts h hn;rcases hc with⟨e,hp⟩|⟨e,hp⟩|⟨e,hp⟩|⟨e,hp⟩<;>rw[hp,e]<;>unfold hasR<;>simp only[List.any_append,List.any_cons]<;>generalize(A.any fun r=>decide (r.1≤m)&&decide (m<r.2))=x<;>generalize(B.any fun r=>decide (r.1≤m)&&decide (m<r.2))=y;·cases x<;>cases y<;>first|(simp;done)|(rw[Bool.eq_iff_iff];simp;omega)
 ·have:=hea (a,n) (by rw[e];simp);cases x<;>cases y<;>first|(simp;done)|(rw[Bool.eq_iff_iff];simp;omega)
 ·have:=hea (n+1,b) (by rw[e];simp);cases x<;>cases y<;>first|(simp;done)|(rw[Bool.eq_iff_iff];simp;omega)
 ·have:=hea (a,n) (by rw[e];simp);have:=hea (n+1,b) (by rw[e];simp);cases x<;>cases y<;>first|(simp;done)|(rw[Bool.eq_iff_iff];simp;omega)
theorem putR_ok{rs:Rg}(h:RgOk rs){n:Int}(hn:hasR rs n=false)(h1:1≤n)(h2:n≤1099511627776):RgOk (putR rs n):=by
 have hord:=h.up;have hea:=h.each;obtain⟨A,B,a,b,_,hc,hA,hB⟩:=putR_parts h hn;rcases hc with⟨e,hp⟩|⟨e,hp⟩|⟨e,hp⟩|⟨e,hp⟩<;>rw[hp]<;>rw[e]at hord hea
 ·obtain⟨u1,u2,u3⟩:=List.pairwise_append.1 hord;refine⟨List.pairwise_append.2 ⟨u1,List.pairwise_cons.2 ⟨fun r hr=>hB r hr,u2⟩,fun r hr s hs=>?_⟩,fun r hr=>?_⟩
  ·rcases List.mem_cons.1 hs with rfl|hs;·exact hA r hr
   ·exact u3 r hr s hs
  ·rcases List.mem_append.1 hr with hr|hr;·exact hea r (by simp[hr])
   ·rcases List.mem_cons.1 hr with rfl|hr;·exact⟨h1,by simp only;omega,by simp only;omega⟩
    ·exact hea r (by simp[hr])
 ·obtain⟨u1,u2,u3⟩:=List.pairwise_append.1 hord;obtain⟨u4,u5⟩:=List.pairwise_cons.1 u2;have ha:=hea (a,n) (by simp);refine⟨List.pairwise_append.2 ⟨u1,List.pairwise_cons.2 ⟨fun r hr=>hB r hr,u5⟩,fun r hr s hs=>?_⟩,fun r hr=>?_⟩
  ·rcases List.mem_cons.1 hs with rfl|hs;·exact u3 r hr (a,n) (by simp)
   ·exact u3 r hr s (by simp[hs])
  ·rcases List.mem_append.1 hr with hr|hr;·exact hea r (by simp[hr])
   ·rcases List.mem_cons.1 hr with rfl|hr;·simp only at*;omega
    ·exact hea r (by simp[hr])
 ·obtain⟨u1,u2,u3⟩:=List.pairwise_append.1 hord;obtain⟨u4,u5⟩:=List.pairwise_cons.1 u2;have ha:=hea (n+1,b) (by simp);refine⟨List.pairwise_append.2 ⟨u1,List.pairwise_cons.2 ⟨fun r hr=>u4 r hr,u5⟩,fun r hr s hs=>?_⟩,fun r hr=>?_⟩
  ·rcases List.mem_cons.1 hs with rfl|hs;·exact hA r hr
   ·exact u3 r hr s (by simp[hs])
  ·rcases List.mem_append.1 hr with hr|hr;·exact hea r (by simp[hr])
   ·rcases List.mem_cons.1 hr with rfl|hr;·simp only at*;omega
    ·exact hea r (by simp[hr])
 ·obtain⟨u1,u2,u3⟩:=List.pairwise_append.1 hord;obtain⟨u4,u5⟩:=List.pairwise_cons.1 u2;obtain⟨u6,u7⟩:=List.pairwise_cons.1 u5;have ha:=hea (a,n) (by simp);have hb:=hea (n+1,b) (by simp);refine⟨List.pairwise_append.2 ⟨u1,List.pairwise_cons.2 ⟨fun r hr=>u6 r hr,u7⟩,fun r hr s hs=>?_⟩,fun r hr=>?_⟩
  ·rcases List.mem_cons.1 hs with rfl|hs;·exact u3 r hr (a,n) (by simp)
   ·exact u3 r hr s (by simp[hs])
  ·rcases List.mem_append.1 hr with hr|hr;·exact hea r (by simp[hr])
   ·rcases List.mem_cons.1 hr with rfl|hr;·simp only at*;omega
    ·exact hea r (by simp[hr])
theorem putR_ne(rs:Rg){n:Int}(h:RgOk rs)(hn:hasR rs n=false):putR rs n≠[]:=by obtain⟨A,B,a,b,_,hc,hA,hB⟩:=putR_parts h hn;rcases hc with⟨e,hp⟩|⟨e,hp⟩|⟨e,hp⟩|⟨e,hp⟩<;>rw[hp]<;>simp
theorem putR_len(rs:Rg){n:Int}(h:RgOk rs)(hn:hasR rs n=false):(putR rs n).length≤rs.length+1:=by obtain⟨A,B,a,b,_,hc,hA,hB⟩:=putR_parts h hn;rcases hc with⟨e,hp⟩|⟨e,hp⟩|⟨e,hp⟩|⟨e,hp⟩<;>rw[hp,e]<;>simp<;>omega
/-!### all sources -/
abbrev Had:=Row Rg
structure HadOk(m:Had):Prop where
 up:RowUp m
 each: ∀p∈m,nameB p.1=true∧RgOk p.2∧p.2≠[]
def hadRow(m:Had)(s:List UInt8):Rg:=(getB m s).getD []
def hadB(m:Had)(s:List UInt8)(n:Int):Bool:=hasR (hadRow m s) n
def putsB(m:Had)(s:List UInt8)(n:Int):Bool:=nameB s&&decide (1≤n)&&decide (n≤1099511627776)&&!hadB m s n
def putH(m:Had)(s:List UInt8)(n:Int):Had:=putB s (putR (hadRow m s) n) m
theorem RgOk.nil:RgOk []:=⟨List.Pairwise.nil,fun r hr=>by simp at hr⟩
theorem HadOk.row{m:Had}(h:HadOk m)(s:List UInt8):RgOk (hadRow m s):=by unfold hadRow;cases hg:getB m s with|none=>exact RgOk.nil|some rs=>exact(h.each _ (getB_mem hg)).2.1
theorem HadOk.put{m:Had}(h:HadOk m){s:List UInt8}{n:Int}(hp:putsB m s n=true):HadOk (putH m s n):=by
 unfold putsB at hp;simp only[Bool.and_eq_true,decide_eq_true_eq,Bool.not_eq_true']at hp;obtain⟨⟨⟨h1,h2⟩,h3⟩,h4⟩:=hp;refine⟨putB_rising h.up _ _,fun p hp=>?_⟩;rcases putB_mem.1 hp with rfl|⟨hp,_⟩;·exact⟨h1,putR_ok (h.row s) h4 h2 h3,putR_ne _ (h.row s) h4⟩
 ·exact h.each p hp
theorem HadOk.nil:HadOk []:=⟨List.Pairwise.nil,fun r hr=>by simp at hr⟩
theorem hadRow_put_same(m:Had)(s:List UInt8)(rs:Rg):hadRow (putB s rs m) s=rs:=by unfold hadRow;rw[getB_put_same];rfl
theorem hadRow_put_other(m:Had){s s':List UInt8}(rs:Rg)(h:s'≠s):hadRow (putB s rs m) s'=hadRow m s':=by unfold hadRow;rw[getB_put_other _ _ h]
theorem putH_had{m:Had}(h:HadOk m){s:List UInt8}{n:Int}(hp:putsB m s n=true)(s':List UInt8)(n':Int):hadB (putH m s n) s' n'=(hadB m s' n'||(s'==s&&n'==n)):=by
 unfold putsB at hp;simp only[Bool.and_eq_true,decide_eq_true_eq,Bool.not_eq_true']at hp;unfold hadB putH;by_cases e:s'=s;·subst e;rw[hadRow_put_same,putR_has (h.row s') hp.2];simp
 ·rw[hadRow_put_other _ _ e];simp[e]
def numB(n:Nat):List UInt8:=if n<128 then[UInt8.ofNat n]else UInt8.ofNat (n%128+128)::numB (n/128)termination_by n decreasing_by omega
theorem numB_lo{n:Nat}(h:n<128):numB n=[UInt8.ofNat n]:=by rw[numB,if_pos h]
theorem numB_hi{n:Nat}(h: ¬n<128):numB n=UInt8.ofNat (n%128+128)::numB (n/128):=by rw[numB,if_neg h]
theorem numB_short{n:Nat}(h:n<72057594037927936):(numB n).length≤8:=by
 have key: ∀k n,n<128^(k+1)→(numB n).length≤k+1:=fun k=>by
  induction k with
   |zero=>intro n h;rw[numB_lo (by simpa using h)];simp
   |succ k ih=>
    intro n h;by_cases h1:n<128;·rw[numB_lo h1];simp
    ·rw[numB_hi h1];have:=ih (n/128) (by rw[Nat.div_lt_iff_lt_mul (by omega)];rw[Nat.pow_succ]at h;exact h);simp;omega
 exact key 7 n (by simpa using h)
def textB(s:List UInt8):List UInt8:=UInt8.ofNat s.length::s
def encE(e:Ev):List UInt8:=UInt8.ofNat e.kind.toNat::(textB e.src++numB e.num.toNat++numB e.at_.toNat++textB e.per++textB e.item++numB e.val.toNat++textB e.text)
theorem encE_len{e:Ev}(h1:e.src.length≤300)(h2:e.per.length≤300)(h3:e.item.length≤300)(h4:e.text.length≤300)(n1:e.num≤1099511627776)(n2:e.at_≤1099511627776)(n3:e.val≤1099511627776):(encE e).length≤1229:=by have a:=numB_short (n:=e.num.toNat) (by omega);have b:=numB_short (n:=e.at_.toNat) (by omega);have c:=numB_short (n:=e.val.toNat) (by omega);unfold encE textB;simp only[List.length_cons,List.length_append];omega
structure PnM(w:World)(base:Nat)(v:Value)(l:List UInt8)(v':Value)(w':World):Prop where
 own:OwnB w' base v' l
 keep:Keep (fun b=>v.ownBlock=some b) w w'
 blk: ∀b,v'.ownBlock=some b→v.ownBlock=some b∨w.heap.size≤b
def PnPost(w:World)(base:Nat)(v:Value)(l:List UInt8)(e:Ending)(w':World):Prop:= ∃v',e=.returned v'∧PnM w base v l v' w'
def PnRel(w:World)(base:Nat)(v:Value)(l:List UInt8)(v' q:Value)(wr:World):Prop:= ∃(n:Nat)(l':List UInt8),q=.int .i64 n∧n<4611686018427387904∧l'++numB n=l∧PnM w base v l' v' wr
theorem PnM.app{w wr w2:World}{base:Nat}{v v1 v2:Value}{l l':List UInt8}(h:PnM w base v l v1 wr)(o:Obj)(ho:OwnB w2 base v2 l')(hg:(wr.alloc o).grownBy w2 v1.ownBlock)(hv:v2.ownBlock=v1.ownBlock∨v2.ownBlock=some (wr.heap.size+1)):PnM w base v l' v2 w2:=by
 have hs:=h.keep.size;refine⟨ho,(h.keep.alloc o).trans (Keep.of_grown (F:=fun b=>v1.ownBlock=some b) hg (fun k e=>e)) (fun b hb hF=>?_),fun b hb=>?_⟩
 ·rcases h.blk b hF with h'|h';·exact h'
  ·omega
 ·rcases hv with e|e;·exact h.blk b (e▸hb)
  ·rw[e]at hb;injection hb with hb;right;omega
theorem numB_len8{n:Nat}(h:n<4611686018427387904):(numB n).length≤9:=by
 by_cases h1:n<128;·rw[numB_lo h1];simp
 ·rw[numB_hi h1];have:=numB_short (n:=n/128) (by omega);simp;omega
theorem or128(x:Nat)(h:x<256):bits .or .u8 (x:Int) 128=((x%128+128:Nat):Int):=by
 have: ∀y:Fin 256,bits .or .u8 ((y.val:Nat):Int) 128=((y.val%128+128:Nat):Int):=by decide+kernel
 exact this ⟨x,h⟩
theorem app_str(w:World)(base:Nat)(v:Value)(l s:List UInt8)(ho:OwnB w base v l)(h0:0<l.length)(hb:base≤w.heap.size)(hl:l.length+s.length≤1000000000000)(ty:TypeId): ∃v' w',(Builtin.append_ #[22,9] ty #[v,.string ⟨s.toArray⟩]).run Tryz.prog w=.ok v' w'∧OwnB w' base v' (l++s)∧w.grownBy w' v.ownBlock∧(v'.ownBlock=v.ownBlock∨v'.ownBlock=some w.heap.size):=by
 obtain⟨i0,hi,hz0,hz1,hz2⟩:=info_parts u8_info;have hss:(⟨s.toArray⟩:ByteArray).size=s.length:=by simp[ByteArray.size]
 have hsc:Lib.strCells ⟨s.toArray⟩=bvs s:=by simp[Lib.strCells,bvs]
 obtain⟨v',w',hr,h2,h3,_⟩:=Lib.run_append_own_string (P:=Tryz.prog) w base 22 9 ty 5 i0 Tryz.underlying22 Tryz.underlying9 hi hz0 hz1 hz2 v l.length (bvs l) ho ⟨s.toArray⟩ (by rw[hss];unfold maxLen;omega) (by rw[hss];omega) hb;refine⟨v',w',hr,?_,h3,?_⟩;·unfold OwnB;rw[bvs_append,List.length_append];rw[hss,hsc]at h2;exact h2
 ·rcases ho.2 with⟨_,h'⟩|⟨g,cap,cur,hv,hbg,hg,hnc,hcm,hcs,htake⟩;·omega
  ·subst hv;by_cases hroom:l.length+(⟨s.toArray⟩:ByteArray).size≤cap;·have h5:=Lib.run_append_room_string (P:=Tryz.prog) w 22 9 ty 5 i0 Tryz.underlying22 Tryz.underlying9 hi hz1 g l.length cap cur hg ⟨s.toArray⟩ hroom (by rw[hcs];omega);rw[hr]at h5;injection h5 with h5 _;left;rw[h5];rfl
   ·have hxl:(bvs l).length=l.length*i0.size:=by rw[hz1,bvs_length];omega
    have h5:=Lib.run_append_grow_string (P:=Tryz.prog) w 22 9 ty 5 i0 (.int .u8 0) Tryz.underlying22 Tryz.underlying9 hi hz0 ⟨g,0,none⟩ l.length cap (bvs l) hxl (World.ownsRow.cells ho (g:=g) rfl) ⟨s.toArray⟩ (by omega) (by rw[hss];omega) (by rw[hz2,hss];exact growslice_fits (by omega) (by omega));rw[hr]at h5;injection h5 with h5 _;right;rw[h5];rfl
theorem PnM.then_{w w1 w2:World}{base:Nat}{v v1 v2:Value}{l l':List UInt8}(h:PnM w base v l v1 w1)(h2:PnM w1 base v1 l' v2 w2):PnM w base v l' v2 w2:=by
 have hs:=h.keep.size;refine⟨h2.own,h.keep.trans h2.keep (fun b hb hF=>?_),fun b hb=>?_⟩
 ·rcases h.blk b hF with h'|h';·exact h'
  ·omega
 ·rcases h2.blk b hb with h'|h';·exact h.blk b h'
  ·right;omega
theorem PnM.up{w w1 w2:World}{base:Nat}{v v1:Value}{l:List UInt8}(h:PnM w base v l v1 w1)(hb:Below w1.heap.size w1 w2):PnM w base v l v1 w2:=⟨h.own.below hb (Nat.le_refl _),h.keep.trans (G:=fun _=>False) (Keep.of_below hb) (fun _ _ h=>h.elim),h.blk⟩
theorem PnM.str{w wr w2:World}{base:Nat}{v v1 v2:Value}{l l':List UInt8}(h:PnM w base v l v1 wr)(ho:OwnB w2 base v2 l')(hg:wr.grownBy w2 v1.ownBlock)(hv:v2.ownBlock=v1.ownBlock∨v2.ownBlock=some wr.heap.size):PnM w base v l' v2 w2:=by
 have hs:=h.keep.size;refine⟨ho,h.keep.trans (Keep.of_grown (F:=fun b=>v1.ownBlock=some b) hg (fun k e=>e)) (fun b hb hF=>?_),fun b hb=>?_⟩
 ·rcases h.blk b hF with h'|h';·exact h'
  ·omega
 ·rcases hv with e|e;·exact h.blk b (e▸hb)
  ·rw[e]at hb;injection hb with hb;right;omega
theorem nameB_len{l:List UInt8}(h:nameB l=true):1≤l.length∧l.length≤24:=by unfold nameB at h;simp only[Bool.and_eq_true,decide_eq_true_eq]at h;exact⟨h.1.1,h.1.2⟩
theorem splitB_len(c:UInt8): ∀(k:Nat)(s:ByteArray),(∀t∈Lib.splitB ⟨#[c]⟩ 0 k s,t.size≤24)→s.size+1≤25*(Lib.splitB ⟨#[c]⟩ 0 k s).length
 |0,s,h=>by rw[Lib.splitB_zero]at h⊢;have:=h s (by simp);simp;omega
 |k+1,s,h=>by
  rcases Lib.indexB_cases s ⟨#[c]⟩with hi|⟨i,hi,hle⟩;·rw[Lib.splitB_miss _ _ _ _ hi]at h⊢;have:=h s (by simp);simp;omega
  ·rw[Lib.splitB_hit _ _ _ _ _ hi]at h⊢;have h1:=h _ (List.mem_cons_self ..);have ih:=splitB_len c k (s.extract (i+(⟨#[c]⟩:ByteArray).size) s.size) (fun t ht=>h t (List.mem_cons_of_mem _ ht));have hc:(⟨#[c]⟩:ByteArray).size=1:=rfl;rw[hc]at hle ih h⊢;simp only[ByteArray.size_extract,List.length_cons]at h1 ih⊢;omega
theorem listing_len{s:List UInt8}(h:listingB s=true):s.length≤224:=by
 unfold listingB at h;simp only[Bool.and_eq_true,decide_eq_true_eq]at h;obtain⟨⟨⟨h1,h2⟩,h3⟩,h4⟩:=h;have hm:=(nameB_len h2).2;unfold Lib.cut at h1 hm;by_cases hi:0≤Lib.index s [59]
 ·rw[if_pos hi]at hm;change(s.take _).length≤24 at hm;have hlen:s.length≤(s.take (Lib.index s [59]).toNat).length+1+(restL s).length:=by unfold restL Lib.cut;rw[if_pos hi];simp;omega
  have hr:(restL s).length≤199:=by
   unfold tagsL at h3 h4;by_cases he:(restL s).isEmpty;·rw[List.isEmpty_iff.1 he];simp
   ·rw[if_neg he]at h3 h4;have key:=splitB_len 44 (Lib.countB ⟨(restL s).toArray⟩ ⟨#[44]⟩) ⟨(restL s).toArray⟩ (fun t ht=>by
     obtain⟨k,hk,e⟩:=List.getElem_of_mem ht;unfold tagsB at h4;rw[List.all_eq_true]at h4;have:=h4 k (by simpa using hk);unfold tagB at this;have h5:nameB ((List.map (fun b:ByteArray=>b.data.toList) (Lib.splitB ⟨#[44]⟩ 0 (Lib.countB ⟨(restL s).toArray⟩ ⟨#[44]⟩) ⟨(restL s).toArray⟩)).getD k [])=true:=by simp only[Bool.and_eq_true]at this;exact this.1
     have h6:=(nameB_len h5).2;simp only[List.getD,List.getElem?_map,List.getElem?_eq_getElem hk,Option.map_some,Option.getD_some,e]at h6;show t.data.size≤24;rw[←Array.length_toList];exact h6);have hs:(⟨(restL s).toArray⟩:ByteArray).size=(restL s).length:=by simp[ByteArray.size]
    rw[hs]at key;simp only[List.length_map]at h3;omega
  omega
 ·rw[if_neg hi]at h1;simp at h1
structure Ev.Fit(e:Ev):Prop where
 src:e.src.length≤24
 per:e.per.length≤24
 item:e.item.length≤24
 text:e.text.length≤224
 num0:1≤e.num
 num1:e.num≤1099511627776
 at0:0≤e.at_
 at1:e.at_≤1099511627776
 val0:0≤e.val
 val1:e.val≤1048576
 kind0:0≤e.kind
 kind1:e.kind≤14
theorem mayB_fit{e:Ev}(h:mayB e=true):e.Fit:=by
 unfold mayB at h;rw[Bool.and_eq_true]at h;obtain⟨hh,ht⟩:=h;unfold headB at hh;simp only[Bool.and_eq_true,decide_eq_true_eq]at hh;obtain⟨⟨⟨⟨a1,a2⟩,a3⟩,a4⟩,a5⟩:=hh;have hs:=(nameB_len a1).2;have key:e.per.length≤24∧e.item.length≤24∧e.text.length≤224∧0≤e.val∧e.val≤1048576∧0≤e.kind∧e.kind≤14:=by
  unfold tailB at ht;have hk:e.kind=0∨e.kind=1∨e.kind=2∨e.kind=3∨e.kind=4∨e.kind=5∨e.kind=6∨e.kind=7∨e.kind=8∨e.kind=9∨e.kind=10∨e.kind=11∨e.kind=12∨e.kind=13∨e.kind=14∨ ¬(0≤e.kind∧e.kind≤14):=by omega
  have n1:=fun h:nameB e.per=true=>(nameB_len h).2;have n2:=fun h:nameB e.item=true=>(nameB_len h).2;have n3:=fun h:nameB e.text=true=>(nameB_len h).2;have n4:=fun h:listingB e.text=true=>listing_len h;rcases hk with k|k|k|k|k|k|k|k|k|k|k|k|k|k|k|k;case inr.inr.inr.inr.inr.inr.inr.inr.inr.inr.inr.inr.inr.inr.inr=>rw[if_neg (by omega),if_neg (by omega),if_neg (by omega),if_neg (by omega),if_neg (by omega),if_neg (by omega),if_neg (by omega),if_neg (by omega),if_neg (by omega),if_neg (by omega),if_neg (by omega),if_neg (by omega),if_neg (by omega),if_neg (by omega),if_neg (by omega)]at ht;cases ht
  all_goals(simp[k]at ht;simp only[ht,forall_const,List.length_nil]at n1 n2 n3 n4;simp only[ht,k,List.length_nil];first|omega|(simp;omega)|(simp_all;omega))
 exact⟨hs,key.1,key.2.1,key.2.2.1,a2,a3,a4,a5,key.2.2.2.1,key.2.2.2.2.1,key.2.2.2.2.2.1,key.2.2.2.2.2.2⟩
theorem Ev.Fit.small{e:Ev}(h:e.Fit):e.small:=⟨by have:=h.src;omega,by have:=h.per;omega,by have:=h.item;omega,by have:=h.text;omega⟩
theorem Ev.Fit.len{e:Ev}(h:e.Fit):(encE e).length≤1229:=encE_len (by have:=h.src;omega) (by have:=h.per;omega) (by have:=h.item;omega) (by have:=h.text;omega) h.num1 h.at1 (by have:=h.val1;omega)
def upto(a:Int)(k:Nat):List Int:=(List.range k).map fun(i:Nat)=>a+i
def nums(rs:Rg):List Int:=rs.flatMap fun r=>upto r.1 (r.2-r.1).toNat
def encR:Int→Rg→List UInt8|_,[]=>[]|e,r::rs=>numB (r.1-e).toNat++numB (r.2-r.1).toNat++encR r.2 rs
def endR:Int→Rg→Int|e,[]=>e|_,r::rs=>endR r.2 rs
theorem encR_snoc(r:Int×Int): ∀(e:Int)(rs:Rg),encR e (rs++[r])=encR e rs++(numB (r.1-endR e rs).toNat++numB (r.2-r.1).toNat)|e,[]=>by simp[encR,endR]|e,q::rs=>by simp only[List.cons_append,encR,endR,encR_snoc r q.2 rs,List.append_assoc]
theorem endR_snoc(r:Int×Int): ∀(e:Int)(rs:Rg),endR e (rs++[r])=r.2|e,[]=>rfl|e,q::rs=>by simp only[List.cons_append,endR];exact endR_snoc r q.2 rs
def encS(p:List UInt8×Rg):List UInt8:=UInt8.ofNat p.1.length::(p.1++numB p.2.length++encR 1 p.2)
def encH(m:Had):List UInt8:=numB m.length++m.flatMap encS
theorem encR_len(rs:Rg)(h: ∀r∈rs,1≤r.1∧r.1<r.2∧r.2≤1099511627777): ∀e:Int,1≤e→(encR e rs).length≤16*rs.length:=by induction rs with|nil=>intro e _;simp[encR]|cons r rs ih=>intro e he;have hr:=h r (by simp);have:=ih (fun q hq=>h q (by simp[hq])) r.2 (by omega);have h1:=numB_short (n:=(r.1-e).toNat) (by omega);have h2:=numB_short (n:=(r.2-r.1).toNat) (by omega);simp only[encR,List.length_append,List.length_cons];omega
end Go.Proofs.YtajihpcdplpcdaaGreatDoor
