/-
  Layer 7: place, Has.
  Layer 7: the set in memory; Has, New.
  Layer 7: what a put leaves in memory.
-/
import Derived.Test.YtladegonienapaaGreatDoorUEvListing
set_option maxRecDepth 100000
set_option maxHeartbeats 16000000
namespace Go.Proofs.YtladegonienapaaGreatDoor
open Go.RowKit Go.Maps Go.Sort
abbrev Rg:=List (Int×Int)
structure RgOk(rs:Rg):Prop where
 up:rs.Pairwise fun r s=>r.2<s.1
 each: ∀r∈rs,1≤r.1∧r.1<r.2∧r.2≤1099511627777
def eX(rs:Rg)(n:Int):Nat:=(rs.takeWhile fun r=>decide (r.2≤n)).length
def dF(rs:Rg)(n:Int):Bool:=rs.any fun r=>decide (r.1≤n)&&decide (n<r.2)
def kJ(rs:Rg)(n:Int):Bool:=decide (0<eX rs n)&&((rs.getD (eX rs n-1) (0,0)).2==n)
def jT(rs:Rg)(n:Int):Bool:=decide (eX rs n<rs.length)&&((rs.getD (eX rs n) (0,0)).1==n+1)
def bY(rs:Rg)(n:Int):Rg:=if kJ rs n then if jT rs n then(rs.set (eX rs n-1) ((rs.getD (eX rs n-1) (0,0)).1,(rs.getD (eX rs n) (0,0)).2)).take (eX rs n)++(rs.set (eX rs n-1) ((rs.getD (eX rs n-1) (0,0)).1,(rs.getD (eX rs n) (0,0)).2)).drop (eX rs n+1)else rs.set (eX rs n-1) ((rs.getD (eX rs n-1) (0,0)).1,n+1)else if jT rs n then rs.set (eX rs n) (n,(rs.getD (eX rs n) (0,0)).2)else rs.take (eX rs n)++[(n,n+1)]++rs.drop (eX rs n)
theorem Mr(rs:Rg)(n:Int):eX rs n≤rs.length:=by unfold eX;exact(List.takeWhile_prefix _).length_le
theorem CX{rs:Rg}(h:RgOk rs)(n:Int): ∃A B,rs=A++B∧eX rs n=A.length∧(∀r∈A,r.2≤n)∧ ∀r∈B,n<r.2:=by
 refine⟨rs.takeWhile fun r=>decide (r.2≤n),rs.dropWhile fun r=>decide (r.2≤n),List.takeWhile_append_dropWhile.symm,rfl,fun r hr=>by simpa using List.all_eq_true.1 List.all_takeWhile r hr,?_⟩;have key: ∀l:Rg,l.Pairwise (fun r s=>r.2<s.1)→(∀r∈l,r.1<r.2)→ ∀r∈l.dropWhile (fun r=>decide (r.2≤n)),n<r.2:=by
  intro l;induction l with
   |nil=>intro _ _ r hr;simp at hr
   |cons a t ih=>
    intro hp he r hr;obtain⟨h1,h2⟩:=List.pairwise_cons.1 hp;by_cases ha:a.2≤n;·rw[List.dropWhile_cons_of_pos (by simpa using ha)]at hr;exact ih h2 (fun r hr=>he r (by simp[hr])) r hr
    ·rw[List.dropWhile_cons_of_neg (by simpa using ha)]at hr;rcases List.mem_cons.1 hr with rfl|hr;·omega
     ·have:=h1 r hr;have:=he r (by simp[hr]);omega
 exact key rs h.up (fun r hr=>(h.each r hr).2.1)
theorem Td{rs:Rg}{n:Int}{A B:Rg}(h:rs=A++B)(hA: ∀r∈A,r.2≤n)(hB: ∀r∈B,n<r.2):eX rs n=A.length:=by subst h;unfold eX;rw[List.takeWhile_append_of_pos (fun r hr=>by simpa using hA r hr)];cases B with|nil=>simp|cons b t=>rw[List.takeWhile_cons_of_neg (by have:=hB b (by simp);simp;omega)];simp
theorem FH{rs:Rg}{n:Int}(k:Nat)(hk:k≤rs.length)(h1: ∀i(h:i<rs.length),i<k→rs[i].2≤n)(h2: ∀i(h:i<rs.length),k≤i→n<rs[i].2):k=eX rs n:=by have:=Td (rs:=rs) (n:=n) (A:=rs.take k) (B:=rs.drop k) (List.take_append_drop k rs).symm (fun r hr=>by obtain⟨i,hi,rfl⟩:=List.getElem_of_mem hr;rw[List.length_take]at hi;rw[List.getElem_take];exact h1 i (by omega) (by omega)) (fun r hr=>by obtain⟨i,hi,rfl⟩:=List.getElem_of_mem hr;rw[List.length_drop]at hi;rw[List.getElem_drop];exact h2 (k+i) (by omega) (by omega));rw[this,List.length_take];omega
theorem PR{rs:Rg}(h:RgOk rs)(i j:Nat)(hij:i≤j)(hj:j<rs.length):rs[i].2≤rs[j].2:=by
 rcases Nat.lt_or_ge i j with hlt|hge;·have h1:=List.pairwise_iff_getElem.1 h.up i j (by omega) hj hlt;have h2:=(h.each rs[j] (List.getElem_mem hj)).2.1;omega
 ·have:i=j:=by omega
  subst this;exact Int.le_refl _
theorem IB{rs:Rg}(h:RgOk rs)(n:Int):dF rs n=(decide (eX rs n<rs.length)&&decide ((rs.getD (eX rs n) (0,0)).1≤n)):=by
 obtain⟨A,B,e,hp,hA,hB⟩:=CX h n;rw[hp];subst e;unfold dF;rw[List.any_append];have h0:(A.any fun r=>decide (r.1≤n)&&decide (n<r.2))=false:=by rw[List.any_eq_false];intro r hr;have:=hA r hr;simp;omega
 rw[h0,Bool.false_or];cases B with
  |nil=>simp
  |cons b t=>
   have hb:=hB b (by simp);have hup:=(List.pairwise_append.1 h.up).2.1;obtain⟨h1,h2⟩:=List.pairwise_cons.1 hup;have h3:(t.any fun r=>decide (r.1≤n)&&decide (n<r.2))=false:=by rw[List.any_eq_false];intro r hr;have:=h1 r hr;simp;omega
   rw[List.any_cons,h3,Bool.or_false];simp[hb]
theorem mq{rs:Rg}(h:RgOk rs){n:Int}(hn:dF rs n=false): ∃A B a b,(rs=A++B∨rs=A++(a,n)::B∨rs=A++(n+1,b)::B∨rs=A++(a,n)::(n+1,b)::B)∧((rs=A++B∧bY rs n=A++(n,n+1)::B)∨(rs=A++(a,n)::B∧bY rs n=A++(a,n+1)::B)∨(rs=A++(n+1,b)::B∧bY rs n=A++(n,b)::B)∨(rs=A++(a,n)::(n+1,b)::B∧bY rs n=A++(a,b)::B))∧(∀r∈A,r.2<n)∧(∀r∈B,n+1<r.1):=by
 have hh:=IB h n;rw[hn]at hh;obtain⟨A,B,e,hp,hA,hB⟩:=CX h n;have hB1: ∀r∈B,n<r.1:=by
  cases B with
   |nil=>intro r hr;simp at hr
   |cons b t=>
    have h0:n<b.1:=by rw[hp]at hh;subst e;simp at hh;exact hh
    intro r hr;rcases List.mem_cons.1 hr with rfl|hr;·exact h0
    ·subst e;have hup:=(List.pairwise_append.1 h.up).2.1;have h1:=(List.pairwise_cons.1 hup).1 r hr;have h2:=h.each b (by simp);omega
 have Y2:=(List.pairwise_append.1 (e▸h.up)).1;have Y1:=(List.pairwise_append.1 (e▸h.up)).2.1;have left:(kJ rs n=false∧ ∀r∈A,r.2<n)∨(kJ rs n=true∧ ∃A' a,A=A'++[(a,n)]∧ ∀r∈A',r.2<n):=by
  unfold kJ;rw[hp];rcases List.eq_nil_or_concat A with rfl|⟨A',x,rfl⟩;·left;exact⟨by simp,by simp⟩
  ·have hx:rs.getD ((A'++[x]).length-1) (0,0)=x:=by subst e;simp
   rw[List.concat_eq_append]at*;rw[hx];have hA2: ∀r∈A',r.2<n:=fun r hr=>by have h1:=(List.pairwise_append.1 Y2).2.2 r hr x (by simp);have h2:=hA x (by simp);have h3:=h.each x (by subst e;simp);omega
   by_cases ER:x.2=n;·right;exact⟨by simp[ER],A',x.1,by rw[←ER],hA2⟩
   ·left;refine⟨by simp[ER],fun r hr=>?_⟩;rcases List.mem_append.1 hr with hr|hr;·exact hA2 r hr
    ·have:=hA x (by simp);simp at hr;subst hr;omega
 have right:(jT rs n=false∧ ∀r∈B,n+1<r.1)∨(jT rs n=true∧ ∃b B',B=(n+1,b)::B'∧ ∀r∈B',n+1<r.1):=by
  unfold jT;rw[hp];cases B with
   |nil=>left;exact⟨by subst e;simp,by simp⟩
   |cons x t=>
    have hx:rs.getD A.length (0,0)=x:=by subst e;simp
    have hl:A.length<rs.length:=by subst e;simp
    rw[hx];have hB2: ∀r∈t,n+1<r.1:=fun r hr=>by have h1:=(List.pairwise_cons.1 Y1).1 r hr;have h2:=hB1 x (by simp);have h3:=h.each x (by subst e;simp);omega
    by_cases ER:x.1=n+1;·right;exact⟨by simp[ER,hl],x.2,t,by rw[←ER],hB2⟩
    ·left;refine⟨by simp[ER],fun r hr=>?_⟩;rcases List.mem_cons.1 hr with rfl|hr;·have:=hB1 r (by simp);omega
     ·exact hB2 r hr
 rcases left with⟨hl,hl2⟩|⟨hl,A',a,rfl,hl2⟩<;>rcases right with⟨hr,hr2⟩|⟨hr,b,B',rfl,hr2⟩;·refine⟨A,B,0,0,.inl e,.inl ⟨e,?_⟩,hl2,hr2⟩;unfold bY;rw[hl,hr,hp];subst e;simp
 ·refine⟨A,B',0,b,.inr (.inr (.inl e)),.inr (.inr (.inl ⟨e,?_⟩)),hl2,hr2⟩;unfold bY;rw[hl,hr,hp];subst e;simp
 ·refine⟨A',B,a,0,.inr (.inl (by rw[e];simp)),.inr (.inl ⟨by rw[e];simp,?_⟩),hl2,hr2⟩;unfold bY;rw[hl,hr,hp];subst e;simp
 ·refine⟨A',B',a,b,.inr (.inr (.inr (by rw[e];simp))),.inr (.inr (.inr ⟨by rw[e];simp,?_⟩)),hl2,hr2⟩;unfold bY;rw[hl,hr,hp];subst e;simp only[List.length_append,List.length_cons,List.length_nil,Nat.zero_add,Nat.add_sub_cancel];have e1:(A'++[(a,n)]++(n+1,b)::B').set A'.length (((A'++[(a,n)]++(n+1,b)::B').getD A'.length (0,0)).1,((A'++[(a,n)]++(n+1,b)::B').getD (A'.length+1) (0,0)).2)=(A'++[(a,b)])++([(n+1,b)]++B'):=by simp
  rw[e1,List.take_left' (by simp),←List.append_assoc,List.drop_left' (by simp)];simp
theorem Dc{rs:Rg}(h:RgOk rs){n:Int}(hn:dF rs n=false)(m:Int):dF (bY rs n) m=(dF rs m||(m==n)):=by
 have Kt:=h.up;have vD:=h.each;obtain⟨A,B,a,b,_,hc,hA,hB⟩:=mq h hn;rcases hc with⟨e,hp⟩|⟨e,hp⟩|⟨e,hp⟩|⟨e,hp⟩<;>rw[hp,e]<;>unfold dF<;>simp only[List.any_append,List.any_cons]<;>generalize(A.any fun r=>decide (r.1≤m)&&decide (m<r.2))=x<;>generalize(B.any fun r=>decide (r.1≤m)&&decide (m<r.2))=y;·cases x<;>cases y<;>first|(simp;done)|(rw[Bool.eq_iff_iff];simp;omega)
 ·have:=vD (a,n) (by rw[e];simp);cases x<;>cases y<;>first|(simp;done)|(rw[Bool.eq_iff_iff];simp;omega)
 ·have:=vD (n+1,b) (by rw[e];simp);cases x<;>cases y<;>first|(simp;done)|(rw[Bool.eq_iff_iff];simp;omega)
 ·have:=vD (a,n) (by rw[e];simp);have:=vD (n+1,b) (by rw[e];simp);cases x<;>cases y<;>first|(simp;done)|(rw[Bool.eq_iff_iff];simp;omega)
theorem AA{rs:Rg}(h:RgOk rs){n:Int}(hn:dF rs n=false)(h1:1≤n)(h2:n≤1099511627776):RgOk (bY rs n):=by
 have Kt:=h.up;have vD:=h.each;obtain⟨A,B,a,b,_,hc,hA,hB⟩:=mq h hn;rcases hc with⟨e,hp⟩|⟨e,hp⟩|⟨e,hp⟩|⟨e,hp⟩<;>rw[hp]<;>rw[e]at Kt vD
 ·obtain⟨u1,u2,u3⟩:=List.pairwise_append.1 Kt;refine⟨List.pairwise_append.2 ⟨u1,List.pairwise_cons.2 ⟨fun r hr=>hB r hr,u2⟩,fun r hr s hs=>?_⟩,fun r hr=>?_⟩
  ·rcases List.mem_cons.1 hs with rfl|hs;·exact hA r hr
   ·exact u3 r hr s hs
  ·rcases List.mem_append.1 hr with hr|hr;·exact vD r (by simp[hr])
   ·rcases List.mem_cons.1 hr with rfl|hr;·exact⟨h1,by simp only;omega,by simp only;omega⟩
    ·exact vD r (by simp[hr])
 ·obtain⟨u1,u2,u3⟩:=List.pairwise_append.1 Kt;obtain⟨u4,u5⟩:=List.pairwise_cons.1 u2;have ha:=vD (a,n) (by simp);refine⟨List.pairwise_append.2 ⟨u1,List.pairwise_cons.2 ⟨fun r hr=>hB r hr,u5⟩,fun r hr s hs=>?_⟩,fun r hr=>?_⟩
  ·rcases List.mem_cons.1 hs with rfl|hs;·exact u3 r hr (a,n) (by simp)
   ·exact u3 r hr s (by simp[hs])
  ·rcases List.mem_append.1 hr with hr|hr;·exact vD r (by simp[hr])
   ·rcases List.mem_cons.1 hr with rfl|hr;·simp only at*;omega
    ·exact vD r (by simp[hr])
 ·obtain⟨u1,u2,u3⟩:=List.pairwise_append.1 Kt;obtain⟨u4,u5⟩:=List.pairwise_cons.1 u2;have ha:=vD (n+1,b) (by simp);refine⟨List.pairwise_append.2 ⟨u1,List.pairwise_cons.2 ⟨fun r hr=>u4 r hr,u5⟩,fun r hr s hs=>?_⟩,fun r hr=>?_⟩
  ·rcases List.mem_cons.1 hs with rfl|hs;·exact hA r hr
   ·exact u3 r hr s (by simp[hs])
  ·rcases List.mem_append.1 hr with hr|hr;·exact vD r (by simp[hr])
   ·rcases List.mem_cons.1 hr with rfl|hr;·simp only at*;omega
    ·exact vD r (by simp[hr])
 ·obtain⟨u1,u2,u3⟩:=List.pairwise_append.1 Kt;obtain⟨u4,u5⟩:=List.pairwise_cons.1 u2;obtain⟨u6,u7⟩:=List.pairwise_cons.1 u5;have ha:=vD (a,n) (by simp);have hb:=vD (n+1,b) (by simp);refine⟨List.pairwise_append.2 ⟨u1,List.pairwise_cons.2 ⟨fun r hr=>u6 r hr,u7⟩,fun r hr s hs=>?_⟩,fun r hr=>?_⟩
  ·rcases List.mem_cons.1 hs with rfl|hs;·exact u3 r hr (a,n) (by simp)
   ·exact u3 r hr s (by simp[hs])
  ·rcases List.mem_append.1 hr with hr|hr;·exact vD r (by simp[hr])
   ·rcases List.mem_cons.1 hr with rfl|hr;·simp only at*;omega
    ·exact vD r (by simp[hr])
theorem je(rs:Rg){n:Int}(h:RgOk rs)(hn:dF rs n=false):bY rs n≠[]:=by obtain⟨A,B,a,b,_,hc,hA,hB⟩:=mq h hn;rcases hc with⟨e,hp⟩|⟨e,hp⟩|⟨e,hp⟩|⟨e,hp⟩<;>rw[hp]<;>simp
theorem Mm(rs:Rg){n:Int}(h:RgOk rs)(hn:dF rs n=false):(bY rs n).length≤rs.length+1:=by obtain⟨A,B,a,b,_,hc,hA,hB⟩:=mq h hn;rcases hc with⟨e,hp⟩|⟨e,hp⟩|⟨e,hp⟩|⟨e,hp⟩<;>rw[hp,e]<;>simp<;>omega
/-!### all sources -/
abbrev eB:=Row Rg
structure dm(m:eB):Prop where
 up:bP m
 each: ∀p∈m,af p.1=true∧RgOk p.2∧p.2≠[]
def aM(m:eB)(s:List UInt8):Rg:=(aC m s).getD []
def hadB(m:eB)(s:List UInt8)(n:Int):Bool:=dF (aM m s) n
def nO(m:eB)(s:List UInt8)(n:Int):Bool:=af s&&decide (1≤n)&&decide (n≤1099511627776)&&!hadB m s n
def nk(m:eB)(s:List UInt8)(n:Int):eB:=aL s (bY (aM m s) n) m
theorem RgOk.nil:RgOk []:=⟨List.Pairwise.nil,fun r hr=>by simp at hr⟩
theorem dm.row{m:eB}(h:dm m)(s:List UInt8):RgOk (aM m s):=by unfold aM;cases hg:aC m s with|none=>exact RgOk.nil|some rs=>exact(h.each _ (ak hg)).2.1
theorem dm.put{m:eB}(h:dm m){s:List UInt8}{n:Int}(hp:nO m s n=true):dm (nk m s n):=by
 unfold nO at hp;simp only[Bool.and_eq_true,decide_eq_true_eq,Bool.not_eq_true']at hp;obtain⟨⟨⟨h1,h2⟩,h3⟩,h4⟩:=hp;refine⟨aZ h.up _ _,fun p hp=>?_⟩;rcases aJ.1 hp with rfl|⟨hp,_⟩;·exact⟨h1,AA (h.row s) h4 h2 h3,je _ (h.row s) h4⟩
 ·exact h.each p hp
theorem dm.nil:dm []:=⟨List.Pairwise.nil,fun r hr=>by simp at hr⟩
theorem jG(m:eB)(s:List UInt8)(rs:Rg):aM (aL s rs m) s=rs:=by unfold aM;rw[dE];rfl
theorem gD(m:eB){s s':List UInt8}(rs:Rg)(h:s'≠s):aM (aL s rs m) s'=aM m s':=by unfold aM;rw[fT _ _ h]
theorem Mq{m:eB}(h:dm m){s:List UInt8}{n:Int}(hp:nO m s n=true)(s':List UInt8)(n':Int):hadB (nk m s n) s' n'=(hadB m s' n'||(s'==s&&n'==n)):=by
 unfold nO at hp;simp only[Bool.and_eq_true,decide_eq_true_eq,Bool.not_eq_true']at hp;unfold hadB nk;by_cases e:s'=s;·subst e;rw[jG,Dc (h.row s') hp.2];simp
 ·rw[gD _ _ e];simp[e]
def rgCells(rs:Rg):List Value:=rs.flatMap fun r=>[.int .i64 r.1,.int .i64 r.2]
theorem nL(rs:Rg):(rgCells rs).length=rs.length*2:=by induction rs with|nil=>rfl|cons r rs ih=>simp only[rgCells,List.flatMap_cons,List.length_append,List.length_cons]at*;rw[ih];simp;omega
theorem dO(r:Int×Int)(rs:Rg):rgCells (r::rs)=.int .i64 r.1::.int .i64 r.2::rgCells rs:=rfl
theorem aS(a b:Rg):rgCells (a++b)=rgCells a++rgCells b:=by simp[rgCells]
theorem gX: ∀(rs:Rg)(k:Nat)(hk:k<rs.length),(rgCells rs)[k*2]?=some (.int .i64 rs[k].1)∧(rgCells rs)[k*2+1]?=some (.int .i64 rs[k].2)|r::rs,0,_=>⟨rfl,rfl⟩|r::rs,k+1,hk=>by have:=gX rs k (by simpa using hk);rw[dO];rw[show(k+1)*2=k*2+1+1 by omega];simpa using this
theorem dB: ∀(rs:Rg)(k:Nat)(hk:k<rs.length)(t:Int),(rgCells rs).set (k*2+1) (.int .i64 t)=rgCells (rs.set k (rs[k].1,t))|r::rs,0,_,t=>rfl|r::rs,k+1,hk,t=>by have:=dB rs k (by simpa using hk) t;rw[dO,show(k+1)*2+1=k*2+1+1+1 by omega];simp only[List.set_cons_succ,dO,List.getElem_cons_succ];rw[this]
theorem eO: ∀(rs:Rg)(k:Nat)(hk:k<rs.length)(t:Int),(rgCells rs).set (k*2) (.int .i64 t)=rgCells (rs.set k (t,rs[k].2))|r::rs,0,_,t=>rfl|r::rs,k+1,hk,t=>by have:=eO rs k (by simpa using hk) t;rw[dO,show(k+1)*2=k*2+1+1 by omega];simp only[List.set_cons_succ,dO,List.getElem_cons_succ];rw[this]
theorem iC(rs:Rg)(k:Nat):(rgCells rs).take (k*2)=rgCells (rs.take k):=by induction rs generalizing k with|nil=>simp[rgCells]|cons r rs ih=>cases k with|zero=>simp[rgCells]|succ k=>rw[dO,show(k+1)*2=k*2+1+1 by omega];simp only[List.take_succ_cons,dO,ih k]
theorem iD(rs:Rg)(k:Nat):(rgCells rs).drop (k*2)=rgCells (rs.drop k):=by induction rs generalizing k with|nil=>simp[rgCells]|cons r rs ih=>cases k with|zero=>simp|succ k=>rw[dO,show(k+1)*2=k*2+1+1 by omega];simp only[List.drop_succ_cons,ih k]
theorem dD(rs:Rg): ∀u∈rgCells rs,u.oneCell'=true:=by intro u hu;simp only[rgCells,List.mem_flatMap]at hu;obtain⟨r,_,hr⟩:=hu;simp at hr;rcases hr with rfl|rfl<;>rfl
def dX(w:World)(v:Value)(rs:Rg):Prop:=w.ownsRow 0 153 2 v rs.length (rgCells rs)
theorem dX.cell{w:World}{rs:Rg}{g cap n:Nat}(h:dX w (.slice (some ⟨g,0,none⟩) n cap) rs)(k:Nat)(hk:k<rs.length):w.cell? ⟨g,k*2,none⟩=some (.int .i64 rs[k].1)∧w.cell? ⟨g,k*2+1,none⟩=some (.int .i64 rs[k].2)∧w.frozen? ⟨g,k*2,none⟩=false∧w.frozen? ⟨g,k*2+1,none⟩=false:=by
 have hn:n=rs.length:=by
  rcases h.2 with⟨h',_⟩|⟨_,_,_,h',_⟩;·cases h'
  ·injection h'
 subst hn;have hg:=gX rs k hk;refine⟨?_,?_,World.ownsRow.frozenAt h _,World.ownsRow.frozenAt h _⟩;·rw[World.ownsRow.cellAt h (k*2) (by omega)];exact hg.1
 ·rw[World.ownsRow.cellAt h (k*2+1) (by omega)];exact hg.2
theorem dX.keep{w w':World}{v:Value}{rs:Rg}(h:dX w v rs)(hb: ∀b,v.ownBlock=some b→w'.heap[b]?=w.heap[b]?):dX w' v rs:=by
 refine⟨h.1,?_⟩;rcases h.2 with h'|⟨g,cap,cur,rfl,hb',hg,hr⟩;·exact .inl h'
 ·exact .inr ⟨g,cap,cur,rfl,hb',(hb g rfl).trans hg,hr⟩
theorem dX.up{w w':World}{v:Value}{rs:Rg}(h:dX w v rs)(hb:Below w.heap.size w w'):dX w' v rs:=h.keep fun b e=>hb.block b (World.ownsRow.lt h b e).2
theorem FJ(w:World)(b1 b2 g n cap:Nat)(x:Int)(k:Nat)(hk:k<n)(t:Int)(hc1:w.cell? ⟨b1,0,none⟩=some (.slice (some ⟨g,0,none⟩) n cap))(hc2:w.cell? ⟨b2,0,none⟩=some (.int .i64 x))(ht:w.cell? ⟨g,k*2+1,none⟩=some (.int .i64 t)):Calls Tryz.prog 201 (#[.int .i64 k]++ #[.pointer (some ⟨b1,0,none⟩),.pointer (some ⟨b2,0,none⟩)]) w (Says (decide (x<t)) w):=by
 show Calls Tryz.prog 201 #[.int .i64 k,.pointer (some ⟨b1,0,none⟩),.pointer (some ⟨b2,0,none⟩)] w (Says (decide (x<t)) w);have hk':(k:Int)<n:=by omega
 go_enter Tryz.func201,Tryz.ntmps201;go_wp2;go_quiet(fail);go_wp2;go_ret;exact⟨rfl,below_drewN (Below.refl _ _) _⟩
def KY(rs:Rg)(n:Int)(w:World)(e:Ending)(w':World):Prop:=e=.returned (.int .i64 (eX rs n))∧Below w.heap.size w w'
theorem zt(w:World)(v:Value)(rs:Rg)(hown:dX w v rs)(ok:RgOk rs)(hlen:rs.length≤1000000)(n:Int):Calls Tryz.prog 144 #[v,.int .i64 n] w (KY rs n w):=by
 have HO:=qH hown;have HK:=qH ok;obtain⟨A,c,rfl⟩:=ownsRow_form hown;have hmax:c≤maxLen:=by
  rcases hown.2 with⟨e,_⟩|⟨_,_,_,e,_,_,_,h,_⟩;·injection e with _ _ e;subst e;unfold maxLen;omega
  ·injection e with _ _ e;subst e;exact h
 clear hown ok;go_enter Tryz.func144,Tryz.ntmps144;go_wp2_with fail;have bL:Below w.heap.size w ((w.alloc (.cells #[.slice A rs.length c] 151)).alloc (.cells #[.int .i64 n] 3)):=((Below.refl _ _).alloc (Nat.le_refl _) _).alloc (by simp) _;have TM:((w.alloc (.cells #[.slice A rs.length c] 151)).alloc (.cells #[.int .i64 n] 3)).cell? ⟨w.heap.size,0,none⟩=some (.slice A rs.length c):=by rw[World.cell?_alloc_lt _ _ _ (by simp)];exact cell_of_row _ w.heap.size 0 _ _ (0,0) (heap_alloc_new w _)
 have hA1:((w.alloc (.cells #[.slice A rs.length c] 151)).alloc (.cells #[.int .i64 n] 3)).cell? ⟨w.heap.size+1,0,none⟩=some (.int .i64 n):=by simp
 have hsz:((w.alloc (.cells #[.slice A rs.length c] 151)).alloc (.cells #[.int .i64 n] 3)).heap.size=w.heap.size+2:=by simp
 generalize(w.alloc (.cells #[.slice A rs.length c] 151)).alloc (.cells #[.int .i64 n] 3)=w1 at*;have Lx:=qH (HO.o.up bL);have YR:=qH TM;have HA1:=qH hA1;clear TM hA1;refine(qo w1 201 #[.pointer (some ⟨w.heap.size,0,none⟩),.pointer (some ⟨w.heap.size+1,0,none⟩)] rs.length (fun i=>decide (n<(rs.getD i (0,0)).2)) (by omega) (fun _ _=>by kernel_rfl) ?_ ?_).mono ?_
 ·intro w2 i hb2 hi;have hg: ∃g,A=some ⟨g,0,none⟩:=by
   rcases HO.o.2 with⟨e,h0⟩|⟨g,_,_,e,_⟩;·omega
   ·exact⟨g,by injection e⟩
  obtain⟨g,rfl⟩:=hg;have hc:=((Lx.o.up hb2).cell i hi).2.1;have e:rs.getD i (0,0)=rs[i]:=by simp[List.getD,List.getElem?_eq_getElem hi]
  simp only[e];exact FJ w2 _ _ g rs.length c n i hi _ ((hb2.cell (p:=⟨w.heap.size,0,none⟩) (by simp only;omega)).trans YR.o) ((hb2.cell (p:=⟨w.heap.size+1,0,none⟩) (by simp only;omega)).trans HA1.o) hc
 ·intro i j hij hj hp;have:=PR HK.o i j hij hj;simp only[List.getD,List.getElem?_eq_getElem hj,List.getElem?_eq_getElem (show i<rs.length by omega),Option.getD_some,decide_eq_true_eq]at*;omega
 ·rintro e w2⟨k,rfl,hkl,h1,h2,hb2⟩;have HP:=qH (FH (rs:=rs) (n:=n) k hkl (fun i hi hlt=>by have:=h1 i hlt;simp only[List.getD,List.getElem?_eq_getElem hi,Option.getD_some,decide_eq_false_iff_not]at this;omega) (fun i hi hge=>by have:=h2 i hge hi;simpa only[List.getD,List.getElem?_eq_getElem hi,Option.getD_some,decide_eq_true_eq]using this));have HB:=qH (bL.trans (hb2.mono (by omega)));clear h1 h2 hb2;go_wp2;go_ret;exact⟨by rw[←HP.o];rfl,HB.o⟩
abbrev setObj(bm:Nat):Obj:=.cells #[.map (some bm)] 150
structure bQ(w:World)(G:Nat→Prop)(bs bm:Nat)(m:eB)(V:List UInt8→Value):Prop where
 blk:w.heap[bs]?=some (setObj bm)
 map:dN w bm (m.map fun p=>(p.1,V p.1))
 own: ∀p∈m,dX w (V p.1) p.2
 apart: ∀p∈m,∀q∈m,p.1≠q.1→(V p.1).ownBlock≠(V q.1).ownBlock
 gs:G bs
 gm:G bm
 foot: ∀p∈m,∀b,(V p.1).ownBlock=some b→G b
 lt: ∀b,G b→b<w.heap.size
 typ: ∀b,G b→b=bs∨b=bm∨ ∃cs,w.heap[b]?=some (.cells cs 153 (0,0))
 ok:dm m
section
variable{w w':World}{G:Nat→Prop}{bs bm:Nat}{m:eB}{V:List UInt8→Value}
theorem bQ.keep(h:bQ w G bs bm m V)(hsz:w.heap.size≤w'.heap.size)(hk: ∀b,G b→w'.heap[b]?=w.heap[b]?):bQ w' G bs bm m V:=⟨(hk _ h.gs).trans h.blk,h.map.block (hk _ h.gm),fun p hp=>(h.own p hp).keep fun b hb=>hk b (h.foot p hp b hb),h.apart,h.gs,h.gm,h.foot,fun b hb=>Nat.lt_of_lt_of_le (h.lt b hb) hsz,fun b hb=>(h.typ b hb).imp id fun h'=>h'.imp id fun⟨cs,hc⟩=>⟨cs,(hk b hb).trans hc⟩,h.ok⟩
theorem bQ.up(h:bQ w G bs bm m V)(hb:Below w.heap.size w w'):bQ w' G bs bm m V:=h.keep hb.size fun b hg=>hb.block b (h.lt b hg)
theorem bQ.cell(h:bQ w G bs bm m V):w.cell? ⟨bs,0,none⟩=some (.map (some bm)):=cell_of_row w bs 0 _ _ (0,0) h.blk
theorem Hz(w:World):(zeroValue 151).run Tryz.prog w=.ok (.slice none 0 0) w:=by kernel_rfl
theorem bQ.look(h:bQ w G bs bm m V)(s:List UInt8)(hs:s.length≤1000000000): ∃v,(Instr.lookup 148 (.map (some bm)) (.string ⟨s.toArray⟩) false).run Tryz.prog w=.ok v w∧dX w v (aM m s)∧(aC m s=none→v=.slice none 0 0)∧(∀rs,aC m s=some rs→v=V s):=by
 refine⟨_,h.map.look s (by unfold maxLen;omega) _ _ Tryz.underlying148 _ (Hz w),?_⟩;have e:(aC (m.map fun p=>(p.1,V p.1)) s)=(aC m s).map fun _=>V s:=by unfold aC;rw[List.find?_map];have:((fun p:List UInt8×Value=>p.1==s)∘fun p:List UInt8×Rg=>(p.1,V p.1))=fun p=>p.1==s:=rfl;rw[this];cases hf:m.find? fun p=>p.1==s with|none=>rfl|some p=>have:=List.find?_some hf;simp at this;simp[this]
 rw[e];cases hg:aC m s with|none=>refine⟨?_,fun _=>rfl,(fun _ h=>by cases h)⟩;unfold aM;rw[hg];exact World.ownsRow_nil w 0 _ 2|some rs=>refine⟨?_,(fun h=>by cases h),fun _ _=>rfl⟩;unfold aM;rw[hg];exact h.own _ (ak hg)
end
theorem vT(w:World)(G:Nat→Prop)(bs bm:Nat)(m:eB)(V:List UInt8→Value)(h:bQ w G bs bm m V)(s:List UInt8)(hs:s.length≤1000000000)(hlen:(aM m s).length≤1000000)(n:Int):Calls Tryz.prog 93 #[.pointer (some ⟨bs,0,none⟩),.string ⟨s.toArray⟩,.int .i64 n] w (Says (hadB m s n) w):=by
 have HB:=qH (IB (h.ok.row s) n);have mQ:=qH (h.ok.row s);have hc:=h.cell;have XQ:=qS (hadB m s n=dF (aM m s) n) (rfl);obtain⟨v,hl,hown,_,_⟩:=h.look s hs;generalize aM m s=rs at*;obtain⟨A,c,rfl⟩:=ownsRow_form hown;have HO:=qH hown;have hpl:=Mr rs n;clear h hown;go_enter Tryz.func93,Tryz.ntmps93;go_wp2_with fail;refine(zt w _ rs HO.o mQ.o hlen n).mono ?_;rintro e w1⟨rfl,hb1⟩;have Lx:=qH (HO.o.up hb1);clear hl hc;by_cases hlt:eX rs n<rs.length
 ·have hA: ∃g,A=some ⟨g,0,none⟩:=by
   rcases HO.o.2 with⟨e,h0⟩|⟨g,_,_,e,_⟩;·omega
   ·exact⟨g,by injection e⟩
  obtain⟨g,rfl⟩:=hA;have hcc:=(Lx.o.cell (eX rs n) hlt).1;have HX:=qS (hadB m s n=decide (rs[eX rs n].1≤n)) (by rw[XQ.o,HB.o];simp[hlt]);generalize rs[eX rs n].1=x at*;generalize eX rs n=k at*;have ht:(k:Int)<rs.length:=by omega
  go_wp2;go_ret;exact⟨aa HX.o.symm,hb1⟩
 ·have HX:=qS (hadB m s n=false) (by rw[XQ.o,HB.o];simp[hlt]);generalize eX rs n=k at*;have ht: ¬(k:Int)<rs.length:=by omega
  go_wp2;go_ret;exact⟨aa HX.o.symm,hb1⟩
def GV(w:World)(e:Ending)(w':World):Prop:= ∃bs bm,e=.returned (.pointer (some ⟨bs,0,none⟩))∧bQ w' (fun b=>b=bs∨b=bm) bs bm [] (fun _=>.slice none 0 0)∧w.heap.size≤bs∧w.heap.size≤bm∧Below w.heap.size w w'
theorem qI(w:World):Calls Tryz.prog 78 #[] w (GV w):=by
 have hmm:= @run_makeMap Tryz.prog;go_enter Tryz.func78,Tryz.ntmps78;go_wp2;go_ret;have hb:Below w.heap.size w ((w.alloc (.map #[] 0)).alloc (setObj w.heap.size)):=((Below.refl _ _).alloc (Nat.le_refl _) _).alloc (by simp) _;refine⟨w.heap.size+1,w.heap.size,rfl,⟨?_,(dN.made w).block (Below.heap_alloc _ _ _ (by simp)),fun p hp=>by simp at hp,fun p hp=>by simp at hp,.inl rfl,.inr rfl,fun p hp=>by simp at hp,fun b hb=>?_,fun b hb=>?_,dm.nil⟩,by omega,Nat.le_refl _,hb⟩;·have:=heap_alloc_new (w.alloc (.map #[] 0)) (setObj w.heap.size);simpa using this
 ·simp;rcases hb with rfl|rfl<;>omega
 ·rcases hb with rfl|rfl;·exact .inl rfl
  ·exact .inr (.inl rfl)
theorem dX.typ{w:World}{v:Value}{rs:Rg}(h:dX w v rs){b:Nat}(hb:v.ownBlock=some b): ∃cs,w.heap[b]?=some (.cells cs 153 (0,0)):=by
 rcases h.2 with⟨rfl,_⟩|⟨g,cap,cur,rfl,_,hg,_⟩;·cases hb
 ·injection hb with hb;subst hb;exact⟨cur,hg⟩
theorem tC{α β:Type}(f:List UInt8×α→β)(x:List UInt8×α): ∀m:Row α,(fQ x m).map (fun p=>(p.1,f p))=fQ (x.1,f x) (m.map fun p=>(p.1,f p))
 |[]=>rfl
 |z::r=>by
  simp only[fQ,List.map_cons];split;·rfl
  ·simp only[List.map_cons,tC f x r]
theorem JW(m:eB)(s:List UInt8)(rs:Rg)(V:List UInt8→Value)(v:Value):(aL s rs m).map (fun p=>(p.1,(fun k=>if k=s then v else V k) p.1))=aL s v (m.map fun p=>(p.1,V p.1)):=by
 unfold aL;rw[tC (fun p=>(fun k=>if k=s then v else V k) p.1)];simp only[if_true];congr 1;induction m with
  |nil=>rfl
  |cons p r ih=>
   by_cases e:p.1=s;·simp[e];simpa using ih
   ·simp[e];simpa using ih
theorem bQ.stored{w1 w2 w3:World}{G:Nat→Prop}{bs bm:Nat}{m:eB}{V:List UInt8→Value}(h:bQ w1 G bs bm m V)(s:List UInt8)(v v':Value)(rs':Rg)(hv0:aC m s=none→v=.slice none 0 0)(hv1: ∀rs,aC m s=some rs→v=V s)(hg:w1.grownBy w2 v.ownBlock)(hown:dX w2 v' rs')(hb:v'.ownBlock=v.ownBlock∨ ∃k,v'.ownBlock=some k∧w1.heap.size≤k)(hne:v'.ownBlock≠none)(hm:dN w3 bm (aL s v' (m.map fun p=>(p.1,V p.1))))(hg3:w2.grownBy w3 (some bm))(hok:dm (aL s rs' m)):bQ w3 (fun b=>(G b∧(v.ownBlock=some b→v'.ownBlock=some b))∨(w1.heap.size≤b∧b<w3.heap.size∧v'.ownBlock=some b)) bs bm (aL s rs' m) (fun k=>if k=s then v' else V k)∧ah G w1 w3:=by
 obtain⟨es,cl,hmap⟩:=h.map.isMap;have hrow: ∀b,v.ownBlock=some b→G b∧ ∃rs,(s,rs)∈m∧v=V s∧ ∃cs,w1.heap[b]?=some (.cells cs 153 (0,0)):=fun b hb=>by cases hgs:aC m s with|none=>rw[hv0 hgs]at hb;cases hb|some rs=>have e:=hv1 rs hgs;have hmem:=ak hgs;rw[e]at hb;exact⟨h.foot _ hmem b hb,rs,hmem,e,(h.own _ hmem).typ hb⟩
 have hmr:v.ownBlock≠some bm:=fun e=>by obtain⟨_,_,_,_,cs,hc⟩:=hrow bm e;rw[hmap]at hc;cases hc
 have yF:v.ownBlock≠some bs:=fun e=>by obtain⟨_,_,_,_,cs,hc⟩:=hrow bs e;rw[h.blk]at hc;injection hc with hc;injection hc with _ ht;exact absurd ht (by decide)
 have hms:bm≠bs:=fun e=>by subst e;rw[h.blk]at hmap;cases hmap
 have hm2:w2.heap[bm]?=some (.map es cl):=(hg.block bm (h.lt _ h.gm) (Ne.symm hmr)).trans hmap;have hs2:w1.heap.size≤w2.heap.size:=hg.size;have hs3:w2.heap.size≤w3.heap.size:=hg3.size;have rG: ∀b,b<w1.heap.size→some b≠v.ownBlock→b≠bm→w3.heap[b]?=w1.heap[b]?:=fun b hb h1 h2=>(hg3.block b (by omega) (fun e=>h2 (by injection e))).trans (hg.block b hb h1);have hown3:dX w3 v' rs':=hown.keep fun b hb'=>by refine hg3.block b (World.ownsRow.lt hown b hb').2 fun e=>?_;injection e with e;subst e;obtain⟨cs,hc⟩:=hown.typ hb';rw[hm2]at hc;cases hc
 have hoth: ∀p∈m,p.1≠s→(V p.1).ownBlock≠v.ownBlock∨v.ownBlock=none:=fun p hp hps=>by cases hvb:v.ownBlock with|none=>exact .inr rfl|some b=>obtain⟨_,rs,hmem,e,_⟩:=hrow b hvb;left;rw[←hvb,e];exact h.apart p hp (s,rs) hmem hps
 have Kr: ∀p∈m,p.1≠s→dX w3 (V p.1) p.2:=fun p hp hps=>(h.own p hp).keep fun b hb'=>by
  refine rG b (World.ownsRow.lt (h.own p hp) b hb').2 (fun e=>?_) (fun e=>?_)
  ·rcases hoth p hp hps with h'|h';·exact h' (hb'.trans e)
   ·rw[h']at e;cases e
  ·subst e;obtain⟨cs,hc⟩:=(h.own p hp).typ hb';rw[hmap]at hc;cases hc
 have hap: ∀q∈m,q.1≠s→v'.ownBlock≠(V q.1).ownBlock:=fun q hq Qq e=>by
  rcases hb with h'|⟨k,hk,hkl⟩
  ·rcases hoth q hq Qq with h2|h2;·exact h2 (e.symm.trans h')
   ·exact hne (h'.trans h2)
  ·have:=(World.ownsRow.lt (h.own q hq) k (e.symm.trans hk)).2;omega
 refine⟨⟨?_,?_,?_,?_,.inl ⟨h.gs,fun e=>absurd e yF⟩,.inl ⟨h.gm,fun e=>absurd e hmr⟩,?_,?_,?_,hok⟩,?_⟩;·exact(rG bs (h.lt _ h.gs) (Ne.symm yF) (Ne.symm hms)).trans h.blk
 ·rw[JW];exact hm
 ·intro p hp;rcases aJ.1 hp with rfl|⟨hp,hps⟩;·simpa using hown3
  ·simp only[hps,if_false];exact Kr p hp hps
 ·intro p hp q hq hpq;rcases aJ.1 hp with rfl|⟨hp,hps⟩<;>rcases aJ.1 hq with rfl|⟨hq,Qq⟩;·exact absurd rfl hpq
  ·simp only[if_true,Qq,if_false];exact hap q hq Qq
  ·simp only[if_true,hps,if_false];exact Ne.symm (hap p hp hps)
  ·simp only[hps,Qq,if_false];exact h.apart p hp q hq hpq
 ·intro p hp b hb';rcases aJ.1 hp with rfl|⟨hp,hps⟩
  ·simp only[if_true]at hb';rcases hb with h'|⟨k,hk,hkl⟩;·exact .inl ⟨(hrow b (h'.symm.trans hb')).1,fun _=>hb'⟩
   ·right;rw[hk]at hb';injection hb' with hb';subst hb';exact⟨hkl,(World.ownsRow.lt hown3 k hk).2,hk⟩
  ·simp only[hps,if_false]at hb';refine .inl ⟨h.foot p hp b hb',fun e=>?_⟩;rcases hoth p hp hps with h'|h';·exact absurd (hb'.trans e.symm) h'
   ·rw[h']at e;cases e
 ·rintro b(⟨hb',_⟩|⟨_,hb',_⟩);·have:=h.lt b hb';omega
  ·exact hb'
 ·rintro b(⟨hb',hbb⟩|⟨h1,h2,h3⟩)
  ·rcases h.typ b hb' with e|e|⟨cs,hc⟩;·exact .inl e
   ·exact .inr (.inl e)
   ·by_cases hbv:v.ownBlock=some b;·exact .inr (.inr (hown3.typ (hbb hbv)))
    ·exact .inr (.inr ⟨cs,(rG b (h.lt b hb') (Ne.symm hbv) (fun e=>by subst e;rw[hmap]at hc;cases hc)).trans hc⟩)
  ·exact .inr (.inr (hown3.typ h3))
 ·refine⟨hg3.os.trans hg.os,hg3.tape.trans hg.tape,hg3.output.trans hg.output,by omega,fun b hb' hnG=>rG b hb' (fun e=>hnG (hrow b e.symm).1) (fun e=>hnG (by rw[e];exact h.gm))⟩
end Go.Proofs.YtladegonienapaaGreatDoor
