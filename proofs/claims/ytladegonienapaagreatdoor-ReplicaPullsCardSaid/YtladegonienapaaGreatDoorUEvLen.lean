/-
  Layer 7, plain: the ranges of two rows; a set is told by what it has.
-/
import Derived.Test.YtladegonienapaaGreatDoorUHad
import Derived.Test.YtladegonienapaaGreatDoorUClkLn2
import Derived.Lib.AppendStr
set_option maxRecDepth 100000
set_option maxHeartbeats 16000000
namespace Go.Proofs.YtladegonienapaaGreatDoor
open Go.RowKit Go.Maps Go.Sort
def upto(a:Int)(k:Nat):List Int:=(List.range k).map fun(i:Nat)=>a+i
def nums(rs:Rg):List Int:=rs.flatMap fun r=>upto r.1 (r.2-r.1).toNat
theorem qW{a:Int}{k:Nat}{n:Int}:n∈upto a k↔a≤n∧n<a+k:=by
 unfold upto;rw[List.mem_map];constructor;·rintro⟨i,hi,rfl⟩;have:=List.mem_range.1 hi;omega
 ·rintro⟨h1,h2⟩;exact⟨(n-a).toNat,List.mem_range.2 (by omega),by omega⟩
theorem Pw(a:Int)(k:Nat):(upto a k).Pairwise (·< ·):=by unfold upto;rw[List.pairwise_map];exact List.pairwise_lt_range.imp fun h=>by omega
theorem jW{rs:Rg}(h:RgOk rs)(n:Int):n∈nums rs↔dF rs n=true:=by
 unfold nums dF;rw[List.mem_flatMap,List.any_eq_true];constructor;·rintro⟨r,hr,hn⟩;have:=qW.1 hn;have:=h.each r hr;exact⟨r,hr,by simp;omega⟩
 ·rintro⟨r,hr,hn⟩;simp only[Bool.and_eq_true,decide_eq_true_eq]at hn;have:=h.each r hr;exact⟨r,hr,qW.2 (by omega)⟩
theorem vQ{rs:Rg}(h:RgOk rs):(nums rs).Pairwise (·< ·):=by obtain⟨hu,he⟩:=h;unfold nums;induction rs with|nil=>exact List.Pairwise.nil|cons r rs ih=>obtain⟨h1,h2⟩:=List.pairwise_cons.1 hu;rw[List.flatMap_cons];refine List.pairwise_append.2 ⟨Pw _ _,ih h2 (fun q hq=>he q (by simp[hq])),fun a ha b hb=>?_⟩;obtain⟨q,hq,hb⟩:=List.mem_flatMap.1 hb;have:=qW.1 ha;have:=qW.1 hb;have:=h1 q hq;have:=he r (by simp);omega
theorem yS{l l':List Int}(h:l.Pairwise (·< ·))(h':l'.Pairwise (·< ·))(hm: ∀n,n∈l↔n∈l'):l=l':=by
 have n1:l.Nodup:=h.imp fun h=>by omega
 have n2:l'.Nodup:=h'.imp fun h=>by omega
 exact List.Perm.eq_of_pairwise (fun a b _ _ h1 h2=>by omega) h h' ((List.perm_ext_iff_of_nodup n1 n2).2 hm)
def eT(n:Int):List Int→List Int|[]=>[n]|x::r=>if n<x then n::x::r else x::eT n r
theorem xA{n m:Int}: ∀{l:List Int},m∈eT n l↔m=n∨m∈l
 |[]=>by simp[eT]
 |x::r=>by
  unfold eT;split;·simp
  ·simp only[List.mem_cons,xA (l:=r)];constructor;·rintro(h|h|h)<;>simp[h]
   ·rintro(h|h|h)<;>simp[h]
theorem Iu{n:Int}: ∀{l:List Int},l.Pairwise (·< ·)→n∉l→(eT n l).Pairwise (·< ·)
 |[],_,_=>by simp[eT]
 |x::r,h,hn=>by
  obtain⟨h1,h2⟩:=List.pairwise_cons.1 h;simp only[List.mem_cons,not_or]at hn;unfold eT;split;·rename_i hlt;exact List.pairwise_cons.2 ⟨fun a ha=>by rcases List.mem_cons.1 ha with rfl|ha;exact hlt;have:=h1 a ha;omega,h⟩
  ·rename_i hge;refine List.pairwise_cons.2 ⟨fun a ha=>?_,Iu h2 hn.2⟩;rcases xA.1 ha with rfl|ha;·omega
   ·exact h1 a ha
theorem nU(n:Int): ∀l:List Int,(eT n l).length=l.length+1|[]=>rfl|x::r=>by unfold eT;split<;>simp[nU n r]
theorem Mx{rs:Rg}(h:RgOk rs){n:Int}(hn:dF rs n=false)(h1:1≤n)(h2:n≤1099511627776):nums (bY rs n)=eT n (nums rs):=by
 have hnm:n∉nums rs:=fun hm=>by rw[jW h,hn]at hm;cases hm
 refine yS (vQ (AA h hn h1 h2)) (Iu (vQ h) hnm) fun m=>?_;rw[jW (AA h hn h1 h2),Dc h hn,xA,jW h];simp only[Bool.or_eq_true,beq_iff_eq];exact Or.comm
def jI(out:Rg)(n:Int):Rg:=match out.getLast? with|some r=>if r.2=n then out.dropLast++[(r.1,n+1)]else out++[(n,n+1)]|none=>[(n,n+1)]
def FB(l:List Int):Rg:=l.foldl jI []
theorem Mh(out:Rg)(a:Int)(k:Nat):(upto a (k+1)).foldl jI out=(match out.getLast? with|some r=>if r.2=a then out.dropLast++[(r.1,a+k+1)]else out++[(a,a+k+1)]|none=>[(a,a+k+1)]):=by
 induction k with
  |zero=>unfold upto jI;simp
  |succ k ih=>
   have e:upto a (k+1+1)=upto a (k+1)++[a+(k+1:Nat)]:=by unfold upto;rw[List.range_succ,List.map_append];rfl
   rw[e,List.foldl_append,ih];simp only[List.foldl_cons,List.foldl_nil];cases hl:out.getLast? with|none=>simp only[jI];simp;omega|some r=>simp only;split<;>(simp only[jI];simp;omega)
theorem CV: ∀(rs out:Rg),RgOk (out++rs)→(nums rs).foldl jI out=out++rs
 |[],out,_=>by simp[nums]
 |r::rs,out,h=>by
  have hr:=h.each r (by simp);obtain⟨k,hk⟩: ∃k:Nat,(r.2-r.1).toNat=k+1:=⟨(r.2-r.1).toNat-1,by omega⟩;have e:nums (r::rs)=upto r.1 (k+1)++nums rs:=by unfold nums;rw[List.flatMap_cons,hk]
  rw[e,List.foldl_append,Mh];have e2:(match out.getLast? with|some q=>if q.2=r.1 then out.dropLast++[(q.1,r.1+k+1)]else out++[(r.1,r.1+k+1)]|none=>[(r.1,r.1+k+1)])=out++[r]:=by
   have hr2:(r.1,r.1+(k:Int)+1)=r:=by
    apply Prod.ext;·rfl
    ·show r.1+(k:Int)+1=r.2;omega
   cases hl:out.getLast? with|none=>have:out=[]:=List.getLast?_eq_none_iff.1 hl;subst this;simp only[List.nil_append];rw[hr2]|some q=>have hq:q∈out:=List.mem_of_getLast? hl;have:=(List.pairwise_append.1 h.up).2.2 q hq r (by simp);simp only;rw[if_neg (by omega),hr2]
  rw[e2];have h':RgOk (out++[r]++rs):=by simpa using h
  rw[CV rs (out++[r]) h'];simp
theorem Fz{rs:Rg}(h:RgOk rs):FB (nums rs)=rs:=CV rs [] h
def aV(n:Nat):List UInt8:=if n<128 then[UInt8.ofNat n]else UInt8.ofNat (n%128+128)::aV (n/128)termination_by n decreasing_by omega
theorem kU{n:Nat}(h:n<128):aV n=[UInt8.ofNat n]:=by rw[aV,if_pos h]
theorem mr{n:Nat}(h: ¬n<128):aV n=UInt8.ofNat (n%128+128)::aV (n/128):=by rw[aV,if_neg h]
theorem bI{n:Nat}(h:n<72057594037927936):(aV n).length≤8:=by
 have key: ∀k n,n<128^(k+1)→(aV n).length≤k+1:=fun k=>by
  induction k with
   |zero=>intro n h;rw[kU (by simpa using h)];simp
   |succ k ih=>
    intro n h;by_cases h1:n<128;·rw[kU h1];simp
    ·rw[mr h1];have:=ih (n/128) (by rw[Nat.div_lt_iff_lt_mul (by omega)];rw[Nat.pow_succ]at h;exact h);simp;omega
 exact key 7 n (by simpa using h)
def encR:Int→Rg→List UInt8|_,[]=>[]|e,r::rs=>aV (r.1-e).toNat++aV (r.2-r.1).toNat++encR r.2 rs
def dz:Int→Rg→Int|e,[]=>e|_,r::rs=>dz r.2 rs
theorem zL(r:Int×Int): ∀(e:Int)(rs:Rg),encR e (rs++[r])=encR e rs++(aV (r.1-dz e rs).toNat++aV (r.2-r.1).toNat)|e,[]=>by simp[encR,dz]|e,q::rs=>by simp only[List.cons_append,encR,dz,zL r q.2 rs,List.append_assoc]
theorem lS(r:Int×Int): ∀(e:Int)(rs:Rg),dz e (rs++[r])=r.2|e,[]=>rfl|e,q::rs=>by simp only[List.cons_append,dz];exact lS r q.2 rs
def encS(p:List UInt8×Rg):List UInt8:=UInt8.ofNat p.1.length::(p.1++aV p.2.length++encR 1 p.2)
def mJ(m:eB):List UInt8:=aV m.length++m.flatMap encS
theorem xU(rs:Rg)(h: ∀r∈rs,1≤r.1∧r.1<r.2∧r.2≤1099511627777): ∀e:Int,1≤e→(encR e rs).length≤16*rs.length:=by induction rs with|nil=>intro e _;simp[encR]|cons r rs ih=>intro e he;have hr:=h r (by simp);have:=ih (fun q hq=>h q (by simp[hq])) r.2 (by omega);have h1:=bI (n:=(r.1-e).toNat) (by omega);have h2:=bI (n:=(r.2-r.1).toNat) (by omega);simp only[encR,List.length_append,List.length_cons];omega
def gG(e:Ev):Bool:=if e.kind=0 then af e.per&&af e.item&&(e.val==0)&&e.text.isEmpty else if e.kind=1 then af e.per&&af e.item&&(e.val==0)&&e.text.isEmpty else if e.kind=2 then af e.per&&af e.item&&(e.val==0)&&e.text.isEmpty else if e.kind=3 then af e.per&&af e.item&&(e.val==0)&&e.text.isEmpty else if e.kind=4 then af e.per&&af e.item&&decide (1≤e.val)&&decide (e.val≤5)&&e.text.isEmpty else if e.kind=5 then af e.per&&af e.item&&(e.val==0)&&e.text.isEmpty else if e.kind=6 then af e.per&&af e.item&&(e.val==0)&&e.text.isEmpty else if e.kind=7 then af e.per&&e.item.isEmpty&&(e.val==0)&&af e.text else if e.kind=8 then af e.per&&e.item.isEmpty&&(e.val==0)&&af e.text else if e.kind=9 then af e.per&&e.item.isEmpty&&(e.val==0)&&af e.text else if e.kind=10 then af e.per&&e.item.isEmpty&&(e.val==0)&&af e.text else if e.kind=11 then e.per.isEmpty&&af e.item&&decide (0≤e.val)&&decide (e.val≤1048576)&&bG e.text else if e.kind=12 then e.per.isEmpty&&af e.item&&decide (0≤e.val)&&decide (e.val≤1048576)&&e.text.isEmpty else if e.kind=13 then e.per.isEmpty&&af e.item&&(e.val==0)&&e.text.isEmpty else if e.kind=14 then af e.per&&e.item.isEmpty&&(e.val==0)&&e.text.isEmpty else false
def aK(e:Ev):Bool:=lQ e&&gG e
theorem Tk(w:World)(l:List UInt8):Calls Tryz.prog 66 #[.string ⟨l.toArray⟩] w fun e w'=>e=.returned (.bool (af l))∧w'=w:=(iF w l).mono fun _ _ h=>⟨h.1,h.2.symm⟩
theorem MC(w:World)(e:Ev)(hs:e.small)(hmx:aW w)(hh:lQ e=true)(hnf:e.kind≠14):Calls Tryz.prog 43 #[e.agg] w (Says (gG e) w):=by
 obtain⟨s1,s2,s3,s4⟩:=hs;have kL:=qH hmx;clear hmx;generalize htb:gG e=tb;have GZ:=qH htb;clear htb;have hh':(af e.src&&decide (1≤e.num)&&decide (e.num≤1099511627776)&&decide (0≤e.at_)&&decide (e.at_≤1099511627776))=true:=hh;simp only[Bool.and_eq_true,decide_eq_true_eq]at hh';obtain⟨⟨⟨⟨hns,h1⟩,h2⟩,h3⟩,h4⟩:=hh';have OJ:=qH hns;clear hns hh;have d1:decide (e.num<1)=false:=decide_eq_false (by omega);have d2:decide (1099511627776<e.num)=false:=decide_eq_false (by omega);have d3:decide (e.at_<0)=false:=decide_eq_false (by omega);have d4:decide (1099511627776<e.at_)=false:=decide_eq_false (by omega);unfold Ev.agg;go_enter Tryz.func43,Tryz.ntmps43;go_wp2_with fail;refine(iF _ e.src).mono ?_;rintro r w1⟨rfl,rfl⟩;rw[OJ.o];have hb:Below w.heap.size w (w.alloc (au e)):=(Below.refl _ _).alloc (Nat.le_refl _) _;obtain⟨f0,f1,f2,f3,f4,f5,f6,f7⟩:=eD.new w e;generalize w.alloc (au e)=w1 at*;generalize hke:e.kind=kd at*;have EX:=qH hke;clear hke;go_wp2;clear d1 d2 d3 d4;go_quiet((go_at_call 66;exact Calls.quiet_of_same (Tk _ _)));have hbq:Below w.heap.size w (w1.drewN nq):=below_drewN hb nq;by_cases hx:kd<0∨14<kd;·have HT:=qS (tb=false) (by rw[←GZ.o];unfold gG;rw[EX.o];rw[if_neg (by omega),if_neg (by omega),if_neg (by omega),if_neg (by omega),if_neg (by omega),if_neg (by omega),if_neg (by omega),if_neg (by omega),if_neg (by omega),if_neg (by omega),if_neg (by omega),if_neg (by omega),if_neg (by omega),if_neg (by omega),if_neg (by omega)]);have hq: ∀j:Int,0≤j→j≤14→(kd==j)=false:=fun j _ _=>beq_eq_false_iff_ne.2 (by omega);have k0:=hq 0 (by decide) (by decide);have k1:=hq 1 (by decide) (by decide);have k2:=hq 2 (by decide) (by decide);have k3:=hq 3 (by decide) (by decide);have k4:=hq 4 (by decide) (by decide);have k5:=hq 5 (by decide) (by decide);have k6:=hq 6 (by decide) (by decide);have k7:=hq 7 (by decide) (by decide);have k8:=hq 8 (by decide) (by decide);have k9:=hq 9 (by decide) (by decide);have k10:=hq 10 (by decide) (by decide);have k11:=hq 11 (by decide) (by decide);have k12:=hq 12 (by decide) (by decide);have k13:=hq 13 (by decide) (by decide);have k14:=hq 14 (by decide) (by decide);clear hq hx;generalize af e.per=np at*;generalize af e.item=ni at*;go_wp2;go_ret;exact⟨aa HT.o.symm,hbq⟩
 rcases(show(kd=0∨kd=1∨kd=2∨kd=3∨kd=5∨kd=6)∨(kd=4)∨(kd=7∨kd=8∨kd=9∨kd=10)∨(kd=11)∨(kd=12)∨(kd=13)by omega)with hk|hk|hk|hk|hk|hk
 ·have HT:=qS (tb=(af e.per&&af e.item&&(e.val==0)&&e.text.isEmpty)) (by rw[←GZ.o];unfold gG;rw[EX.o];rcases hk with rfl|rfl|rfl|rfl|rfl|rfl<;>rfl);clear hx;rcases hk with rfl|rfl|rfl|rfl|rfl|rfl;all_goals
   generalize af e.per=np at*;generalize af e.item=ni at*;cases np;·go_wp2;go_ret;exact⟨aa (by rw[HT.o];first|rfl|simp),hbq⟩
   cases ni;·go_wp2;go_ret;exact⟨aa (by rw[HT.o];first|rfl|simp),hbq⟩
   cases zv0:(e.val==0);·go_wp2;go_ret;exact⟨aa (by rw[HT.o];rw[zv0];rfl),hbq⟩
   go_wp2;go_ret;exact⟨aa (by rw[HT.o];rw[zv0];first|rfl|simp),hbq⟩
 ·have HT:=qS (tb=(af e.per&&af e.item&&decide (1≤e.val)&&decide (e.val≤5)&&e.text.isEmpty)) (by rw[←GZ.o];unfold gG;rw[EX.o];rw[hk];rfl);subst hk;clear hx;generalize af e.per=np at*;generalize af e.item=ni at*;cases np;·go_wp2;go_ret;exact⟨aa (by rw[HT.o];first|rfl|simp),hbq⟩
  cases ni;·go_wp2;go_ret;exact⟨aa (by rw[HT.o];first|rfl|simp),hbq⟩
  cases zv1:decide (1≤e.val);·go_wp2;go_ret;exact⟨aa (by rw[HT.o];rw[zv1];rfl),hbq⟩
  cases zv5:decide (e.val≤5);·go_wp2;go_ret;exact⟨aa (by rw[HT.o];rw[zv1];rw[zv5];rfl),hbq⟩
  go_wp2;go_ret;exact⟨aa (by rw[HT.o];rw[zv1];rw[zv5];first|rfl|simp),hbq⟩
 ·have HT:=qS (tb=(af e.per&&e.item.isEmpty&&(e.val==0)&&af e.text)) (by rw[←GZ.o];unfold gG;rw[EX.o];rcases hk with rfl|rfl|rfl|rfl<;>rfl);clear hx;rcases hk with rfl|rfl|rfl|rfl;all_goals
   generalize af e.per=np at*;generalize af e.item=ni at*;cases np;·go_wp2;go_ret;exact⟨aa (by rw[HT.o];first|rfl|simp),hbq⟩
   cases YU:e.item.isEmpty;·go_wp2;go_ret;exact⟨aa (by rw[HT.o];rw[YU];rfl),hbq⟩
   cases zv0:(e.val==0);·go_wp2;go_ret;exact⟨aa (by rw[HT.o];rw[YU];rw[zv0];rfl),hbq⟩
   go_wp2_with fail;refine(iF _ e.text).mono ?_;rintro r w2⟨rfl,rfl⟩;generalize af e.text=nt at*;go_wp2;go_ret;exact⟨aa (by rw[HT.o];rw[YU];rw[zv0];rfl),hbq⟩
 ·have HT:=qS (tb=(e.per.isEmpty&&af e.item&&decide (0≤e.val)&&decide (e.val≤1048576)&&bG e.text)) (by rw[←GZ.o];unfold gG;rw[EX.o];rw[hk];rfl);subst hk;clear hx;generalize af e.per=np at*;generalize af e.item=ni at*;cases EP:e.per.isEmpty;·go_wp2;go_ret;exact⟨aa (by rw[HT.o];rw[EP];rfl),hbq⟩
  cases ni;·go_wp2;go_ret;exact⟨aa (by rw[HT.o];rw[EP];first|rfl|simp),hbq⟩
  cases E8:decide (0≤e.val);·go_wp2;go_ret;exact⟨aa (by rw[HT.o];rw[EP];rw[E8];rfl),hbq⟩
  cases zv20:decide (e.val≤1048576);·go_wp2;go_ret;exact⟨aa (by rw[HT.o];rw[EP];rw[E8];rw[zv20];rfl),hbq⟩
  have LB:=qS (aW (w1.drewN nq)) (kL.o.up hbq);go_wp2_with fail;refine(Dy (w1.drewN nq) e.text s4 LB.o).mono ?_;rintro r w3⟨rfl,hb3⟩;have hbz:Below w.heap.size w w3:=hbq.trans (hb3.mono hbq.size);generalize bG e.text=li at*;go_wp2;go_ret;exact⟨aa (by rw[HT.o];rw[EP];rw[E8];rw[zv20];rfl),hbz⟩
 ·have HT:=qS (tb=(e.per.isEmpty&&af e.item&&decide (0≤e.val)&&decide (e.val≤1048576)&&e.text.isEmpty)) (by rw[←GZ.o];unfold gG;rw[EX.o];rw[hk];rfl);subst hk;clear hx;generalize af e.per=np at*;generalize af e.item=ni at*;cases EP:e.per.isEmpty;·go_wp2;go_ret;exact⟨aa (by rw[HT.o];rw[EP];rfl),hbq⟩
  cases ni;·go_wp2;go_ret;exact⟨aa (by rw[HT.o];rw[EP];first|rfl|simp),hbq⟩
  cases E8:decide (0≤e.val);·go_wp2;go_ret;exact⟨aa (by rw[HT.o];rw[EP];rw[E8];rfl),hbq⟩
  cases zv20:decide (e.val≤1048576);·go_wp2;go_ret;exact⟨aa (by rw[HT.o];rw[EP];rw[E8];rw[zv20];rfl),hbq⟩
  go_wp2;go_ret;exact⟨aa (by rw[HT.o];rw[EP];rw[E8];rw[zv20];first|rfl|simp),hbq⟩
 ·have HT:=qS (tb=(e.per.isEmpty&&af e.item&&(e.val==0)&&e.text.isEmpty)) (by rw[←GZ.o];unfold gG;rw[EX.o];rw[hk];rfl);subst hk;clear hx;generalize af e.per=np at*;generalize af e.item=ni at*;cases EP:e.per.isEmpty;·go_wp2;go_ret;exact⟨aa (by rw[HT.o];rw[EP];rfl),hbq⟩
  cases ni;·go_wp2;go_ret;exact⟨aa (by rw[HT.o];rw[EP];first|rfl|simp),hbq⟩
  cases zv0:(e.val==0);·go_wp2;go_ret;exact⟨aa (by rw[HT.o];rw[EP];rw[zv0];rfl),hbq⟩
  go_wp2;go_ret;exact⟨aa (by rw[HT.o];rw[EP];rw[zv0];first|rfl|simp),hbq⟩
theorem rD(w:World)(e:Ev)(hs:e.small)(hmx:aW w):Calls Tryz.prog 43 #[e.agg] w (Says (aK e) w):=by
 unfold aK;cases hh:lQ e;·exact ME w e hs hh
 rw[Bool.true_and];by_cases hk:e.kind=14
 ·have hq:gG e=(af e.per&&e.item.isEmpty&&(e.val==0)&&e.text.isEmpty):=by unfold gG;rw[hk];rfl
  rw[hq];exact FQ w e hs hh hk
 ·exact MC w e hs hmx hh hk
structure zV(w:World)(base:Nat)(v:Value)(l:List UInt8)(v':Value)(w':World):Prop where
 own:aR w' base v' l
 keep:ah (fun b=>v.ownBlock=some b) w w'
 blk: ∀b,v'.ownBlock=some b→v.ownBlock=some b∨w.heap.size≤b
def uh(w:World)(base:Nat)(v:Value)(l:List UInt8)(e:Ending)(w':World):Prop:= ∃v',e=.returned v'∧zV w base v l v' w'
def zU(w:World)(base:Nat)(v:Value)(l:List UInt8)(v' q:Value)(wr:World):Prop:= ∃(n:Nat)(l':List UInt8),q=.int .i64 n∧n<4611686018427387904∧l'++aV n=l∧zV w base v l' v' wr
theorem zV.app{w wr w2:World}{base:Nat}{v v1 v2:Value}{l l':List UInt8}(h:zV w base v l v1 wr)(o:Obj)(ho:aR w2 base v2 l')(hg:(wr.alloc o).grownBy w2 v1.ownBlock)(hv:v2.ownBlock=v1.ownBlock∨v2.ownBlock=some (wr.heap.size+1)):zV w base v l' v2 w2:=by
 have hs:=h.keep.size;refine⟨ho,(h.keep.alloc o).trans (ah.bV (F:=fun b=>v1.ownBlock=some b) hg (fun k e=>e)) (fun b hb hF=>?_),fun b hb=>?_⟩
 ·rcases h.blk b hF with h'|h';·exact h'
  ·omega
 ·rcases hv with e|e;·exact h.blk b (e▸hb)
  ·rw[e]at hb;injection hb with hb;right;omega
theorem zx{n:Nat}(h:n<4611686018427387904):(aV n).length≤9:=by
 by_cases h1:n<128;·rw[kU h1];simp
 ·rw[mr h1];have:=bI (n:=n/128) (by omega);simp;omega
theorem or128(x:Nat)(h:x<256):bits .or .u8 (x:Int) 128=((x%128+128:Nat):Int):=by
 have: ∀y:Fin 256,bits .or .u8 ((y.val:Nat):Int) 128=((y.val%128+128:Nat):Int):=by decide+kernel
 exact this ⟨x,h⟩
theorem IL(w:World)(base:Nat)(v:Value)(l s:List UInt8)(ho:aR w base v l)(h0:0<l.length)(hb:base≤w.heap.size)(hl:l.length+s.length≤1000000000000)(ty:TypeId): ∃v' w',(Builtin.append_ #[93,9] ty #[v,.string ⟨s.toArray⟩]).run Tryz.prog w=.ok v' w'∧aR w' base v' (l++s)∧w.grownBy w' v.ownBlock∧(v'.ownBlock=v.ownBlock∨v'.ownBlock=some w.heap.size):=by
 obtain⟨i0,hi,hz0,hz1,hz2⟩:=info_parts vM;have hss:(⟨s.toArray⟩:ByteArray).size=s.length:=by simp[ByteArray.size]
 have hsc:Lib.strCells ⟨s.toArray⟩=yz s:=by simp[Lib.strCells,yz]
 obtain⟨v',w',hr,h2,h3,_⟩:=Lib.run_append_own_string (P:=Tryz.prog) w base 93 9 ty 5 i0 Tryz.underlying93 Tryz.underlying9 hi hz0 hz1 hz2 v l.length (yz l) ho ⟨s.toArray⟩ (by rw[hss];unfold maxLen;omega) (by rw[hss];omega) hb;refine⟨v',w',hr,?_,h3,?_⟩;·unfold aR;rw[mM,List.length_append];rw[hss,hsc]at h2;exact h2
 ·rcases ho.2 with⟨_,h'⟩|⟨g,cap,cur,hv,hbg,hg,hnc,hcm,hcs,htake⟩;·omega
  ·subst hv;by_cases hroom:l.length+(⟨s.toArray⟩:ByteArray).size≤cap;·have h5:=Lib.run_append_room_string (P:=Tryz.prog) w 93 9 ty 5 i0 Tryz.underlying93 Tryz.underlying9 hi hz1 g l.length cap cur hg ⟨s.toArray⟩ hroom (by rw[hcs];omega);rw[hr]at h5;injection h5 with h5 _;left;rw[h5];rfl
   ·have hxl:(yz l).length=l.length*i0.size:=by rw[hz1,qL];omega
    have h5:=Lib.run_append_grow_string (P:=Tryz.prog) w 93 9 ty 5 i0 (.int .u8 0) Tryz.underlying93 Tryz.underlying9 hi hz0 ⟨g,0,none⟩ l.length cap (yz l) hxl (World.ownsRow.cells ho (g:=g) rfl) ⟨s.toArray⟩ (by omega) (by rw[hss];omega) (by rw[hz2,hss];exact growslice_fits (by omega) (by omega));rw[hr]at h5;injection h5 with h5 _;right;rw[h5];rfl
theorem zV.yX{w w1 w2:World}{base:Nat}{v v1 v2:Value}{l l':List UInt8}(h:zV w base v l v1 w1)(h2:zV w1 base v1 l' v2 w2):zV w base v l' v2 w2:=by
 have hs:=h.keep.size;refine⟨h2.own,h.keep.trans h2.keep (fun b hb hF=>?_),fun b hb=>?_⟩
 ·rcases h.blk b hF with h'|h';·exact h'
  ·omega
 ·rcases h2.blk b hb with h'|h';·exact h.blk b h'
  ·right;omega
theorem zV.up{w w1 w2:World}{base:Nat}{v v1:Value}{l:List UInt8}(h:zV w base v l v1 w1)(hb:Below w1.heap.size w1 w2):zV w base v l v1 w2:=⟨h.own.below hb (Nat.le_refl _),h.keep.trans (G:=fun _=>False) (ah.of_below hb) (fun _ _ h=>h.elim),h.blk⟩
theorem zV.str{w wr w2:World}{base:Nat}{v v1 v2:Value}{l l':List UInt8}(h:zV w base v l v1 wr)(ho:aR w2 base v2 l')(hg:wr.grownBy w2 v1.ownBlock)(hv:v2.ownBlock=v1.ownBlock∨v2.ownBlock=some wr.heap.size):zV w base v l' v2 w2:=by
 have hs:=h.keep.size;refine⟨ho,h.keep.trans (ah.bV (F:=fun b=>v1.ownBlock=some b) hg (fun k e=>e)) (fun b hb hF=>?_),fun b hb=>?_⟩
 ·rcases h.blk b hF with h'|h';·exact h'
  ·omega
 ·rcases hv with e|e;·exact h.blk b (e▸hb)
  ·rw[e]at hb;injection hb with hb;right;omega
theorem tO(e:Int)(rs:Rg)(j:Nat)(hj:j<rs.length):dz e (rs.take (j+1))=rs[j].2:=by rw[List.take_add_one,List.getElem?_eq_getElem hj,Option.toList_some,lS]
theorem zK(e:Int)(rs:Rg)(j:Nat)(hj:j<rs.length):encR e (rs.take (j+1))=encR e (rs.take j)++(aV (rs[j].1-dz e (rs.take j)).toNat++aV (rs[j].2-rs[j].1).toNat):=by rw[List.take_add_one,List.getElem?_eq_getElem hj,Option.toList_some,zL]
theorem IC{rs:Rg}(h:RgOk rs)(j:Nat)(hj:j<rs.length):1≤dz 1 (rs.take j)∧dz 1 (rs.take j)≤rs[j].1:=by have h1:=h.each rs[j] (List.getElem_mem hj);cases j with|zero=>simp[dz];exact h1.1|succ i=>rw[tO 1 rs i (by omega)];have h2:=h.each (rs[i]'(by omega)) (List.getElem_mem _);have h3:=List.pairwise_iff_getElem.1 h.up i (i+1) (by omega) hj (by omega);omega
theorem Nw{p:List UInt8×Rg}(hn:af p.1=true)(h:RgOk p.2)(hl:p.2.length≤90000):(encS p).length≤1500000:=by
 have h1:p.1.length≤24:=by unfold af at hn;simp at hn;omega
 have h2:=bI (n:=p.2.length) (by omega);have h3:=xU p.2 h.each 1 (by omega);unfold encS;simp only[List.length_cons,List.length_append];omega
theorem xJ{m:eB}(h:dm m)(hl: ∀p∈m,p.2.length≤90000)(k:Nat):((m.take k).flatMap encS).length≤1500000*k:=by
 have key: ∀l:eB,(∀p∈l,(encS p).length≤1500000)→(l.flatMap encS).length≤1500000*l.length:=fun l=>by induction l with|nil=>intro _;simp|cons p l ih=>intro hp;have:=ih (fun q hq=>hp q (by simp[hq]));have:=hp p (by simp);simp only[List.flatMap_cons,List.length_append,List.length_cons];omega
 have h1:=key (m.take k) (fun p hp=>Nw (h.each p (List.mem_of_mem_take hp)).1 (h.each p (List.mem_of_mem_take hp)).2.1 (hl p (List.mem_of_mem_take hp)));rw[List.length_take]at h1;have h2:1500000*min k m.length≤1500000*k:=Nat.mul_le_mul_left _ (by omega);omega
theorem zH(m:eB)(k:Nat)(hk:k<m.length):(m.take (k+1)).flatMap encS=(m.take k).flatMap encS++encS m[k]:=by rw[List.take_add_one,List.getElem?_eq_getElem hk,Option.toList_some,List.flatMap_append];simp
def jQ(s:List UInt8):List UInt8:=UInt8.ofNat s.length::s
def yL(e:Ev):List UInt8:=UInt8.ofNat e.kind.toNat::(jQ e.src++aV e.num.toNat++aV e.at_.toNat++jQ e.per++jQ e.item++aV e.val.toNat++jQ e.text)
theorem Nz{e:Ev}(h1:e.src.length≤300)(h2:e.per.length≤300)(h3:e.item.length≤300)(h4:e.text.length≤300)(n1:e.num≤1099511627776)(n2:e.at_≤1099511627776)(n3:e.val≤1099511627776):(yL e).length≤1229:=by have a:=bI (n:=e.num.toNat) (by omega);have b:=bI (n:=e.at_.toNat) (by omega);have c:=bI (n:=e.val.toNat) (by omega);unfold yL jQ;simp only[List.length_cons,List.length_append];omega
theorem iY{l:List UInt8}(h:af l=true):1≤l.length∧l.length≤24:=by unfold af at h;simp only[Bool.and_eq_true,decide_eq_true_eq]at h;exact⟨h.1.1,h.1.2⟩
theorem wQ(c:UInt8): ∀(k:Nat)(s:ByteArray),(∀t∈Lib.splitB ⟨#[c]⟩ 0 k s,t.size≤24)→s.size+1≤25*(Lib.splitB ⟨#[c]⟩ 0 k s).length
 |0,s,h=>by rw[Lib.splitB_zero]at h⊢;have:=h s (by simp);simp;omega
 |k+1,s,h=>by
  rcases Lib.indexB_cases s ⟨#[c]⟩with hi|⟨i,hi,hle⟩;·rw[Lib.splitB_miss _ _ _ _ hi]at h⊢;have:=h s (by simp);simp;omega
  ·rw[Lib.splitB_hit _ _ _ _ _ hi]at h⊢;have h1:=h _ (List.mem_cons_self ..);have ih:=wQ c k (s.extract (i+(⟨#[c]⟩:ByteArray).size) s.size) (fun t ht=>h t (List.mem_cons_of_mem _ ht));have hc:(⟨#[c]⟩:ByteArray).size=1:=rfl;rw[hc]at hle ih h⊢;simp only[ByteArray.size_extract,List.length_cons]at h1 ih⊢;omega
theorem Dx{s:List UInt8}(h:bG s=true):s.length≤224:=by
 unfold bG at h;simp only[Bool.and_eq_true,decide_eq_true_eq]at h;obtain⟨⟨⟨h1,h2⟩,h3⟩,h4⟩:=h;have hm:=(iY h2).2;unfold Lib.cut at h1 hm;by_cases hi:0≤Lib.index s [59]
 ·rw[if_pos hi]at hm;change(s.take _).length≤24 at hm;have hlen:s.length≤(s.take (Lib.index s [59]).toNat).length+1+(fJ s).length:=by unfold fJ Lib.cut;rw[if_pos hi];simp;omega
  have hr:(fJ s).length≤199:=by
   unfold eF at h3 h4;by_cases he:(fJ s).isEmpty;·rw[List.isEmpty_iff.1 he];simp
   ·rw[if_neg he]at h3 h4;have key:=wQ 44 (Lib.countB ⟨(fJ s).toArray⟩ ⟨#[44]⟩) ⟨(fJ s).toArray⟩ (fun t ht=>by
     obtain⟨k,hk,e⟩:=List.getElem_of_mem ht;unfold kM at h4;rw[List.all_eq_true]at h4;have:=h4 k (by simpa using hk);unfold pQ at this;have h5:af ((List.map (fun b:ByteArray=>b.data.toList) (Lib.splitB ⟨#[44]⟩ 0 (Lib.countB ⟨(fJ s).toArray⟩ ⟨#[44]⟩) ⟨(fJ s).toArray⟩)).getD k [])=true:=by simp only[Bool.and_eq_true]at this;exact this.1
     have h6:=(iY h5).2;simp only[List.getD,List.getElem?_map,List.getElem?_eq_getElem hk,Option.map_some,Option.getD_some,e]at h6;show t.data.size≤24;rw[←Array.length_toList];exact h6);have hs:(⟨(fJ s).toArray⟩:ByteArray).size=(fJ s).length:=by simp[ByteArray.size]
    rw[hs]at key;simp only[List.length_map]at h3;omega
  omega
 ·rw[if_neg hi]at h1;simp at h1
structure Ev.Fit(e:Ev):Prop where
 src:e.src.length≤24
 per:e.per.length≤24
 item:e.item.length≤24
 text:e.text.length≤224
 num0:1≤e.num
 num1:e.num≤1099511627776
 at0:0≤e.at_
 at1:e.at_≤1099511627776
 val0:0≤e.val
 val1:e.val≤1048576
 kind0:0≤e.kind
 kind1:e.kind≤14
theorem jk{e:Ev}(h:aK e=true):e.Fit:=by
 unfold aK at h;rw[Bool.and_eq_true]at h;obtain⟨hh,ht⟩:=h;unfold lQ at hh;simp only[Bool.and_eq_true,decide_eq_true_eq]at hh;obtain⟨⟨⟨⟨a1,a2⟩,a3⟩,a4⟩,a5⟩:=hh;have hs:=(iY a1).2;have key:e.per.length≤24∧e.item.length≤24∧e.text.length≤224∧0≤e.val∧e.val≤1048576∧0≤e.kind∧e.kind≤14:=by
  unfold gG at ht;have hk:e.kind=0∨e.kind=1∨e.kind=2∨e.kind=3∨e.kind=4∨e.kind=5∨e.kind=6∨e.kind=7∨e.kind=8∨e.kind=9∨e.kind=10∨e.kind=11∨e.kind=12∨e.kind=13∨e.kind=14∨ ¬(0≤e.kind∧e.kind≤14):=by omega
  have n1:=fun h:af e.per=true=>(iY h).2;have n2:=fun h:af e.item=true=>(iY h).2;have n3:=fun h:af e.text=true=>(iY h).2;have n4:=fun h:bG e.text=true=>Dx h;rcases hk with k|k|k|k|k|k|k|k|k|k|k|k|k|k|k|k;case inr.inr.inr.inr.inr.inr.inr.inr.inr.inr.inr.inr.inr.inr.inr=>rw[if_neg (by omega),if_neg (by omega),if_neg (by omega),if_neg (by omega),if_neg (by omega),if_neg (by omega),if_neg (by omega),if_neg (by omega),if_neg (by omega),if_neg (by omega),if_neg (by omega),if_neg (by omega),if_neg (by omega),if_neg (by omega),if_neg (by omega)]at ht;cases ht
  all_goals(simp[k]at ht;simp only[ht,forall_const,List.length_nil]at n1 n2 n3 n4;simp only[ht,k,List.length_nil];first|omega|(simp;omega)|(simp_all;omega))
 exact⟨hs,key.1,key.2.1,key.2.2.1,a2,a3,a4,a5,key.2.2.2.1,key.2.2.2.2.1,key.2.2.2.2.2.1,key.2.2.2.2.2.2⟩
theorem Ev.Fit.small{e:Ev}(h:e.Fit):e.small:=⟨by have:=h.src;omega,by have:=h.per;omega,by have:=h.item;omega,by have:=h.text;omega⟩
theorem Ev.Fit.len{e:Ev}(h:e.Fit):(yL e).length≤1229:=Nz (by have:=h.src;omega) (by have:=h.per;omega) (by have:=h.item;omega) (by have:=h.text;omega) h.num1 h.at1 (by have:=h.val1;omega)
def eZ(out:Rg)(r:Int×Int):Rg:=match out.getLast? with|some l=>if r.1≤l.2 then out.dropLast++[(l.1,max l.2 r.2)]else out++[r]|none=>[r]
def TW(l:Rg):Prop:= ∀r∈l,1≤r.1∧r.1<r.2∧r.2≤1099511627777
theorem jm(a b:Rg)(n:Int):dF (a++b) n=(dF a n||dF b n):=by unfold dF;rw[List.any_append]
theorem xG(r:Int×Int)(n:Int):dF [r] n=(decide (r.1≤n)&&decide (n<r.2)):=by simp[dF]
theorem tu(r:Int×Int):eZ [] r=[r]:=rfl
theorem qE(i:Rg)(l r:Int×Int):eZ (i++[l]) r=if r.1≤l.2 then i++[(l.1,max l.2 r.2)]else i++[l]++[r]:=by unfold eZ;rw[List.getLast?_append,List.getLast?_singleton,Option.some_or];simp
theorem MP{out:Rg}{r:Int×Int}(h:RgOk out)(hr:1≤r.1∧r.1<r.2∧r.2≤1099511627777)(hl: ∀l,out.getLast?=some l→l.1≤r.1):RgOk (eZ out r)∧(∀n,dF (eZ out r) n=(dF out n||dF [r] n))∧ ∀l,(eZ out r).getLast?=some l→l.1≤r.1:=by
 rcases List.eq_nil_or_concat out with rfl|⟨i,l,rfl⟩;·rw[tu];refine⟨⟨by simp,fun q hq=>by rw[List.mem_singleton]at hq;rw[hq];exact hr⟩,fun n=>by simp[dF],fun l hl=>?_⟩;simp at hl;rw[←hl];omega
 ·rw[List.concat_eq_append]at*;have h1:=hl l (by simp);obtain⟨u1,u2,u3⟩:=List.pairwise_append.1 h.up;have hle:=h.each l (by simp);rw[qE];by_cases hc:r.1≤l.2
  ·rw[if_pos hc];refine⟨⟨List.pairwise_append.2 ⟨u1,by simp,fun a ha b hb=>?_⟩,fun q hq=>?_⟩,fun n=>?_,fun q hq=>?_⟩;·rw[List.mem_singleton]at hb;rw[hb];exact u3 a ha l (by simp)
   ·rcases List.mem_append.1 hq with hq|hq;·exact h.each q (by simp[hq])
    ·rw[List.mem_singleton]at hq;rw[hq];simp only;omega
   ·rw[jm,jm,xG,xG,xG,Bool.or_assoc];congr 1;rw[Bool.eq_iff_iff];simp only[Bool.and_eq_true,Bool.or_eq_true,decide_eq_true_eq];omega
   ·simp at hq;rw[←hq];exact h1
  ·rw[if_neg hc];refine⟨⟨List.pairwise_append.2 ⟨h.up,by simp,fun a ha b hb=>?_⟩,fun q hq=>?_⟩,fun n=>jm _ _ _,fun q hq=>?_⟩
   ·rw[List.mem_singleton]at hb;rw[hb];rcases List.mem_append.1 ha with ha|ha;·have:=u3 a ha l (by simp);omega
    ·rw[List.mem_singleton]at ha;rw[ha];omega
   ·rcases List.mem_append.1 hq with hq|hq;·exact h.each q hq
    ·rw[List.mem_singleton]at hq;rw[hq];exact hr
   ·simp at hq;rw[←hq];omega
theorem DR: ∀(l:Rg),l.Pairwise (fun a b=>a.1≤b.1)→TW l→ ∀out,RgOk out→(∀q,out.getLast?=some q→ ∀r∈l,q.1≤r.1)→RgOk (l.foldl eZ out)∧ ∀n,dF (l.foldl eZ out) n=(dF out n||dF l n)|[],_,_,out,ho,_=>⟨ho,fun n=>by simp[dF]⟩|r::l,hp,he,out,ho,hq=>by obtain⟨p1,p2⟩:=List.pairwise_cons.1 hp;obtain⟨h1,h2,h3⟩:=MP ho (he r (by simp)) (fun q hq'=>hq q hq' r (by simp));obtain⟨k1,k2⟩:=DR l p2 (fun q hq'=>he q (by simp[hq'])) (eZ out r) h1 (fun q hq' a ha=>by have:=h3 q hq';have:=p1 a ha;omega);refine⟨k1,fun n=>?_⟩;rw[List.foldl_cons,k2,h2,show r::l=[r]++l from rfl,jm,Bool.or_assoc]
theorem J6(out:Rg)(r:Int×Int):(eZ out r).length≤out.length+1:=by
 rcases List.eq_nil_or_concat out with rfl|⟨i,l,rfl⟩;·simp[tu]
 ·rw[List.concat_eq_append,qE];split<;>simp
theorem J9(l:Rg): ∀out:Rg,(l.foldl eZ out).length≤out.length+l.length:=by induction l with|nil=>intro out;simp|cons r l ih=>intro out;have:=ih (eZ out r);have:=J6 out r;simp only[List.foldl_cons,List.length_cons];omega
theorem FV(l:Rg)(r:Int×Int):(l++[r]).foldl eZ []=eZ (l.foldl eZ []) r:=by rw[List.foldl_append];rfl
theorem D8{a b:Rg}(ha:RgOk a)(hb:RgOk b)(h: ∀n,dF a n=dF b n):a=b:=by have:nums a=nums b:=yS (vQ ha) (vQ hb) (fun n=>by rw[jW ha,jW hb,h]);rw[←Fz ha,←Fz hb,this]
theorem JH{α:Type}{a b:Row α}(ha:bP a)(hb:bP b)(h: ∀p,p∈a↔p∈b):a=b:=by
 have key: ∀m:Row α,bP m→m.Nodup:=fun m hm=>hm.imp fun{x y}hxy e=>by rw[e,az]at hxy;cases hxy
 refine List.Perm.eq_of_pairwise (le:=fun(x y:List UInt8×α)=>bytesBefore x.1 y.1=true) (fun x y _ _ h1 h2=>?_) ha hb ((List.perm_ext_iff_of_nodup (key a ha) (key b hb)).2 h);have:=fq h1 h2;rw[az]at this;cases this
theorem PQ{rs:Rg}(h:RgOk rs)(hne:rs≠[]): ∃n,dF rs n=true:=by cases rs with|nil=>exact absurd rfl hne|cons r rs=>have:=h.each r (by simp);exact⟨r.1,by unfold dF;simp;left;omega⟩
theorem Gf{a b:eB}(ha:dm a)(hb:dm b)(h: ∀s n,hadB a s n=hadB b s n):a=b:=by
 have half: ∀{a b:eB},dm a→dm b→(∀s n,hadB a s n=hadB b s n)→ ∀p∈a,p∈b:=fun{a b}ha hb h p hp=>by
  have hr:aM a p.1=p.2:=by unfold aM;rw[fU ha.up (v:=p.2) hp];rfl
  have hE:aM a p.1=aM b p.1:=D8 (ha.row _) (hb.row _) (fun n=>h p.1 n);have hne:=(ha.each p hp).2.2;rw[hr]at hE;unfold aM at hE;cases hg:aC b p.1 with|none=>rw[hg]at hE;exact absurd hE hne|some rs=>rw[hg]at hE;have:=ak hg;rw[show p=(p.1,rs)by rw[←show p.2=rs from hE]];exact this
 exact JH ha.up hb.up fun p=>⟨half ha hb h p,half hb ha (fun s n=>(h s n).symm) p⟩
end Go.Proofs.YtladegonienapaaGreatDoor
