/-
  Plain: how long the texts of an event that may be are.
-/
import Derived.Test.YtladegonienapaaGreatDoorREvListing
set_option maxRecDepth 100000
set_option maxHeartbeats 16000000
namespace Go.Proofs.YtladegonienapaaGreatDoor
open Go.RowKit Go.Maps Go.Sort
def upto(a:Int)(k:Nat):List Int:=(List.range k).map fun(i:Nat)=>a+i
def nums(rs:Rg):List Int:=rs.flatMap fun r=>upto r.1 (r.2-r.1).toNat
theorem nJ{a:Int}{k:Nat}{n:Int}:n∈upto a k↔a≤n∧n<a+k:=by
 unfold upto;rw[List.mem_map];constructor;·rintro⟨i,hi,rfl⟩;have:=List.mem_range.1 hi;omega
 ·rintro⟨h1,h2⟩;exact⟨(n-a).toNat,List.mem_range.2 (by omega),by omega⟩
theorem Jc(a:Int)(k:Nat):(upto a k).Pairwise (·< ·):=by unfold upto;rw[List.pairwise_map];exact List.pairwise_lt_range.imp fun h=>by omega
theorem yG{rs:Rg}(h:RgOk rs)(n:Int):n∈nums rs↔bS rs n=true:=by
 unfold nums bS;rw[List.mem_flatMap,List.any_eq_true];constructor;·rintro⟨r,hr,hn⟩;have:=nJ.1 hn;have:=h.each r hr;exact⟨r,hr,by simp;omega⟩
 ·rintro⟨r,hr,hn⟩;simp only[Bool.and_eq_true,decide_eq_true_eq]at hn;have:=h.each r hr;exact⟨r,hr,nJ.2 (by omega)⟩
theorem Ct{rs:Rg}(h:RgOk rs):(nums rs).Pairwise (·< ·):=by obtain⟨hu,he⟩:=h;unfold nums;induction rs with|nil=>exact List.Pairwise.nil|cons r rs ih=>obtain⟨h1,h2⟩:=List.pairwise_cons.1 hu;rw[List.flatMap_cons];refine List.pairwise_append.2 ⟨Jc _ _,ih h2 (fun q hq=>he q (by simp[hq])),fun a ha b hb=>?_⟩;obtain⟨q,hq,hb⟩:=List.mem_flatMap.1 hb;have:=nJ.1 ha;have:=nJ.1 hb;have:=h1 q hq;have:=he r (by simp);omega
theorem Du{l l':List Int}(h:l.Pairwise (·< ·))(h':l'.Pairwise (·< ·))(hm: ∀n,n∈l↔n∈l'):l=l':=by
 have n1:l.Nodup:=h.imp fun h=>by omega
 have n2:l'.Nodup:=h'.imp fun h=>by omega
 exact List.Perm.eq_of_pairwise (fun a b _ _ h1 h2=>by omega) h h' ((List.perm_ext_iff_of_nodup n1 n2).2 hm)
def vE(out:Rg)(n:Int):Rg:=match out.getLast? with|some r=>if r.2=n then out.dropLast++[(r.1,n+1)]else out++[(n,n+1)]|none=>[(n,n+1)]
def VV(l:List Int):Rg:=l.foldl vE []
theorem FR(out:Rg)(a:Int)(k:Nat):(upto a (k+1)).foldl vE out=(match out.getLast? with|some r=>if r.2=a then out.dropLast++[(r.1,a+k+1)]else out++[(a,a+k+1)]|none=>[(a,a+k+1)]):=by
 induction k with
  |zero=>unfold upto vE;simp
  |succ k ih=>
   have e:upto a (k+1+1)=upto a (k+1)++[a+(k+1:Nat)]:=by unfold upto;rw[List.range_succ,List.map_append];rfl
   rw[e,List.foldl_append,ih];simp only[List.foldl_cons,List.foldl_nil];cases hl:out.getLast? with|none=>simp only[vE];simp;omega|some r=>simp only;split<;>(simp only[vE];simp;omega)
theorem yw: ∀(rs out:Rg),RgOk (out++rs)→(nums rs).foldl vE out=out++rs
 |[],out,_=>by simp[nums]
 |r::rs,out,h=>by
  have hr:=h.each r (by simp);obtain⟨k,hk⟩: ∃k:Nat,(r.2-r.1).toNat=k+1:=⟨(r.2-r.1).toNat-1,by omega⟩;have e:nums (r::rs)=upto r.1 (k+1)++nums rs:=by unfold nums;rw[List.flatMap_cons,hk]
  rw[e,List.foldl_append,FR];have e2:(match out.getLast? with|some q=>if q.2=r.1 then out.dropLast++[(q.1,r.1+k+1)]else out++[(r.1,r.1+k+1)]|none=>[(r.1,r.1+k+1)])=out++[r]:=by
   have hr2:(r.1,r.1+(k:Int)+1)=r:=by
    apply Prod.ext;·rfl
    ·show r.1+(k:Int)+1=r.2;omega
   cases hl:out.getLast? with|none=>have:out=[]:=List.getLast?_eq_none_iff.1 hl;subst this;simp only[List.nil_append];rw[hr2]|some q=>have hq:q∈out:=List.mem_of_getLast? hl;have:=(List.pairwise_append.1 h.up).2.2 q hq r (by simp);simp only;rw[if_neg (by omega),hr2]
  rw[e2];have h':RgOk (out++[r]++rs):=by simpa using h
  rw[yw rs (out++[r]) h'];simp
theorem FT{rs:Rg}(h:RgOk rs):VV (nums rs)=rs:=yw rs [] h
def bI(n:Nat):List UInt8:=if n<128 then[UInt8.ofNat n]else UInt8.ofNat (n%128+128)::bI (n/128)termination_by n decreasing_by omega
theorem jR{n:Nat}(h:n<128):bI n=[UInt8.ofNat n]:=by rw[bI,if_pos h]
theorem lT{n:Nat}(h: ¬n<128):bI n=UInt8.ofNat (n%128+128)::bI (n/128):=by rw[bI,if_neg h]
theorem bR{n:Nat}(h:n<72057594037927936):(bI n).length≤8:=by
 have key: ∀k n,n<128^(k+1)→(bI n).length≤k+1:=fun k=>by
  induction k with
   |zero=>intro n h;rw[jR (by simpa using h)];simp
   |succ k ih=>
    intro n h;by_cases h1:n<128;·rw[jR h1];simp
    ·rw[lT h1];have:=ih (n/128) (by rw[Nat.div_lt_iff_lt_mul (by omega)];rw[Nat.pow_succ]at h;exact h);simp;omega
 exact key 7 n (by simpa using h)
def encR:Int→Rg→List UInt8|_,[]=>[]|e,r::rs=>bI (r.1-e).toNat++bI (r.2-r.1).toNat++encR r.2 rs
def bN:Int→Rg→Int|e,[]=>e|_,r::rs=>bN r.2 rs
theorem vM(r:Int×Int): ∀(e:Int)(rs:Rg),encR e (rs++[r])=encR e rs++(bI (r.1-bN e rs).toNat++bI (r.2-r.1).toNat)|e,[]=>by simp[encR,bN]|e,q::rs=>by simp only[List.cons_append,encR,bN,vM r q.2 rs,List.append_assoc]
theorem jF(r:Int×Int): ∀(e:Int)(rs:Rg),bN e (rs++[r])=r.2|e,[]=>rfl|e,q::rs=>by simp only[List.cons_append,bN];exact jF r q.2 rs
def encS(p:List UInt8×Rg):List UInt8:=UInt8.ofNat p.1.length::(p.1++bI p.2.length++encR 1 p.2)
def pM(m:dV):List UInt8:=bI m.length++m.flatMap encS
theorem zx(rs:Rg)(h: ∀r∈rs,1≤r.1∧r.1<r.2∧r.2≤1099511627777): ∀e:Int,1≤e→(encR e rs).length≤16*rs.length:=by induction rs with|nil=>intro e _;simp[encR]|cons r rs ih=>intro e he;have hr:=h r (by simp);have:=ih (fun q hq=>h q (by simp[hq])) r.2 (by omega);have h1:=bR (n:=(r.1-e).toNat) (by omega);have h2:=bR (n:=(r.2-r.1).toNat) (by omega);simp only[encR,List.length_append,List.length_cons];omega
def eO(e:Ev):Bool:=if e.kind=0 then ae e.per&&ae e.item&&(e.val==0)&&e.text.isEmpty else if e.kind=1 then ae e.per&&ae e.item&&(e.val==0)&&e.text.isEmpty else if e.kind=2 then ae e.per&&ae e.item&&(e.val==0)&&e.text.isEmpty else if e.kind=3 then ae e.per&&ae e.item&&(e.val==0)&&e.text.isEmpty else if e.kind=4 then ae e.per&&ae e.item&&decide (1≤e.val)&&decide (e.val≤5)&&e.text.isEmpty else if e.kind=5 then ae e.per&&ae e.item&&(e.val==0)&&e.text.isEmpty else if e.kind=6 then ae e.per&&ae e.item&&(e.val==0)&&e.text.isEmpty else if e.kind=7 then ae e.per&&e.item.isEmpty&&(e.val==0)&&ae e.text else if e.kind=8 then ae e.per&&e.item.isEmpty&&(e.val==0)&&ae e.text else if e.kind=9 then ae e.per&&e.item.isEmpty&&(e.val==0)&&ae e.text else if e.kind=10 then ae e.per&&e.item.isEmpty&&(e.val==0)&&ae e.text else if e.kind=11 then e.per.isEmpty&&ae e.item&&decide (0≤e.val)&&decide (e.val≤1048576)&&aQ e.text else if e.kind=12 then e.per.isEmpty&&ae e.item&&decide (0≤e.val)&&decide (e.val≤1048576)&&e.text.isEmpty else if e.kind=13 then e.per.isEmpty&&ae e.item&&(e.val==0)&&e.text.isEmpty else if e.kind=14 then ae e.per&&e.item.isEmpty&&(e.val==0)&&e.text.isEmpty else false
def aB(e:Ev):Bool:=jE e&&eO e
theorem Mh(w:World)(l:List UInt8):Calls Tryz.prog 66 #[.string ⟨l.toArray⟩] w fun e w'=>e=.returned (.bool (ae l))∧w'=w:=(fF w l).mono fun _ _ h=>⟨h.1,h.2.symm⟩
theorem F9(w:World)(e:Ev)(hs:e.small)(hmx:aM w)(hh:jE e=true)(hnf:e.kind≠14):Calls Tryz.prog 43 #[e.agg] w (Says (eO e) w):=by
 obtain⟨s1,s2,s3,s4⟩:=hs;have dO:=qH hmx;clear hmx;generalize htb:eO e=tb;have Ki:=qH htb;clear htb;have hh':(ae e.src&&decide (1≤e.num)&&decide (e.num≤1099511627776)&&decide (0≤e.at_)&&decide (e.at_≤1099511627776))=true:=hh;simp only[Bool.and_eq_true,decide_eq_true_eq]at hh';obtain⟨⟨⟨⟨hns,h1⟩,h2⟩,h3⟩,h4⟩:=hh';have M4:=qH hns;clear hns hh;have d1:decide (e.num<1)=false:=decide_eq_false (by omega);have d2:decide (1099511627776<e.num)=false:=decide_eq_false (by omega);have d3:decide (e.at_<0)=false:=decide_eq_false (by omega);have d4:decide (1099511627776<e.at_)=false:=decide_eq_false (by omega);unfold Ev.agg;go_enter Tryz.func43,Tryz.ntmps43;go_wp2_with fail;refine(fF _ e.src).mono ?_;rintro r w1⟨rfl,rfl⟩;rw[M4.o];have hb:Below w.heap.size w (w.alloc (aj e)):=(Below.refl _ _).alloc (Nat.le_refl _) _;obtain⟨f0,f1,f2,f3,f4,f5,f6,f7⟩:=dK.new w e;generalize w.alloc (aj e)=w1 at*;generalize hke:e.kind=kd at*;have Aa:=qH hke;clear hke;go_wp2;clear d1 d2 d3 d4;go_quiet((go_at_call 66;exact Calls.quiet_of_same (Mh _ _)));have hbq:Below w.heap.size w (w1.drewN nq):=below_drewN hb nq;by_cases hx:kd<0∨14<kd;·have HT:=qS (tb=false) (by rw[←Ki.o];unfold eO;rw[Aa.o];rw[if_neg (by omega),if_neg (by omega),if_neg (by omega),if_neg (by omega),if_neg (by omega),if_neg (by omega),if_neg (by omega),if_neg (by omega),if_neg (by omega),if_neg (by omega),if_neg (by omega),if_neg (by omega),if_neg (by omega),if_neg (by omega),if_neg (by omega)]);have hq: ∀j:Int,0≤j→j≤14→(kd==j)=false:=fun j _ _=>beq_eq_false_iff_ne.2 (by omega);have k0:=hq 0 (by decide) (by decide);have k1:=hq 1 (by decide) (by decide);have k2:=hq 2 (by decide) (by decide);have k3:=hq 3 (by decide) (by decide);have k4:=hq 4 (by decide) (by decide);have k5:=hq 5 (by decide) (by decide);have k6:=hq 6 (by decide) (by decide);have k7:=hq 7 (by decide) (by decide);have k8:=hq 8 (by decide) (by decide);have k9:=hq 9 (by decide) (by decide);have k10:=hq 10 (by decide) (by decide);have k11:=hq 11 (by decide) (by decide);have k12:=hq 12 (by decide) (by decide);have k13:=hq 13 (by decide) (by decide);have k14:=hq 14 (by decide) (by decide);clear hq hx;generalize ae e.per=np at*;generalize ae e.item=ni at*;go_wp2;go_ret;exact⟨aa HT.o.symm,hbq⟩
 rcases(show(kd=0∨kd=1∨kd=2∨kd=3∨kd=5∨kd=6)∨(kd=4)∨(kd=7∨kd=8∨kd=9∨kd=10)∨(kd=11)∨(kd=12)∨(kd=13)by omega)with hk|hk|hk|hk|hk|hk
 ·have HT:=qS (tb=(ae e.per&&ae e.item&&(e.val==0)&&e.text.isEmpty)) (by rw[←Ki.o];unfold eO;rw[Aa.o];rcases hk with rfl|rfl|rfl|rfl|rfl|rfl<;>rfl);clear hx;rcases hk with rfl|rfl|rfl|rfl|rfl|rfl;all_goals
   generalize ae e.per=np at*;generalize ae e.item=ni at*;cases np;·go_wp2;go_ret;exact⟨aa (by rw[HT.o];first|rfl|simp),hbq⟩
   cases ni;·go_wp2;go_ret;exact⟨aa (by rw[HT.o];first|rfl|simp),hbq⟩
   cases zv0:(e.val==0);·go_wp2;go_ret;exact⟨aa (by rw[HT.o];rw[zv0];rfl),hbq⟩
   go_wp2;go_ret;exact⟨aa (by rw[HT.o];rw[zv0];first|rfl|simp),hbq⟩
 ·have HT:=qS (tb=(ae e.per&&ae e.item&&decide (1≤e.val)&&decide (e.val≤5)&&e.text.isEmpty)) (by rw[←Ki.o];unfold eO;rw[Aa.o];rw[hk];rfl);subst hk;clear hx;generalize ae e.per=np at*;generalize ae e.item=ni at*;cases np;·go_wp2;go_ret;exact⟨aa (by rw[HT.o];first|rfl|simp),hbq⟩
  cases ni;·go_wp2;go_ret;exact⟨aa (by rw[HT.o];first|rfl|simp),hbq⟩
  cases zv1:decide (1≤e.val);·go_wp2;go_ret;exact⟨aa (by rw[HT.o];rw[zv1];rfl),hbq⟩
  cases zv5:decide (e.val≤5);·go_wp2;go_ret;exact⟨aa (by rw[HT.o];rw[zv1];rw[zv5];rfl),hbq⟩
  go_wp2;go_ret;exact⟨aa (by rw[HT.o];rw[zv1];rw[zv5];first|rfl|simp),hbq⟩
 ·have HT:=qS (tb=(ae e.per&&e.item.isEmpty&&(e.val==0)&&ae e.text)) (by rw[←Ki.o];unfold eO;rw[Aa.o];rcases hk with rfl|rfl|rfl|rfl<;>rfl);clear hx;rcases hk with rfl|rfl|rfl|rfl;all_goals
   generalize ae e.per=np at*;generalize ae e.item=ni at*;cases np;·go_wp2;go_ret;exact⟨aa (by rw[HT.o];first|rfl|simp),hbq⟩
   cases Q4:e.item.isEmpty;·go_wp2;go_ret;exact⟨aa (by rw[HT.o];rw[Q4];rfl),hbq⟩
   cases zv0:(e.val==0);·go_wp2;go_ret;exact⟨aa (by rw[HT.o];rw[Q4];rw[zv0];rfl),hbq⟩
   go_wp2_with fail;refine(fF _ e.text).mono ?_;rintro r w2⟨rfl,rfl⟩;generalize ae e.text=nt at*;go_wp2;go_ret;exact⟨aa (by rw[HT.o];rw[Q4];rw[zv0];rfl),hbq⟩
 ·have HT:=qS (tb=(e.per.isEmpty&&ae e.item&&decide (0≤e.val)&&decide (e.val≤1048576)&&aQ e.text)) (by rw[←Ki.o];unfold eO;rw[Aa.o];rw[hk];rfl);subst hk;clear hx;generalize ae e.per=np at*;generalize ae e.item=ni at*;cases zW:e.per.isEmpty;·go_wp2;go_ret;exact⟨aa (by rw[HT.o];rw[zW];rfl),hbq⟩
  cases ni;·go_wp2;go_ret;exact⟨aa (by rw[HT.o];rw[zW];first|rfl|simp),hbq⟩
  cases Ae:decide (0≤e.val);·go_wp2;go_ret;exact⟨aa (by rw[HT.o];rw[zW];rw[Ae];rfl),hbq⟩
  cases zv20:decide (e.val≤1048576);·go_wp2;go_ret;exact⟨aa (by rw[HT.o];rw[zW];rw[Ae];rw[zv20];rfl),hbq⟩
  have Fq:=qS (aM (w1.drewN nq)) (dO.o.up hbq);go_wp2_with fail;refine(yV (w1.drewN nq) e.text s4 Fq.o).mono ?_;rintro r w3⟨rfl,hb3⟩;have hbz:Below w.heap.size w w3:=hbq.trans (hb3.mono hbq.size);generalize aQ e.text=li at*;go_wp2;go_ret;exact⟨aa (by rw[HT.o];rw[zW];rw[Ae];rw[zv20];rfl),hbz⟩
 ·have HT:=qS (tb=(e.per.isEmpty&&ae e.item&&decide (0≤e.val)&&decide (e.val≤1048576)&&e.text.isEmpty)) (by rw[←Ki.o];unfold eO;rw[Aa.o];rw[hk];rfl);subst hk;clear hx;generalize ae e.per=np at*;generalize ae e.item=ni at*;cases zW:e.per.isEmpty;·go_wp2;go_ret;exact⟨aa (by rw[HT.o];rw[zW];rfl),hbq⟩
  cases ni;·go_wp2;go_ret;exact⟨aa (by rw[HT.o];rw[zW];first|rfl|simp),hbq⟩
  cases Ae:decide (0≤e.val);·go_wp2;go_ret;exact⟨aa (by rw[HT.o];rw[zW];rw[Ae];rfl),hbq⟩
  cases zv20:decide (e.val≤1048576);·go_wp2;go_ret;exact⟨aa (by rw[HT.o];rw[zW];rw[Ae];rw[zv20];rfl),hbq⟩
  go_wp2;go_ret;exact⟨aa (by rw[HT.o];rw[zW];rw[Ae];rw[zv20];first|rfl|simp),hbq⟩
 ·have HT:=qS (tb=(e.per.isEmpty&&ae e.item&&(e.val==0)&&e.text.isEmpty)) (by rw[←Ki.o];unfold eO;rw[Aa.o];rw[hk];rfl);subst hk;clear hx;generalize ae e.per=np at*;generalize ae e.item=ni at*;cases zW:e.per.isEmpty;·go_wp2;go_ret;exact⟨aa (by rw[HT.o];rw[zW];rfl),hbq⟩
  cases ni;·go_wp2;go_ret;exact⟨aa (by rw[HT.o];rw[zW];first|rfl|simp),hbq⟩
  cases zv0:(e.val==0);·go_wp2;go_ret;exact⟨aa (by rw[HT.o];rw[zW];rw[zv0];rfl),hbq⟩
  go_wp2;go_ret;exact⟨aa (by rw[HT.o];rw[zW];rw[zv0];first|rfl|simp),hbq⟩
theorem nU(w:World)(e:Ev)(hs:e.small)(hmx:aM w):Calls Tryz.prog 43 #[e.agg] w (Says (aB e) w):=by
 unfold aB;cases hh:jE e;·exact Ga w e hs hh
 rw[Bool.true_and];by_cases hk:e.kind=14
 ·have hq:eO e=(ae e.per&&e.item.isEmpty&&(e.val==0)&&e.text.isEmpty):=by unfold eO;rw[hk];rfl
  rw[hq];exact AR w e hs hh hk
 ·exact F9 w e hs hmx hh hk
def iq(s:List UInt8):List UInt8:=UInt8.ofNat s.length::s
def uH(e:Ev):List UInt8:=UInt8.ofNat e.kind.toNat::(iq e.src++bI e.num.toNat++bI e.at_.toNat++iq e.per++iq e.item++bI e.val.toNat++iq e.text)
theorem GU{e:Ev}(h1:e.src.length≤300)(h2:e.per.length≤300)(h3:e.item.length≤300)(h4:e.text.length≤300)(n1:e.num≤1099511627776)(n2:e.at_≤1099511627776)(n3:e.val≤1099511627776):(uH e).length≤1229:=by have a:=bR (n:=e.num.toNat) (by omega);have b:=bR (n:=e.at_.toNat) (by omega);have c:=bR (n:=e.val.toNat) (by omega);unfold uH iq;simp only[List.length_cons,List.length_append];omega
theorem fU{l:List UInt8}(h:ae l=true):1≤l.length∧l.length≤24:=by unfold ae at h;simp only[Bool.and_eq_true,decide_eq_true_eq]at h;exact⟨h.1.1,h.1.2⟩
theorem rG(c:UInt8): ∀(k:Nat)(s:ByteArray),(∀t∈Lib.splitB ⟨#[c]⟩ 0 k s,t.size≤24)→s.size+1≤25*(Lib.splitB ⟨#[c]⟩ 0 k s).length
 |0,s,h=>by rw[Lib.splitB_zero]at h⊢;have:=h s (by simp);simp;omega
 |k+1,s,h=>by
  rcases Lib.indexB_cases s ⟨#[c]⟩with hi|⟨i,hi,hle⟩;·rw[Lib.splitB_miss _ _ _ _ hi]at h⊢;have:=h s (by simp);simp;omega
  ·rw[Lib.splitB_hit _ _ _ _ _ hi]at h⊢;have h1:=h _ (List.mem_cons_self ..);have ih:=rG c k (s.extract (i+(⟨#[c]⟩:ByteArray).size) s.size) (fun t ht=>h t (List.mem_cons_of_mem _ ht));have hc:(⟨#[c]⟩:ByteArray).size=1:=rfl;rw[hc]at hle ih h⊢;simp only[ByteArray.size_extract,List.length_cons]at h1 ih⊢;omega
theorem yU{s:List UInt8}(h:aQ s=true):s.length≤224:=by
 unfold aQ at h;simp only[Bool.and_eq_true,decide_eq_true_eq]at h;obtain⟨⟨⟨h1,h2⟩,h3⟩,h4⟩:=h;have hm:=(fU h2).2;unfold Lib.cut at h1 hm;by_cases hi:0≤Lib.index s [59]
 ·rw[if_pos hi]at hm;change(s.take _).length≤24 at hm;have hlen:s.length≤(s.take (Lib.index s [59]).toNat).length+1+(dQ s).length:=by unfold dQ Lib.cut;rw[if_pos hi];simp;omega
  have hr:(dQ s).length≤199:=by
   unfold dw at h3 h4;by_cases he:(dQ s).isEmpty;·rw[List.isEmpty_iff.1 he];simp
   ·rw[if_neg he]at h3 h4;have key:=rG 44 (Lib.countB ⟨(dQ s).toArray⟩ ⟨#[44]⟩) ⟨(dQ s).toArray⟩ (fun t ht=>by
     obtain⟨k,hk,e⟩:=List.getElem_of_mem ht;unfold iR at h4;rw[List.all_eq_true]at h4;have:=h4 k (by simpa using hk);unfold l7 at this;have h5:ae ((List.map (fun b:ByteArray=>b.data.toList) (Lib.splitB ⟨#[44]⟩ 0 (Lib.countB ⟨(dQ s).toArray⟩ ⟨#[44]⟩) ⟨(dQ s).toArray⟩)).getD k [])=true:=by simp only[Bool.and_eq_true]at this;exact this.1
     have h6:=(fU h5).2;simp only[List.getD,List.getElem?_map,List.getElem?_eq_getElem hk,Option.map_some,Option.getD_some,e]at h6;show t.data.size≤24;rw[←Array.length_toList];exact h6);have hs:(⟨(dQ s).toArray⟩:ByteArray).size=(dQ s).length:=by simp[ByteArray.size]
    rw[hs]at key;simp only[List.length_map]at h3;omega
  omega
 ·rw[if_neg hi]at h1;simp at h1
structure Ev.Fit(e:Ev):Prop where
 src:e.src.length≤24
 per:e.per.length≤24
 item:e.item.length≤24
 text:e.text.length≤224
 num0:1≤e.num
 num1:e.num≤1099511627776
 at0:0≤e.at_
 at1:e.at_≤1099511627776
 val0:0≤e.val
 val1:e.val≤1048576
 kind0:0≤e.kind
 kind1:e.kind≤14
theorem iD{e:Ev}(h:aB e=true):e.Fit:=by
 unfold aB at h;rw[Bool.and_eq_true]at h;obtain⟨hh,ht⟩:=h;unfold jE at hh;simp only[Bool.and_eq_true,decide_eq_true_eq]at hh;obtain⟨⟨⟨⟨a1,a2⟩,a3⟩,a4⟩,a5⟩:=hh;have hs:=(fU a1).2;have key:e.per.length≤24∧e.item.length≤24∧e.text.length≤224∧0≤e.val∧e.val≤1048576∧0≤e.kind∧e.kind≤14:=by
  unfold eO at ht;have hk:e.kind=0∨e.kind=1∨e.kind=2∨e.kind=3∨e.kind=4∨e.kind=5∨e.kind=6∨e.kind=7∨e.kind=8∨e.kind=9∨e.kind=10∨e.kind=11∨e.kind=12∨e.kind=13∨e.kind=14∨ ¬(0≤e.kind∧e.kind≤14):=by omega
  have n1:=fun h:ae e.per=true=>(fU h).2;have n2:=fun h:ae e.item=true=>(fU h).2;have n3:=fun h:ae e.text=true=>(fU h).2;have n4:=fun h:aQ e.text=true=>yU h;rcases hk with k|k|k|k|k|k|k|k|k|k|k|k|k|k|k|k;case inr.inr.inr.inr.inr.inr.inr.inr.inr.inr.inr.inr.inr.inr.inr=>rw[if_neg (by omega),if_neg (by omega),if_neg (by omega),if_neg (by omega),if_neg (by omega),if_neg (by omega),if_neg (by omega),if_neg (by omega),if_neg (by omega),if_neg (by omega),if_neg (by omega),if_neg (by omega),if_neg (by omega),if_neg (by omega),if_neg (by omega)]at ht;cases ht
  all_goals(simp[k]at ht;simp only[ht,forall_const,List.length_nil]at n1 n2 n3 n4;simp only[ht,k,List.length_nil];first|omega|(simp;omega)|(simp_all;omega))
 exact⟨hs,key.1,key.2.1,key.2.2.1,a2,a3,a4,a5,key.2.2.2.1,key.2.2.2.2.1,key.2.2.2.2.2.1,key.2.2.2.2.2.2⟩
theorem Ev.Fit.small{e:Ev}(h:e.Fit):e.small:=⟨by have:=h.src;omega,by have:=h.per;omega,by have:=h.item;omega,by have:=h.text;omega⟩
theorem Ev.Fit.len{e:Ev}(h:e.Fit):(uH e).length≤1229:=GU (by have:=h.src;omega) (by have:=h.per;omega) (by have:=h.item;omega) (by have:=h.text;omega) h.num1 h.at1 (by have:=h.val1;omega)
end Go.Proofs.YtladegonienapaaGreatDoor
