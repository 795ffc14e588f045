/-
  Layer 8: the closure of right: whether an event stays.
-/
import Derived.Test.YtladegonienapaaGreatDoorUParts
set_option maxRecDepth 100000
set_option maxHeartbeats 16000000
namespace Go.Proofs.YtladegonienapaaGreatDoor
open Go.RowKit Go.Maps Go.Sort
/-!### a set's bytes, read -/
inductive oN (α : Type) where
  | ok (a : α) (r : List UInt8)
  | dV
  | form
def sV:Nat→Nat→Nat→List UInt8→oN Nat|0,_,_,_=>.form|_+1,_,_,[]=>.dV|f+1,i,acc,c::r=>if c.toNat=0∧0<i then .form else if c.toNat<128 then .ok (acc+c.toNat*128^i) r else sV f (i+1) (acc+(c.toNat%128)*128^i) r
def lN(l:List UInt8):oN Nat:=sV 6 0 0 l
def qj:List UInt8→oN (List UInt8)|[]=>.dV|c::r=>if r.length<c.toNat then .dV else if af (r.take c.toNat)then .ok (r.take c.toNat) (r.drop c.toNat)else .form
def sO:Nat→Rg→List UInt8→oN Rg|0,rs,l=>.ok rs l|n+1,rs,l=>match lN l with|.dV=>.dV|.form=>.form|.ok gap l1=>if gap=0∧rs≠[]then .form else match lN l1 with|.dV=>.dV|.form=>.form|.ok many l2=>if many=0∨1099511627777<dz 1 rs+gap+many then .form else sO n (rs++[(dz 1 rs+gap,dz 1 rs+gap+many)]) l2
def fD(l:List UInt8):oN Rg:=match lN l with|.dV=>.dV|.form=>.form|.ok n l1=>if n=0 then .form else sO n [] l1
def fE(m:eB):List UInt8:=(m.getLast?.map (·.1)).getD []
def nI:Nat→eB→List UInt8→oN eB|0,m,l=>.ok m l|n+1,m,l=>match qj l with|.dV=>.dV|.form=>.form|.ok s l1=>if bytesBefore (fE m) s then(match fD l1 with|.dV=>.dV|.form=>.form|.ok rs l2=>nI n (m++[(s,rs)]) l2)else .form
def rV(b:List UInt8):oN eB:=match lN b with|.dV=>.dV|.form=>.form|.ok n l=>match nI n [] l with|.dV=>.dV|.form=>.form|.ok m r=>if r=[]then .ok m []else .form
theorem zw: ∀(f i acc n:Nat)(r:List UInt8),n<128^(f+1)→(n≠0∨i=0)→sV (f+1) i acc (aV n++r)=.ok (acc+n*128^i) r
 |f,i,acc,n,r,hn,h0=>by
  by_cases h:n<128
  ·rw[kU h];have e:(UInt8.ofNat n).toNat=n:=by simp;omega
   simp only[List.singleton_append,sV,e];rw[if_neg (by omega),if_pos h]
  ·rw[mr h];have e:(UInt8.ofNat (n%128+128)).toNat=n%128+128:=by simp;omega
   cases f with
    |zero=>omega
    |succ f=>
     simp only[List.cons_append];rw[sV];simp only[e];rw[if_neg (by omega),if_neg (by omega)];rw[zw f (i+1) _ (n/128) r (by rw[Nat.pow_succ]at hn;omega) (.inl (by omega))];congr 1;have e2:(n%128+128)%128=n%128:=by omega
     rw[e2,Nat.pow_succ];have e3:n*128^i=(n%128+128*(n/128))*128^i:=by rw[Nat.mod_add_div]
     rw[e3,Nat.add_mul,Nat.add_assoc];congr 2;rw[Nat.mul_comm (128^i) 128,←Nat.mul_assoc,Nat.mul_comm (n/128) 128]
theorem oZ(n:Nat)(r:List UInt8)(h:n<4398046511104):lN (aV n++r)=.ok n r:=by unfold lN;rw[zw 5 0 0 n r (by simpa using h) (.inr rfl)];simp
theorem Ij: ∀(f i acc n:Nat)(l r:List UInt8),sV f i acc l=.ok n r→acc<128^i→n<128^(i+f)∧ ∃k,0<k∧k≤l.length∧r=l.drop k
 |0,_,_,_,_,_,h,_=>by simp[sV]at h
 |f+1,i,acc,n,[],r,h,_=>by simp[sV]at h
 |f+1,i,acc,n,c::l,r,h,ha=>by
  have hc:=c.toNat_lt;have hp:(128:Nat)^(i+1)=128^i*128:=Nat.pow_succ ..;have hm:128^(i+1)≤128^(i+(f+1)):=Nat.pow_le_pow_right (by decide) (by omega);simp only[sV]at h;split at h;·cases h
  split at h;·rename_i h2;injection h with h h';refine⟨?_,1,by omega,by simp,by rw[←h'];rfl⟩;have:c.toNat*128^i≤127*128^i:=Nat.mul_le_mul_right _ (by omega);omega
  ·have hb:acc+(c.toNat%128)*128^i<128^(i+1):=by have:c.toNat%128*128^i≤127*128^i:=Nat.mul_le_mul_right _ (by omega);omega
   obtain⟨h1,k,h2,h3,h4⟩:=Ij f (i+1) _ n l r h hb;exact⟨by rw[show i+(f+1)=i+1+f by omega];exact h1,k+1,by omega,by simp;omega,by rw[h4];rfl⟩
theorem kT{l r:List UInt8}{n:Nat}(h:lN l=.ok n r):n<4398046511104∧ ∃k,0<k∧k≤l.length∧r=l.drop k:=by have:=Ij 6 0 0 n l r h (by decide);exact⟨by simpa using this.1,this.2⟩
theorem rC{l r:List UInt8}{n:Nat}(h:lN l=.ok n r):r.length<l.length:=by obtain⟨_,k,h1,h2,rfl⟩:=kT h;rw[List.length_drop];omega
theorem LW(s r:List UInt8)(h:af s=true):qj (UInt8.ofNat s.length::(s++r))=.ok s r:=by
 have hl:s.length≤24:=by unfold af at h;simp at h;omega
 have e:(UInt8.ofNat s.length).toNat=s.length:=by simp;omega
 simp only[qj];rw[e,if_neg (by simp)];simp[h]
theorem PG{l s r:List UInt8}(h:qj l=.ok s r):af s=true∧ ∃k,0<k∧k≤l.length∧r=l.drop k:=by
 cases l with
  |nil=>simp[qj]at h
  |cons c t=>
   simp only[qj]at h;split at h;·cases h
   split at h;·rename_i h1 h2;injection h with h h';refine⟨by rw[←h];exact h2,c.toNat+1,by omega,by simp;omega,by rw[←h'];simp⟩
   ·cases h
theorem rT: ∀(e:Int)(rs:Rg),rs≠[]→ ∃r∈rs,dz e rs=r.2|_,[],h=>absurd rfl h|e,r::rs,_=>by cases rs with|nil=>exact⟨r,by simp,rfl⟩|cons q rs=>obtain⟨x,hx,h⟩:=rT r.2 (q::rs) (by simp);exact⟨x,by simp[List.mem_cons.1 hx],h⟩
theorem KJ{rs:Rg}(h:RgOk rs): ∀r∈rs,r.2≤dz 1 rs:=by
 intro r hr;rcases List.eq_nil_or_concat rs with rfl|⟨t,x,rfl⟩;·simp at hr
 ·rw[List.concat_eq_append]at*;rw[lS];rcases List.mem_append.1 hr with hr|hr;·have:=(List.pairwise_append.1 h.up).2.2 r hr x (by simp);have:=(h.each x (by simp)).2.1;omega
  ·simp at hr;subst hr;exact Int.le_refl _
theorem xQ{rs:Rg}(h:RgOk rs):1≤dz 1 rs:=by cases rs with|nil=>exact Int.le_refl _|cons r t=>obtain⟨x,hx,he⟩:=rT 1 (r::t) (by simp);rw[he];have:=h.each x hx;omega
theorem RgOk.snoc{rs:Rg}(h:RgOk rs){gap many:Nat}(h1: ¬(gap=0∧rs≠[]))(h2: ¬(many=0∨1099511627777<dz 1 rs+gap+many)):RgOk (rs++[(dz 1 rs+gap,dz 1 rs+gap+many)]):=by
 have hp:=xQ h;refine⟨List.pairwise_append.2 ⟨h.up,by simp,fun a ha b hb=>?_⟩,fun r hr=>?_⟩;·simp at hb;subst hb;have:=KJ h a ha;have:rs≠[]:=List.ne_nil_of_mem ha;have:gap≠0:=fun e=>h1 ⟨e,this⟩;simp only;omega
 ·rcases List.mem_append.1 hr with hr|hr;·exact h.each r hr
  ·simp at hr;subst hr;simp only;omega
theorem Ie: ∀(n:Nat)(rs out:Rg)(l r:List UInt8),RgOk rs→sO n rs l=.ok out r→RgOk out∧out.length=rs.length+n∧out.length+r.length≤rs.length+l.length∧ ∃k,k≤l.length∧r=l.drop k
 |0,rs,out,l,r,h,he=>by simp only[sO]at he;injection he with h1 h2;subst h1 h2;exact⟨h,by simp,Nat.le_refl _,0,by omega,by simp⟩
 |n+1,rs,out,l,r,h,he=>by
  simp only[sO]at he;split at he;·cases he
  ·cases he
  rename_i gap l1 hg;split at he;·cases he
  rename_i hg0;split at he;·cases he
  ·cases he
  rename_i many l2 hm;split at he;·cases he
  rename_i hm0;obtain⟨h1,h2,h3,k,h4,h5⟩:=Ie n _ out l2 r (h.snoc hg0 hm0) he;obtain⟨_,k1,a1,a2,rfl⟩:=kT hg;obtain⟨_,k2,b1,b2,rfl⟩:=kT hm;simp only[List.length_append,List.length_cons,List.length_nil,List.length_drop]at h2 h3 h4 b2;exact⟨h1,by omega,by omega,k1+(k2+k),by omega,by rw[h5,List.drop_drop,List.drop_drop]⟩
theorem CW: ∀(n:Nat)(done rs:Rg)(r:List UInt8),n=rs.length→RgOk (done++rs)→sO n done (encR (dz 1 done) rs++r)=.ok (done++rs) r
 |0,done,rs,r,hn,_=>by have:rs=[]:=List.length_eq_zero_iff.1 hn.symm;subst this;simp[sO,encR]
 |n+1,done,rs,r,hn,h=>by
  cases rs with
   |nil=>simp at hn
   |cons x rs=>
    have hx:=h.each x (by simp);have hd:RgOk done:=⟨(List.pairwise_append.1 h.up).1,fun r hr=>h.each r (by simp[hr])⟩;have hp:=xQ hd;have hle:dz 1 done≤x.1∧(done≠[]→dz 1 done<x.1):=by
     by_cases hne:done=[];·subst hne;exact⟨hx.1,fun h=>absurd rfl h⟩
     ·obtain⟨q,hq,he⟩:=rT 1 done hne;have:=(List.pairwise_append.1 h.up).2.2 q hq x (by simp);rw[he];exact⟨by omega,fun _=>this⟩
    have e0:encR (dz 1 done) (x::rs)++r=aV (x.1-dz 1 done).toNat++(aV (x.2-x.1).toNat++(encR x.2 rs++r)):=by simp[encR]
    rw[sO,e0,oZ _ _ (by omega)];simp only;rw[if_neg (by rintro⟨h1,h2⟩;have:=hle.2 h2;omega),oZ _ _ (by omega)];simp only;rw[if_neg (by omega)];have e1:dz 1 done+((x.1-dz 1 done).toNat:Int)=x.1:=by omega
    have e2:x.1+((x.2-x.1).toNat:Int)=x.2:=by omega
    rw[e1,e2];have ih:=CW n (done++[(x.1,x.2)]) rs r (by simp at hn;omega) (by simpa using h);rw[lS]at ih;rw[ih];simp
theorem FC{rs:Rg}(h:RgOk rs)(hne:rs≠[])(hl:rs.length<4398046511104)(r:List UInt8):fD (aV rs.length++(encR 1 rs++r))=.ok rs r:=by unfold fD;rw[oZ _ _ hl];simp only;rw[if_neg (by simpa using hne)];exact CW rs.length [] rs r rfl h
theorem JR{l r:List UInt8}{rs:Rg}(h:fD l=.ok rs r):RgOk rs∧rs≠[]∧rs.length+r.length<l.length∧ ∃k,0<k∧k≤l.length∧r=l.drop k:=by
 unfold fD at h;split at h;·cases h
 ·cases h
 rename_i n l1 hn;split at h;·cases h
 rename_i h0;obtain⟨h1,h2,h3,k,h4,h5⟩:=Ie n [] rs l1 r RgOk.nil h;obtain⟨_,k1,a1,a2,rfl⟩:=kT hn;simp only[List.length_nil,List.length_drop]at h2 h3 h4;refine⟨h1,fun e=>?_,by omega,k1+k,by omega,by omega,by rw[h5,List.drop_drop]⟩;rw[e]at h2;simp at h2;omega
theorem ow(m:eB)(p:List UInt8×Rg):fE (m++[p])=p.1:=by unfold fE;simp
theorem Ex{m:eB}(h:dm m){s:List UInt8}(hs:bytesBefore (fE m) s=true): ∀p∈m,bytesBefore p.1 s=true:=by
 intro p hp;rcases List.eq_nil_or_concat m with rfl|⟨t,x,rfl⟩;·simp at hp
 ·rw[List.concat_eq_append]at*;rw[ow]at hs;rcases List.mem_append.1 hp with hp|hp;·exact fq ((List.pairwise_append.1 h.up).2.2 p hp x (by simp)) hs
  ·simp at hp;subst hp;exact hs
theorem dm.snoc{m:eB}(h:dm m){s:List UInt8}{rs:Rg}(hs:bytesBefore (fE m) s=true)(hn:af s=true)(hr:RgOk rs)(hne:rs≠[]):dm (m++[(s,rs)]):=⟨List.pairwise_append.2 ⟨h.up,by simp,fun a ha b hb=>by simp at hb;subst hb;exact Ex h hs a ha⟩,fun p hp=>by
 rcases List.mem_append.1 hp with hp|hp;·exact h.each p hp
 ·simp at hp;subst hp;exact⟨hn,hr,hne⟩⟩
theorem NV{done m:eB}{p:List UInt8×Rg}(h:dm (done++p::m)):bytesBefore (fE done) p.1=true:=by
 rcases List.eq_nil_or_concat done with rfl|⟨t,x,rfl⟩;·have hn:=(h.each p (by simp)).1;unfold af at hn;simp only[Bool.and_eq_true,decide_eq_true_eq]at hn;cases hp:p.1 with|nil=>rw[hp]at hn;simp at hn|cons c t=>rfl
 ·rw[List.concat_eq_append]at*;rw[ow];exact(List.pairwise_append.1 h.up).2.2 x (by simp) p (by simp)
theorem y7: ∀(n:Nat)(done m:eB)(r:List UInt8),n=m.length→dm (done++m)→(∀p∈m,p.2.length<4398046511104)→nI n done (m.flatMap encS++r)=.ok (done++m) r
 |0,done,m,r,hn,_,_=>by have:m=[]:=List.length_eq_zero_iff.1 hn.symm;subst this;simp[nI]
 |n+1,done,m,r,hn,h,hl=>by
  cases m with
   |nil=>simp at hn
   |cons p m=>
    obtain⟨h1,h2,h3⟩:=h.each p (by simp);have e0:(p::m).flatMap encS++r=UInt8.ofNat p.1.length::(p.1++(aV p.2.length++(encR 1 p.2++(m.flatMap encS++r)))):=by simp[encS]
    rw[nI,e0,LW _ _ h1];simp only;rw[if_pos (NV h),FC h2 h3 (hl p (by simp))];simp only;rw[y7 n (done++[(p.1,p.2)]) m r (by simp at hn;omega) (by simpa using h) (fun q hq=>hl q (by simp[hq]))];simp
theorem ND{m:eB}(h:dm m)(hm:m.length<4398046511104)(hl: ∀p∈m,p.2.length<4398046511104):rV (mJ m)=.ok m []:=by unfold rV mJ;rw[oZ _ _ hm];simp only;have:=y7 m.length [] m [] rfl h hl;rw[List.append_nil]at this;rw[this];simp
structure yu(l:List (List UInt8)):Prop where
 name: ∀j(h:j<l.length),af l[j]=true
 up: ∀j(h:j<l.length),0<j→bytesBefore (l[j-1]'(by omega)) l[j]=true
def gI(gone:List (List UInt8))(e:Ev):Bool:=!decide (e.per∈gone)||(e.kind==14)
def sI(gone:List (List UInt8))(had:eB)(l:List Ev)(k:Nat)(e:Ev):Bool:=aK e&&!decide (dM e∈(l.take k).map dM)&&gI gone e&&hadB had e.src e.num&&(decide (k=0)||(oq e (l.getD (k-1) e)==1))&&(!(e.kind==14)||decide (e.per∈gone))
def Io(gone:List (List UInt8))(l:List Ev)(k:Nat)(e:Ev):Bool:=aK e&&!decide (dM e∈(l.take k).map dM)&&gI gone e
structure fK(gone:List (List UInt8))(had:eB)(taken late:List Ev):Prop where
 len:taken.length≤1048576
 taken: ∀k(h:k<taken.length),sI gone had taken k taken[k]=true
 late: ∀k(h:k<late.length),Io gone late k late[k]=true
theorem NN{x y:Int}:0<Lib.compareInt x y↔Lib.compareInt x y=1:=by unfold Lib.compareInt;split<;>(try split)<;>omega
theorem NP: ∀(a b:List UInt8),0<Lib.compareBytes a b↔Lib.compareBytes a b=1
 |[],[]=>by simp[Lib.compareBytes]
 |[],_::_=>by simp[Lib.compareBytes]
 |_::_,[]=>by simp[Lib.compareBytes]
 |x::a,y::b=>by
  have ih:=NP a b;unfold Lib.compareBytes;split;·omega
  ·split;·omega
   ·exact ih
theorem En{a b:Ev}:0<oq a b↔oq a b=1:=by
 unfold oq JZ;split;·exact NN
 ·split;·exact NP _ _
  ·exact NN
theorem Dp{e:Ev}(h:aK e=true)(hk:e.kind=14):vV e=true:=by unfold aK gG at h;unfold vV;rw[hk]at h;simp only[Bool.and_eq_true]at h⊢;have h2:=h.2;simp at h2;simp[hk,h.1,h2]
theorem Bg{e:Ev}(h:vV e=true):e.kind=14∧af e.per=true:=by unfold vV at h;simp only[Bool.and_eq_true,beq_iff_eq]at h;exact⟨h.1.1.1.1.1,h.1.1.1.2⟩
structure gM(x:aG):Prop where
 MJ:(x.late.map dM).Nodup
 name: ∀p∈x.gone,af p=true
theorem gM.new(ag idle:Int):gM (aG.new ag idle):=⟨by simp[aG.new],fun p hp=>by simp[aG.new]at hp⟩
theorem gM.hear{x:aG}(h:gM x)(e:Ev)(now:Int):gM (x.hear e now):=⟨h.MJ,h.name⟩
theorem gM.drop{x:aG}(h:gM x)(p:Ev→Bool):gM (x.drop p):=⟨(List.filter_sublist.map dM).nodup h.MJ,h.name⟩
theorem gM.took{x:aG}{e:Ev}(h:gM x)(hm:aK e=true):gM (x.took e):=by
 unfold aG.took;split
 ·rename_i hk;refine gM.drop (x:={x.put e with gone:=e.per::x.gone}) ⟨h.MJ,fun p hp=>?_⟩ _;rcases List.mem_cons.1 hp with rfl|hp;·exact(Bg (Dp hm hk)).2
  ·exact h.name p hp
 ·exact⟨h.MJ,h.name⟩
theorem gM.admits{x:aG}(h:gM x)(e:Ev):gM (x.admits e):=by
 unfold aG.admits;split;·exact h
 ·rename_i hr;exact(h.hear e _).took (nQ (show x.refuses e=false by simpa using hr)).1
theorem bH.right{x:aG}(h:bH x)(h2:gM x)(hl:x.taken.length≤1048576):fK x.gone x.had x.taken x.late:=by
 refine⟨hl,fun k hk=>?_,fun k hk=>?_⟩
 ·have hm:x.taken[k]∈x.taken:=List.getElem_mem hk;unfold sI;rw[h.may _ (.inl hm),h.kept _ hm];have h1:dM x.taken[k]∉(x.taken.take k).map dM:=fun hc=>by obtain⟨a,ha,he⟩:=List.mem_map.1 hc;obtain⟨i,hi,rfl⟩:=List.getElem_of_mem ha;rw[List.length_take]at hi;rw[List.getElem_take]at he;have:=(List.pairwise_iff_getElem.1 h.ids) i k (by simp;omega) (by simp;omega) (by omega);rw[List.getElem_map,List.getElem_map]at this;exact this he
  have h2:gI x.gone x.taken[k]=true:=by
   unfold gI;by_cases hg:x.taken[k].per∈x.gone;·have:=h.inv.stay _ (.inl hm) hg;simp[this]
   ·simp[hg]
  have h3:(decide (k=0)||(oq x.taken[k] (x.taken.getD (k-1) x.taken[k])==1))=true:=by
   by_cases h0:k=0;·simp[h0]
   ·have hk1:k-1<x.taken.length:=by omega
    have e1:x.taken.getD (k-1) x.taken[k]=x.taken[k-1]:=by rw[List.getD_eq_getElem?_getD,List.getElem?_eq_getElem hk1];rfl
    rw[e1];have hle:=(List.pairwise_iff_getElem.1 h.sorted) (k-1) k hk1 hk (by omega);have hne:=(List.pairwise_iff_getElem.1 h.ids) (k-1) k (by simp;omega) (by simp;omega) (by omega);rw[List.getElem_map,List.getElem_map]at hne;have:gu x.taken[k-1] x.taken[k]:=by
     by_cases hlt:gu x.taken[k-1] x.taken[k];·exact hlt
     ·rcases gu.total hlt with h'|⟨_,e2,e3⟩;·exact absurd h' hle
      ·exact absurd (by unfold dM;rw[e2,e3]) hne
    have:=En.1 (oo.2 this);simp[this]
  have h4:(!(x.taken[k].kind==14)||decide (x.taken[k].per∈x.gone))=true:=by
   by_cases h14:x.taken[k].kind=14;·have:=h.inv.QA _ hm h14;simp[this]
   ·simp[h14]
  rw[h2,h3,h4];simpa using h1
 ·have hm:x.late[k]∈x.late:=List.getElem_mem hk;unfold Io;rw[h.may _ (.inr hm)];have h1:dM x.late[k]∉(x.late.take k).map dM:=fun hc=>by obtain⟨a,ha,he⟩:=List.mem_map.1 hc;obtain⟨i,hi,rfl⟩:=List.getElem_of_mem ha;rw[List.length_take]at hi;rw[List.getElem_take]at he;have:=(List.pairwise_iff_getElem.1 h2.MJ) i k (by simp;omega) (by simp;omega) (by omega);rw[List.getElem_map,List.getElem_map]at this;exact this he
  have h3:gI x.gone x.late[k]=true:=by
   unfold gI;by_cases hg:x.late[k].per∈x.gone;·have:=h.inv.stay _ (.inr hm) hg;simp[this]
   ·simp[hg]
  rw[h3];simpa using h1
theorem Qy{x:aG}(h:gM x){r:List (List UInt8)}(hr:iK r x.gone):yu r:=⟨fun j hj=>h.name _ ((hr.2 _).1 (List.getElem_mem hj)),fun j hj h0=>by
 have:=(List.pairwise_iff_getElem.1 hr.1) (j-1) j (by omega) hj (by omega);rcases jv (fun e=>xm _ (e▸this):r[j-1]'(by omega)≠r[j])with h'|h';·exact h'
 ·exact absurd (R8 h') (fun h2=>MG this h2)⟩
theorem yZ(w:World)(g bi bg n:Nat)(gone:List (List UInt8))(e:Ev)(hs:e.small)(hc:w.cell? ⟨g,0,none⟩=some (.pointer (some ⟨bi,0,none⟩)))(hb5:w.cell? ⟨bi,5,none⟩=some (.map (some bg)))(hset:fw w bg n gone):Calls Tryz.prog 137 #[e.agg,.pointer (some ⟨g,0,none⟩)] w (Says (gI gone e) w):=by
 obtain⟨s1,s2,s3,s4⟩:=hs;have hg:g<w.heap.size:=World.block_lt_of_cell? w ⟨g,0,none⟩ hc;have hbi:bi<w.heap.size:=World.block_lt_of_cell? w ⟨bi,5,none⟩ hb5;have hc':(w.alloc (au e)).cell? ⟨g,0,none⟩=_:=(World.cell?_alloc_lt w (au e) _ hg).trans hc;have aaX:(w.alloc (au e)).cell? ⟨bi,5,none⟩=_:=(World.cell?_alloc_lt w (au e) _ hbi).trans hb5;have hl: ∀k,(Instr.lookup 77 (.map (some bg)) (.string ⟨e.per.toArray⟩) false).run Tryz.prog ((w.alloc (au e)).drewN k)=.ok (.bool (decide (e.per∈gone))) ((w.alloc (au e)).drewN k):=fun k=>((hset.alloc (au e)).drewN k).look e.per (by unfold maxLen;omega);have hb:Below w.heap.size w (w.alloc (au e)):=(Below.refl _ _).alloc (Nat.le_refl _) _;have HO:=qS (gI gone e=(!decide (e.per∈gone)||(e.kind==14))) (rfl);obtain⟨e0,e1,e2,e3,e4,e5,e6,e7⟩:=eD.new w e;clear hset hc hb5;unfold Ev.agg;generalize hd:decide (e.per∈gone)=d at*;clear hd;go_enter Tryz.func137,Tryz.ntmps137;cases d;·go_wp2;go_quiet(fail);go_wp2;go_ret;exact⟨by rw[HO.o];rfl,below_drewN hb _⟩
 ·go_wp2;go_quiet(fail);go_wp2;go_ret;exact⟨by rw[HO.o];rfl,below_drewN hb _⟩
theorem Gv(args:Array Value)(w:World):(callFunc 137 args).run Tryz.prog w=.ok (.enter 137 args) w:=by kernel_rfl
end Go.Proofs.YtladegonienapaaGreatDoor
