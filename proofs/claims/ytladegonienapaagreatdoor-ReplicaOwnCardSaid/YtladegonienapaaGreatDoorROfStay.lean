/-
  Layer 8: the closure of right: whether an event stays.
-/
import Derived.Test.YtladegonienapaaGreatDoorRGrPlain
import Derived.Test.YtladegonienapaaGreatDoorRParts
set_option maxRecDepth 100000
set_option maxHeartbeats 16000000
namespace Go.Proofs.YtladegonienapaaGreatDoor
open Go.RowKit Go.Maps Go.Sort
/-!### a set's bytes, read -/
inductive lK (α : Type) where
  | ok (a : α) (r : List UInt8)
  | cO
  | form
def pq:Nat→Nat→Nat→List UInt8→lK Nat|0,_,_,_=>.form|_+1,_,_,[]=>.cO|f+1,i,acc,c::r=>if c.toNat=0∧0<i then .form else if c.toNat<128 then .ok (acc+c.toNat*128^i) r else pq f (i+1) (acc+(c.toNat%128)*128^i) r
def jC(l:List UInt8):lK Nat:=pq 6 0 0 l
def mG:List UInt8→lK (List UInt8)|[]=>.cO|c::r=>if r.length<c.toNat then .cO else if ae (r.take c.toNat)then .ok (r.take c.toNat) (r.drop c.toNat)else .form
def o7:Nat→Rg→List UInt8→lK Rg|0,rs,l=>.ok rs l|n+1,rs,l=>match jC l with|.cO=>.cO|.form=>.form|.ok gap l1=>if gap=0∧rs≠[]then .form else match jC l1 with|.cO=>.cO|.form=>.form|.ok many l2=>if many=0∨1099511627777<bN 1 rs+gap+many then .form else o7 n (rs++[(bN 1 rs+gap,bN 1 rs+gap+many)]) l2
def dM(l:List UInt8):lK Rg:=match jC l with|.cO=>.cO|.form=>.form|.ok n l1=>if n=0 then .form else o7 n [] l1
def dN(m:dV):List UInt8:=(m.getLast?.map (·.1)).getD []
def kH:Nat→dV→List UInt8→lK dV|0,m,l=>.ok m l|n+1,m,l=>match mG l with|.cO=>.cO|.form=>.form|.ok s l1=>if bytesBefore (dN m) s then(match dM l1 with|.cO=>.cO|.form=>.form|.ok rs l2=>kH n (m++[(s,rs)]) l2)else .form
def oF(b:List UInt8):lK dV:=match jC b with|.cO=>.cO|.form=>.form|.ok n l=>match kH n [] l with|.cO=>.cO|.form=>.form|.ok m r=>if r=[]then .ok m []else .form
theorem vw: ∀(f i acc n:Nat)(r:List UInt8),n<128^(f+1)→(n≠0∨i=0)→pq (f+1) i acc (bI n++r)=.ok (acc+n*128^i) r
 |f,i,acc,n,r,hn,h0=>by
  by_cases h:n<128
  ·rw[jR h];have e:(UInt8.ofNat n).toNat=n:=by simp;omega
   simp only[List.singleton_append,pq,e];rw[if_neg (by omega),if_pos h]
  ·rw[lT h];have e:(UInt8.ofNat (n%128+128)).toNat=n%128+128:=by simp;omega
   cases f with
    |zero=>omega
    |succ f=>
     simp only[List.cons_append];rw[pq];simp only[e];rw[if_neg (by omega),if_neg (by omega)];rw[vw f (i+1) _ (n/128) r (by rw[Nat.pow_succ]at hn;omega) (.inl (by omega))];congr 1;have e2:(n%128+128)%128=n%128:=by omega
     rw[e2,Nat.pow_succ];have e3:n*128^i=(n%128+128*(n/128))*128^i:=by rw[Nat.mod_add_div]
     rw[e3,Nat.add_mul,Nat.add_assoc];congr 2;rw[Nat.mul_comm (128^i) 128,←Nat.mul_assoc,Nat.mul_comm (n/128) 128]
theorem lS(n:Nat)(r:List UInt8)(h:n<4398046511104):jC (bI n++r)=.ok n r:=by unfold jC;rw[vw 5 0 0 n r (by simpa using h) (.inr rfl)];simp
theorem Cu: ∀(f i acc n:Nat)(l r:List UInt8),pq f i acc l=.ok n r→acc<128^i→n<128^(i+f)∧ ∃k,0<k∧k≤l.length∧r=l.drop k
 |0,_,_,_,_,_,h,_=>by simp[pq]at h
 |f+1,i,acc,n,[],r,h,_=>by simp[pq]at h
 |f+1,i,acc,n,c::l,r,h,ha=>by
  have hc:=c.toNat_lt;have hp:(128:Nat)^(i+1)=128^i*128:=Nat.pow_succ ..;have hm:128^(i+1)≤128^(i+(f+1)):=Nat.pow_le_pow_right (by decide) (by omega);simp only[pq]at h;split at h;·cases h
  split at h;·rename_i h2;injection h with h h';refine⟨?_,1,by omega,by simp,by rw[←h'];rfl⟩;have:c.toNat*128^i≤127*128^i:=Nat.mul_le_mul_right _ (by omega);omega
  ·have hb:acc+(c.toNat%128)*128^i<128^(i+1):=by have:c.toNat%128*128^i≤127*128^i:=Nat.mul_le_mul_right _ (by omega);omega
   obtain⟨h1,k,h2,h3,h4⟩:=Cu f (i+1) _ n l r h hb;exact⟨by rw[show i+(f+1)=i+1+f by omega];exact h1,k+1,by omega,by simp;omega,by rw[h4];rfl⟩
theorem iZ{l r:List UInt8}{n:Nat}(h:jC l=.ok n r):n<4398046511104∧ ∃k,0<k∧k≤l.length∧r=l.drop k:=by have:=Cu 6 0 0 n l r h (by decide);exact⟨by simpa using this.1,this.2⟩
theorem nT{l r:List UInt8}{n:Nat}(h:jC l=.ok n r):r.length<l.length:=by obtain⟨_,k,h1,h2,rfl⟩:=iZ h;rw[List.length_drop];omega
theorem FI(s r:List UInt8)(h:ae s=true):mG (UInt8.ofNat s.length::(s++r))=.ok s r:=by
 have hl:s.length≤24:=by unfold ae at h;simp at h;omega
 have e:(UInt8.ofNat s.length).toNat=s.length:=by simp;omega
 simp only[mG];rw[e,if_neg (by simp)];simp[h]
theorem Jh{l s r:List UInt8}(h:mG l=.ok s r):ae s=true∧ ∃k,0<k∧k≤l.length∧r=l.drop k:=by
 cases l with
  |nil=>simp[mG]at h
  |cons c t=>
   simp only[mG]at h;split at h;·cases h
   split at h;·rename_i h1 h2;injection h with h h';refine⟨by rw[←h];exact h2,c.toNat+1,by omega,by simp;omega,by rw[←h'];simp⟩
   ·cases h
theorem oC: ∀(e:Int)(rs:Rg),rs≠[]→ ∃r∈rs,bN e rs=r.2|_,[],h=>absurd rfl h|e,r::rs,_=>by cases rs with|nil=>exact⟨r,by simp,rfl⟩|cons q rs=>obtain⟨x,hx,h⟩:=oC r.2 (q::rs) (by simp);exact⟨x,by simp[List.mem_cons.1 hx],h⟩
theorem EB{rs:Rg}(h:RgOk rs): ∀r∈rs,r.2≤bN 1 rs:=by
 intro r hr;rcases List.eq_nil_or_concat rs with rfl|⟨t,x,rfl⟩;·simp at hr
 ·rw[List.concat_eq_append]at*;rw[jF];rcases List.mem_append.1 hr with hr|hr;·have:=(List.pairwise_append.1 h.up).2.2 r hr x (by simp);have:=(h.each x (by simp)).2.1;omega
  ·simp at hr;subst hr;exact Int.le_refl _
theorem sV{rs:Rg}(h:RgOk rs):1≤bN 1 rs:=by cases rs with|nil=>exact Int.le_refl _|cons r t=>obtain⟨x,hx,he⟩:=oC 1 (r::t) (by simp);rw[he];have:=h.each x hx;omega
theorem RgOk.snoc{rs:Rg}(h:RgOk rs){gap many:Nat}(h1: ¬(gap=0∧rs≠[]))(h2: ¬(many=0∨1099511627777<bN 1 rs+gap+many)):RgOk (rs++[(bN 1 rs+gap,bN 1 rs+gap+many)]):=by
 have hp:=sV h;refine⟨List.pairwise_append.2 ⟨h.up,by simp,fun a ha b hb=>?_⟩,fun r hr=>?_⟩;·simp at hb;subst hb;have:=EB h a ha;have:rs≠[]:=List.ne_nil_of_mem ha;have:gap≠0:=fun e=>h1 ⟨e,this⟩;simp only;omega
 ·rcases List.mem_append.1 hr with hr|hr;·exact h.each r hr
  ·simp at hr;subst hr;simp only;omega
theorem Cq: ∀(n:Nat)(rs out:Rg)(l r:List UInt8),RgOk rs→o7 n rs l=.ok out r→RgOk out∧out.length=rs.length+n∧out.length+r.length≤rs.length+l.length∧ ∃k,k≤l.length∧r=l.drop k
 |0,rs,out,l,r,h,he=>by simp only[o7]at he;injection he with h1 h2;subst h1 h2;exact⟨h,by simp,Nat.le_refl _,0,by omega,by simp⟩
 |n+1,rs,out,l,r,h,he=>by
  simp only[o7]at he;split at he;·cases he
  ·cases he
  rename_i gap l1 hg;split at he;·cases he
  rename_i hg0;split at he;·cases he
  ·cases he
  rename_i many l2 hm;split at he;·cases he
  rename_i hm0;obtain⟨h1,h2,h3,k,h4,h5⟩:=Cq n _ out l2 r (h.snoc hg0 hm0) he;obtain⟨_,k1,a1,a2,rfl⟩:=iZ hg;obtain⟨_,k2,b1,b2,rfl⟩:=iZ hm;simp only[List.length_append,List.length_cons,List.length_nil,List.length_drop]at h2 h3 h4 b2;exact⟨h1,by omega,by omega,k1+(k2+k),by omega,by rw[h5,List.drop_drop,List.drop_drop]⟩
theorem yx: ∀(n:Nat)(done rs:Rg)(r:List UInt8),n=rs.length→RgOk (done++rs)→o7 n done (encR (bN 1 done) rs++r)=.ok (done++rs) r
 |0,done,rs,r,hn,_=>by have:rs=[]:=List.length_eq_zero_iff.1 hn.symm;subst this;simp[o7,encR]
 |n+1,done,rs,r,hn,h=>by
  cases rs with
   |nil=>simp at hn
   |cons x rs=>
    have hx:=h.each x (by simp);have hd:RgOk done:=⟨(List.pairwise_append.1 h.up).1,fun r hr=>h.each r (by simp[hr])⟩;have hp:=sV hd;have hle:bN 1 done≤x.1∧(done≠[]→bN 1 done<x.1):=by
     by_cases hne:done=[];·subst hne;exact⟨hx.1,fun h=>absurd rfl h⟩
     ·obtain⟨q,hq,he⟩:=oC 1 done hne;have:=(List.pairwise_append.1 h.up).2.2 q hq x (by simp);rw[he];exact⟨by omega,fun _=>this⟩
    have e0:encR (bN 1 done) (x::rs)++r=bI (x.1-bN 1 done).toNat++(bI (x.2-x.1).toNat++(encR x.2 rs++r)):=by simp[encR]
    rw[o7,e0,lS _ _ (by omega)];simp only;rw[if_neg (by rintro⟨h1,h2⟩;have:=hle.2 h2;omega),lS _ _ (by omega)];simp only;rw[if_neg (by omega)];have e1:bN 1 done+((x.1-bN 1 done).toNat:Int)=x.1:=by omega
    have e2:x.1+((x.2-x.1).toNat:Int)=x.2:=by omega
    rw[e1,e2];have ih:=yx n (done++[(x.1,x.2)]) rs r (by simp at hn;omega) (by simpa using h);rw[jF]at ih;rw[ih];simp
theorem Aw{rs:Rg}(h:RgOk rs)(hne:rs≠[])(hl:rs.length<4398046511104)(r:List UInt8):dM (bI rs.length++(encR 1 rs++r))=.ok rs r:=by unfold dM;rw[lS _ _ hl];simp only;rw[if_neg (by simpa using hne)];exact yx rs.length [] rs r rfl h
theorem DW{l r:List UInt8}{rs:Rg}(h:dM l=.ok rs r):RgOk rs∧rs≠[]∧rs.length+r.length<l.length∧ ∃k,0<k∧k≤l.length∧r=l.drop k:=by
 unfold dM at h;split at h;·cases h
 ·cases h
 rename_i n l1 hn;split at h;·cases h
 rename_i h0;obtain⟨h1,h2,h3,k,h4,h5⟩:=Cq n [] rs l1 r RgOk.nil h;obtain⟨_,k1,a1,a2,rfl⟩:=iZ hn;simp only[List.length_nil,List.length_drop]at h2 h3 h4;refine⟨h1,fun e=>?_,by omega,k1+k,by omega,by omega,by rw[h5,List.drop_drop]⟩;rw[e]at h2;simp at h2;omega
theorem lv(m:dV)(p:List UInt8×Rg):dN (m++[p])=p.1:=by unfold dN;simp
theorem zI{m:dV}(h:bV m){s:List UInt8}(hs:bytesBefore (dN m) s=true): ∀p∈m,bytesBefore p.1 s=true:=by
 intro p hp;rcases List.eq_nil_or_concat m with rfl|⟨t,x,rfl⟩;·simp at hp
 ·rw[List.concat_eq_append]at*;rw[lv]at hs;rcases List.mem_append.1 hp with hp|hp;·exact iI ((List.pairwise_append.1 h.up).2.2 p hp x (by simp)) hs
  ·simp at hp;subst hp;exact hs
theorem bV.snoc{m:dV}(h:bV m){s:List UInt8}{rs:Rg}(hs:bytesBefore (dN m) s=true)(hn:ae s=true)(hr:RgOk rs)(hne:rs≠[]):bV (m++[(s,rs)]):=⟨List.pairwise_append.2 ⟨h.up,by simp,fun a ha b hb=>by simp at hb;subst hb;exact zI h hs a ha⟩,fun p hp=>by
 rcases List.mem_append.1 hp with hp|hp;·exact h.each p hp
 ·simp at hp;subst hp;exact⟨hn,hr,hne⟩⟩
theorem Ht{done m:dV}{p:List UInt8×Rg}(h:bV (done++p::m)):bytesBefore (dN done) p.1=true:=by
 rcases List.eq_nil_or_concat done with rfl|⟨t,x,rfl⟩;·have hn:=(h.each p (by simp)).1;unfold ae at hn;simp only[Bool.and_eq_true,decide_eq_true_eq]at hn;cases hp:p.1 with|nil=>rw[hp]at hn;simp at hn|cons c t=>rfl
 ·rw[List.concat_eq_append]at*;rw[lv];exact(List.pairwise_append.1 h.up).2.2 x (by simp) p (by simp)
theorem uU: ∀(n:Nat)(done m:dV)(r:List UInt8),n=m.length→bV (done++m)→(∀p∈m,p.2.length<4398046511104)→kH n done (m.flatMap encS++r)=.ok (done++m) r
 |0,done,m,r,hn,_,_=>by have:m=[]:=List.length_eq_zero_iff.1 hn.symm;subst this;simp[kH]
 |n+1,done,m,r,hn,h,hl=>by
  cases m with
   |nil=>simp at hn
   |cons p m=>
    obtain⟨h1,h2,h3⟩:=h.each p (by simp);have e0:(p::m).flatMap encS++r=UInt8.ofNat p.1.length::(p.1++(bI p.2.length++(encR 1 p.2++(m.flatMap encS++r)))):=by simp[encS]
    rw[kH,e0,FI _ _ h1];simp only;rw[if_pos (Ht h),Aw h2 h3 (hl p (by simp))];simp only;rw[uU n (done++[(p.1,p.2)]) m r (by simp at hn;omega) (by simpa using h) (fun q hq=>hl q (by simp[hq]))];simp
theorem GZ{m:dV}(h:bV m)(hm:m.length<4398046511104)(hl: ∀p∈m,p.2.length<4398046511104):oF (pM m)=.ok m []:=by unfold oF pM;rw[lS _ _ hm];simp only;have:=uU m.length [] m [] rfl h hl;rw[List.append_nil]at this;rw[this];simp
structure uh(l:List (List UInt8)):Prop where
 name: ∀j(h:j<l.length),ae l[j]=true
 up: ∀j(h:j<l.length),0<j→bytesBefore (l[j-1]'(by omega)) l[j]=true
def eP(gone:List (List UInt8))(e:Ev):Bool:=!decide (e.per∈gone)||(e.kind==14)
def oU(gone:List (List UInt8))(had:dV)(l:List Ev)(k:Nat)(e:Ev):Bool:=aB e&&!decide (aO e∈(l.take k).map aO)&&eP gone e&&hadB had e.src e.num&&(decide (k=0)||(lq e (l.getD (k-1) e)==1))&&(!(e.kind==14)||decide (e.per∈gone))
def Cx(gone:List (List UInt8))(l:List Ev)(k:Nat)(e:Ev):Bool:=aB e&&!decide (aO e∈(l.take k).map aO)&&eP gone e
structure dU(gone:List (List UInt8))(had:dV)(taken late:List Ev):Prop where
 len:taken.length≤1048576
 taken: ∀k(h:k<taken.length),oU gone had taken k taken[k]=true
 late: ∀k(h:k<late.length),Cx gone late k late[k]=true
theorem Hg{x y:Int}:0<Lib.compareInt x y↔Lib.compareInt x y=1:=by unfold Lib.compareInt;split<;>(try split)<;>omega
theorem Hl: ∀(a b:List UInt8),0<Lib.compareBytes a b↔Lib.compareBytes a b=1
 |[],[]=>by simp[Lib.compareBytes]
 |[],_::_=>by simp[Lib.compareBytes]
 |_::_,[]=>by simp[Lib.compareBytes]
 |x::a,y::b=>by
  have ih:=Hl a b;unfold Lib.compareBytes;split;·omega
  ·split;·omega
   ·exact ih
theorem zA{a b:Ev}:0<lq a b↔lq a b=1:=by
 unfold lq D9;split;·exact Hg
 ·split;·exact Hl _ _
  ·exact Hg
theorem yN{e:Ev}(h:aB e=true)(hk:e.kind=14):qZ e=true:=by unfold aB eO at h;unfold qZ;rw[hk]at h;simp only[Bool.and_eq_true]at h⊢;have h2:=h.2;simp at h2;simp[hk,h.1,h2]
theorem wT{e:Ev}(h:qZ e=true):e.kind=14∧ae e.per=true:=by unfold qZ at h;simp only[Bool.and_eq_true,beq_iff_eq]at h;exact⟨h.1.1.1.1.1,h.1.1.1.2⟩
structure eX(x:az):Prop where
 Gg:(x.late.map aO).Nodup
 name: ∀p∈x.gone,ae p=true
theorem eX.new(ag idle:Int):eX (az.new ag idle):=⟨by simp[az.new],fun p hp=>by simp[az.new]at hp⟩
theorem eX.hear{x:az}(h:eX x)(e:Ev)(now:Int):eX (x.hear e now):=⟨h.Gg,h.name⟩
theorem eX.drop{x:az}(h:eX x)(p:Ev→Bool):eX (x.drop p):=⟨(List.filter_sublist.map aO).nodup h.Gg,h.name⟩
theorem eX.took{x:az}{e:Ev}(h:eX x)(hm:aB e=true):eX (x.took e):=by
 unfold az.took;split
 ·rename_i hk;refine eX.drop (x:={x.put e with gone:=e.per::x.gone}) ⟨h.Gg,fun p hp=>?_⟩ _;rcases List.mem_cons.1 hp with rfl|hp;·exact(wT (yN hm hk)).2
  ·exact h.name p hp
 ·exact⟨h.Gg,h.name⟩
theorem eX.admits{x:az}(h:eX x)(e:Ev):eX (x.admits e):=by
 unfold az.admits;split;·exact h
 ·rename_i hr;exact(h.hear e _).took (kM (show x.refuses e=false by simpa using hr)).1
theorem bA.right{x:az}(h:bA x)(h2:eX x)(hl:x.taken.length≤1048576):dU x.gone x.had x.taken x.late:=by
 refine⟨hl,fun k hk=>?_,fun k hk=>?_⟩
 ·have hm:x.taken[k]∈x.taken:=List.getElem_mem hk;unfold oU;rw[h.may _ (.inl hm),h.kept _ hm];have h1:aO x.taken[k]∉(x.taken.take k).map aO:=fun hc=>by obtain⟨a,ha,he⟩:=List.mem_map.1 hc;obtain⟨i,hi,rfl⟩:=List.getElem_of_mem ha;rw[List.length_take]at hi;rw[List.getElem_take]at he;have:=(List.pairwise_iff_getElem.1 h.ids) i k (by simp;omega) (by simp;omega) (by omega);rw[List.getElem_map,List.getElem_map]at this;exact this he
  have h2:eP x.gone x.taken[k]=true:=by
   unfold eP;by_cases hg:x.taken[k].per∈x.gone;·have:=h.inv.stay _ (.inl hm) hg;simp[this]
   ·simp[hg]
  have h3:(decide (k=0)||(lq x.taken[k] (x.taken.getD (k-1) x.taken[k])==1))=true:=by
   by_cases h0:k=0;·simp[h0]
   ·have hk1:k-1<x.taken.length:=by omega
    have e1:x.taken.getD (k-1) x.taken[k]=x.taken[k-1]:=by rw[List.getD_eq_getElem?_getD,List.getElem?_eq_getElem hk1];rfl
    rw[e1];have hle:=(List.pairwise_iff_getElem.1 h.sorted) (k-1) k hk1 hk (by omega);have hne:=(List.pairwise_iff_getElem.1 h.ids) (k-1) k (by simp;omega) (by simp;omega) (by omega);rw[List.getElem_map,List.getElem_map]at hne;have:gH x.taken[k-1] x.taken[k]:=by
     by_cases hlt:gH x.taken[k-1] x.taken[k];·exact hlt
     ·rcases gH.total hlt with h'|⟨_,e2,e3⟩;·exact absurd h' hle
      ·exact absurd (by unfold aO;rw[e2,e3]) hne
    have:=zA.1 (kZ.2 this);simp[this]
  have h4:(!(x.taken[k].kind==14)||decide (x.taken[k].per∈x.gone))=true:=by
   by_cases h14:x.taken[k].kind=14;·have:=h.inv.JS _ hm h14;simp[this]
   ·simp[h14]
  rw[h2,h3,h4];simpa using h1
 ·have hm:x.late[k]∈x.late:=List.getElem_mem hk;unfold Cx;rw[h.may _ (.inr hm)];have h1:aO x.late[k]∉(x.late.take k).map aO:=fun hc=>by obtain⟨a,ha,he⟩:=List.mem_map.1 hc;obtain⟨i,hi,rfl⟩:=List.getElem_of_mem ha;rw[List.length_take]at hi;rw[List.getElem_take]at he;have:=(List.pairwise_iff_getElem.1 h2.Gg) i k (by simp;omega) (by simp;omega) (by omega);rw[List.getElem_map,List.getElem_map]at this;exact this he
  have h3:eP x.gone x.late[k]=true:=by
   unfold eP;by_cases hg:x.late[k].per∈x.gone;·have:=h.inv.stay _ (.inr hm) hg;simp[this]
   ·simp[hg]
  rw[h3];simpa using h1
theorem JQ{x:az}(h:eX x){r:List (List UInt8)}(hr:jq r x.gone):uh r:=⟨fun j hj=>h.name _ ((hr.2 _).1 (List.getElem_mem hj)),fun j hj h0=>by
 have:=(List.pairwise_iff_getElem.1 hr.1) (j-1) j (by omega) hj (by omega);rcases lu (fun e=>pE _ (e▸this):r[j-1]'(by omega)≠r[j])with h'|h';·exact h'
 ·exact absurd (K7 h') (fun h2=>Gc this h2)⟩
theorem uT(w:World)(g bi bg n:Nat)(gone:List (List UInt8))(e:Ev)(hs:e.small)(hc:w.cell? ⟨g,0,none⟩=some (.pointer (some ⟨bi,0,none⟩)))(hb5:w.cell? ⟨bi,5,none⟩=some (.map (some bg)))(hset:dJ w bg n gone):Calls Tryz.prog 137 #[e.agg,.pointer (some ⟨g,0,none⟩)] w (Says (eP gone e) w):=by
 obtain⟨s1,s2,s3,s4⟩:=hs;have hg:g<w.heap.size:=World.block_lt_of_cell? w ⟨g,0,none⟩ hc;have hbi:bi<w.heap.size:=World.block_lt_of_cell? w ⟨bi,5,none⟩ hb5;have hc':(w.alloc (aj e)).cell? ⟨g,0,none⟩=_:=(World.cell?_alloc_lt w (aj e) _ hg).trans hc;have Ww:(w.alloc (aj e)).cell? ⟨bi,5,none⟩=_:=(World.cell?_alloc_lt w (aj e) _ hbi).trans hb5;have hl: ∀k,(Instr.lookup 77 (.map (some bg)) (.string ⟨e.per.toArray⟩) false).run Tryz.prog ((w.alloc (aj e)).drewN k)=.ok (.bool (decide (e.per∈gone))) ((w.alloc (aj e)).drewN k):=fun k=>((hset.alloc (aj e)).drewN k).look e.per (by unfold maxLen;omega);have hb:Below w.heap.size w (w.alloc (aj e)):=(Below.refl _ _).alloc (Nat.le_refl _) _;have HO:=qS (eP gone e=(!decide (e.per∈gone)||(e.kind==14))) (rfl);obtain⟨e0,e1,e2,e3,e4,e5,e6,e7⟩:=dK.new w e;clear hset hc hb5;unfold Ev.agg;generalize hd:decide (e.per∈gone)=d at*;clear hd;go_enter Tryz.func137,Tryz.ntmps137;cases d;·go_wp2;go_quiet(fail);go_wp2;go_ret;exact⟨by rw[HO.o];rfl,below_drewN hb _⟩
 ·go_wp2;go_quiet(fail);go_wp2;go_ret;exact⟨by rw[HO.o];rfl,below_drewN hb _⟩
theorem BF(args:Array Value)(w:World):(callFunc 137 args).run Tryz.prog w=.ok (.enter 137 args) w:=by kernel_rfl
end Go.Proofs.YtladegonienapaaGreatDoor
