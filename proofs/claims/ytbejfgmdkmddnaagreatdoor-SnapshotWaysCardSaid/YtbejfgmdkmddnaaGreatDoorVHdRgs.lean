/-
  Layer 7: ranges that bytes begin with.
-/
import Derived.Test.YtbejfgmdkmddnaaGreatDoorVParts
set_option maxRecDepth 100000
set_option maxHeartbeats 16000000
namespace Go.Proofs.YtbejfgmdkmddnaaGreatDoor
open Go.RowKit Go.Maps Go.Sort
/-!### a set's bytes, read -/
inductive oJ (α : Type) where
  | ok (a : α) (r : List UInt8)
  | bz
  | form
def pz:Nat→Nat→Nat→List UInt8→oJ Nat|0,_,_,_=>.form|_+1,_,_,[]=>.bz|f+1,i,acc,c::r=>if c.toNat=0∧0<i then .form else if c.toNat<128 then .ok (acc+c.toNat*128^i) r else pz f (i+1) (acc+(c.toNat%128)*128^i) r
def jM(l:List UInt8):oJ Nat:=pz 6 0 0 l
def qZ:List UInt8→oJ (List UInt8)|[]=>.bz|c::r=>if r.length<c.toNat then .bz else if ag (r.take c.toNat)then .ok (r.take c.toNat) (r.drop c.toNat)else .form
def uM:Nat→Rg→List UInt8→oJ Rg|0,rs,l=>.ok rs l|n+1,rs,l=>match jM l with|.bz=>.bz|.form=>.form|.ok gap l1=>if gap=0∧rs≠[]then .form else match jM l1 with|.bz=>.bz|.form=>.form|.ok many l2=>if many=0∨1099511627777<dX 1 rs+gap+many then .form else uM n (rs++[(dX 1 rs+gap,dX 1 rs+gap+many)]) l2
def fZ(l:List UInt8):oJ Rg:=match jM l with|.bz=>.bz|.form=>.form|.ok n l1=>if n=0 then .form else uM n [] l1
def gq(m:eZ):List UInt8:=(m.getLast?.map (·.1)).getD []
def oU:Nat→eZ→List UInt8→oJ eZ|0,m,l=>.ok m l|n+1,m,l=>match qZ l with|.bz=>.bz|.form=>.form|.ok s l1=>if bytesBefore (gq m) s then(match fZ l1 with|.bz=>.bz|.form=>.form|.ok rs l2=>oU n (m++[(s,rs)]) l2)else .form
def uf(b:List UInt8):oJ eZ:=match jM b with|.bz=>.bz|.form=>.form|.ok n l=>match oU n [] l with|.bz=>.bz|.form=>.form|.ok m r=>if r=[]then .ok m []else .form
theorem Be: ∀(f i acc n:Nat)(r:List UInt8),n<128^(f+1)→(n≠0∨i=0)→pz (f+1) i acc (aJ n++r)=.ok (acc+n*128^i) r
 |f,i,acc,n,r,hn,h0=>by
  by_cases h:n<128
  ·rw[jK h];have e:(UInt8.ofNat n).toNat=n:=by simp;omega
   simp only[List.singleton_append,pz,e];rw[if_neg (by omega),if_pos h]
  ·rw[ma h];have e:(UInt8.ofNat (n%128+128)).toNat=n%128+128:=by simp;omega
   cases f with
    |zero=>omega
    |succ f=>
     simp only[List.cons_append];rw[pz];simp only[e];rw[if_neg (by omega),if_neg (by omega)];rw[Be f (i+1) _ (n/128) r (by rw[Nat.pow_succ]at hn;omega) (.inl (by omega))];congr 1;have e2:(n%128+128)%128=n%128:=by omega
     rw[e2,Nat.pow_succ];have e3:n*128^i=(n%128+128*(n/128))*128^i:=by rw[Nat.mod_add_div]
     rw[e3,Nat.add_mul,Nat.add_assoc];congr 2;rw[Nat.mul_comm (128^i) 128,←Nat.mul_assoc,Nat.mul_comm (n/128) 128]
theorem mW(n:Nat)(r:List UInt8)(h:n<4398046511104):jM (aJ n++r)=.ok n r:=by unfold jM;rw[Be 5 0 0 n r (by simpa using h) (.inr rfl)];simp
theorem J2: ∀(f i acc n:Nat)(l r:List UInt8),pz f i acc l=.ok n r→acc<128^i→n<128^(i+f)∧ ∃k,0<k∧k≤l.length∧r=l.drop k
 |0,_,_,_,_,_,h,_=>by simp[pz]at h
 |f+1,i,acc,n,[],r,h,_=>by simp[pz]at h
 |f+1,i,acc,n,c::l,r,h,ha=>by
  have hc:=c.toNat_lt;have hp:(128:Nat)^(i+1)=128^i*128:=Nat.pow_succ ..;have hm:128^(i+1)≤128^(i+(f+1)):=Nat.pow_le_pow_right (by decide) (by omega);simp only[pz]at h;split at h;·cases h
  split at h;·rename_i h2;injection h with h h';refine⟨?_,1,by omega,by simp,by rw[←h'];rfl⟩;have:c.toNat*128^i≤127*128^i:=Nat.mul_le_mul_right _ (by omega);omega
  ·have hb:acc+(c.toNat%128)*128^i<128^(i+1):=by have:c.toNat%128*128^i≤127*128^i:=Nat.mul_le_mul_right _ (by omega);omega
   obtain⟨h1,k,h2,h3,h4⟩:=J2 f (i+1) _ n l r h hb;exact⟨by rw[show i+(f+1)=i+1+f by omega];exact h1,k+1,by omega,by simp;omega,by rw[h4];rfl⟩
theorem kz{l r:List UInt8}{n:Nat}(h:jM l=.ok n r):n<4398046511104∧ ∃k,0<k∧k≤l.length∧r=l.drop k:=by have:=J2 6 0 0 n l r h (by decide);exact⟨by simpa using this.1,this.2⟩
theorem tF{l r:List UInt8}{n:Nat}(h:jM l=.ok n r):r.length<l.length:=by obtain⟨_,k,h1,h2,rfl⟩:=kz h;rw[List.length_drop];omega
theorem NQ(s r:List UInt8)(h:ag s=true):qZ (UInt8.ofNat s.length::(s++r))=.ok s r:=by
 have hl:s.length≤24:=by unfold ag at h;simp at h;omega
 have e:(UInt8.ofNat s.length).toNat=s.length:=by simp;omega
 simp only[qZ];rw[e,if_neg (by simp)];simp[h]
theorem RA{l s r:List UInt8}(h:qZ l=.ok s r):ag s=true∧ ∃k,0<k∧k≤l.length∧r=l.drop k:=by
 cases l with
  |nil=>simp[qZ]at h
  |cons c t=>
   simp only[qZ]at h;split at h;·cases h
   split at h;·rename_i h1 h2;injection h with h h';refine⟨by rw[←h];exact h2,c.toNat+1,by omega,by simp;omega,by rw[←h'];simp⟩
   ·cases h
theorem tV: ∀(e:Int)(rs:Rg),rs≠[]→ ∃r∈rs,dX e rs=r.2|_,[],h=>absurd rfl h|e,r::rs,_=>by cases rs with|nil=>exact⟨r,by simp,rfl⟩|cons q rs=>obtain⟨x,hx,h⟩:=tV r.2 (q::rs) (by simp);exact⟨x,by simp[List.mem_cons.1 hx],h⟩
theorem MK{rs:Rg}(h:RgOk rs): ∀r∈rs,r.2≤dX 1 rs:=by
 intro r hr;rcases List.eq_nil_or_concat rs with rfl|⟨t,x,rfl⟩;·simp at hr
 ·rw[List.concat_eq_append]at*;rw[nz];rcases List.mem_append.1 hr with hr|hr;·have:=(List.pairwise_append.1 h.up).2.2 r hr x (by simp);have:=(h.each x (by simp)).2.1;omega
  ·simp at hr;subst hr;exact Int.le_refl _
theorem y8{rs:Rg}(h:RgOk rs):1≤dX 1 rs:=by cases rs with|nil=>exact Int.le_refl _|cons r t=>obtain⟨x,hx,he⟩:=tV 1 (r::t) (by simp);rw[he];have:=h.each x hx;omega
theorem RgOk.snoc{rs:Rg}(h:RgOk rs){gap many:Nat}(h1: ¬(gap=0∧rs≠[]))(h2: ¬(many=0∨1099511627777<dX 1 rs+gap+many)):RgOk (rs++[(dX 1 rs+gap,dX 1 rs+gap+many)]):=by
 have hp:=y8 h;refine⟨List.pairwise_append.2 ⟨h.up,by simp,fun a ha b hb=>?_⟩,fun r hr=>?_⟩;·simp at hb;subst hb;have:=MK h a ha;have:rs≠[]:=List.ne_nil_of_mem ha;have:gap≠0:=fun e=>h1 ⟨e,this⟩;simp only;omega
 ·rcases List.mem_append.1 hr with hr|hr;·exact h.each r hr
  ·simp at hr;subst hr;simp only;omega
theorem JV: ∀(n:Nat)(rs out:Rg)(l r:List UInt8),RgOk rs→uM n rs l=.ok out r→RgOk out∧out.length=rs.length+n∧out.length+r.length≤rs.length+l.length∧ ∃k,k≤l.length∧r=l.drop k
 |0,rs,out,l,r,h,he=>by simp only[uM]at he;injection he with h1 h2;subst h1 h2;exact⟨h,by simp,Nat.le_refl _,0,by omega,by simp⟩
 |n+1,rs,out,l,r,h,he=>by
  simp only[uM]at he;split at he;·cases he
  ·cases he
  rename_i gap l1 hg;split at he;·cases he
  rename_i hg0;split at he;·cases he
  ·cases he
  rename_i many l2 hm;split at he;·cases he
  rename_i hm0;obtain⟨h1,h2,h3,k,h4,h5⟩:=JV n _ out l2 r (h.snoc hg0 hm0) he;obtain⟨_,k1,a1,a2,rfl⟩:=kz hg;obtain⟨_,k2,b1,b2,rfl⟩:=kz hm;simp only[List.length_append,List.length_cons,List.length_nil,List.length_drop]at h2 h3 h4 b2;exact⟨h1,by omega,by omega,k1+(k2+k),by omega,by rw[h5,List.drop_drop,List.drop_drop]⟩
theorem EA: ∀(n:Nat)(done rs:Rg)(r:List UInt8),n=rs.length→RgOk (done++rs)→uM n done (encR (dX 1 done) rs++r)=.ok (done++rs) r
 |0,done,rs,r,hn,_=>by have:rs=[]:=List.length_eq_zero_iff.1 hn.symm;subst this;simp[uM,encR]
 |n+1,done,rs,r,hn,h=>by
  cases rs with
   |nil=>simp at hn
   |cons x rs=>
    have hx:=h.each x (by simp);have hd:RgOk done:=⟨(List.pairwise_append.1 h.up).1,fun r hr=>h.each r (by simp[hr])⟩;have hp:=y8 hd;have hle:dX 1 done≤x.1∧(done≠[]→dX 1 done<x.1):=by
     by_cases hne:done=[];·subst hne;exact⟨hx.1,fun h=>absurd rfl h⟩
     ·obtain⟨q,hq,he⟩:=tV 1 done hne;have:=(List.pairwise_append.1 h.up).2.2 q hq x (by simp);rw[he];exact⟨by omega,fun _=>this⟩
    have e0:encR (dX 1 done) (x::rs)++r=aJ (x.1-dX 1 done).toNat++(aJ (x.2-x.1).toNat++(encR x.2 rs++r)):=by simp[encR]
    rw[uM,e0,mW _ _ (by omega)];simp only;rw[if_neg (by rintro⟨h1,h2⟩;have:=hle.2 h2;omega),mW _ _ (by omega)];simp only;rw[if_neg (by omega)];have e1:dX 1 done+((x.1-dX 1 done).toNat:Int)=x.1:=by omega
    have e2:x.1+((x.2-x.1).toNat:Int)=x.2:=by omega
    rw[e1,e2];have ih:=EA n (done++[(x.1,x.2)]) rs r (by simp at hn;omega) (by simpa using h);rw[nz]at ih;rw[ih];simp
theorem Hz{rs:Rg}(h:RgOk rs)(hne:rs≠[])(hl:rs.length<4398046511104)(r:List UInt8):fZ (aJ rs.length++(encR 1 rs++r))=.ok rs r:=by unfold fZ;rw[mW _ _ hl];simp only;rw[if_neg (by simpa using hne)];exact EA rs.length [] rs r rfl h
theorem LB{l r:List UInt8}{rs:Rg}(h:fZ l=.ok rs r):RgOk rs∧rs≠[]∧rs.length+r.length<l.length∧ ∃k,0<k∧k≤l.length∧r=l.drop k:=by
 unfold fZ at h;split at h;·cases h
 ·cases h
 rename_i n l1 hn;split at h;·cases h
 rename_i h0;obtain⟨h1,h2,h3,k,h4,h5⟩:=JV n [] rs l1 r RgOk.nil h;obtain⟨_,k1,a1,a2,rfl⟩:=kz hn;simp only[List.length_nil,List.length_drop]at h2 h3 h4;refine⟨h1,fun e=>?_,by omega,k1+k,by omega,by omega,by rw[h5,List.drop_drop]⟩;rw[e]at h2;simp at h2;omega
theorem pW(m:eZ)(p:List UInt8×Rg):gq (m++[p])=p.1:=by unfold gq;simp
theorem Gh{m:eZ}(h:dJ m){s:List UInt8}(hs:bytesBefore (gq m) s=true): ∀p∈m,bytesBefore p.1 s=true:=by
 intro p hp;rcases List.eq_nil_or_concat m with rfl|⟨t,x,rfl⟩;·simp at hp
 ·rw[List.concat_eq_append]at*;rw[pW]at hs;rcases List.mem_append.1 hp with hp|hp;·exact gQ ((List.pairwise_append.1 h.up).2.2 p hp x (by simp)) hs
  ·simp at hp;subst hp;exact hs
theorem dJ.snoc{m:eZ}(h:dJ m){s:List UInt8}{rs:Rg}(hs:bytesBefore (gq m) s=true)(hn:ag s=true)(hr:RgOk rs)(hne:rs≠[]):dJ (m++[(s,rs)]):=⟨List.pairwise_append.2 ⟨h.up,by simp,fun a ha b hb=>by simp at hb;subst hb;exact Gh h hs a ha⟩,fun p hp=>by
 rcases List.mem_append.1 hp with hp|hp;·exact h.each p hp
 ·simp at hp;subst hp;exact⟨hn,hr,hne⟩⟩
theorem PZ{done m:eZ}{p:List UInt8×Rg}(h:dJ (done++p::m)):bytesBefore (gq done) p.1=true:=by
 rcases List.eq_nil_or_concat done with rfl|⟨t,x,rfl⟩;·have hn:=(h.each p (by simp)).1;unfold ag at hn;simp only[Bool.and_eq_true,decide_eq_true_eq]at hn;cases hp:p.1 with|nil=>rw[hp]at hn;simp at hn|cons c t=>rfl
 ·rw[List.concat_eq_append]at*;rw[pW];exact(List.pairwise_append.1 h.up).2.2 x (by simp) p (by simp)
theorem AJ: ∀(n:Nat)(done m:eZ)(r:List UInt8),n=m.length→dJ (done++m)→(∀p∈m,p.2.length<4398046511104)→oU n done (m.flatMap encS++r)=.ok (done++m) r
 |0,done,m,r,hn,_,_=>by have:m=[]:=List.length_eq_zero_iff.1 hn.symm;subst this;simp[oU]
 |n+1,done,m,r,hn,h,hl=>by
  cases m with
   |nil=>simp at hn
   |cons p m=>
    obtain⟨h1,h2,h3⟩:=h.each p (by simp);have e0:(p::m).flatMap encS++r=UInt8.ofNat p.1.length::(p.1++(aJ p.2.length++(encR 1 p.2++(m.flatMap encS++r)))):=by simp[encS]
    rw[oU,e0,NQ _ _ h1];simp only;rw[if_pos (PZ h),Hz h2 h3 (hl p (by simp))];simp only;rw[AJ n (done++[(p.1,p.2)]) m r (by simp at hn;omega) (by simpa using h) (fun q hq=>hl q (by simp[hq]))];simp
theorem PH{m:eZ}(h:dJ m)(hm:m.length<4398046511104)(hl: ∀p∈m,p.2.length<4398046511104):uf (bV m)=.ok m []:=by unfold uf bV;rw[mW _ _ hm];simp only;have:=AJ m.length [] m [] rfl h hl;rw[List.append_nil]at this;rw[this];simp
structure zC(l:List (List UInt8)):Prop where
 name: ∀j(h:j<l.length),ag l[j]=true
 up: ∀j(h:j<l.length),0<j→bytesBefore (l[j-1]'(by omega)) l[j]=true
def iC(gone:List (List UInt8))(e:Ev):Bool:=!decide (e.per∈gone)||(e.kind==14)
def uB(gone:List (List UInt8))(had:eZ)(l:List Ev)(k:Nat)(e:Ev):Bool:=bA e&&!decide (bB e∈(l.take k).map bB)&&iC gone e&&hadB had e.src e.num&&(decide (k=0)||(pR e (l.getD (k-1) e)==1))&&(!(e.kind==14)||decide (e.per∈gone))
def J4(gone:List (List UInt8))(l:List Ev)(k:Nat)(e:Ev):Bool:=bA e&&!decide (bB e∈(l.take k).map bB)&&iC gone e
structure gD(gone:List (List UInt8))(had:eZ)(taken late:List Ev):Prop where
 len:taken.length≤1048576
 taken: ∀k(h:k<taken.length),uB gone had taken k taken[k]=true
 late: ∀k(h:k<late.length),J4 gone late k late[k]=true
theorem PT{x y:Int}:0<Lib.compareInt x y↔Lib.compareInt x y=1:=by unfold Lib.compareInt;split<;>(try split)<;>omega
theorem PU: ∀(a b:List UInt8),0<Lib.compareBytes a b↔Lib.compareBytes a b=1
 |[],[]=>by simp[Lib.compareBytes]
 |[],_::_=>by simp[Lib.compareBytes]
 |_::_,[]=>by simp[Lib.compareBytes]
 |x::a,y::b=>by
  have ih:=PU a b;unfold Lib.compareBytes;split;·omega
  ·split;·omega
   ·exact ih
theorem F6{a b:Ev}:0<pR a b↔pR a b=1:=by
 unfold pR LJ;split;·exact PT
 ·split;·exact PU _ _
  ·exact PT
theorem EW{e:Ev}(h:bA e=true)(hk:e.kind=14):xD e=true:=by unfold bA iy at h;unfold xD;rw[hk]at h;simp only[Bool.and_eq_true]at h⊢;have h2:=h.2;simp at h2;simp[hk,h.1,h2]
theorem CP{e:Ev}(h:xD e=true):e.kind=14∧ag e.per=true:=by unfold xD at h;simp only[Bool.and_eq_true,beq_iff_eq]at h;exact⟨h.1.1.1.1.1,h.1.1.1.2⟩
structure dI(x:ay):Prop where
 Iq:(x.late.map bB).Nodup
 name: ∀p∈x.gone,ag p=true
theorem dI.new(aa idle:Int):dI (ay.new aa idle):=⟨by simp[ay.new],fun p hp=>by simp[ay.new]at hp⟩
theorem dI.tick{x:ay}(h:dI x)(now:Int):dI (x.tick now):=⟨h.Iq,h.name⟩
theorem dI.hear{x:ay}(h:dI x)(e:Ev)(now:Int):dI (x.hear e now):=⟨h.Iq,h.name⟩
theorem dI.drop{x:ay}(h:dI x)(p:Ev→Bool):dI (x.drop p):=⟨(List.filter_sublist.map bB).nodup h.Iq,h.name⟩
theorem dI.took{x:ay}{e:Ev}(h:dI x)(hm:bA e=true):dI (x.took e):=by
 unfold ay.took;split
 ·rename_i hk;refine dI.drop (x:={x.put e with gone:=e.per::x.gone}) ⟨h.Iq,fun p hp=>?_⟩ _;rcases List.mem_cons.1 hp with rfl|hp;·exact(CP (EW hm hk)).2
  ·exact h.name p hp
 ·exact⟨h.Iq,h.name⟩
theorem dI.bu{x:ay}(h:dI x)(e:Ev):dI (x.bu e):=by
 unfold ay.bu;split;·exact h
 ·rename_i hn;refine⟨?_,h.name⟩;show((x.late++[e]).map bB).Nodup;rw[List.map_append,List.nodup_append];refine⟨h.Iq,by simp,fun a ha b hb hab=>?_⟩;simp at hb;subst hb;subst hab;exact hn ha
theorem dI.offer{x:ay}(h:dI x)(e:Ev)(now:Int):dI (x.offer e now):=by
 unfold ay.offer;split;·exact h.tick now
 ·rename_i hr;have hm:=(iT (show(x.tick now).refuses e=false by simpa using hr)).1;split;·exact((h.tick now).hear e now).took hm
  ·exact((h.tick now).hear e now).bu e
theorem dI.admits{x:ay}(h:dI x)(e:Ev):dI (x.admits e):=by
 unfold ay.admits;split;·exact h
 ·rename_i hr;exact(h.hear e _).took (iT (show x.refuses e=false by simpa using hr)).1
theorem dI.deed{x:ay}(h:dI x)(d:Dd):dI (x.deed d):=by
 unfold ay.deed;split;·exact h.offer _ _
 split;·exact h.admits _
 split;·exact h.tick _
 split;·exact h.drop _
 ·exact h
theorem dI.grown(aa idle:Int)(ds:List Dd):dI (ay.grown aa idle ds):=by
 unfold ay.grown;have key: ∀(ds:List Dd)(x:ay),dI x→dI (ds.foldl ay.deed x):=fun ds=>by induction ds with|nil=>exact fun x h=>h|cons d ds ih=>exact fun x h=>ih _ (h.deed d)
 exact key ds _ (dI.new aa idle)
theorem aO.right{x:ay}(h:aO x)(h2:dI x)(hl:x.taken.length≤1048576):gD x.gone x.had x.taken x.late:=by
 refine⟨hl,fun k hk=>?_,fun k hk=>?_⟩
 ·have hm:x.taken[k]∈x.taken:=List.getElem_mem hk;unfold uB;rw[h.may _ (.inl hm),h.kept _ hm];have h1:bB x.taken[k]∉(x.taken.take k).map bB:=fun hc=>by obtain⟨a,ha,he⟩:=List.mem_map.1 hc;obtain⟨i,hi,rfl⟩:=List.getElem_of_mem ha;rw[List.length_take]at hi;rw[List.getElem_take]at he;have:=(List.pairwise_iff_getElem.1 h.ids) i k (by simp;omega) (by simp;omega) (by omega);rw[List.getElem_map,List.getElem_map]at this;exact this he
  have h2:iC x.gone x.taken[k]=true:=by
   unfold iC;by_cases hg:x.taken[k].per∈x.gone;·have:=h.inv.stay _ (.inl hm) hg;simp[this]
   ·simp[hg]
  have h3:(decide (k=0)||(pR x.taken[k] (x.taken.getD (k-1) x.taken[k])==1))=true:=by
   by_cases h0:k=0;·simp[h0]
   ·have hk1:k-1<x.taken.length:=by omega
    have e1:x.taken.getD (k-1) x.taken[k]=x.taken[k-1]:=by rw[List.getD_eq_getElem?_getD,List.getElem?_eq_getElem hk1];rfl
    rw[e1];have hle:=(List.pairwise_iff_getElem.1 h.sorted) (k-1) k hk1 hk (by omega);have hne:=(List.pairwise_iff_getElem.1 h.ids) (k-1) k (by simp;omega) (by simp;omega) (by omega);rw[List.getElem_map,List.getElem_map]at hne;have:gU x.taken[k-1] x.taken[k]:=by
     by_cases hlt:gU x.taken[k-1] x.taken[k];·exact hlt
     ·rcases gU.total hlt with h'|⟨_,e2,e3⟩;·exact absurd h' hle
      ·exact absurd (by unfold bB;rw[e2,e3]) hne
    have:=F6.1 (pQ.2 this);simp[this]
  have h4:(!(x.taken[k].kind==14)||decide (x.taken[k].per∈x.gone))=true:=by
   by_cases h14:x.taken[k].kind=14;·have:=h.inv.MG _ hm h14;simp[this]
   ·simp[h14]
  rw[h2,h3,h4];simpa using h1
 ·have hm:x.late[k]∈x.late:=List.getElem_mem hk;unfold J4;rw[h.may _ (.inr hm)];have h1:bB x.late[k]∉(x.late.take k).map bB:=fun hc=>by obtain⟨a,ha,he⟩:=List.mem_map.1 hc;obtain⟨i,hi,rfl⟩:=List.getElem_of_mem ha;rw[List.length_take]at hi;rw[List.getElem_take]at he;have:=(List.pairwise_iff_getElem.1 h2.Iq) i k (by simp;omega) (by simp;omega) (by omega);rw[List.getElem_map,List.getElem_map]at this;exact this he
  have h3:iC x.gone x.late[k]=true:=by
   unfold iC;by_cases hg:x.late[k].per∈x.gone;·have:=h.inv.stay _ (.inr hm) hg;simp[this]
   ·simp[hg]
  rw[h3];simpa using h1
theorem SG{x:ay}(h:dI x){r:List (List UInt8)}(hr:fI r x.gone):zC r:=⟨fun j hj=>h.name _ ((hr.2 _).1 (List.getElem_mem hj)),fun j hj h0=>by
 have:=(List.pairwise_iff_getElem.1 hr.1) (j-1) j (by omega) hj (by omega);rcases jQ (fun e=>yG _ (e▸this):r[j-1]'(by omega)≠r[j])with h'|h';·exact h'
 ·exact absurd (Uv h') (fun h2=>OI this h2)⟩
theorem AA(w:World)(g bi bg n:Nat)(gone:List (List UInt8))(e:Ev)(hs:e.small)(hc:w.cell? ⟨g,0,none⟩=some (.pointer (some ⟨bi,0,none⟩)))(hb5:w.cell? ⟨bi,5,none⟩=some (.map (some bg)))(hset:fQ w bg n gone):Calls Tryz.prog 122 #[e.agg,.pointer (some ⟨g,0,none⟩)] w (Says (iC gone e) w):=by
 obtain⟨s1,s2,s3,s4⟩:=hs;have hg:g<w.heap.size:=World.block_lt_of_cell? w ⟨g,0,none⟩ hc;have hbi:bi<w.heap.size:=World.block_lt_of_cell? w ⟨bi,5,none⟩ hb5;have hc':(w.alloc (ai e)).cell? ⟨g,0,none⟩=_:=(World.cell?_alloc_lt w (ai e) _ hg).trans hc;have abJ:(w.alloc (ai e)).cell? ⟨bi,5,none⟩=_:=(World.cell?_alloc_lt w (ai e) _ hbi).trans hb5;have hl: ∀k,(Instr.lookup 82 (.map (some bg)) (.string ⟨e.per.toArray⟩) false).run Tryz.prog ((w.alloc (ai e)).drewN k)=.ok (.bool (decide (e.per∈gone))) ((w.alloc (ai e)).drewN k):=fun k=>((hset.alloc (ai e)).drewN k).look e.per (by unfold maxLen;omega);have hb:Below w.heap.size w (w.alloc (ai e)):=(Below.refl _ _).alloc (Nat.le_refl _) _;have HO:=qS (iC gone e=(!decide (e.per∈gone)||(e.kind==14))) (rfl);obtain⟨e0,e1,e2,e3,e4,e5,e6,e7⟩:=dO.new w e;clear hset hc hb5;unfold Ev.agg;generalize hd:decide (e.per∈gone)=d at*;clear hd;go_enter Tryz.func122,Tryz.ntmps122;cases d;·go_wp2;go_quiet(fail);go_wp2;go_ret;exact⟨by rw[HO.o];rfl,below_drewN hb _⟩
 ·go_wp2;go_quiet(fail);go_wp2;go_ret;exact⟨by rw[HO.o];rfl,below_drewN hb _⟩
theorem I6(args:Array Value)(w:World):(callFunc 122 args).run Tryz.prog w=.ok (.enter 122 args) w:=by kernel_rfl
def nZ(w:World)(B:Nat)(l:List UInt8)(e:Ending)(w':World):Prop:=(match jM l with|.ok v r=> ∃A n c,e=.returned (.tuple #[.int .i64 v,.slice A n c,.int .i64 0])∧bU w B A n c r|.bz=>e=.returned (.tuple #[.int .i64 0,.slice none 0 0,.int .i64 3])|.form=>e=.returned (.tuple #[.int .i64 0,.slice none 0 0,.int .i64 2]))∧ ∃q,w'=w.drewN q
def Jj(w:World)(l:List UInt8)(acc i:Value)(W:World):Prop:= ∃q a:Nat,i=.int .i64 q∧q≤6∧acc=.int .i64 a∧a<128^q∧pz (6-q) q a (l.drop q)=jM l∧W=w
theorem bU.tail{w:World}{B n c b off:Nat}{l:List UInt8}(h:bU w B (some ⟨b,off,none⟩) n c l)(k:Nat)(hk:k≤n):bU w B (if c=k then some ⟨b,off,none⟩else some ⟨b,off+k,none⟩) (n-k) (c-k) (l.drop k):=by
 have hcut:=h.cut k (n-k) (by omega);have hl:=h.len;have:(l.drop k).take (n-k)=l.drop k:=List.take_of_length_le (by simp;omega);rw[this]at hcut;split
 ·rename_i hc;have hcap:=h.cap;have:n-k=0:=by omega
  have h0:l.drop k=[]:=List.drop_of_length_le (by omega);rw[this,h0];exact bU.nil w B _ _ (by have:=h.max;omega)
 ·exact hcut
theorem ER(w:World)(B:Nat)(A:Option Addr)(n k:Nat)(l:List UInt8)(h:bU w B A n k l)(hn:n≤1000000000):Calls Tryz.prog 119 #[.slice A n k] w (nZ w B l):=by
 have HB:=qH h;have hlen:=h.len;have hcap:=h.cap;have hmax:=h.max;unfold maxLen at hmax;have HST:=qS (Jj w l (.int .i64 0) (.int .i64 0) w) (⟨0,0,rfl,by omega,rfl,by simp,rfl,rfl⟩);have zF:=qS (∀W q,jM l=.bz→W=w.drewN q→nZ w B l (.returned (.tuple #[.int .i64 0,.slice none 0 0,.int .i64 3])) W) (fun W q h1 h2=>by unfold nZ;rw[h1];exact⟨rfl,q,h2⟩);have QK:=qS (∀W q,jM l=.form→W=w.drewN q→nZ w B l (.returned (.tuple #[.int .i64 0,.slice none 0 0,.int .i64 2])) W) (fun W q h1 h2=>by unfold nZ;rw[h1];exact⟨rfl,q,h2⟩);have jU:=qS (∀W q(v:Nat)(z:Int)r A n c,z=v→jM l=.ok v r→bU w B A n c r→W=w.drewN q→nZ w B l (.returned (.tuple #[.int .i64 z,.slice A n c,.int .i64 0])) W) (fun W q v z r A n c h0 h1 h2 h3=>by subst h0;unfold nZ;rw[h1];exact⟨⟨_,_,_,rfl,h2⟩,q,h3⟩);have HLEN:=qH hlen;clear h hlen;go_enter Tryz.func119,Tryz.ntmps119;go_wp2;go_loopw[5,6,7,8](fun acc _ _ i W=>Jj w l acc i W)(fun _ _ _ i _=>6-(intOf i).toNat);case atStart=>exact HST.o
 case round=>
  obtain⟨q,a,rfl,hq,rfl,ha,hR,hW⟩:=hrel;subst hW;by_cases hq6:q<6
  ·by_cases hql:q<n
   ·obtain⟨b,off,rfl,hb,hc⟩:=HB.o.cell (by omega);have hqL:q<l.length:=by rw[HLEN.o];exact hql
    have hcq:=hc q hqL;have Yl:=HB.o.tail (q+1) (by omega);have HT:=qH Yl;have hdr:l.drop q=l[q]::l.drop (q+1):=List.drop_eq_getElem_cons hqL;obtain⟨f,hf⟩: ∃f,6-q=f+1:=⟨5-q,by omega⟩;rw[hdr,hf]at hR;simp only[pz]at hR;have hx256:=(l[q]).toNat_lt;generalize l[q].toNat=x at*;have HA:=qH (Kw x hx256);have hp7:128^q=2^(7*q):=by rw[Nat.pow_mul]
    have GM:=qS (∀m:Nat,m<128→bits .or .i64 (a:Int) ((m*128^q:Nat):Int)=((a+m*128^q:Nat):Int)) (fun m hm=>by have h1:m*128^q≤128*128^5:=Nat.mul_le_mul (by omega) (Nat.pow_le_pow_right (by omega) (by omega));have h2:128^q≤128^5:=Nat.pow_le_pow_right (by omega) (by omega);rw[nU _ _ (by omega) (by omega)];rw[hp7]at ha⊢;rw[EM _ _ _ ha]);clear hdr hc Yl hp7;by_cases hz:x=0∧0<q
    ·rw[if_pos hz]at hR;obtain⟨rfl,hq0⟩:=hz;have HF:=qH (QK.o wr 0 hR.symm rfl);have t1:(0:Int)<q:=by omega
     clear hR HST HT HA GM ha;go_wp2;go_ret3;exact HF.o
    ·rw[if_neg hz]at hR;by_cases hlo:x<128
     ·rw[if_pos hlo]at hR;have HR:=qH hR.symm;have HO:=qH (GM.o x hlo);rw[Nat.mod_eq_of_lt hlo]at HA;have hw: ∀z:Nat,z<4611686018427387904→wrap64 (z:Int)=z:=fun z hz=>by unfold wrap64;omega
      have HW:=qH hw;have hp5:a+x*128^q<4611686018427387904:=by have h1:x*128^q≤128*128^5:=Nat.mul_le_mul (by omega) (Nat.pow_le_pow_right (by omega) (by omega));have h2:128^q≤128^5:=Nat.pow_le_pow_right (by omega) (by omega);omega
      have HP5:=qH hp5;have Mq:q=0∨q=1∨q=2∨q=3∨q=4∨q=5:=by omega
      have hzq:x=0→q=0:=fun h=>by omega
      clear hR GM HST hz hw hp5;rcases Classical.em (k=q+1)with hk|hk;all_goals
       first|rw[if_pos hk,show k-(q+1)=0 by omega]at HT|rw[if_neg hk]at HT
       rcases Mq with rfl|rfl|rfl|rfl|rfl|rfl
      all_goals
       simp only[Nat.reducePow,Nat.reduceAdd,Nat.add_zero,Nat.mul_one,Nat.zero_add]at ha HO HT HP5 HR hcq hk;by_cases hx0:x=0
       ·first|exact absurd (hzq hx0) (by decide)|
         (subst hx0;go_wp2;go_quiet(fail);go_wp2;go_ret3;refine jU.o _ _ _ _ _ _ _ _ ?_ HR.o HT.o rfl;have WU:=HA.o;have Xt:=HO.o;have hw0:wrap64 0=0:=by unfold wrap64;omega
          simp only[Int.natCast_zero,Nat.add_zero]at WU Xt⊢;show bits BinOp.or IntKind.i64 (a:Int) (wrap64 (wrap64 (bits BinOp.and IntKind.u8 0 127)))=_;rw[WU,hw0,hw0];exact Xt)
       ·have t2:((x:Int)==0)=false:=by simp;omega
        have t3:(x:Int)<128:=by omega
        go_wp2;go_quiet(fail);go_wp2;go_ret3;refine jU.o _ _ _ _ _ _ _ _ ?_ HR.o HT.o rfl;first|(show bits BinOp.or IntKind.i64 (a:Int) (wrap64 (wrap64 (bits BinOp.and IntKind.u8 (x:Int) 127)))=_;rw[HA.o,HW.o x (by omega),HW.o x (by omega)];exact HO.o)|(show bits BinOp.or IntKind.i64 (a:Int) (wrap64 (wrap64 (bits BinOp.and IntKind.u8 (x:Int) 127)*128))=_;rw[HA.o,HW.o x (by omega),show((x:Int)*128)=((x*128:Nat):Int)by omega,HW.o _ (by omega)];exact HO.o)|(show bits BinOp.or IntKind.i64 (a:Int) (wrap64 (wrap64 (bits BinOp.and IntKind.u8 (x:Int) 127)*16384))=_;rw[HA.o,HW.o x (by omega),show((x:Int)*16384)=((x*16384:Nat):Int)by omega,HW.o _ (by omega)];exact HO.o)|(show bits BinOp.or IntKind.i64 (a:Int) (wrap64 (wrap64 (bits BinOp.and IntKind.u8 (x:Int) 127)*2097152))=_;rw[HA.o,HW.o x (by omega),show((x:Int)*2097152)=((x*2097152:Nat):Int)by omega,HW.o _ (by omega)];exact HO.o)|(show bits BinOp.or IntKind.i64 (a:Int) (wrap64 (wrap64 (bits BinOp.and IntKind.u8 (x:Int) 127)*268435456))=_;rw[HA.o,HW.o x (by omega),show((x:Int)*268435456)=((x*268435456:Nat):Int)by omega,HW.o _ (by omega)];exact HO.o)|(show bits BinOp.or IntKind.i64 (a:Int) (wrap64 (wrap64 (bits BinOp.and IntKind.u8 (x:Int) 127)*34359738368))=_;rw[HA.o,HW.o x (by omega),show((x:Int)*34359738368)=((x*34359738368:Nat):Int)by omega,HW.o _ (by omega)];exact HO.o)
     ·rw[if_neg hlo]at hR;have HO:=qH (GM.o (x%128) (Nat.mod_lt _ (by omega)));have hlt:x%128<128:=Nat.mod_lt _ (by omega);have hf2:6-(q+1)=f:=by omega
      have hb2:a+x%128*128^q<128^(q+1):=by rw[Nat.pow_succ];have:x%128*128^q≤127*128^q:=Nat.mul_le_mul_right _ (by omega);omega
      have jF:=qS (∀z:Int,z=((a+x%128*128^q:Nat):Int)→Jj wr l (.int .i64 z) (.int .i64 ((q:Int)+1)) wr) (fun z hz=>⟨q+1,_,rfl,by omega,by rw[hz],hb2,by rw[hf2];exact hR,rfl⟩);have HW:=qS (∀z:Nat,z<4611686018427387904→wrap64 (z:Int)=z) (fun z hz=>by unfold wrap64;omega);have Mq:q=0∨q=1∨q=2∨q=3∨q=4∨q=5:=by omega
      clear hR GM HST hz hf2 hb2 HT hf;generalize hm:x%128=m at*;have Gx:=qH hm;clear hm;have t2:((x:Int)==0)=false:=by simp;omega
      have t3: ¬(x:Int)<128:=by omega
      rcases Mq with rfl|rfl|rfl|rfl|rfl|rfl;all_goals simp only[Nat.reducePow,Nat.add_zero,Nat.mul_one]at ha HO hcq jF;go_wp2;refine⟨jF.o _ ?_,by simp[intOf]⟩;first|(show bits BinOp.or IntKind.i64 (a:Int) (wrap64 (wrap64 (bits BinOp.and IntKind.u8 (x:Int) 127)))=_;rw[HA.o,HW.o m (by omega),HW.o m (by omega)];exact HO.o)|(show bits BinOp.or IntKind.i64 (a:Int) (wrap64 (wrap64 (bits BinOp.and IntKind.u8 (x:Int) 127)*128))=_;rw[HA.o,HW.o m (by omega),show((m:Int)*128)=((m*128:Nat):Int)by omega,HW.o _ (by omega)];exact HO.o)|(show bits BinOp.or IntKind.i64 (a:Int) (wrap64 (wrap64 (bits BinOp.and IntKind.u8 (x:Int) 127)*16384))=_;rw[HA.o,HW.o m (by omega),show((m:Int)*16384)=((m*16384:Nat):Int)by omega,HW.o _ (by omega)];exact HO.o)|(show bits BinOp.or IntKind.i64 (a:Int) (wrap64 (wrap64 (bits BinOp.and IntKind.u8 (x:Int) 127)*2097152))=_;rw[HA.o,HW.o m (by omega),show((m:Int)*2097152)=((m*2097152:Nat):Int)by omega,HW.o _ (by omega)];exact HO.o)|(show bits BinOp.or IntKind.i64 (a:Int) (wrap64 (wrap64 (bits BinOp.and IntKind.u8 (x:Int) 127)*268435456))=_;rw[HA.o,HW.o m (by omega),show((m:Int)*268435456)=((m*268435456:Nat):Int)by omega,HW.o _ (by omega)];exact HO.o)|(show bits BinOp.or IntKind.i64 (a:Int) (wrap64 (wrap64 (bits BinOp.and IntKind.u8 (x:Int) 127)*34359738368))=_;rw[HA.o,HW.o m (by omega),show((m:Int)*34359738368)=((m*34359738368:Nat):Int)by omega,HW.o _ (by omega)];exact HO.o)
   ·have hqn:q≥l.length:=by rw[HLEN.o];omega
    rw[List.drop_of_length_le hqn]at hR;obtain⟨f,hf⟩: ∃f,6-q=f+1:=⟨5-q,by omega⟩;rw[hf]at hR;simp only[pz]at hR;have HF:=qH (zF.o wr 0 hR.symm rfl);have t1:(n:Int)≤q:=by omega
    clear hR HST ha hf;go_wp2;go_ret3;exact HF.o
  ·have aar:q=6:=by omega
   subst aar;simp only[pz,Nat.sub_self]at hR;have HF:=qH (QK.o wr 0 hR.symm rfl);clear hR HST ha;go_wp2;go_ret3;exact HF.o
theorem xA(w:World)(B:Nat)(A:Option Addr)(n k:Nat)(l:List UInt8)(h:bU w B A n k l)(hn:n≤1000000000){v:Nat}{r:List UInt8}(hR:jM l=.ok v r):Calls Tryz.prog 119 #[.slice A n k] w fun e w'=> ∃A' n' c',e=.returned (.tuple #[.int .i64 v,.slice A' n' c',.int .i64 0])∧bU w' B A' n' c' r∧Below w.heap.size w w':=(ER w B A n k l h hn).mono fun e w' hp=>by unfold nZ at hp;rw[hR]at hp;obtain⟨⟨A',n',c',he,hb⟩,q,rfl⟩:=hp;exact⟨A',n',c',he,hb.drewN q,below_drewN (Below.refl _ _) q⟩
theorem tC(w:World)(B:Nat)(A:Option Addr)(n k:Nat)(l:List UInt8)(h:bU w B A n k l)(hn:n≤1000000000)(er:Int)(hR:(jM l=.bz∧er=3)∨(jM l=.form∧er=2)):Calls Tryz.prog 119 #[.slice A n k] w fun e w'=>e=.returned (.tuple #[.int .i64 0,.slice none 0 0,.int .i64 er])∧Below w.heap.size w w':=(ER w B A n k l h hn).mono fun e w' hp=>by unfold nZ at hp;rcases hR with⟨hR,rfl⟩|⟨hR,rfl⟩<;>rw[hR]at hp<;>obtain⟨he,q,rfl⟩:=hp<;>exact⟨he,below_drewN (Below.refl _ _) q⟩
abbrev Qh(w:World)(base:Nat)(v:Value)(rs:Rg):Prop:=w.ownsRow base 173 2 v rs.length (rgCells rs)
def lG(w:World)(B:Nat)(R:oJ Rg)(e:Ending)(w':World):Prop:=(match R with|.ok rs r=> ∃v A n c,e=.returned (.tuple #[v,.slice A n c,.int .i64 0])∧Qh w' w.heap.size v rs∧bU w' B A n c r|.bz=>e=.returned (.tuple #[.slice none 0 0,.slice none 0 0,.int .i64 3])|.form=>e=.returned (.tuple #[.slice none 0 0,.slice none 0 0,.int .i64 2]))∧Below w.heap.size w w'
def Jh(w:World)(B N M:Nat)(R:oJ Rg)(v0 v7 v8 v25:Value)(wr:World):Prop:= ∃(k:Nat)(A:Option Addr)(n c:Nat)(cur:List UInt8)(acc:Rg),v25=.int .i64 (k:Int)∧k≤N∧v0=.slice A n c∧bU wr B A n c cur∧Qh wr w.heap.size v7 acc∧acc.length=k∧v8=.int .i64 (dX 1 acc)∧RgOk acc∧acc.length+cur.length≤M∧uM (N-k) acc cur=R∧Below w.heap.size w wr
theorem Py{rs:Rg}(h:RgOk rs):dX 1 rs≤1099511627777:=by
 by_cases hn:rs=[];·subst hn;simp[dX]
 ·obtain⟨r,hr,he⟩:=tV 1 rs hn;have:=(h.each r hr).2.2;omega
theorem kI{α:Type}(R:oJ α):(∃a r,R=.ok a r)∨ ∃er:Int,(R=.bz∧er=3)∨(R=.form∧er=2):=by cases R with|ok a r=>exact .inl ⟨a,r,rfl⟩|bz=>exact .inr ⟨3,.inl ⟨rfl,rfl⟩⟩|form=>exact .inr ⟨2,.inr ⟨rfl,rfl⟩⟩
theorem mU{w w':World}{B:Nat}{R:oJ Rg}{er:Int}(h:(R=.bz∧er=3)∨(R=.form∧er=2))(hb:Below w.heap.size w w'):lG w B R (.returned (.tuple #[.slice none 0 0,.slice none 0 0,.int .i64 er])) w':=by rcases h with⟨rfl,rfl⟩|⟨rfl,rfl⟩<;>exact⟨rfl,hb⟩
theorem Bz{α:Type}{R:oJ α}{er:Int}(h:(R=.bz∧er=3)∨(R=.form∧er=2)):(er !=0)=true:=by rcases h with⟨_,rfl⟩|⟨_,rfl⟩<;>rfl
theorem Ey(w:World)(B:Nat)(A:Option Addr)(n k:Nat)(l:List UInt8)(h:bU w B A n k l)(hB:B≤w.heap.size)(hn:n≤1000000000):Calls Tryz.prog 121 #[.slice A n k] w (lG w B (fZ l)):=by
 have HB:=qH h;have hlen:=h.len;obtain⟨i0,hi,hz0,hz1,hz2⟩:=info_parts nO;have HI:=qH hi;have HZ0:=qH hz0;have HZ1:=qH hz1;have HZ2:=qH hz2;clear hi hz0 hz1 hz2 h;rcases kI (jM l)with⟨N,r1,hR⟩|⟨er,hR⟩
 ·have hRR:fZ l=if N=0 then .form else uM N [] r1:=by unfold fZ;rw[hR]
  have hN:=(kz hR).1;have hrl:=tF hR;have HRR:=qH hRR;have HNR:=qH hR;clear hRR hR;go_enter Tryz.func121,Tryz.ntmps121;go_wp2_with fail;with_reducible refine(xA w B A n k l HB.o hn HNR.o).mono ?_
  rintro r w1⟨A1,n1,c1,rfl,hb1,hB1⟩;have HB1:=qH hB1;have HR:=HRR;clear hB1;by_cases hN0:N=0;·subst hN0;have HF:=qS (lG w B (fZ l) (.returned (.tuple #[.slice none 0 0,.slice none 0 0,.int .i64 2])) w1) (mU (.inr ⟨HR.o,rfl⟩) HB1.o);clear hb1;go_wp2;go_ret3;exact HF.o
  ·have t0:((N:Int)==0)=false:=by simp;omega
   have HR2:=qS (uM N [] r1=fZ l) (by rw[HR.o,if_neg hN0]);have HST:=qS (Jh w B N l.length (fZ l) (.slice A1 n1 c1) (.slice none 0 0) (.int .i64 1) (.int .i64 0) w1) (⟨0,A1,n1,c1,r1,[],rfl,Nat.zero_le _,rfl,hb1,World.ownsRow_nil _ _ _ _,rfl,rfl,RgOk.nil,by simp;omega,HR2.o,HB1.o⟩);clear hb1 HR hN0 HR2;generalize fZ l=R at*;go_wp2;go_loopw[0,7,8,25](fun v0 v7 v8 v25 wr=>Jh w B N l.length R v0 v7 v8 v25 wr)(fun _ _ _ v25 _=>N-(intOf v25).toNat);case atStart=>exact HST.o
   case round=>
    obtain⟨j,A2,n2,c2,cur,acc,rfl,hj,rfl,hb2,ho2,hl2,rfl,hok2,hm2,hR2,hB2⟩:=hrel;have gJ:=qH hb2;have HO:=qH ho2;have jU:=qH hok2;have HB2:=qH hB2;have HL2:=qH hl2;have hn2:=hb2.len;have he1:=y8 hok2;have he2:=Py hok2;clear hb2 ho2 hok2 hB2 HST;by_cases hjN:j<N
    ·have t1:(j:Int)<N:=by omega
     obtain⟨f,hf⟩: ∃f,N-j=f+1:=⟨N-j-1,by omega⟩;have Nn:=qS (N-(j+1)=f) (by omega);rw[hf]at hR2;simp only[uM]at hR2;rcases kI (jM cur)with⟨gap,l1,hg⟩|⟨er,hg⟩
     ·rw[hg]at hR2;simp only at hR2;have abD:=(kz hg).1;have hl1:=tF hg;have HR2:=qH hR2;have WC:=qH hg;clear hR2 hf hg;go_wp2_with fail;with_reducible refine(xA wr B A2 n2 c2 cur gJ.o (by omega) WC.o).mono ?_
      rintro r w3⟨A3,n3,c3,rfl,hb3,hB3⟩;have Nr:=qH hb3;have hn3:=hb3.len;have ow:=qH (ownsRow_below HO.o hB3 (Nat.le_refl _));have HB3:=qH (HB2.o.trans (hB3.mono HB2.o.size));clear hb3 hB3 HO gJ;by_cases hgz:gap=0∧acc≠[]
      ·rw[if_pos hgz]at HR2;have hj0:(0:Int)<j:=by have:=HL2.o;have:=List.length_pos_iff.2 hgz.2;omega
       have t2:((gap:Int)==0)=true:=by simp[hgz.1]
       have HF:=qS (lG w B R (.returned (.tuple #[.slice none 0 0,.slice none 0 0,.int .i64 2])) w3) (mU (.inr ⟨HR2.o.symm,rfl⟩) HB3.o);clear hgz hl2;go_wp2;go_ret3;exact HF.o
      ·rw[if_neg hgz]at HR2;have hte:(((gap:Int)==0)=true∧ ¬(0:Int)<j)∨((gap:Int)==0)=false:=by
        by_cases h0:gap=0;·left;have:acc=[]:=Classical.byContradiction fun h=>hgz ⟨h0,h⟩;have hl:=HL2.o;rw[this]at hl;simp only[List.length_nil]at hl;exact⟨by simp[h0],by omega⟩
        ·right;simp;omega
       have HGZ:=qH hgz;clear hgz hl2;rcases kI (jM l1)with⟨many,l2,hm⟩|⟨er,hm⟩
       ·rw[hm]at HR2;simp only at HR2;have abr:=(kz hm).1;have hl2:=tF hm;have Gx:=qH hm;clear hm;rcases hte with⟨t2,t3⟩|t2;all_goals
         go_wp2_with fail;with_reducible refine(xA w3 B A3 n3 c3 l1 Nr.o (by omega) Gx.o).mono ?_
         rintro r w4⟨A4,n4,c4,rfl,hb4,hB4⟩;have hn4:=hb4.len;have fM:=qH (HB3.o.trans (hB4.mono HB3.o.size));have xL:=qH (ownsRow_below ow.o hB4 (Nat.le_refl _));have bJ:Below w4.heap.size w4 (w4.alloc (.cells #[.int .i64 (dX 1 acc+gap),.int .i64 (dX 1 acc+gap+many)] 173)):=(Below.refl _ _).alloc (Nat.le_refl _) _;have z0:(w4.alloc (.cells #[.int .i64 (dX 1 acc+gap),.int .i64 (dX 1 acc+gap+many)] 173)).cell? ⟨w4.heap.size,0,none⟩=some (.int .i64 (dX 1 acc+gap)):=cell_of_row _ w4.heap.size 0 _ _ (0,0) (heap_alloc_new w4 _);have z1:(w4.alloc (.cells #[.int .i64 (dX 1 acc+gap),.int .i64 (dX 1 acc+gap+many)] 173)).cell? ⟨w4.heap.size,1,none⟩=some (.int .i64 (dX 1 acc+gap+many)):=cell_of_row _ w4.heap.size 1 _ _ (0,0) (heap_alloc_new w4 _);have qE:=qH (fM.o.trans (bJ.mono fM.o.size));have j5:=qH (ownsRow_below xL.o bJ (Nat.le_refl _));have WO:=qH (hb4.below (bJ.mono (Nat.le_trans hB (fM.o.size))));have zH:=qS (∀b,u7.ownBlock=some b→b≠w4.heap.size) (fun b hb e=>by have:=(World.ownsRow.lt xL.o b hb).2;omega);have hlt4:w4.heap.size<(w4.alloc (.cells #[.int .i64 (dX 1 acc+gap),.int .i64 (dX 1 acc+gap+many)] 173)).heap.size:=by simp
         clear hb4 hB4 bJ Nr ow xL HB3 fM;go_upto_region 21 with fail;generalize w4.alloc (.cells #[.int .i64 (dX 1 acc+gap),.int .i64 (dX 1 acc+gap+many)] 173)=w5 at*;by_cases hmz:many=0∨1099511627777<dX 1 acc+gap+many
         ·rw[if_pos hmz]at HR2;have HF:=qS (lG w B R (.returned (.tuple #[.slice none 0 0,.slice none 0 0,.int .i64 2])) w5) (mU (.inr ⟨HR2.o.symm,rfl⟩) qE.o);by_cases hm0:many=0
          ·have t5:((many:Int)==0)=true:=by simp[hm0]
           clear hmz hm0;go_wp2;go_ret3;exact HF.o
          ·have t5:((many:Int)==0)=false:=by simp;omega
           have t6:(1099511627777:Int)<dX 1 acc+gap+many:=by omega
           clear hmz hm0;go_wp2;go_ret3;exact HF.o
         ·rw[if_neg hmz]at HR2;have zz:=qH (RgOk.snoc jU.o HGZ.o hmz);have t5:((many:Int)==0)=false:=by simp;omega
          have t6: ¬(1099511627777:Int)<dX 1 acc+gap+many:=by omega
          have HE:=qH (nz (dX 1 acc+gap,dX 1 acc+gap+many) 1 acc);have hal:acc.length≤1000000000:=by omega
          have hsz5:=qE.o.size;clear hmz;generalize dX 1 acc+gap=ra at*;generalize ra+many=rb at*;go_wp2_with(at_builtin;refine av (P:=Tryz.prog) rfl (.tmp 68) (.tmp 70) 171 rfl 173 i0 _ 2 16 Tryz.underlying171 HI.o HZ0.o HZ1.o HZ2.o rfl (by decide) w.heap.size _ acc.length (rgCells acc) rfl ?c1 (w5.heap.size+1) _ _ _ [.int .i64 ra,.int .i64 rb] rfl ?c2 ?c3 ?c4 ?c5 ?c6 ?_);case c1=>exact World.ownsRow.alloc j5.o _
          case c2=>exact az.new (size:=2) (n:=1) w5 #[.int .i64 ra,.int .i64 rb] _ (by unfold maxLen;omega) rfl
          case c3=>first|exact eB [(ra,rb)]|exact⟨rfl,rfl⟩
          case c4=>unfold maxLen;omega
          case c5=>omega
          case c6=>first|omega|(simp;omega)
          intro v' w6 hown6 hg6 hv6;have TA:=qS (Jh w B N l.length R (.slice A4 n4 c4) v' (.int .i64 rb) (.int .i64 ((j+1:Nat):Int)) w6) (⟨j+1,A4,n4,c4,l2,acc++[(ra,rb)],rfl,hjN,rfl,by
           refine WO.o.keep fun p hp=>?_;have hp5:p.block<w5.heap.size:=by omega
           have hne:some p.block≠u7.ownBlock:=fun e=>by have:=(World.ownsRow.lt j5.o p.block e.symm).1;omega
           rw[World.cell?_of_block (w:=w5.alloc _) (hg6.block p.block (by simp;omega) hne)];exact World.cell?_alloc_lt w5 _ p hp5,by rw[show Qh w6 w.heap.size v' (acc++[(ra,rb)])=w6.ownsRow w.heap.size 173 2 v' (acc++[(ra,rb)]).length (rgCells (acc++[(ra,rb)]))from rfl,aV,List.length_append];exact hown6,by rw[List.length_append,HL2.o];rfl,by rw[HE.o],zz.o,by simp;omega,by rw[Nn.o];exact HR2.o,Below.grown (qE.o.alloc hsz5 _) hg6 (by simp;omega) (fun k' hk'=>(World.ownsRow.lt j5.o k' hk').1)⟩);have x1:w6.cell? ⟨w4.heap.size,1,none⟩=some (.int .i64 rb):=by rw[World.cell?_of_block (w:=w5.alloc (.cells #[.int .i64 ra,.int .i64 rb] 173)) (hg6.block w4.heap.size (by simp;omega) (fun e=>zH.o _ e.symm rfl))];rw[World.cell?_alloc_lt w5 _ ⟨w4.heap.size,1,none⟩ hlt4];exact z1
          clear hown6 hg6 hv6 z0 z1;go_wp2;go_roundw;case rel=>exact TA.o
          case measure=>simp[intOf];omega
       ·have HR3:=qS (R=(if er=3 then .bz else .form)) (by rw[←HR2.o];rcases hm with⟨hm,rfl⟩|⟨hm,rfl⟩<;>rw[hm]<;>rfl);clear HR2;have HF:=qS (∀W,Below w3.heap.size w3 W→lG w B R (.returned (.tuple #[.slice none 0 0,.slice none 0 0,.int .i64 er])) W) (fun W hW=>mU (by
         rcases hm with⟨_,rfl⟩|⟨_,rfl⟩;·exact .inl ⟨HR3.o,rfl⟩
         ·exact .inr ⟨HR3.o,rfl⟩) (HB3.o.trans (hW.mono HB3.o.size)));have t4:(er !=0)=true:=Bz hm;have Gx:=qH hm;clear hm;rcases hte with⟨t2,t3⟩|t2;all_goals
         go_wp2_with fail;with_reducible refine(tC w3 B A3 n3 c3 l1 Nr.o (by omega) er Gx.o).mono ?_
         rintro r w4⟨rfl,hb4⟩;have Nn:=qH (HF.o w4 hb4);clear hb4;go_wp2;go_ret3;exact Nn.o
     ·have HR2:=qS (R=(if er=3 then .bz else .form)) (by rw[←hR2];rcases hg with⟨hg,rfl⟩|⟨hg,rfl⟩<;>rw[hg]<;>rfl);have HF:=qS (∀W,Below wr.heap.size wr W→lG w B R (.returned (.tuple #[.slice none 0 0,.slice none 0 0,.int .i64 er])) W) (fun W hW=>mU (by
       rcases hg with⟨_,rfl⟩|⟨_,rfl⟩;·exact .inl ⟨HR2.o,rfl⟩
       ·exact .inr ⟨HR2.o,rfl⟩) (HB2.o.trans (hW.mono HB2.o.size)));have t4:(er !=0)=true:=Bz hg;have WC:=qH hg;clear hg hR2 hf hl2;go_wp2_with fail;with_reducible refine(tC wr B A2 n2 c2 cur gJ.o (by omega) er WC.o).mono ?_
      rintro r w4⟨rfl,hb4⟩;have Nn:=qH (HF.o w4 hb4);clear hb4;go_wp2;go_ret3;exact Nn.o
    ·have Xb:j=N:=by omega
     rw[Xb,Nat.sub_self]at hR2;simp only[uM]at hR2;have t1: ¬(j:Int)<N:=by omega
     obtain⟨A7,c7,hv7⟩:=ownsRow_form HO.o;have HF:=qS (lG w B R (.returned (.tuple #[u7,.slice A2 n2 c2,.int .i64 0])) wr) (by rw[←hR2];exact⟨⟨_,_,_,_,rfl,HO.o,gJ.o⟩,HB2.o⟩);subst hv7;clear hR2 Xb hl2;go_wp2;go_ret3;exact HF.o
 ·have nI:=qH hR;go_enter Tryz.func121,Tryz.ntmps121;go_wp2_with fail;with_reducible refine(tC w B A n k l HB.o hn er nI.o).mono ?_
  rintro r w1⟨rfl,hb1⟩;have HF:=qS (lG w B (fZ l) (.returned (.tuple #[.slice none 0 0,.slice none 0 0,.int .i64 er])) w1) (mU (by
   unfold fZ;rcases hR with⟨hR,rfl⟩|⟨hR,rfl⟩<;>rw[hR];·exact .inl ⟨rfl,rfl⟩
   ·exact .inr ⟨rfl,rfl⟩) hb1);have t0:(er !=0)=true:=Bz hR;clear hR hb1;go_wp2;go_ret3;exact HF.o
end Go.Proofs.YtbejfgmdkmddnaaGreatDoor
