/-
  Layer 8: the closure of right: whether an event stays.
-/
import Derived.Test.YtajihpcdplpcdaaGreatDoorTEvLen
import Derived.Test.YtajihpcdplpcdaaGreatDoorTPtClk
import Derived.Test.YtajihpcdplpcdaaGreatDoorTItkPlain
import Derived.Test.YtajihpcdplpcdaaGreatDoorTTopPl
import Derived.Test.YtajihpcdplpcdaaGreatDoorTKeys
import Derived.Test.YtajihpcdplpcdaaGreatDoorTItkRef
import Derived.Test.YtajihpcdplpcdaaGreatDoorTParts
set_option maxRecDepth 100000
set_option maxHeartbeats 16000000
namespace Go.Proofs.YtajihpcdplpcdaaGreatDoor
open Go.RowKit Go.Maps Go.Sort
/-!### a set's bytes, read -/
inductive DecR (α : Type) where
  | ok (a : α) (r : List UInt8)
  | torn
  | form
def numD:Nat→Nat→Nat→List UInt8→DecR Nat|0,_,_,_=>.form|_+1,_,_,[]=>.torn|f+1,i,acc,c::r=>if c.toNat=0∧0<i then .form else if c.toNat<128 then .ok (acc+c.toNat*128^i) r else numD f (i+1) (acc+(c.toNat%128)*128^i) r
def numR(l:List UInt8):DecR Nat:=numD 6 0 0 l
def srcR:List UInt8→DecR (List UInt8)|[]=>.torn|c::r=>if r.length<c.toNat then .torn else if nameB (r.take c.toNat)then .ok (r.take c.toNat) (r.drop c.toNat)else .form
def rgsA:Nat→Rg→List UInt8→DecR Rg|0,rs,l=>.ok rs l|n+1,rs,l=>match numR l with|.torn=>.torn|.form=>.form|.ok gap l1=>if gap=0∧rs≠[]then .form else match numR l1 with|.torn=>.torn|.form=>.form|.ok many l2=>if many=0∨1099511627777<endR 1 rs+gap+many then .form else rgsA n (rs++[(endR 1 rs+gap,endR 1 rs+gap+many)]) l2
def rangeR(l:List UInt8):DecR Rg:=match numR l with|.torn=>.torn|.form=>.form|.ok n l1=>if n=0 then .form else rgsA n [] l1
def aheadH(m:Had):List UInt8:=(m.getLast?.map (·.1)).getD []
def srcsA:Nat→Had→List UInt8→DecR Had|0,m,l=>.ok m l|n+1,m,l=>match srcR l with|.torn=>.torn|.form=>.form|.ok s l1=>if bytesBefore (aheadH m) s then(match rangeR l1 with|.torn=>.torn|.form=>.form|.ok rs l2=>srcsA n (m++[(s,rs)]) l2)else .form
def decH(b:List UInt8):DecR Had:=match numR b with|.torn=>.torn|.form=>.form|.ok n l=>match srcsA n [] l with|.torn=>.torn|.form=>.form|.ok m r=>if r=[]then .ok m []else .form
theorem numD_numB: ∀(f i acc n:Nat)(r:List UInt8),n<128^(f+1)→(n≠0∨i=0)→numD (f+1) i acc (numB n++r)=.ok (acc+n*128^i) r
 |f,i,acc,n,r,hn,h0=>by
  by_cases h:n<128
  ·rw[numB_lo h];have e:(UInt8.ofNat n).toNat=n:=by simp;omega
   simp only[List.singleton_append,numD,e];rw[if_neg (by omega),if_pos h]
  ·rw[numB_hi h];have e:(UInt8.ofNat (n%128+128)).toNat=n%128+128:=by simp;omega
   cases f with
    |zero=>omega
    |succ f=>
     simp only[List.cons_append];rw[numD];simp only[e];rw[if_neg (by omega),if_neg (by omega)];rw[numD_numB f (i+1) _ (n/128) r (by rw[Nat.pow_succ]at hn;omega) (.inl (by omega))];congr 1;have e2:(n%128+128)%128=n%128:=by omega
     rw[e2,Nat.pow_succ];have e3:n*128^i=(n%128+128*(n/128))*128^i:=by rw[Nat.mod_add_div]
     rw[e3,Nat.add_mul,Nat.add_assoc];congr 2;rw[Nat.mul_comm (128^i) 128,←Nat.mul_assoc,Nat.mul_comm (n/128) 128]
theorem numR_numB(n:Nat)(r:List UInt8)(h:n<4398046511104):numR (numB n++r)=.ok n r:=by unfold numR;rw[numD_numB 5 0 0 n r (by simpa using h) (.inr rfl)];simp
theorem numD_ok: ∀(f i acc n:Nat)(l r:List UInt8),numD f i acc l=.ok n r→acc<128^i→n<128^(i+f)∧ ∃k,0<k∧k≤l.length∧r=l.drop k
 |0,_,_,_,_,_,h,_=>by simp[numD]at h
 |f+1,i,acc,n,[],r,h,_=>by simp[numD]at h
 |f+1,i,acc,n,c::l,r,h,ha=>by
  have hc:=c.toNat_lt;have hp:(128:Nat)^(i+1)=128^i*128:=Nat.pow_succ ..;have hm:128^(i+1)≤128^(i+(f+1)):=Nat.pow_le_pow_right (by decide) (by omega);simp only[numD]at h;split at h;·cases h
  split at h;·rename_i h2;injection h with h h';refine⟨?_,1,by omega,by simp,by rw[←h'];rfl⟩;have:c.toNat*128^i≤127*128^i:=Nat.mul_le_mul_right _ (by omega);omega
  ·have hb:acc+(c.toNat%128)*128^i<128^(i+1):=by have:c.toNat%128*128^i≤127*128^i:=Nat.mul_le_mul_right _ (by omega);omega
   obtain⟨h1,k,h2,h3,h4⟩:=numD_ok f (i+1) _ n l r h hb;exact⟨by rw[show i+(f+1)=i+1+f by omega];exact h1,k+1,by omega,by simp;omega,by rw[h4];rfl⟩
theorem numR_ok{l r:List UInt8}{n:Nat}(h:numR l=.ok n r):n<4398046511104∧ ∃k,0<k∧k≤l.length∧r=l.drop k:=by have:=numD_ok 6 0 0 n l r h (by decide);exact⟨by simpa using this.1,this.2⟩
theorem numR_len{l r:List UInt8}{n:Nat}(h:numR l=.ok n r):r.length<l.length:=by obtain⟨_,k,h1,h2,rfl⟩:=numR_ok h;rw[List.length_drop];omega
theorem srcR_src(s r:List UInt8)(h:nameB s=true):srcR (UInt8.ofNat s.length::(s++r))=.ok s r:=by
 have hl:s.length≤24:=by unfold nameB at h;simp at h;omega
 have e:(UInt8.ofNat s.length).toNat=s.length:=by simp;omega
 simp only[srcR];rw[e,if_neg (by simp)];simp[h]
theorem srcR_ok{l s r:List UInt8}(h:srcR l=.ok s r):nameB s=true∧ ∃k,0<k∧k≤l.length∧r=l.drop k:=by
 cases l with
  |nil=>simp[srcR]at h
  |cons c t=>
   simp only[srcR]at h;split at h;·cases h
   split at h;·rename_i h1 h2;injection h with h h';refine⟨by rw[←h];exact h2,c.toNat+1,by omega,by simp;omega,by rw[←h'];simp⟩
   ·cases h
theorem endR_mem: ∀(e:Int)(rs:Rg),rs≠[]→ ∃r∈rs,endR e rs=r.2|_,[],h=>absurd rfl h|e,r::rs,_=>by cases rs with|nil=>exact⟨r,by simp,rfl⟩|cons q rs=>obtain⟨x,hx,h⟩:=endR_mem r.2 (q::rs) (by simp);exact⟨x,by simp[List.mem_cons.1 hx],h⟩
theorem endR_last{rs:Rg}(h:RgOk rs): ∀r∈rs,r.2≤endR 1 rs:=by
 intro r hr;rcases List.eq_nil_or_concat rs with rfl|⟨t,x,rfl⟩;·simp at hr
 ·rw[List.concat_eq_append]at*;rw[endR_snoc];rcases List.mem_append.1 hr with hr|hr;·have:=(List.pairwise_append.1 h.up).2.2 r hr x (by simp);have:=(h.each x (by simp)).2.1;omega
  ·simp at hr;subst hr;exact Int.le_refl _
theorem endR_pos{rs:Rg}(h:RgOk rs):1≤endR 1 rs:=by cases rs with|nil=>exact Int.le_refl _|cons r t=>obtain⟨x,hx,he⟩:=endR_mem 1 (r::t) (by simp);rw[he];have:=h.each x hx;omega
theorem RgOk.snoc{rs:Rg}(h:RgOk rs){gap many:Nat}(h1: ¬(gap=0∧rs≠[]))(h2: ¬(many=0∨1099511627777<endR 1 rs+gap+many)):RgOk (rs++[(endR 1 rs+gap,endR 1 rs+gap+many)]):=by
 have hp:=endR_pos h;refine⟨List.pairwise_append.2 ⟨h.up,by simp,fun a ha b hb=>?_⟩,fun r hr=>?_⟩;·simp at hb;subst hb;have:=endR_last h a ha;have:rs≠[]:=List.ne_nil_of_mem ha;have:gap≠0:=fun e=>h1 ⟨e,this⟩;simp only;omega
 ·rcases List.mem_append.1 hr with hr|hr;·exact h.each r hr
  ·simp at hr;subst hr;simp only;omega
theorem rgsA_ok: ∀(n:Nat)(rs out:Rg)(l r:List UInt8),RgOk rs→rgsA n rs l=.ok out r→RgOk out∧out.length=rs.length+n∧out.length+r.length≤rs.length+l.length∧ ∃k,k≤l.length∧r=l.drop k
 |0,rs,out,l,r,h,he=>by simp only[rgsA]at he;injection he with h1 h2;subst h1 h2;exact⟨h,by simp,Nat.le_refl _,0,by omega,by simp⟩
 |n+1,rs,out,l,r,h,he=>by
  simp only[rgsA]at he;split at he;·cases he
  ·cases he
  rename_i gap l1 hg;split at he;·cases he
  rename_i hg0;split at he;·cases he
  ·cases he
  rename_i many l2 hm;split at he;·cases he
  rename_i hm0;obtain⟨h1,h2,h3,k,h4,h5⟩:=rgsA_ok n _ out l2 r (h.snoc hg0 hm0) he;obtain⟨_,k1,a1,a2,rfl⟩:=numR_ok hg;obtain⟨_,k2,b1,b2,rfl⟩:=numR_ok hm;simp only[List.length_append,List.length_cons,List.length_nil,List.length_drop]at h2 h3 h4 b2;exact⟨h1,by omega,by omega,k1+(k2+k),by omega,by rw[h5,List.drop_drop,List.drop_drop]⟩
theorem rgsA_enc: ∀(n:Nat)(done rs:Rg)(r:List UInt8),n=rs.length→RgOk (done++rs)→rgsA n done (encR (endR 1 done) rs++r)=.ok (done++rs) r
 |0,done,rs,r,hn,_=>by have:rs=[]:=List.length_eq_zero_iff.1 hn.symm;subst this;simp[rgsA,encR]
 |n+1,done,rs,r,hn,h=>by
  cases rs with
   |nil=>simp at hn
   |cons x rs=>
    have hx:=h.each x (by simp);have hd:RgOk done:=⟨(List.pairwise_append.1 h.up).1,fun r hr=>h.each r (by simp[hr])⟩;have hp:=endR_pos hd;have hle:endR 1 done≤x.1∧(done≠[]→endR 1 done<x.1):=by
     by_cases hne:done=[];·subst hne;exact⟨hx.1,fun h=>absurd rfl h⟩
     ·obtain⟨q,hq,he⟩:=endR_mem 1 done hne;have:=(List.pairwise_append.1 h.up).2.2 q hq x (by simp);rw[he];exact⟨by omega,fun _=>this⟩
    have e0:encR (endR 1 done) (x::rs)++r=numB (x.1-endR 1 done).toNat++(numB (x.2-x.1).toNat++(encR x.2 rs++r)):=by simp[encR]
    rw[rgsA,e0,numR_numB _ _ (by omega)];simp only;rw[if_neg (by rintro⟨h1,h2⟩;have:=hle.2 h2;omega),numR_numB _ _ (by omega)];simp only;rw[if_neg (by omega)];have e1:endR 1 done+((x.1-endR 1 done).toNat:Int)=x.1:=by omega
    have e2:x.1+((x.2-x.1).toNat:Int)=x.2:=by omega
    rw[e1,e2];have ih:=rgsA_enc n (done++[(x.1,x.2)]) rs r (by simp at hn;omega) (by simpa using h);rw[endR_snoc]at ih;rw[ih];simp
theorem rangeR_enc{rs:Rg}(h:RgOk rs)(hne:rs≠[])(hl:rs.length<4398046511104)(r:List UInt8):rangeR (numB rs.length++(encR 1 rs++r))=.ok rs r:=by unfold rangeR;rw[numR_numB _ _ hl];simp only;rw[if_neg (by simpa using hne)];exact rgsA_enc rs.length [] rs r rfl h
theorem rangeR_ok{l r:List UInt8}{rs:Rg}(h:rangeR l=.ok rs r):RgOk rs∧rs≠[]∧rs.length+r.length<l.length∧ ∃k,0<k∧k≤l.length∧r=l.drop k:=by
 unfold rangeR at h;split at h;·cases h
 ·cases h
 rename_i n l1 hn;split at h;·cases h
 rename_i h0;obtain⟨h1,h2,h3,k,h4,h5⟩:=rgsA_ok n [] rs l1 r RgOk.nil h;obtain⟨_,k1,a1,a2,rfl⟩:=numR_ok hn;simp only[List.length_nil,List.length_drop]at h2 h3 h4;refine⟨h1,fun e=>?_,by omega,k1+k,by omega,by omega,by rw[h5,List.drop_drop]⟩;rw[e]at h2;simp at h2;omega
theorem aheadH_snoc(m:Had)(p:List UInt8×Rg):aheadH (m++[p])=p.1:=by unfold aheadH;simp
theorem ahead_up{m:Had}(h:HadOk m){s:List UInt8}(hs:bytesBefore (aheadH m) s=true): ∀p∈m,bytesBefore p.1 s=true:=by
 intro p hp;rcases List.eq_nil_or_concat m with rfl|⟨t,x,rfl⟩;·simp at hp
 ·rw[List.concat_eq_append]at*;rw[aheadH_snoc]at hs;rcases List.mem_append.1 hp with hp|hp;·exact bb_trans ((List.pairwise_append.1 h.up).2.2 p hp x (by simp)) hs
  ·simp at hp;subst hp;exact hs
theorem HadOk.snoc{m:Had}(h:HadOk m){s:List UInt8}{rs:Rg}(hs:bytesBefore (aheadH m) s=true)(hn:nameB s=true)(hr:RgOk rs)(hne:rs≠[]):HadOk (m++[(s,rs)]):=⟨List.pairwise_append.2 ⟨h.up,by simp,fun a ha b hb=>by simp at hb;subst hb;exact ahead_up h hs a ha⟩,fun p hp=>by
 rcases List.mem_append.1 hp with hp|hp;·exact h.each p hp
 ·simp at hp;subst hp;exact⟨hn,hr,hne⟩⟩
theorem ahead_of{done m:Had}{p:List UInt8×Rg}(h:HadOk (done++p::m)):bytesBefore (aheadH done) p.1=true:=by
 rcases List.eq_nil_or_concat done with rfl|⟨t,x,rfl⟩;·have hn:=(h.each p (by simp)).1;unfold nameB at hn;simp only[Bool.and_eq_true,decide_eq_true_eq]at hn;cases hp:p.1 with|nil=>rw[hp]at hn;simp at hn|cons c t=>rfl
 ·rw[List.concat_eq_append]at*;rw[aheadH_snoc];exact(List.pairwise_append.1 h.up).2.2 x (by simp) p (by simp)
theorem srcsA_enc: ∀(n:Nat)(done m:Had)(r:List UInt8),n=m.length→HadOk (done++m)→(∀p∈m,p.2.length<4398046511104)→srcsA n done (m.flatMap encS++r)=.ok (done++m) r
 |0,done,m,r,hn,_,_=>by have:m=[]:=List.length_eq_zero_iff.1 hn.symm;subst this;simp[srcsA]
 |n+1,done,m,r,hn,h,hl=>by
  cases m with
   |nil=>simp at hn
   |cons p m=>
    obtain⟨h1,h2,h3⟩:=h.each p (by simp);have e0:(p::m).flatMap encS++r=UInt8.ofNat p.1.length::(p.1++(numB p.2.length++(encR 1 p.2++(m.flatMap encS++r)))):=by simp[encS]
    rw[srcsA,e0,srcR_src _ _ h1];simp only;rw[if_pos (ahead_of h),rangeR_enc h2 h3 (hl p (by simp))];simp only;rw[srcsA_enc n (done++[(p.1,p.2)]) m r (by simp at hn;omega) (by simpa using h) (fun q hq=>hl q (by simp[hq]))];simp
theorem decH_enc{m:Had}(h:HadOk m)(hm:m.length<4398046511104)(hl: ∀p∈m,p.2.length<4398046511104):decH (encH m)=.ok m []:=by unfold decH encH;rw[numR_numB _ _ hm];simp only;have:=srcsA_enc m.length [] m [] rfl h hl;rw[List.append_nil]at this;rw[this];simp
structure GoneOk(l:List (List UInt8)):Prop where
 name: ∀j(h:j<l.length),nameB l[j]=true
 up: ∀j(h:j<l.length),0<j→bytesBefore (l[j-1]'(by omega)) l[j]=true
def staysB(gone:List (List UInt8))(e:Ev):Bool:=!decide (e.per∈gone)||(e.kind==14)
def tkB(gone:List (List UInt8))(had:Had)(l:List Ev)(k:Nat)(e:Ev):Bool:=mayB e&&!decide (idOf e∈(l.take k).map idOf)&&staysB gone e&&hadB had e.src e.num&&(decide (k=0)||(cmpE e (l.getD (k-1) e)==1))&&(!(e.kind==14)||decide (e.per∈gone))
def ltB(gone:List (List UInt8))(l:List Ev)(k:Nat)(e:Ev):Bool:=mayB e&&!decide (idOf e∈(l.take k).map idOf)&&staysB gone e
structure RightOk(gone:List (List UInt8))(had:Had)(taken late:List Ev):Prop where
 len:taken.length≤1048576
 taken: ∀k(h:k<taken.length),tkB gone had taken k taken[k]=true
 late: ∀k(h:k<late.length),ltB gone late k late[k]=true
theorem cI_one{x y:Int}:0<Lib.compareInt x y↔Lib.compareInt x y=1:=by unfold Lib.compareInt;split<;>(try split)<;>omega
theorem cB_one: ∀(a b:List UInt8),0<Lib.compareBytes a b↔Lib.compareBytes a b=1
 |[],[]=>by simp[Lib.compareBytes]
 |[],_::_=>by simp[Lib.compareBytes]
 |_::_,[]=>by simp[Lib.compareBytes]
 |x::a,y::b=>by
  have ih:=cB_one a b;unfold Lib.compareBytes;split;·omega
  ·split;·omega
   ·exact ih
theorem cmpE_one{a b:Ev}:0<cmpE a b↔cmpE a b=1:=by
 unfold cmpE orI;split;·exact cI_one
 ·split;·exact cB_one _ _
  ·exact cI_one
theorem may_forgetP{e:Ev}(h:mayB e=true)(hk:e.kind=14):forgetB e=true:=by unfold mayB tailB at h;unfold forgetB;rw[hk]at h;simp only[Bool.and_eq_true]at h⊢;have h2:=h.2;simp at h2;simp[hk,h.1,h2]
theorem forget_kindP{e:Ev}(h:forgetB e=true):e.kind=14∧nameB e.per=true:=by unfold forgetB at h;simp only[Bool.and_eq_true,beq_iff_eq]at h;exact⟨h.1.1.1.1.1,h.1.1.1.2⟩
structure PtInv(x:Itk):Prop where
 lids:(x.late.map idOf).Nodup
 name: ∀p∈x.gone,nameB p=true
theorem PtInv.new(slack idle:Int):PtInv (Itk.new slack idle):=⟨by simp[Itk.new],fun p hp=>by simp[Itk.new]at hp⟩
theorem PtInv.hear{x:Itk}(h:PtInv x)(e:Ev)(now:Int):PtInv (x.hear e now):=⟨h.lids,h.name⟩
theorem PtInv.drop{x:Itk}(h:PtInv x)(p:Ev→Bool):PtInv (x.drop p):=⟨(List.filter_sublist.map idOf).nodup h.lids,h.name⟩
theorem PtInv.took{x:Itk}{e:Ev}(h:PtInv x)(hm:mayB e=true):PtInv (x.took e):=by
 unfold Itk.took;split
 ·rename_i hk;refine PtInv.drop (x:={x.put e with gone:=e.per::x.gone}) ⟨h.lids,fun p hp=>?_⟩ _;rcases List.mem_cons.1 hp with rfl|hp;·exact(forget_kindP (may_forgetP hm hk)).2
  ·exact h.name p hp
 ·exact⟨h.lids,h.name⟩
theorem PtInv.admits{x:Itk}(h:PtInv x)(e:Ev):PtInv (x.admits e):=by
 unfold Itk.admits;split;·exact h
 ·rename_i hr;exact(h.hear e _).took (not_refused (show x.refuses e=false by simpa using hr)).1
theorem PlayInv.right{x:Itk}(h:PlayInv x)(h2:PtInv x)(hl:x.taken.length≤1048576):RightOk x.gone x.had x.taken x.late:=by
 refine⟨hl,fun k hk=>?_,fun k hk=>?_⟩
 ·have hm:x.taken[k]∈x.taken:=List.getElem_mem hk;unfold tkB;rw[h.may _ (.inl hm),h.kept _ hm];have h1:idOf x.taken[k]∉(x.taken.take k).map idOf:=fun hc=>by obtain⟨a,ha,he⟩:=List.mem_map.1 hc;obtain⟨i,hi,rfl⟩:=List.getElem_of_mem ha;rw[List.length_take]at hi;rw[List.getElem_take]at he;have:=(List.pairwise_iff_getElem.1 h.ids) i k (by simp;omega) (by simp;omega) (by omega);rw[List.getElem_map,List.getElem_map]at this;exact this he
  have h2:staysB x.gone x.taken[k]=true:=by
   unfold staysB;by_cases hg:x.taken[k].per∈x.gone;·have:=h.inv.stay _ (.inl hm) hg;simp[this]
   ·simp[hg]
  have h3:(decide (k=0)||(cmpE x.taken[k] (x.taken.getD (k-1) x.taken[k])==1))=true:=by
   by_cases h0:k=0;·simp[h0]
   ·have hk1:k-1<x.taken.length:=by omega
    have e1:x.taken.getD (k-1) x.taken[k]=x.taken[k-1]:=by rw[List.getD_eq_getElem?_getD,List.getElem?_eq_getElem hk1];rfl
    rw[e1];have hle:=(List.pairwise_iff_getElem.1 h.sorted) (k-1) k hk1 hk (by omega);have hne:=(List.pairwise_iff_getElem.1 h.ids) (k-1) k (by simp;omega) (by simp;omega) (by omega);rw[List.getElem_map,List.getElem_map]at hne;have:LtE x.taken[k-1] x.taken[k]:=by
     by_cases hlt:LtE x.taken[k-1] x.taken[k];·exact hlt
     ·rcases LtE.total hlt with h'|⟨_,e2,e3⟩;·exact absurd h' hle
      ·exact absurd (by unfold idOf;rw[e2,e3]) hne
    have:=cmpE_one.1 (cmpE_pos.2 this);simp[this]
  have h4:(!(x.taken[k].kind==14)||decide (x.taken[k].per∈x.gone))=true:=by
   by_cases h14:x.taken[k].kind=14;·have:=h.inv.forg _ hm h14;simp[this]
   ·simp[h14]
  rw[h2,h3,h4];simpa using h1
 ·have hm:x.late[k]∈x.late:=List.getElem_mem hk;unfold ltB;rw[h.may _ (.inr hm)];have h1:idOf x.late[k]∉(x.late.take k).map idOf:=fun hc=>by obtain⟨a,ha,he⟩:=List.mem_map.1 hc;obtain⟨i,hi,rfl⟩:=List.getElem_of_mem ha;rw[List.length_take]at hi;rw[List.getElem_take]at he;have:=(List.pairwise_iff_getElem.1 h2.lids) i k (by simp;omega) (by simp;omega) (by omega);rw[List.getElem_map,List.getElem_map]at this;exact this he
  have h3:staysB x.gone x.late[k]=true:=by
   unfold staysB;by_cases hg:x.late[k].per∈x.gone;·have:=h.inv.stay _ (.inr hm) hg;simp[this]
   ·simp[hg]
  rw[h3];simpa using h1
theorem gone_ok{x:Itk}(h:PtInv x){r:List (List UInt8)}(hr:Rising r x.gone):GoneOk r:=⟨fun j hj=>h.name _ ((hr.2 _).1 (List.getElem_mem hj)),fun j hj h0=>by
 have:=(List.pairwise_iff_getElem.1 hr.1) (j-1) j (by omega) hj (by omega);rcases bb_total (fun e=>lt_irr _ (e▸this):r[j-1]'(by omega)≠r[j])with h'|h';·exact h'
 ·exact absurd (bb_lt h') (fun h2=>lt_asy this h2)⟩
theorem stays_any(w:World)(g bi bg n:Nat)(gone:List (List UInt8))(e:Ev)(hs:e.small)(hc:w.cell? ⟨g,0,none⟩=some (.pointer (some ⟨bi,0,none⟩)))(hb5:w.cell? ⟨bi,5,none⟩=some (.map (some bg)))(hset:SetB w bg n gone):Calls Tryz.prog 102 #[e.agg,.pointer (some ⟨g,0,none⟩)] w (Says (staysB gone e) w):=by
 obtain⟨s1,s2,s3,s4⟩:=hs;have hg:g<w.heap.size:=World.block_lt_of_cell? w ⟨g,0,none⟩ hc;have hbi:bi<w.heap.size:=World.block_lt_of_cell? w ⟨bi,5,none⟩ hb5;have hc':(w.alloc (evObj e)).cell? ⟨g,0,none⟩=_:=(World.cell?_alloc_lt w (evObj e) _ hg).trans hc;have hb5':(w.alloc (evObj e)).cell? ⟨bi,5,none⟩=_:=(World.cell?_alloc_lt w (evObj e) _ hbi).trans hb5;have hl: ∀k,(Instr.lookup 79 (.map (some bg)) (.string ⟨e.per.toArray⟩) false).run Tryz.prog ((w.alloc (evObj e)).drewN k)=.ok (.bool (decide (e.per∈gone))) ((w.alloc (evObj e)).drewN k):=fun k=>((hset.alloc (evObj e)).drewN k).look e.per (by unfold maxLen;omega);have hb:Below w.heap.size w (w.alloc (evObj e)):=(Below.refl _ _).alloc (Nat.le_refl _) _;have HO:=qH (show staysB gone e=(!decide (e.per∈gone)||(e.kind==14))from rfl);obtain⟨e0,e1,e2,e3,e4,e5,e6,e7⟩:=EvIn.new w e;clear hset hc hb5;unfold Ev.agg;generalize hd:decide (e.per∈gone)=d at*;clear hd;go_enter Tryz.func102,Tryz.ntmps102;cases d;·go_wp2;go_quiet(fail);go_wp2;go_ret;exact⟨by rw[HO.out];rfl,below_drewN hb _⟩
 ·go_wp2;go_quiet(fail);go_wp2;go_ret;exact⟨by rw[HO.out];rfl,below_drewN hb _⟩
theorem call_stays(args:Array Value)(w:World):(callFunc 102 args).run Tryz.prog w=.ok (.enter 102 args) w:=by kernel_rfl
end Go.Proofs.YtajihpcdplpcdaaGreatDoor
