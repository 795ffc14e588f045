/-
  Layer 7: number: what bytes begin with.
-/
import Derived.Test.YtcmmclliabhnjaaGreatDoorWPnM
import Derived.Test.YtcmmclliabhnjaaGreatDoorWSets
set_option maxRecDepth 100000
set_option maxHeartbeats 16000000
namespace Go.Proofs.YtcmmclliabhnjaaGreatDoor
open Go.RowKit Go.Maps Go.Sort
/-!### a set's bytes, read -/
inductive DecR (α : Type) where
  | ok (a : α) (r : List UInt8)
  | torn
  | form
def numD:Nat→Nat→Nat→List UInt8→DecR Nat|0,_,_,_=>.form|_+1,_,_,[]=>.torn|f+1,i,acc,c::r=>if c.toNat=0∧0<i then .form else if c.toNat<128 then .ok (acc+c.toNat*128^i) r else numD f (i+1) (acc+(c.toNat%128)*128^i) r
def numR(l:List UInt8):DecR Nat:=numD 6 0 0 l
def srcR:List UInt8→DecR (List UInt8)|[]=>.torn|c::r=>if r.length<c.toNat then .torn else if nameB (r.take c.toNat)then .ok (r.take c.toNat) (r.drop c.toNat)else .form
def rgsA:Nat→Rg→List UInt8→DecR Rg|0,rs,l=>.ok rs l|n+1,rs,l=>match numR l with|.torn=>.torn|.form=>.form|.ok gap l1=>if gap=0∧rs≠[]then .form else match numR l1 with|.torn=>.torn|.form=>.form|.ok many l2=>if many=0∨1099511627777<endR 1 rs+gap+many then .form else rgsA n (rs++[(endR 1 rs+gap,endR 1 rs+gap+many)]) l2
def rangeR(l:List UInt8):DecR Rg:=match numR l with|.torn=>.torn|.form=>.form|.ok n l1=>if n=0 then .form else rgsA n [] l1
def aheadH(m:Had):List UInt8:=(m.getLast?.map (·.1)).getD []
def srcsA:Nat→Had→List UInt8→DecR Had|0,m,l=>.ok m l|n+1,m,l=>match srcR l with|.torn=>.torn|.form=>.form|.ok s l1=>if bytesBefore (aheadH m) s then(match rangeR l1 with|.torn=>.torn|.form=>.form|.ok rs l2=>srcsA n (m++[(s,rs)]) l2)else .form
def decH(b:List UInt8):DecR Had:=match numR b with|.torn=>.torn|.form=>.form|.ok n l=>match srcsA n [] l with|.torn=>.torn|.form=>.form|.ok m r=>if r=[]then .ok m []else .form
theorem numD_numB: ∀(f i acc n:Nat)(r:List UInt8),n<128^(f+1)→(n≠0∨i=0)→numD (f+1) i acc (numB n++r)=.ok (acc+n*128^i) r
 |f,i,acc,n,r,hn,h0=>by
  by_cases h:n<128
  ·rw[numB_lo h];have e:(UInt8.ofNat n).toNat=n:=by simp;omega
   simp only[List.singleton_append,numD,e];rw[if_neg (by omega),if_pos h]
  ·rw[numB_hi h];have e:(UInt8.ofNat (n%128+128)).toNat=n%128+128:=by simp;omega
   cases f with
    |zero=>omega
    |succ f=>
     simp only[List.cons_append];rw[numD];simp only[e];rw[if_neg (by omega),if_neg (by omega)];rw[numD_numB f (i+1) _ (n/128) r (by rw[Nat.pow_succ]at hn;omega) (.inl (by omega))];congr 1;have e2:(n%128+128)%128=n%128:=by omega
     rw[e2,Nat.pow_succ];have e3:n*128^i=(n%128+128*(n/128))*128^i:=by rw[Nat.mod_add_div]
     rw[e3,Nat.add_mul,Nat.add_assoc];congr 2;rw[Nat.mul_comm (128^i) 128,←Nat.mul_assoc,Nat.mul_comm (n/128) 128]
theorem numR_numB(n:Nat)(r:List UInt8)(h:n<4398046511104):numR (numB n++r)=.ok n r:=by unfold numR;rw[numD_numB 5 0 0 n r (by simpa using h) (.inr rfl)];simp
theorem numD_ok: ∀(f i acc n:Nat)(l r:List UInt8),numD f i acc l=.ok n r→acc<128^i→n<128^(i+f)∧ ∃k,0<k∧k≤l.length∧r=l.drop k
 |0,_,_,_,_,_,h,_=>by simp[numD]at h
 |f+1,i,acc,n,[],r,h,_=>by simp[numD]at h
 |f+1,i,acc,n,c::l,r,h,ha=>by
  have hc:=c.toNat_lt;have hp:(128:Nat)^(i+1)=128^i*128:=Nat.pow_succ ..;have hm:128^(i+1)≤128^(i+(f+1)):=Nat.pow_le_pow_right (by decide) (by omega);simp only[numD]at h;split at h;·cases h
  split at h;·rename_i h2;injection h with h h';refine⟨?_,1,by omega,by simp,by rw[←h'];rfl⟩;have:c.toNat*128^i≤127*128^i:=Nat.mul_le_mul_right _ (by omega);omega
  ·have hb:acc+(c.toNat%128)*128^i<128^(i+1):=by have:c.toNat%128*128^i≤127*128^i:=Nat.mul_le_mul_right _ (by omega);omega
   obtain⟨h1,k,h2,h3,h4⟩:=numD_ok f (i+1) _ n l r h hb;exact⟨by rw[show i+(f+1)=i+1+f by omega];exact h1,k+1,by omega,by simp;omega,by rw[h4];rfl⟩
theorem numR_ok{l r:List UInt8}{n:Nat}(h:numR l=.ok n r):n<4398046511104∧ ∃k,0<k∧k≤l.length∧r=l.drop k:=by have:=numD_ok 6 0 0 n l r h (by decide);exact⟨by simpa using this.1,this.2⟩
theorem numR_len{l r:List UInt8}{n:Nat}(h:numR l=.ok n r):r.length<l.length:=by obtain⟨_,k,h1,h2,rfl⟩:=numR_ok h;rw[List.length_drop];omega
theorem srcR_src(s r:List UInt8)(h:nameB s=true):srcR (UInt8.ofNat s.length::(s++r))=.ok s r:=by
 have hl:s.length≤24:=by unfold nameB at h;simp at h;omega
 have e:(UInt8.ofNat s.length).toNat=s.length:=by simp;omega
 simp only[srcR];rw[e,if_neg (by simp)];simp[h]
theorem srcR_ok{l s r:List UInt8}(h:srcR l=.ok s r):nameB s=true∧ ∃k,0<k∧k≤l.length∧r=l.drop k:=by
 cases l with
  |nil=>simp[srcR]at h
  |cons c t=>
   simp only[srcR]at h;split at h;·cases h
   split at h;·rename_i h1 h2;injection h with h h';refine⟨by rw[←h];exact h2,c.toNat+1,by omega,by simp;omega,by rw[←h'];simp⟩
   ·cases h
theorem endR_mem: ∀(e:Int)(rs:Rg),rs≠[]→ ∃r∈rs,endR e rs=r.2|_,[],h=>absurd rfl h|e,r::rs,_=>by cases rs with|nil=>exact⟨r,by simp,rfl⟩|cons q rs=>obtain⟨x,hx,h⟩:=endR_mem r.2 (q::rs) (by simp);exact⟨x,by simp[List.mem_cons.1 hx],h⟩
theorem endR_last{rs:Rg}(h:RgOk rs): ∀r∈rs,r.2≤endR 1 rs:=by
 intro r hr;rcases List.eq_nil_or_concat rs with rfl|⟨t,x,rfl⟩;·simp at hr
 ·rw[List.concat_eq_append]at*;rw[endR_snoc];rcases List.mem_append.1 hr with hr|hr;·have:=(List.pairwise_append.1 h.up).2.2 r hr x (by simp);have:=(h.each x (by simp)).2.1;omega
  ·simp at hr;subst hr;exact Int.le_refl _
theorem endR_pos{rs:Rg}(h:RgOk rs):1≤endR 1 rs:=by cases rs with|nil=>exact Int.le_refl _|cons r t=>obtain⟨x,hx,he⟩:=endR_mem 1 (r::t) (by simp);rw[he];have:=h.each x hx;omega
theorem RgOk.snoc{rs:Rg}(h:RgOk rs){gap many:Nat}(h1: ¬(gap=0∧rs≠[]))(h2: ¬(many=0∨1099511627777<endR 1 rs+gap+many)):RgOk (rs++[(endR 1 rs+gap,endR 1 rs+gap+many)]):=by
 have hp:=endR_pos h;refine⟨List.pairwise_append.2 ⟨h.up,by simp,fun a ha b hb=>?_⟩,fun r hr=>?_⟩;·simp at hb;subst hb;have:=endR_last h a ha;have:rs≠[]:=List.ne_nil_of_mem ha;have:gap≠0:=fun e=>h1 ⟨e,this⟩;simp only;omega
 ·rcases List.mem_append.1 hr with hr|hr;·exact h.each r hr
  ·simp at hr;subst hr;simp only;omega
theorem rgsA_ok: ∀(n:Nat)(rs out:Rg)(l r:List UInt8),RgOk rs→rgsA n rs l=.ok out r→RgOk out∧out.length=rs.length+n∧out.length+r.length≤rs.length+l.length∧ ∃k,k≤l.length∧r=l.drop k
 |0,rs,out,l,r,h,he=>by simp only[rgsA]at he;injection he with h1 h2;subst h1 h2;exact⟨h,by simp,Nat.le_refl _,0,by omega,by simp⟩
 |n+1,rs,out,l,r,h,he=>by
  simp only[rgsA]at he;split at he;·cases he
  ·cases he
  rename_i gap l1 hg;split at he;·cases he
  rename_i hg0;split at he;·cases he
  ·cases he
  rename_i many l2 hm;split at he;·cases he
  rename_i hm0;obtain⟨h1,h2,h3,k,h4,h5⟩:=rgsA_ok n _ out l2 r (h.snoc hg0 hm0) he;obtain⟨_,k1,a1,a2,rfl⟩:=numR_ok hg;obtain⟨_,k2,b1,b2,rfl⟩:=numR_ok hm;simp only[List.length_append,List.length_cons,List.length_nil,List.length_drop]at h2 h3 h4 b2;exact⟨h1,by omega,by omega,k1+(k2+k),by omega,by rw[h5,List.drop_drop,List.drop_drop]⟩
theorem rgsA_enc: ∀(n:Nat)(done rs:Rg)(r:List UInt8),n=rs.length→RgOk (done++rs)→rgsA n done (encR (endR 1 done) rs++r)=.ok (done++rs) r
 |0,done,rs,r,hn,_=>by have:rs=[]:=List.length_eq_zero_iff.1 hn.symm;subst this;simp[rgsA,encR]
 |n+1,done,rs,r,hn,h=>by
  cases rs with
   |nil=>simp at hn
   |cons x rs=>
    have hx:=h.each x (by simp);have hd:RgOk done:=⟨(List.pairwise_append.1 h.up).1,fun r hr=>h.each r (by simp[hr])⟩;have hp:=endR_pos hd;have hle:endR 1 done≤x.1∧(done≠[]→endR 1 done<x.1):=by
     by_cases hne:done=[];·subst hne;exact⟨hx.1,fun h=>absurd rfl h⟩
     ·obtain⟨q,hq,he⟩:=endR_mem 1 done hne;have:=(List.pairwise_append.1 h.up).2.2 q hq x (by simp);rw[he];exact⟨by omega,fun _=>this⟩
    have e0:encR (endR 1 done) (x::rs)++r=numB (x.1-endR 1 done).toNat++(numB (x.2-x.1).toNat++(encR x.2 rs++r)):=by simp[encR]
    rw[rgsA,e0,numR_numB _ _ (by omega)];simp only;rw[if_neg (by rintro⟨h1,h2⟩;have:=hle.2 h2;omega),numR_numB _ _ (by omega)];simp only;rw[if_neg (by omega)];have e1:endR 1 done+((x.1-endR 1 done).toNat:Int)=x.1:=by omega
    have e2:x.1+((x.2-x.1).toNat:Int)=x.2:=by omega
    rw[e1,e2];have ih:=rgsA_enc n (done++[(x.1,x.2)]) rs r (by simp at hn;omega) (by simpa using h);rw[endR_snoc]at ih;rw[ih];simp
theorem rangeR_enc{rs:Rg}(h:RgOk rs)(hne:rs≠[])(hl:rs.length<4398046511104)(r:List UInt8):rangeR (numB rs.length++(encR 1 rs++r))=.ok rs r:=by unfold rangeR;rw[numR_numB _ _ hl];simp only;rw[if_neg (by simpa using hne)];exact rgsA_enc rs.length [] rs r rfl h
theorem rangeR_ok{l r:List UInt8}{rs:Rg}(h:rangeR l=.ok rs r):RgOk rs∧rs≠[]∧rs.length+r.length<l.length∧ ∃k,0<k∧k≤l.length∧r=l.drop k:=by
 unfold rangeR at h;split at h;·cases h
 ·cases h
 rename_i n l1 hn;split at h;·cases h
 rename_i h0;obtain⟨h1,h2,h3,k,h4,h5⟩:=rgsA_ok n [] rs l1 r RgOk.nil h;obtain⟨_,k1,a1,a2,rfl⟩:=numR_ok hn;simp only[List.length_nil,List.length_drop]at h2 h3 h4;refine⟨h1,fun e=>?_,by omega,k1+k,by omega,by omega,by rw[h5,List.drop_drop]⟩;rw[e]at h2;simp at h2;omega
theorem aheadH_snoc(m:Had)(p:List UInt8×Rg):aheadH (m++[p])=p.1:=by unfold aheadH;simp
theorem ahead_up{m:Had}(h:HadOk m){s:List UInt8}(hs:bytesBefore (aheadH m) s=true): ∀p∈m,bytesBefore p.1 s=true:=by
 intro p hp;rcases List.eq_nil_or_concat m with rfl|⟨t,x,rfl⟩;·simp at hp
 ·rw[List.concat_eq_append]at*;rw[aheadH_snoc]at hs;rcases List.mem_append.1 hp with hp|hp;·exact bb_trans ((List.pairwise_append.1 h.up).2.2 p hp x (by simp)) hs
  ·simp at hp;subst hp;exact hs
theorem HadOk.snoc{m:Had}(h:HadOk m){s:List UInt8}{rs:Rg}(hs:bytesBefore (aheadH m) s=true)(hn:nameB s=true)(hr:RgOk rs)(hne:rs≠[]):HadOk (m++[(s,rs)]):=⟨List.pairwise_append.2 ⟨h.up,by simp,fun a ha b hb=>by simp at hb;subst hb;exact ahead_up h hs a ha⟩,fun p hp=>by
 rcases List.mem_append.1 hp with hp|hp;·exact h.each p hp
 ·simp at hp;subst hp;exact⟨hn,hr,hne⟩⟩
theorem ahead_of{done m:Had}{p:List UInt8×Rg}(h:HadOk (done++p::m)):bytesBefore (aheadH done) p.1=true:=by
 rcases List.eq_nil_or_concat done with rfl|⟨t,x,rfl⟩;·have hn:=(h.each p (by simp)).1;unfold nameB at hn;simp only[Bool.and_eq_true,decide_eq_true_eq]at hn;cases hp:p.1 with|nil=>rw[hp]at hn;simp at hn|cons c t=>rfl
 ·rw[List.concat_eq_append]at*;rw[aheadH_snoc];exact(List.pairwise_append.1 h.up).2.2 x (by simp) p (by simp)
theorem srcsA_enc: ∀(n:Nat)(done m:Had)(r:List UInt8),n=m.length→HadOk (done++m)→(∀p∈m,p.2.length<4398046511104)→srcsA n done (m.flatMap encS++r)=.ok (done++m) r
 |0,done,m,r,hn,_,_=>by have:m=[]:=List.length_eq_zero_iff.1 hn.symm;subst this;simp[srcsA]
 |n+1,done,m,r,hn,h,hl=>by
  cases m with
   |nil=>simp at hn
   |cons p m=>
    obtain⟨h1,h2,h3⟩:=h.each p (by simp);have e0:(p::m).flatMap encS++r=UInt8.ofNat p.1.length::(p.1++(numB p.2.length++(encR 1 p.2++(m.flatMap encS++r)))):=by simp[encS]
    rw[srcsA,e0,srcR_src _ _ h1];simp only;rw[if_pos (ahead_of h),rangeR_enc h2 h3 (hl p (by simp))];simp only;rw[srcsA_enc n (done++[(p.1,p.2)]) m r (by simp at hn;omega) (by simpa using h) (fun q hq=>hl q (by simp[hq]))];simp
theorem decH_enc{m:Had}(h:HadOk m)(hm:m.length<4398046511104)(hl: ∀p∈m,p.2.length<4398046511104):decH (encH m)=.ok m []:=by unfold decH encH;rw[numR_numB _ _ hm];simp only;have:=srcsA_enc m.length [] m [] rfl h hl;rw[List.append_nil]at this;rw[this];simp
theorem or_shift(a m i:Nat)(h:a<2^i):a|||m*2^i=a+m*2^i:=by have:=Nat.shiftLeft_add_eq_or_of_lt h m;rw[Nat.shiftLeft_eq]at this;rw[Nat.or_comm,←this,Nat.add_comm]
theorem and127b(x:Nat)(h:x<256):bits .and .u8 (x:Int) 127=((x%128:Nat):Int):=by
 show IntKind.u8.wrap ((BitVec.ofInt 8 (x:Int)&&&BitVec.ofInt 8 ((127:Nat):Int)).toNat:Int)=_;have e:(BitVec.ofInt 8 (x:Int)&&&BitVec.ofInt 8 ((127:Nat):Int)).toNat=x%128:=by rw[BitVec.toNat_and,BitVec.ofInt_natCast,BitVec.ofInt_natCast,BitVec.toNat_ofNat,BitVec.toNat_ofNat,Nat.mod_eq_of_lt (by omega:x<2^8)];exact Nat.and_two_pow_sub_one_eq_mod x 7
 rw[e];simp[IntKind.wrap,IntKind.bits,IntKind.signed];omega
def NrPost(w:World)(B:Nat)(l:List UInt8)(e:Ending)(w':World):Prop:=(match numR l with|.ok v r=> ∃A n c,e=.returned (.tuple #[.int .i64 v,.slice A n c,.int .i64 0])∧Byt w B A n c r|.torn=>e=.returned (.tuple #[.int .i64 0,.slice none 0 0,.int .i64 3])|.form=>e=.returned (.tuple #[.int .i64 0,.slice none 0 0,.int .i64 2]))∧ ∃q,w'=w.drewN q
def NumRel(w:World)(l:List UInt8)(acc i:Value)(W:World):Prop:= ∃q a:Nat,i=.int .i64 q∧q≤6∧acc=.int .i64 a∧a<128^q∧numD (6-q) q a (l.drop q)=numR l∧W=w
theorem Byt.tail{w:World}{B n c b off:Nat}{l:List UInt8}(h:Byt w B (some ⟨b,off,none⟩) n c l)(k:Nat)(hk:k≤n):Byt w B (if c=k then some ⟨b,off,none⟩else some ⟨b,off+k,none⟩) (n-k) (c-k) (l.drop k):=by
 have hcut:=h.cut k (n-k) (by omega);have hl:=h.len;have:(l.drop k).take (n-k)=l.drop k:=List.take_of_length_le (by simp;omega);rw[this]at hcut;split
 ·rename_i hc;have hcap:=h.cap;have:n-k=0:=by omega
  have h0:l.drop k=[]:=List.drop_of_length_le (by omega);rw[this,h0];exact Byt.nil w B _ _ (by have:=h.max;omega)
 ·exact hcut
theorem numb_any(w:World)(B:Nat)(A:Option Addr)(n k:Nat)(l:List UInt8)(h:Byt w B A n k l)(hn:n≤1000000000):Calls Tryz.prog 164 #[.slice A n k] w (NrPost w B l):=by
 have HB:=qH h;have hlen:=h.len;have hcap:=h.cap;have hmax:=h.max;unfold maxLen at hmax;have HST:=qH (show NumRel w l (.int .i64 0) (.int .i64 0) w from⟨0,0,rfl,by omega,rfl,by simp,rfl,rfl⟩);have HTN:=qH (show∀W q,numR l=.torn→W=w.drewN q→NrPost w B l (.returned (.tuple #[.int .i64 0,.slice none 0 0,.int .i64 3])) W from fun W q h1 h2=>by unfold NrPost;rw[h1];exact⟨rfl,q,h2⟩);have HFM:=qH (show∀W q,numR l=.form→W=w.drewN q→NrPost w B l (.returned (.tuple #[.int .i64 0,.slice none 0 0,.int .i64 2])) W from fun W q h1 h2=>by unfold NrPost;rw[h1];exact⟨rfl,q,h2⟩);have HOK:=qH (show∀W q(v:Nat)(z:Int)r A n c,z=v→numR l=.ok v r→Byt w B A n c r→W=w.drewN q→NrPost w B l (.returned (.tuple #[.int .i64 z,.slice A n c,.int .i64 0])) W from fun W q v z r A n c h0 h1 h2 h3=>by subst h0;unfold NrPost;rw[h1];exact⟨⟨_,_,_,rfl,h2⟩,q,h3⟩);have HLEN:=qH hlen;clear h hlen;go_enter Tryz.func164,Tryz.ntmps164;go_wp2;go_loopw[5,6,7,8](fun acc _ _ i W=>NumRel w l acc i W)(fun _ _ _ i _=>6-(intOf i).toNat);case atStart=>exact HST.out
 case round=>
  obtain⟨q,a,rfl,hq,rfl,ha,hR,hW⟩:=hrel;subst hW;by_cases hq6:q<6
  ·by_cases hql:q<n
   ·obtain⟨b,off,rfl,hb,hc⟩:=HB.out.cell (by omega);have hqL:q<l.length:=by rw[HLEN.out];exact hql
    have hcq:=hc q hqL;have hbyt:=HB.out.tail (q+1) (by omega);have HT:=qH hbyt;have hdr:l.drop q=l[q]::l.drop (q+1):=List.drop_eq_getElem_cons hqL;obtain⟨f,hf⟩: ∃f,6-q=f+1:=⟨5-q,by omega⟩;rw[hdr,hf]at hR;simp only[numD]at hR;have hx256:=(l[q]).toNat_lt;generalize l[q].toNat=x at*;have HA:=qH (and127b x hx256);have hp7:128^q=2^(7*q):=by rw[Nat.pow_mul]
    have HOR:=qH (show∀m:Nat,m<128→bits .or .i64 (a:Int) ((m*128^q:Nat):Int)=((a+m*128^q:Nat):Int)from fun m hm=>by have h1:m*128^q≤128*128^5:=Nat.mul_le_mul (by omega) (Nat.pow_le_pow_right (by omega) (by omega));have h2:128^q≤128^5:=Nat.pow_le_pow_right (by omega) (by omega);rw[i64_or_nat _ _ (by omega) (by omega)];rw[hp7]at ha⊢;rw[or_shift _ _ _ ha]);clear hdr hc hbyt hp7;by_cases hz:x=0∧0<q
    ·rw[if_pos hz]at hR;obtain⟨rfl,hq0⟩:=hz;have HF:=qH (HFM.out wr 0 hR.symm rfl);have t1:(0:Int)<q:=by omega
     clear hR HST HT HA HOR ha;go_wp2;go_ret3;exact HF.out
    ·rw[if_neg hz]at hR;by_cases hlo:x<128
     ·rw[if_pos hlo]at hR;have HR:=qH hR.symm;have HO:=qH (HOR.out x hlo);rw[Nat.mod_eq_of_lt hlo]at HA;have hw: ∀z:Nat,z<4611686018427387904→wrap64 (z:Int)=z:=fun z hz=>by unfold wrap64;omega
      have HW:=qH hw;have hp5:a+x*128^q<4611686018427387904:=by have h1:x*128^q≤128*128^5:=Nat.mul_le_mul (by omega) (Nat.pow_le_pow_right (by omega) (by omega));have h2:128^q≤128^5:=Nat.pow_le_pow_right (by omega) (by omega);omega
      have HP5:=qH hp5;have hqs:q=0∨q=1∨q=2∨q=3∨q=4∨q=5:=by omega
      have hzq:x=0→q=0:=fun h=>by omega
      clear hR HOR HST hz hw hp5;rcases Classical.em (k=q+1)with hk|hk;all_goals
       first|rw[if_pos hk,show k-(q+1)=0 by omega]at HT|rw[if_neg hk]at HT
       rcases hqs with rfl|rfl|rfl|rfl|rfl|rfl
      all_goals
       simp only[Nat.reducePow,Nat.reduceAdd,Nat.add_zero,Nat.mul_one,Nat.zero_add]at ha HO HT HP5 HR hcq hk;by_cases hx0:x=0
       ·first|exact absurd (hzq hx0) (by decide)|
         (subst hx0;go_wp2;go_quiet(fail);go_wp2;go_ret3;refine HOK.out _ _ _ _ _ _ _ _ ?_ HR.out HT.out rfl;have HA0:=HA.out;have HO0:=HO.out;have hw0:wrap64 0=0:=by unfold wrap64;omega
          simp only[Int.natCast_zero,Nat.add_zero]at HA0 HO0⊢;show bits BinOp.or IntKind.i64 (a:Int) (wrap64 (wrap64 (bits BinOp.and IntKind.u8 0 127)))=_;rw[HA0,hw0,hw0];exact HO0)
       ·have t2:((x:Int)==0)=false:=by simp;omega
        have t3:(x:Int)<128:=by omega
        go_wp2;go_quiet(fail);go_wp2;go_ret3;refine HOK.out _ _ _ _ _ _ _ _ ?_ HR.out HT.out rfl;first|(show bits BinOp.or IntKind.i64 (a:Int) (wrap64 (wrap64 (bits BinOp.and IntKind.u8 (x:Int) 127)))=_;rw[HA.out,HW.out x (by omega),HW.out x (by omega)];exact HO.out)|(show bits BinOp.or IntKind.i64 (a:Int) (wrap64 (wrap64 (bits BinOp.and IntKind.u8 (x:Int) 127)*128))=_;rw[HA.out,HW.out x (by omega),show((x:Int)*128)=((x*128:Nat):Int)by omega,HW.out _ (by omega)];exact HO.out)|(show bits BinOp.or IntKind.i64 (a:Int) (wrap64 (wrap64 (bits BinOp.and IntKind.u8 (x:Int) 127)*16384))=_;rw[HA.out,HW.out x (by omega),show((x:Int)*16384)=((x*16384:Nat):Int)by omega,HW.out _ (by omega)];exact HO.out)|(show bits BinOp.or IntKind.i64 (a:Int) (wrap64 (wrap64 (bits BinOp.and IntKind.u8 (x:Int) 127)*2097152))=_;rw[HA.out,HW.out x (by omega),show((x:Int)*2097152)=((x*2097152:Nat):Int)by omega,HW.out _ (by omega)];exact HO.out)|(show bits BinOp.or IntKind.i64 (a:Int) (wrap64 (wrap64 (bits BinOp.and IntKind.u8 (x:Int) 127)*268435456))=_;rw[HA.out,HW.out x (by omega),show((x:Int)*268435456)=((x*268435456:Nat):Int)by omega,HW.out _ (by omega)];exact HO.out)|(show bits BinOp.or IntKind.i64 (a:Int) (wrap64 (wrap64 (bits BinOp.and IntKind.u8 (x:Int) 127)*34359738368))=_;rw[HA.out,HW.out x (by omega),show((x:Int)*34359738368)=((x*34359738368:Nat):Int)by omega,HW.out _ (by omega)];exact HO.out)
     ·rw[if_neg hlo]at hR;have HO:=qH (HOR.out (x%128) (Nat.mod_lt _ (by omega)));have hlt:x%128<128:=Nat.mod_lt _ (by omega);have hf2:6-(q+1)=f:=by omega
      have hb2:a+x%128*128^q<128^(q+1):=by rw[Nat.pow_succ];have:x%128*128^q≤127*128^q:=Nat.mul_le_mul_right _ (by omega);omega
      have HREL:=qH (show∀z:Int,z=((a+x%128*128^q:Nat):Int)→NumRel wr l (.int .i64 z) (.int .i64 ((q:Int)+1)) wr from fun z hz=>⟨q+1,_,rfl,by omega,by rw[hz],hb2,by rw[hf2];exact hR,rfl⟩);have HW:=qH (show∀z:Nat,z<4611686018427387904→wrap64 (z:Int)=z from fun z hz=>by unfold wrap64;omega);have hqs:q=0∨q=1∨q=2∨q=3∨q=4∨q=5:=by omega
      clear hR HOR HST hz hf2 hb2 HT hf;generalize hm:x%128=m at*;have HMM:=qH hm;clear hm;have t2:((x:Int)==0)=false:=by simp;omega
      have t3: ¬(x:Int)<128:=by omega
      rcases hqs with rfl|rfl|rfl|rfl|rfl|rfl;all_goals simp only[Nat.reducePow,Nat.add_zero,Nat.mul_one]at ha HO hcq HREL;go_wp2;refine⟨HREL.out _ ?_,by simp[intOf]⟩;first|(show bits BinOp.or IntKind.i64 (a:Int) (wrap64 (wrap64 (bits BinOp.and IntKind.u8 (x:Int) 127)))=_;rw[HA.out,HW.out m (by omega),HW.out m (by omega)];exact HO.out)|(show bits BinOp.or IntKind.i64 (a:Int) (wrap64 (wrap64 (bits BinOp.and IntKind.u8 (x:Int) 127)*128))=_;rw[HA.out,HW.out m (by omega),show((m:Int)*128)=((m*128:Nat):Int)by omega,HW.out _ (by omega)];exact HO.out)|(show bits BinOp.or IntKind.i64 (a:Int) (wrap64 (wrap64 (bits BinOp.and IntKind.u8 (x:Int) 127)*16384))=_;rw[HA.out,HW.out m (by omega),show((m:Int)*16384)=((m*16384:Nat):Int)by omega,HW.out _ (by omega)];exact HO.out)|(show bits BinOp.or IntKind.i64 (a:Int) (wrap64 (wrap64 (bits BinOp.and IntKind.u8 (x:Int) 127)*2097152))=_;rw[HA.out,HW.out m (by omega),show((m:Int)*2097152)=((m*2097152:Nat):Int)by omega,HW.out _ (by omega)];exact HO.out)|(show bits BinOp.or IntKind.i64 (a:Int) (wrap64 (wrap64 (bits BinOp.and IntKind.u8 (x:Int) 127)*268435456))=_;rw[HA.out,HW.out m (by omega),show((m:Int)*268435456)=((m*268435456:Nat):Int)by omega,HW.out _ (by omega)];exact HO.out)|(show bits BinOp.or IntKind.i64 (a:Int) (wrap64 (wrap64 (bits BinOp.and IntKind.u8 (x:Int) 127)*34359738368))=_;rw[HA.out,HW.out m (by omega),show((m:Int)*34359738368)=((m*34359738368:Nat):Int)by omega,HW.out _ (by omega)];exact HO.out)
   ·have hqn:q≥l.length:=by rw[HLEN.out];omega
    rw[List.drop_of_length_le hqn]at hR;obtain⟨f,hf⟩: ∃f,6-q=f+1:=⟨5-q,by omega⟩;rw[hf]at hR;simp only[numD]at hR;have HF:=qH (HTN.out wr 0 hR.symm rfl);have t1:(n:Int)≤q:=by omega
    clear hR HST ha hf;go_wp2;go_ret3;exact HF.out
  ·have hq6':q=6:=by omega
   subst hq6';simp only[numD,Nat.sub_self]at hR;have HF:=qH (HFM.out wr 0 hR.symm rfl);clear hR HST ha;go_wp2;go_ret3;exact HF.out
end Go.Proofs.YtcmmclliabhnjaaGreatDoor
