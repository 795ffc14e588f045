/-
  Layer 6, plain: a clock's bytes, written and read.
-/
import Derived.Lib.AtoiAll
import Derived.Lib.ItoaNum
import Derived.Lib.SplitLaws
import Derived.Lib.IndexBytes
import Derived.Test.YtbejfgmdkmddnaaGreatDoorVHadPlain
import Derived.Lib.ItoaLen
set_option maxRecDepth 100000
set_option maxHeartbeats 16000000
namespace Go.Proofs.YtbejfgmdkmddnaaGreatDoor
theorem xE(k:Nat)(h:k<10):(UInt8.ofNat (48+k)).toNat=48+k:=by simp;omega
theorem Ie(l:List UInt8): ∀(acc u k:Nat),Lib.parseUint10 acc l=.ok u→k<10→u*10+k<18446744073709551610→Lib.parseUint10 acc (l++[UInt8.ofNat (48+k)])=.ok (u*10+k):=by
 induction l with
  |nil=>intro acc u k h hk hu;simp only[Lib.parseUint10]at h;injection h with h;subst h;simp only[List.nil_append,Lib.parseUint10,xE k hk];rw[if_pos (by omega),if_neg (by omega),if_neg (by omega)];congr 1;omega
  |cons c r ih=>
   intro acc u k h hk hu;simp only[List.cons_append,Lib.parseUint10]at h⊢;split at h
   ·split at h;·cases h
    ·split at h;·cases h
     ·rename_i h1 h2 h3;rw[if_pos h1,if_neg h2,if_neg h3];exact ih _ _ _ h hk hu
   ·cases h
theorem Bd(u:Nat):u<9223372036854775809→Lib.parseUint10 0 (Lib.decDigits u)=.ok u:=by
 induction u using Nat.strongRecOn with
  |_ u ih=>
   intro hu;by_cases h:u<10;·rw[Lib.decDigits,dif_pos h];simp only[Lib.parseUint10,xE u h];rw[if_pos (by omega),if_neg (by omega),if_neg (by omega)];congr 1;omega
   ·rw[Lib.decDigits,dif_neg h];rw[Ie _ 0 (u/10) (u%10) (ih (u/10) (by omega) (by omega)) (by omega) (by omega)];congr 1;omega
theorem vF(k:Nat): ∀c∈Lib.decDigits k,48≤c.toNat∧c.toNat≤57:=by
 induction k using Nat.strongRecOn with
  |_ k ih=>
   intro c hc;by_cases h:k<10;·rw[Lib.decDigits,dif_pos h]at hc;simp only[List.mem_singleton]at hc;subst hc;rw[xE k h];omega
   ·rw[Lib.decDigits,dif_neg h]at hc;rcases List.mem_append.1 hc with hc|hc;·exact ih _ (by omega) c hc
    ·simp only[List.mem_singleton]at hc;subst hc;rw[xE _ (by omega)];omega
theorem IX(k:Nat):Lib.decDigits k≠[]:=by rw[Lib.decDigits];split<;>simp
theorem Iy(n:Int): ∀c∈Lib.itoa n,c.toNat=45∨(48≤c.toNat∧c.toNat≤57):=by
 intro c hc;unfold Lib.itoa at hc;split at hc
 ·rcases List.mem_cons.1 hc with rfl|hc;·left;rfl
  ·right;exact vF _ c hc
 ·right;exact vF _ c hc
theorem CF(n:Int)(c:UInt8)(hc:c.toNat≠45)(h:c.toNat<48):c∉Lib.itoa n:=fun hm=>by
 rcases Iy n c hm with h1|h1;·exact hc h1
 ·omega
theorem qA(n:Int)(h0: -9223372036854775808≤n)(h1:n≤9223372036854775807):Lib.atoiAll (Lib.itoa n)=.ok n:=by
 unfold Lib.itoa;split
 ·rename_i hn;show(match Lib.parseMag (if(45:UInt8).toNat=43∨(45:UInt8).toNat=45 then _ else _)with|.syntax=>_|.range=>_|.ok u=>_)=_;rw[if_pos (.inr rfl)];have:Lib.parseMag (Lib.decDigits n.natAbs)=.ok n.natAbs:=by unfold Lib.parseMag;rw[if_neg (IX _)];exact Bd _ (by omega)
  rw[this];simp;rw[if_neg (by omega)];congr 1;omega
 ·rename_i hn;obtain⟨c,r,hcr⟩: ∃c r,Lib.decDigits n.toNat=c::r:=by cases hd:Lib.decDigits n.toNat with|nil=>exact absurd hd (IX _)|cons c r=>exact⟨c,r,rfl⟩
  have hc:=vF n.toNat c (by rw[hcr];simp);have hp:Lib.parseMag (Lib.decDigits n.toNat)=.ok n.toNat:=by unfold Lib.parseMag;rw[if_neg (IX _)];exact Bd _ (by omega)
  rw[hcr]at hp⊢;unfold Lib.atoiAll;simp only;rw[if_neg (by omega),hp];have h45: ¬c.toNat=45:=by omega
  simp only[h45,not_false_eq_true,true_and,false_and,if_false];rw[if_neg (by omega)];congr 1;omega
theorem CJ(c:UInt8): ∀(a b:List UInt8),c∉a→Lib.indexByte (a++c::b) c=a.length|[],b,_=>by simp[Lib.indexByte]|x::a,b,h=>by have hx: ¬x=c:=fun e=>h (by rw[e];simp);have ih:=CJ c a b (fun hm=>h (by simp[hm]));simp only[List.cons_append,Lib.indexByte,ih];rw[if_neg (by simpa using hx),if_neg (by simp)];simp
theorem CG(c:UInt8): ∀(a:List UInt8),c∉a→Lib.indexByte a c= -1|[],_=>rfl|x::a,h=>by have hx: ¬x=c:=fun e=>h (by rw[e];simp);have ih:=CG c a (fun hm=>h (by simp[hm]));simp only[Lib.indexByte,ih];rw[if_neg (by simpa using hx)];rfl
theorem mh(c:UInt8)(a b:List UInt8)(h:c∉a):Lib.cut (a++c::b) [c]=(a,b,true):=by unfold Lib.cut;rw[Lib.index_one,CJ c a b h,if_pos (by omega)];simp
theorem nA(c:UInt8)(a:List UInt8)(h:c∉a):Lib.cut a [c]=(a,[],false):=by unfold Lib.cut;rw[Lib.index_one,CG c a h,if_neg (by omega)]
theorem AL(c:UInt8)(a b:List UInt8)(h:c∉a):Lib.split (a++c::b) [c]=a::Lib.split b [c]:=by unfold Lib.split;rw[Lib.count_one,Lib.count_one,List.count_append,List.count_cons_self,List.count_eq_zero.2 h,Nat.zero_add];show(if Lib.index (a++c::b) [c]== -1 then _ else _)=_;rw[Lib.index_one,CJ c a b h,if_neg (by simp)];simp
theorem rf(c:UInt8)(a:List UInt8)(h:c∉a):Lib.split a [c]=[a]:=by unfold Lib.split;rw[Lib.count_one,List.count_eq_zero.2 h];rfl
theorem jB(c:UInt8)(l:List UInt8):c∉l∨ ∃a b,l=a++c::b∧c∉a:=by
 induction l with
  |nil=>left;simp
  |cons x l ih=>
   by_cases hx:x=c;·right;exact⟨[],l,by rw[hx];rfl,by simp⟩
   ·rcases ih with h|⟨a,b,h1,h2⟩;·left;simp[Ne.symm hx,h]
    ·right;exact⟨x::a,b,by rw[h1];rfl,by simp[Ne.symm hx,h2]⟩
theorem oW(c:UInt8): ∀(n:Nat)(l:List UInt8),l.length≤n→ ∀w∈Lib.split l [c],w.length≤l.length:=by
 intro n;induction n with
  |zero=>intro l hl w hw;have:l=[]:=List.length_eq_zero_iff.1 (by omega);subst this;rw[rf c [] (by simp)]at hw;simp at hw;subst hw;simp
  |succ n ih=>
   intro l hl w hw;rcases jB c l with h|⟨a,b,rfl,h⟩;·rw[rf c l h]at hw;simp at hw;subst hw;exact Nat.le_refl _
   ·rw[AL c a b h]at hw;simp only[List.length_append,List.length_cons]at hl⊢;rcases List.mem_cons.1 hw with rfl|hw;·omega
    ·have:=ih b (by omega) w hw;omega
open Go.RowKit Go.Maps Go.Sort
/-!### a clock's bytes -/
def dC(ns:List Int):List UInt8:=ns.flatMap fun n=>32::Lib.itoa n
def ah(s:List UInt8)(ns:List Int):List UInt8:=s++dC ns++[10]
def fo(m:Row (Int×Int)):List UInt8:=m.flatMap fun p=>ah p.1 [p.2.1,p.2.2]
def aX(c:aZ):List UInt8:=ah [99,108,111,99,107] [c.aa,c.idle,c.now,c.mark]++fo c.src
theorem Ij(ns:List Int)(k:Nat)(hk:k<ns.length):dC (ns.take (k+1))=dC (ns.take k)++[32]++Lib.itoa ns[k]:=by unfold dC;rw[List.take_add_one,List.getElem?_eq_getElem hk,Option.toList_some,List.flatMap_append];simp
theorem rE(n:Int)(ns:List Int):dC (n::ns)=32::(Lib.itoa n++dC ns):=by simp[dC]
theorem uS(ns:List Int)(h: ∀n∈ns,-9223372036854775808≤n∧n≤9223372036854775807):(dC ns).length≤22*ns.length:=by induction ns with|nil=>simp[dC]|cons n ns ih=>have h1:=ih fun x hx=>h x (List.mem_cons_of_mem _ hx);have h2:=Lib.itoa_length_le n (h n (List.mem_cons_self)).1 (h n (List.mem_cons_self)).2;rw[rE];simp only[List.length_append,List.length_cons];omega
theorem EP(c:UInt8)(hc:c.toNat≠45)(h32:c≠32)(h:c.toNat<48)(ns:List Int):c∉dC ns:=by
 induction ns with
  |nil=>simp[dC]
  |cons n ns ih=>
   rw[rE];intro hm;rcases List.mem_cons.1 hm with hm|hm;·exact h32 hm
   ·rcases List.mem_append.1 hm with hm|hm;·exact CF n c hc h hm
    ·exact ih hm
theorem qY: ∀(ns:List Int)(s:List UInt8),32∉s→Lib.split (s++dC ns) [32]=s::ns.map Lib.itoa|[],s,h=>by simp only[dC,List.flatMap_nil,List.append_nil,List.map_nil];exact rf 32 s h|n::ns,s,h=>by rw[rE,AL 32 s _ h,qY ns (Lib.itoa n) (CF n 32 (by decide) (by decide))];rfl
def dQ(w:List UInt8):Int:=match Lib.atoiAll w with|.ok v=>v|.syntax=>0|.range=>Lib.atoiSat w
def kr(w:List UInt8):Bool:=match Lib.atoiAll w with|.ok _=>true|_=>false
def fC(w:List UInt8):Bool:=kr w&&decide (-1≤dQ w)&&decide (dQ w≤1099511627776)
theorem rQ{n:Int}(h0: -9223372036854775808≤n)(h1:n≤9223372036854775807):dQ (Lib.itoa n)=n:=by unfold dQ;rw[qA n h0 h1]
theorem I8{n:Int}(h0: -1≤n)(h1:n≤1099511627776):fC (Lib.itoa n)=true:=by unfold fC kr;rw[rQ (by omega) (by omega),qA n (by omega) (by omega)];simp[h0,h1]
structure Xk where
 word:List UInt8
 nums:List Int
 rest:List UInt8
 ok:Bool
def aC(n:Nat)(rest:List UInt8)(ok:Bool):Xk:=if(Lib.cut rest [10]).2.2&&decide ((Lib.split (Lib.cut rest [10]).1 [32]).length=n+1)then⟨(Lib.split (Lib.cut rest [10]).1 [32]).headD [],((Lib.split (Lib.cut rest [10]).1 [32]).drop 1).map dQ,(Lib.cut rest [10]).2.1,ok&&((Lib.split (Lib.cut rest [10]).1 [32]).drop 1).all fC⟩else⟨[],List.replicate n 0,rest,false⟩
theorem Bg(n:Nat)(rest:List UInt8)(ok:Bool):(aC n rest ok).nums.length=n:=by
 unfold aC;split;·rename_i h;simp only[Bool.and_eq_true,decide_eq_true_eq]at h;simp only[List.length_map,List.length_drop];omega
 ·simp
theorem Kr(rest:List UInt8)(h:(Lib.cut rest [10]).2.2=true):(Lib.cut rest [10]).2.1.length<rest.length:=by
 rcases jB 10 rest with h1|⟨a,b,rfl,h1⟩;·rw[nA 10 rest h1]at h;cases h
 ·rw[mh 10 a b h1];simp;omega
theorem rG(n:Nat)(rest:List UInt8)(ok:Bool):(aC n rest ok).rest.length≤rest.length∧((aC n rest ok).ok=true→(aC n rest ok).rest.length<rest.length∧ok=true):=by
 unfold aC;split;·rename_i h;simp only[Bool.and_eq_true,decide_eq_true_eq]at h;have:=Kr rest h.1;simp only[Bool.and_eq_true];exact⟨by omega,fun h=>⟨this,h.1⟩⟩
 ·simp
theorem Ip(n:Nat)(rest:List UInt8)(ok:Bool)(h:(aC n rest ok).ok=true): ∀v∈(aC n rest ok).nums,-1≤v∧v≤1099511627776:=by
 unfold aC at h⊢;split;·rename_i hc;rw[if_pos hc]at h;simp only[Bool.and_eq_true]at h;intro v hv;simp only at hv;obtain⟨x,hx,rfl⟩:=List.mem_map.1 hv;have:=List.all_eq_true.1 h.2 x hx;unfold fC at this;simp only[Bool.and_eq_true,decide_eq_true_eq]at this;omega
 ·rename_i hc;rw[if_neg hc]at h;cases h
theorem yH(s:List UInt8)(ns:List Int)(r:List UInt8)(h1:32∉s)(h2:10∉s)(hb: ∀v∈ns,-1≤v∧v≤1099511627776):aC ns.length (ah s ns++r) true=⟨s,ns,r,true⟩:=by
 have hc:Lib.cut (ah s ns++r) [10]=(s++dC ns,r,true):=by
  have:ah s ns++r=(s++dC ns)++10::r:=by unfold ah;simp
  rw[this];exact mh 10 _ _ fun hm=>(List.mem_append.1 hm).elim h2 (EP 10 (by decide) (by decide) (by decide) ns)
 unfold aC;rw[hc];simp only;rw[qY ns s h1];simp only[List.length_cons,List.length_map,decide_true,Bool.and_self,if_true,List.headD_cons,List.drop_succ_cons,List.drop_zero,List.map_map];have e1:(ns.map (dQ∘Lib.itoa))=ns:=by
  conv=>rhs;rw[←List.map_id ns]
  exact List.map_congr_left fun v hv=>by have:=hb v hv;exact rQ (by omega) (by omega)
 have e2:(ns.map Lib.itoa).all fC=true:=by rw[List.all_map];exact List.all_eq_true.2 fun v hv=>by have:=hb v hv;exact I8 this.1 this.2
 rw[e1,e2];rfl
def sQ(now:Int)(d:Xk):Bool:=d.ok&&ag d.word&&decide (0≤d.nums.getD 0 0)&&decide (0≤d.nums.getD 1 0)&&decide (d.nums.getD 1 0≤now)
def kQ:Nat→Int→List UInt8→Bool→Row (Int×Int)→Bool×Row (Int×Int)|0,_,_,ok,m=>(ok,m)|f+1,now,rest,ok,m=>if ok&&!rest.isEmpty then kQ f now (aC 2 rest ok).rest (sQ now (aC 2 rest ok)) (bL (aC 2 rest ok).word ((aC 2 rest ok).nums.getD 0 0,(aC 2 rest ok).nums.getD 1 0) m)else(ok,m)
def dH(d:Xk):Bool:=d.ok&&decide (0≤d.nums.getD 0 0)&&decide (0≤d.nums.getD 1 0)&&decide (0≤d.nums.getD 2 0)
def lu(d:Xk)(m:Row (Int×Int)):aZ:=⟨d.nums.getD 0 0,d.nums.getD 1 0,d.nums.getD 2 0,d.nums.getD 3 0,m⟩
def wI(c:aZ):Bool:=match c.told with|none=>true|some m=>decide (m≤c.mark)
def ze(b:List UInt8):Option aZ:=if(kQ (b.length+1) ((aC 4 b true).nums.getD 2 0) (aC 4 b true).rest (dH (aC 4 b true)) []).1&&(aX (lu (aC 4 b true) (kQ (b.length+1) ((aC 4 b true).nums.getD 2 0) (aC 4 b true).rest (dH (aC 4 b true)) []).2)==b)&&wI (lu (aC 4 b true) (kQ (b.length+1) ((aC 4 b true).nums.getD 2 0) (aC 4 b true).rest (dH (aC 4 b true)) []).2)then some (lu (aC 4 b true) (kQ (b.length+1) ((aC 4 b true).nums.getD 2 0) (aC 4 b true).rest (dH (aC 4 b true)) []).2)else none
theorem Bn{α:Type}(k:List UInt8)(v:α): ∀m:Row α,(∀p∈m,bytesBefore p.1 k=true)→iD (k,v) m=m++[(k,v)]
 |[],_=>rfl
 |y::r,h=>by
  have hy:=h y (by simp);have:bytesBefore k y.1=false:=by cases hb:bytesBefore k y.1 with|false=>rfl|true=>have:=gQ hb hy;rw[aF]at this;cases this
  unfold iD;simp only[this];rw[Bn k v r fun p hp=>h p (by simp[hp])];rfl
theorem Bb{α:Type}(k:List UInt8)(v:α)(m:Row α)(h: ∀p∈m,bytesBefore p.1 k=true):bL k v m=m++[(k,v)]:=by
 unfold bL;have:m.filter (fun p=>!(p.1==k))=m:=List.filter_eq_self.2 fun p hp=>by
  have:=h p hp;have:p.1≠k:=fun e=>by rw[e,aF]at this;cases this
  simp[this]
 rw[this,Bn k v m h]
theorem yF{c:UInt8}(h:eG c=true):c≠10∧c≠32:=by
 constructor;·rintro rfl;revert h;decide
 ·rintro rfl;revert h;decide
theorem ET{s:List UInt8}(h:ag s=true):32∉s∧10∉s:=by
 unfold ag at h;simp only[Bool.and_eq_true,decide_eq_true_eq]at h;constructor;·intro hm;exact(yF (List.all_eq_true.1 h.2 _ hm)).2 rfl
 ·intro hm;exact(yF (List.all_eq_true.1 h.2 _ hm)).1 rfl
theorem Ea(a b:Row (Int×Int)):fo (a++b)=fo a++fo b:=by unfold fo;rw[List.flatMap_append]
theorem OM(s:List UInt8)(ns:List Int):(ah s ns).isEmpty=false:=by unfold ah;simp
theorem Ei(c:aZ)(hc:fD c): ∀(m done:Row (Int×Int))(f:Nat),done++m=c.src→m.length<f→kQ f c.now (fo m) true done=(true,c.src)
 |[],done,f,h,hf=>by obtain⟨g,rfl⟩: ∃g,f=g+1:=⟨f-1,by simp at hf;omega⟩;unfold kQ;simp at h;simp[fo,h]
 |(s,a,q)::m,done,f,h,hf=>by
  obtain⟨g,rfl⟩: ∃g,f=g+1:=⟨f-1,by simp at hf;omega⟩;have hmem:(s,a,q)∈c.src:=by rw[←h];simp
  have hs:=hc.src _ hmem;simp only at hs;have hn:=hc.now;have e0:fo ((s,a,q)::m)=ah s [a,q]++fo m:=by simp[fo]
  have hl:=yH s [a,q] (fo m) (ET hs.1).1 (ET hs.1).2 (by intro v hv;simp at hv;rcases hv with rfl|rfl<;>omega);simp only[List.length_cons,List.length_nil,Nat.zero_add,Nat.reduceAdd]at hl;have hup:=hc.rising;rw[←h]at hup;have hlast:=Bb s (a,q) done fun p hp=>(List.pairwise_append.1 hup).2.2 p hp (s,a,q) (by simp);have hne:(fo ((s,a,q)::m)).isEmpty=false:=by rw[e0];have:=OM s [a,q];simp at this⊢;intro h;exact absurd h this
  unfold kQ;rw[hne];simp only[Bool.not_false,Bool.and_self,if_true];rw[e0,hl];simp only[sQ,hs.1,List.getD_cons_zero,List.getD_cons_succ,Bool.true_and];rw[hlast,decide_eq_true hs.2.1,decide_eq_true hs.2.2.2.1,decide_eq_true hs.2.2.2.2];exact Ei c hc m (done++[(s,a,q)]) g (by rw[←h];simp) (by simp at hf;omega)
theorem D9(m:Row (Int×Int)):m.length≤(fo m).length:=by
 induction m with
  |nil=>simp[fo]
  |cons p m ih=>
   have e0:fo (p::m)=ah p.1 [p.2.1,p.2.2]++fo m:=by simp[fo]
   rw[e0];have:0<(ah p.1 [p.2.1,p.2.2]).length:=by unfold ah;simp;omega
   simp;omega
theorem EY{c:aZ}(h:c.rise=c):wI c=true:=by
 unfold wI;cases ht:c.told with
  |none=>rfl
  |some m=>
   have:c.rise.mark=max c.mark m:=by unfold aZ.rise;rw[ht]
   rw[h]at this;simp only[decide_eq_true_eq];omega
theorem PK{c:aZ}(hc:fD c)(hr:c.rise=c):ze (aX c)=some c:=by
 have h1:=hc.aa;have h2:=hc.idle;have h3:=hc.now;have h4:=hc.mark;have hl:=yH [99,108,111,99,107] [c.aa,c.idle,c.now,c.mark] (fo c.src) (by decide) (by decide) (by intro v hv;simp at hv;rcases hv with rfl|rfl|rfl|rfl<;>omega);simp only[List.length_cons,List.length_nil,Nat.zero_add,Nat.reduceAdd]at hl;have hl':aC 4 (aX c) true=⟨[99,108,111,99,107],[c.aa,c.idle,c.now,c.mark],fo c.src,true⟩:=hl;have hrun:=Ei c hc c.src [] ((aX c).length+1) rfl (by
  have:=D9 c.src;have:(aX c).length=(ah [99,108,111,99,107] [c.aa,c.idle,c.now,c.mark]).length+(fo c.src).length:=by unfold aX;rw[List.length_append]
  omega);unfold ze;rw[hl'];have hh:dH ⟨[99,108,111,99,107],[c.aa,c.idle,c.now,c.mark],fo c.src,true⟩=true:=by simp only[dH,List.getD_cons_zero,List.getD_cons_succ,Bool.true_and];rw[decide_eq_true h1.1,decide_eq_true h2.1,decide_eq_true h3.1];rfl
 rw[hh];simp only[List.getD_cons_zero,List.getD_cons_succ];rw[hrun];have e:lu ⟨[99,108,111,99,107],[c.aa,c.idle,c.now,c.mark],fo c.src,true⟩ c.src=c:=by simp only[lu,List.getD_cons_zero,List.getD_cons_succ]
 rw[e,EY hr];simp
structure uq(now:Int)(ok:Bool)(m:Row (Int×Int)):Prop where
 up:fT m
 each:ok=true→ ∀p∈m,ag p.1=true∧0≤p.2.1∧p.2.1≤1099511627776∧0≤p.2.2∧p.2.2≤now
theorem uq.nil(now:Int)(ok:Bool):uq now ok []:=⟨List.Pairwise.nil,fun _ p hp=>by simp at hp⟩
theorem Bf(n:Nat)(rest:List UInt8)(ok:Bool)(h:(aC n rest ok).ok=true)(k:Nat):(aC n rest ok).nums.getD k 0≤1099511627776∧ -1≤(aC n rest ok).nums.getD k 0:=by rw[List.getD_eq_getElem?_getD];cases hg:(aC n rest ok).nums[k]? with|none=>simp|some v=>have:=Ip n rest ok h v (List.mem_of_getElem? hg);simp;omega
theorem uq.step{now:Int}{ok:Bool}{m:Row (Int×Int)}(h:uq now ok m)(rest:List UInt8):uq now (sQ now (aC 2 rest ok)) (bL (aC 2 rest ok).word ((aC 2 rest ok).nums.getD 0 0,(aC 2 rest ok).nums.getD 1 0) m):=by
 refine⟨jL h.up _ _,fun ho p hp=>?_⟩;unfold sQ at ho;simp only[Bool.and_eq_true,decide_eq_true_eq]at ho;obtain⟨⟨⟨⟨h1,h2⟩,h3⟩,h4⟩,h5⟩:=ho;have hok:=((rG 2 rest ok).2 h1).2;rcases jb.1 hp with rfl|⟨hp,_⟩;·exact⟨h2,h3,(Bf 2 rest ok h1 0).1,h4,h5⟩
 ·exact h.each hok p hp
theorem zg{b:List UInt8}{m:Row (Int×Int)}(hh:dH (aC 4 b true)=true)(h:uq ((aC 4 b true).nums.getD 2 0) true m):fD (lu (aC 4 b true) m):=by unfold dH at hh;simp only[Bool.and_eq_true,decide_eq_true_eq]at hh;obtain⟨⟨⟨h1,h2⟩,h3⟩,h4⟩:=hh;have k:=Bf 4 b true h1;exact⟨⟨h2,(k 0).1⟩,⟨h3,(k 1).1⟩,⟨h4,(k 2).1⟩,⟨(k 3).2,(k 3).1⟩,h.up,h.each rfl⟩
theorem Cj: ∀(f:Nat)(now:Int)(rest:List UInt8)(ok:Bool)(m:Row (Int×Int)),uq now ok m→uq now (kQ f now rest ok m).1 (kQ f now rest ok m).2∧((kQ f now rest ok m).1=true→ok=true)
 |0,now,rest,ok,m,h=>⟨h,fun h=>h⟩
 |f+1,now,rest,ok,m,h=>by
  unfold kQ;split;·rename_i hc;have:=Cj f now (aC 2 rest ok).rest (sQ now (aC 2 rest ok)) _ (h.step rest);refine⟨this.1,fun _=>?_⟩;simp only[Bool.and_eq_true]at hc;exact hc.1
  ·exact⟨h,fun h=>h⟩
theorem MN{b:List UInt8}{c:aZ}(h:ze b=some c):fD c∧aX c=b∧wI c=true:=by
 unfold ze at h;split at h;·rename_i hc;injection h with h;simp only[Bool.and_eq_true,beq_iff_eq]at hc;obtain⟨⟨h1,h2⟩,h3⟩:=hc;have k:=Cj (b.length+1) ((aC 4 b true).nums.getD 2 0) (aC 4 b true).rest (dH (aC 4 b true)) [] (uq.nil _ _);rw[h1]at k;rw[←h];exact⟨zg (k.2 rfl) k.1,h2,h3⟩
 ·cases h
end Go.Proofs.YtbejfgmdkmddnaaGreatDoor
