/-
  Layer 6, plain: a clock's bytes, written and read.
-/
import Derived.Lib.AtoiAll
import Derived.Lib.ItoaNum
import Derived.Lib.SplitLaws
import Derived.Lib.IndexBytes
import Derived.Test.YtladegonienapaaGreatDoorRHadPlain
import Derived.Lib.ItoaLen
set_option maxRecDepth 100000
set_option maxHeartbeats 16000000
namespace Go.Proofs.YtladegonienapaaGreatDoor
theorem q8(k:Nat)(h:k<10):(UInt8.ofNat (48+k)).toNat=48+k:=by simp;omega
theorem AO(l:List UInt8): ∀(acc u k:Nat),Lib.parseUint10 acc l=.ok u→k<10→u*10+k<18446744073709551610→Lib.parseUint10 acc (l++[UInt8.ofNat (48+k)])=.ok (u*10+k):=by
 induction l with
  |nil=>intro acc u k h hk hu;simp only[Lib.parseUint10]at h;injection h with h;subst h;simp only[List.nil_append,Lib.parseUint10,q8 k hk];rw[if_pos (by omega),if_neg (by omega),if_neg (by omega)];congr 1;omega
  |cons c r ih=>
   intro acc u k h hk hu;simp only[List.cons_append,Lib.parseUint10]at h⊢;split at h
   ·split at h;·cases h
    ·split at h;·cases h
     ·rename_i h1 h2 h3;rw[if_pos h1,if_neg h2,if_neg h3];exact ih _ _ _ h hk hu
   ·cases h
theorem vv(u:Nat):u<9223372036854775809→Lib.parseUint10 0 (Lib.decDigits u)=.ok u:=by
 induction u using Nat.strongRecOn with
  |_ u ih=>
   intro hu;by_cases h:u<10;·rw[Lib.decDigits,dif_pos h];simp only[Lib.parseUint10,q8 u h];rw[if_pos (by omega),if_neg (by omega),if_neg (by omega)];congr 1;omega
   ·rw[Lib.decDigits,dif_neg h];rw[AO _ 0 (u/10) (u%10) (ih (u/10) (by omega) (by omega)) (by omega) (by omega)];congr 1;omega
theorem pO(k:Nat): ∀c∈Lib.decDigits k,48≤c.toNat∧c.toNat≤57:=by
 induction k using Nat.strongRecOn with
  |_ k ih=>
   intro c hc;by_cases h:k<10;·rw[Lib.decDigits,dif_pos h]at hc;simp only[List.mem_singleton]at hc;subst hc;rw[q8 k h];omega
   ·rw[Lib.decDigits,dif_neg h]at hc;rcases List.mem_append.1 hc with hc|hc;·exact ih _ (by omega) c hc
    ·simp only[List.mem_singleton]at hc;subst hc;rw[q8 _ (by omega)];omega
theorem BA(k:Nat):Lib.decDigits k≠[]:=by rw[Lib.decDigits];split<;>simp
theorem A8(n:Int): ∀c∈Lib.itoa n,c.toNat=45∨(48≤c.toNat∧c.toNat≤57):=by
 intro c hc;unfold Lib.itoa at hc;split at hc
 ·rcases List.mem_cons.1 hc with rfl|hc;·left;rfl
  ·right;exact pO _ c hc
 ·right;exact pO _ c hc
theorem CB(n:Int)(c:UInt8)(hc:c.toNat≠45)(h:c.toNat<48):c∉Lib.itoa n:=fun hm=>by
 rcases A8 n c hm with h1|h1;·exact hc h1
 ·omega
theorem pW(n:Int)(h0: -9223372036854775808≤n)(h1:n≤9223372036854775807):Lib.atoiAll (Lib.itoa n)=.ok n:=by
 unfold Lib.itoa;split
 ·rename_i hn;show(match Lib.parseMag (if(45:UInt8).toNat=43∨(45:UInt8).toNat=45 then _ else _)with|.syntax=>_|.range=>_|.ok u=>_)=_;rw[if_pos (.inr rfl)];have:Lib.parseMag (Lib.decDigits n.natAbs)=.ok n.natAbs:=by unfold Lib.parseMag;rw[if_neg (BA _)];exact vv _ (by omega)
  rw[this];simp;rw[if_neg (by omega)];congr 1;omega
 ·rename_i hn;obtain⟨c,r,hcr⟩: ∃c r,Lib.decDigits n.toNat=c::r:=by cases hd:Lib.decDigits n.toNat with|nil=>exact absurd hd (BA _)|cons c r=>exact⟨c,r,rfl⟩
  have hc:=pO n.toNat c (by rw[hcr];simp);have hp:Lib.parseMag (Lib.decDigits n.toNat)=.ok n.toNat:=by unfold Lib.parseMag;rw[if_neg (BA _)];exact vv _ (by omega)
  rw[hcr]at hp⊢;unfold Lib.atoiAll;simp only;rw[if_neg (by omega),hp];have h45: ¬c.toNat=45:=by omega
  simp only[h45,not_false_eq_true,true_and,false_and,if_false];rw[if_neg (by omega)];congr 1;omega
theorem Bc(c:UInt8): ∀(a b:List UInt8),c∉a→Lib.indexByte (a++c::b) c=a.length|[],b,_=>by simp[Lib.indexByte]|x::a,b,h=>by have hx: ¬x=c:=fun e=>h (by rw[e];simp);have ih:=Bc c a b (fun hm=>h (by simp[hm]));simp only[List.cons_append,Lib.indexByte,ih];rw[if_neg (by simpa using hx),if_neg (by simp)];simp
theorem CJ(c:UInt8): ∀(a:List UInt8),c∉a→Lib.indexByte a c= -1|[],_=>rfl|x::a,h=>by have hx: ¬x=c:=fun e=>h (by rw[e];simp);have ih:=CJ c a (fun hm=>h (by simp[hm]));simp only[Lib.indexByte,ih];rw[if_neg (by simpa using hx)];rfl
theorem lX(c:UInt8)(a b:List UInt8)(h:c∉a):Lib.cut (a++c::b) [c]=(a,b,true):=by unfold Lib.cut;rw[Lib.index_one,Bc c a b h,if_pos (by omega)];simp
theorem oG(c:UInt8)(a:List UInt8)(h:c∉a):Lib.cut a [c]=(a,[],false):=by unfold Lib.cut;rw[Lib.index_one,CJ c a h,if_neg (by omega)]
theorem uW(c:UInt8)(a b:List UInt8)(h:c∉a):Lib.split (a++c::b) [c]=a::Lib.split b [c]:=by unfold Lib.split;rw[Lib.count_one,Lib.count_one,List.count_append,List.count_cons_self,List.count_eq_zero.2 h,Nat.zero_add];show(if Lib.index (a++c::b) [c]== -1 then _ else _)=_;rw[Lib.index_one,Bc c a b h,if_neg (by simp)];simp
theorem mI(c:UInt8)(a:List UInt8)(h:c∉a):Lib.split a [c]=[a]:=by unfold Lib.split;rw[Lib.count_one,List.count_eq_zero.2 h];rfl
theorem jG(c:UInt8)(l:List UInt8):c∉l∨ ∃a b,l=a++c::b∧c∉a:=by
 induction l with
  |nil=>left;simp
  |cons x l ih=>
   by_cases hx:x=c;·right;exact⟨[],l,by rw[hx];rfl,by simp⟩
   ·rcases ih with h|⟨a,b,h1,h2⟩;·left;simp[Ne.symm hx,h]
    ·right;exact⟨x::a,b,by rw[h1];rfl,by simp[Ne.symm hx,h2]⟩
theorem kI(c:UInt8): ∀(n:Nat)(l:List UInt8),l.length≤n→ ∀w∈Lib.split l [c],w.length≤l.length:=by
 intro n;induction n with
  |zero=>intro l hl w hw;have:l=[]:=List.length_eq_zero_iff.1 (by omega);subst this;rw[mI c [] (by simp)]at hw;simp at hw;subst hw;simp
  |succ n ih=>
   intro l hl w hw;rcases jG c l with h|⟨a,b,rfl,h⟩;·rw[mI c l h]at hw;simp at hw;subst hw;exact Nat.le_refl _
   ·rw[uW c a b h]at hw;simp only[List.length_append,List.length_cons]at hl⊢;rcases List.mem_cons.1 hw with rfl|hw;·omega
    ·have:=ih b (by omega) w hw;omega
open Go.RowKit Go.Maps Go.Sort
/-!### a clock's bytes -/
def cK(ns:List Int):List UInt8:=ns.flatMap fun n=>32::Lib.itoa n
def dG(s:List UInt8)(ns:List Int):List UInt8:=s++cK ns++[10]
def dL(m:Row (Int×Int)):List UInt8:=m.flatMap fun p=>dG p.1 [p.2.1,p.2.2]
def dZ(c:bq):List UInt8:=dG [99,108,111,99,107] [c.ag,c.idle,c.now,c.mark]++dL c.src
theorem AP(ns:List Int)(k:Nat)(hk:k<ns.length):cK (ns.take (k+1))=cK (ns.take k)++[32]++Lib.itoa ns[k]:=by unfold cK;rw[List.take_add_one,List.getElem?_eq_getElem hk,Option.toList_some,List.flatMap_append];simp
theorem mU(n:Int)(ns:List Int):cK (n::ns)=32::(Lib.itoa n++cK ns):=by simp[cK]
theorem o9(ns:List Int)(h: ∀n∈ns,-9223372036854775808≤n∧n≤9223372036854775807):(cK ns).length≤22*ns.length:=by induction ns with|nil=>simp[cK]|cons n ns ih=>have h1:=ih fun x hx=>h x (List.mem_cons_of_mem _ hx);have h2:=Lib.itoa_length_le n (h n (List.mem_cons_self)).1 (h n (List.mem_cons_self)).2;rw[mU];simp only[List.length_append,List.length_cons];omega
theorem yH(c:UInt8)(hc:c.toNat≠45)(h32:c≠32)(h:c.toNat<48)(ns:List Int):c∉cK ns:=by
 induction ns with
  |nil=>simp[cK]
  |cons n ns ih=>
   rw[mU];intro hm;rcases List.mem_cons.1 hm with hm|hm;·exact h32 hm
   ·rcases List.mem_append.1 hm with hm|hm;·exact CB n c hc h hm
    ·exact ih hm
theorem mE: ∀(ns:List Int)(s:List UInt8),32∉s→Lib.split (s++cK ns) [32]=s::ns.map Lib.itoa|[],s,h=>by simp only[cK,List.flatMap_nil,List.append_nil,List.map_nil];exact mI 32 s h|n::ns,s,h=>by rw[mU,uW 32 s _ h,mE ns (Lib.itoa n) (CB n 32 (by decide) (by decide))];rfl
def dm(w:List UInt8):Int:=match Lib.atoiAll w with|.ok v=>v|.syntax=>0|.range=>Lib.atoiSat w
def mr(w:List UInt8):Bool:=match Lib.atoiAll w with|.ok _=>true|_=>false
def dz(w:List UInt8):Bool:=mr w&&decide (-1≤dm w)&&decide (dm w≤1099511627776)
theorem tJ{n:Int}(h0: -9223372036854775808≤n)(h1:n≤9223372036854775807):dm (Lib.itoa n)=n:=by unfold dm;rw[pW n h0 h1]
theorem BH{n:Int}(h0: -1≤n)(h1:n≤1099511627776):dz (Lib.itoa n)=true:=by unfold dz mr;rw[tJ (by omega) (by omega),pW n (by omega) (by omega)];simp[h0,h1]
structure NK where
 word:List UInt8
 nums:List Int
 rest:List UInt8
 ok:Bool
def ak(n:Nat)(rest:List UInt8)(ok:Bool):NK:=if(Lib.cut rest [10]).2.2&&decide ((Lib.split (Lib.cut rest [10]).1 [32]).length=n+1)then⟨(Lib.split (Lib.cut rest [10]).1 [32]).headD [],((Lib.split (Lib.cut rest [10]).1 [32]).drop 1).map dm,(Lib.cut rest [10]).2.1,ok&&((Lib.split (Lib.cut rest [10]).1 [32]).drop 1).all dz⟩else⟨[],List.replicate n 0,rest,false⟩
theorem vD(n:Nat)(rest:List UInt8)(ok:Bool):(ak n rest ok).nums.length=n:=by
 unfold ak;split;·rename_i h;simp only[Bool.and_eq_true,decide_eq_true_eq]at h;simp only[List.length_map,List.length_drop];omega
 ·simp
theorem J2(rest:List UInt8)(h:(Lib.cut rest [10]).2.2=true):(Lib.cut rest [10]).2.1.length<rest.length:=by
 rcases jG 10 rest with h1|⟨a,b,rfl,h1⟩;·rw[oG 10 rest h1]at h;cases h
 ·rw[lX 10 a b h1];simp;omega
theorem mW(n:Nat)(rest:List UInt8)(ok:Bool):(ak n rest ok).rest.length≤rest.length∧((ak n rest ok).ok=true→(ak n rest ok).rest.length<rest.length∧ok=true):=by
 unfold ak;split;·rename_i h;simp only[Bool.and_eq_true,decide_eq_true_eq]at h;have:=J2 rest h.1;simp only[Bool.and_eq_true];exact⟨by omega,fun h=>⟨this,h.1⟩⟩
 ·simp
theorem AV(n:Nat)(rest:List UInt8)(ok:Bool)(h:(ak n rest ok).ok=true): ∀v∈(ak n rest ok).nums,-1≤v∧v≤1099511627776:=by
 unfold ak at h⊢;split;·rename_i hc;rw[if_pos hc]at h;simp only[Bool.and_eq_true]at h;intro v hv;simp only at hv;obtain⟨x,hx,rfl⟩:=List.mem_map.1 hv;have:=List.all_eq_true.1 h.2 x hx;unfold dz at this;simp only[Bool.and_eq_true,decide_eq_true_eq]at this;omega
 ·rename_i hc;rw[if_neg hc]at h;cases h
theorem rY(s:List UInt8)(ns:List Int)(r:List UInt8)(h1:32∉s)(h2:10∉s)(hb: ∀v∈ns,-1≤v∧v≤1099511627776):ak ns.length (dG s ns++r) true=⟨s,ns,r,true⟩:=by
 have hc:Lib.cut (dG s ns++r) [10]=(s++cK ns,r,true):=by
  have:dG s ns++r=(s++cK ns)++10::r:=by unfold dG;simp
  rw[this];exact lX 10 _ _ fun hm=>(List.mem_append.1 hm).elim h2 (yH 10 (by decide) (by decide) (by decide) ns)
 unfold ak;rw[hc];simp only;rw[mE ns s h1];simp only[List.length_cons,List.length_map,decide_true,Bool.and_self,if_true,List.headD_cons,List.drop_succ_cons,List.drop_zero,List.map_map];have e1:(ns.map (dm∘Lib.itoa))=ns:=by
  conv=>rhs;rw[←List.map_id ns]
  exact List.map_congr_left fun v hv=>by have:=hb v hv;exact tJ (by omega) (by omega)
 have e2:(ns.map Lib.itoa).all dz=true:=by rw[List.all_map];exact List.all_eq_true.2 fun v hv=>by have:=hb v hv;exact BH this.1 this.2
 rw[e1,e2];rfl
def nL(now:Int)(d:NK):Bool:=d.ok&&ae d.word&&decide (0≤d.nums.getD 0 0)&&decide (0≤d.nums.getD 1 0)&&decide (d.nums.getD 1 0≤now)
def iy:Nat→Int→List UInt8→Bool→Row (Int×Int)→Bool×Row (Int×Int)|0,_,_,ok,m=>(ok,m)|f+1,now,rest,ok,m=>if ok&&!rest.isEmpty then iy f now (ak 2 rest ok).rest (nL now (ak 2 rest ok)) (aR (ak 2 rest ok).word ((ak 2 rest ok).nums.getD 0 0,(ak 2 rest ok).nums.getD 1 0) m)else(ok,m)
def bH(d:NK):Bool:=d.ok&&decide (0≤d.nums.getD 0 0)&&decide (0≤d.nums.getD 1 0)&&decide (0≤d.nums.getD 2 0)
def iH(d:NK)(m:Row (Int×Int)):bq:=⟨d.nums.getD 0 0,d.nums.getD 1 0,d.nums.getD 2 0,d.nums.getD 3 0,m⟩
def qC(c:bq):Bool:=match c.told with|none=>true|some m=>decide (m≤c.mark)
def tC(b:List UInt8):Option bq:=if(iy (b.length+1) ((ak 4 b true).nums.getD 2 0) (ak 4 b true).rest (bH (ak 4 b true)) []).1&&(dZ (iH (ak 4 b true) (iy (b.length+1) ((ak 4 b true).nums.getD 2 0) (ak 4 b true).rest (bH (ak 4 b true)) []).2)==b)&&qC (iH (ak 4 b true) (iy (b.length+1) ((ak 4 b true).nums.getD 2 0) (ak 4 b true).rest (bH (ak 4 b true)) []).2)then some (iH (ak 4 b true) (iy (b.length+1) ((ak 4 b true).nums.getD 2 0) (ak 4 b true).rest (bH (ak 4 b true)) []).2)else none
theorem vI{α:Type}(k:List UInt8)(v:α): ∀m:Row α,(∀p∈m,bytesBefore p.1 k=true)→fM (k,v) m=m++[(k,v)]
 |[],_=>rfl
 |y::r,h=>by
  have hy:=h y (by simp);have:bytesBefore k y.1=false:=by cases hb:bytesBefore k y.1 with|false=>rfl|true=>have:=iI hb hy;rw[aV]at this;cases this
  unfold fM;simp only[this];rw[vI k v r fun p hp=>h p (by simp[hp])];rfl
theorem ve{α:Type}(k:List UInt8)(v:α)(m:Row α)(h: ∀p∈m,bytesBefore p.1 k=true):aR k v m=m++[(k,v)]:=by
 unfold aR;have:m.filter (fun p=>!(p.1==k))=m:=List.filter_eq_self.2 fun p hp=>by
  have:=h p hp;have:p.1≠k:=fun e=>by rw[e,aV]at this;cases this
  simp[this]
 rw[this,vI k v m h]
theorem yK{c:UInt8}(h:eU c=true):c≠10∧c≠32:=by
 constructor;·rintro rfl;revert h;decide
 ·rintro rfl;revert h;decide
theorem yL{s:List UInt8}(h:ae s=true):32∉s∧10∉s:=by
 unfold ae at h;simp only[Bool.and_eq_true,decide_eq_true_eq]at h;constructor;·intro hm;exact(yK (List.all_eq_true.1 h.2 _ hm)).2 rfl
 ·intro hm;exact(yK (List.all_eq_true.1 h.2 _ hm)).1 rfl
theorem yf(a b:Row (Int×Int)):dL (a++b)=dL a++dL b:=by unfold dL;rw[List.flatMap_append]
theorem Gf(s:List UInt8)(ns:List Int):(dG s ns).isEmpty=false:=by unfold dG;simp
theorem yj(c:bq)(hc:fP c): ∀(m done:Row (Int×Int))(f:Nat),done++m=c.src→m.length<f→iy f c.now (dL m) true done=(true,c.src)
 |[],done,f,h,hf=>by obtain⟨g,rfl⟩: ∃g,f=g+1:=⟨f-1,by simp at hf;omega⟩;unfold iy;simp at h;simp[dL,h]
 |(s,a,q)::m,done,f,h,hf=>by
  obtain⟨g,rfl⟩: ∃g,f=g+1:=⟨f-1,by simp at hf;omega⟩;have hmem:(s,a,q)∈c.src:=by rw[←h];simp
  have hs:=hc.src _ hmem;simp only at hs;have hn:=hc.now;have e0:dL ((s,a,q)::m)=dG s [a,q]++dL m:=by simp[dL]
  have hl:=rY s [a,q] (dL m) (yL hs.1).1 (yL hs.1).2 (by intro v hv;simp at hv;rcases hv with rfl|rfl<;>omega);simp only[List.length_cons,List.length_nil,Nat.zero_add,Nat.reduceAdd]at hl;have hup:=hc.rising;rw[←h]at hup;have hlast:=ve s (a,q) done fun p hp=>(List.pairwise_append.1 hup).2.2 p hp (s,a,q) (by simp);have hne:(dL ((s,a,q)::m)).isEmpty=false:=by rw[e0];have:=Gf s [a,q];simp at this⊢;intro h;exact absurd h this
  unfold iy;rw[hne];simp only[Bool.not_false,Bool.and_self,if_true];rw[e0,hl];simp only[nL,hs.1,List.getD_cons_zero,List.getD_cons_succ,Bool.true_and];rw[hlast,decide_eq_true hs.2.1,decide_eq_true hs.2.2.2.1,decide_eq_true hs.2.2.2.2];exact yj c hc m (done++[(s,a,q)]) g (by rw[←h];simp) (by simp at hf;omega)
theorem yc(m:Row (Int×Int)):m.length≤(dL m).length:=by
 induction m with
  |nil=>simp[dL]
  |cons p m ih=>
   have e0:dL (p::m)=dG p.1 [p.2.1,p.2.2]++dL m:=by simp[dL]
   rw[e0];have:0<(dG p.1 [p.2.1,p.2.2]).length:=by unfold dG;simp;omega
   simp;omega
theorem yP{c:bq}(h:c.rise=c):qC c=true:=by
 unfold qC;cases ht:c.told with
  |none=>rfl
  |some m=>
   have:c.rise.mark=max c.mark m:=by unfold bq.rise;rw[ht]
   rw[h]at this;simp only[decide_eq_true_eq];omega
theorem G8{c:bq}(hc:fP c)(hr:c.rise=c):tC (dZ c)=some c:=by
 have h1:=hc.ag;have h2:=hc.idle;have h3:=hc.now;have h4:=hc.mark;have hl:=rY [99,108,111,99,107] [c.ag,c.idle,c.now,c.mark] (dL c.src) (by decide) (by decide) (by intro v hv;simp at hv;rcases hv with rfl|rfl|rfl|rfl<;>omega);simp only[List.length_cons,List.length_nil,Nat.zero_add,Nat.reduceAdd]at hl;have hl':ak 4 (dZ c) true=⟨[99,108,111,99,107],[c.ag,c.idle,c.now,c.mark],dL c.src,true⟩:=hl;have hrun:=yj c hc c.src [] ((dZ c).length+1) rfl (by
  have:=yc c.src;have:(dZ c).length=(dG [99,108,111,99,107] [c.ag,c.idle,c.now,c.mark]).length+(dL c.src).length:=by unfold dZ;rw[List.length_append]
  omega);unfold tC;rw[hl'];have hh:bH ⟨[99,108,111,99,107],[c.ag,c.idle,c.now,c.mark],dL c.src,true⟩=true:=by simp only[bH,List.getD_cons_zero,List.getD_cons_succ,Bool.true_and];rw[decide_eq_true h1.1,decide_eq_true h2.1,decide_eq_true h3.1];rfl
 rw[hh];simp only[List.getD_cons_zero,List.getD_cons_succ];rw[hrun];have e:iH ⟨[99,108,111,99,107],[c.ag,c.idle,c.now,c.mark],dL c.src,true⟩ c.src=c:=by simp only[iH,List.getD_cons_zero,List.getD_cons_succ]
 rw[e,yP hr];simp
structure oM(now:Int)(ok:Bool)(m:Row (Int×Int)):Prop where
 up:bM m
 each:ok=true→ ∀p∈m,ae p.1=true∧0≤p.2.1∧p.2.1≤1099511627776∧0≤p.2.2∧p.2.2≤now
theorem oM.nil(now:Int)(ok:Bool):oM now ok []:=⟨List.Pairwise.nil,fun _ p hp=>by simp at hp⟩
theorem vC(n:Nat)(rest:List UInt8)(ok:Bool)(h:(ak n rest ok).ok=true)(k:Nat):(ak n rest ok).nums.getD k 0≤1099511627776∧ -1≤(ak n rest ok).nums.getD k 0:=by rw[List.getD_eq_getElem?_getD];cases hg:(ak n rest ok).nums[k]? with|none=>simp|some v=>have:=AV n rest ok h v (List.mem_of_getElem? hg);simp;omega
theorem oM.step{now:Int}{ok:Bool}{m:Row (Int×Int)}(h:oM now ok m)(rest:List UInt8):oM now (nL now (ak 2 rest ok)) (aR (ak 2 rest ok).word ((ak 2 rest ok).nums.getD 0 0,(ak 2 rest ok).nums.getD 1 0) m):=by
 refine⟨aY h.up _ _,fun ho p hp=>?_⟩;unfold nL at ho;simp only[Bool.and_eq_true,decide_eq_true_eq]at ho;obtain⟨⟨⟨⟨h1,h2⟩,h3⟩,h4⟩,h5⟩:=ho;have hok:=((mW 2 rest ok).2 h1).2;rcases aF.1 hp with rfl|⟨hp,_⟩;·exact⟨h2,h3,(vC 2 rest ok h1 0).1,h4,h5⟩
 ·exact h.each hok p hp
theorem tH{b:List UInt8}{m:Row (Int×Int)}(hh:bH (ak 4 b true)=true)(h:oM ((ak 4 b true).nums.getD 2 0) true m):fP (iH (ak 4 b true) m):=by unfold bH at hh;simp only[Bool.and_eq_true,decide_eq_true_eq]at hh;obtain⟨⟨⟨h1,h2⟩,h3⟩,h4⟩:=hh;have k:=vC 4 b true h1;exact⟨⟨h2,(k 0).1⟩,⟨h3,(k 1).1⟩,⟨h4,(k 2).1⟩,⟨(k 3).2,(k 3).1⟩,h.up,h.each rfl⟩
theorem wD: ∀(f:Nat)(now:Int)(rest:List UInt8)(ok:Bool)(m:Row (Int×Int)),oM now ok m→oM now (iy f now rest ok m).1 (iy f now rest ok m).2∧((iy f now rest ok m).1=true→ok=true)
 |0,now,rest,ok,m,h=>⟨h,fun h=>h⟩
 |f+1,now,rest,ok,m,h=>by
  unfold iy;split;·rename_i hc;have:=wD f now (ak 2 rest ok).rest (nL now (ak 2 rest ok)) _ (h.step rest);refine⟨this.1,fun _=>?_⟩;simp only[Bool.and_eq_true]at hc;exact hc.1
  ·exact⟨h,fun h=>h⟩
theorem EF{b:List UInt8}{c:bq}(h:tC b=some c):fP c∧dZ c=b∧qC c=true:=by
 unfold tC at h;split at h;·rename_i hc;injection h with h;simp only[Bool.and_eq_true,beq_iff_eq]at hc;obtain⟨⟨h1,h2⟩,h3⟩:=hc;have k:=wD (b.length+1) ((ak 4 b true).nums.getD 2 0) (ak 4 b true).rest (bH (ak 4 b true)) [] (oM.nil _ _);rw[h1]at k;rw[←h];exact⟨tH (k.2 rfl) k.1,h2,h3⟩
 ·cases h
end Go.Proofs.YtladegonienapaaGreatDoor
