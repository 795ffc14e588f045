/-
  Layer 6, plain: a clock's bytes, written and read.
-/
import Derived.Lib.AtoiAll
import Derived.Lib.ItoaNum
import Derived.Lib.SplitLaws
import Derived.Lib.IndexBytes
import Derived.Test.YtcmmclliabhnjaaGreatDoorWEvForget
import Derived.Lib.ItoaLen
set_option maxRecDepth 100000
set_option maxHeartbeats 16000000
namespace Go.Proofs.YtcmmclliabhnjaaGreatDoor
theorem dig_nat(k:Nat)(h:k<10):(UInt8.ofNat (48+k)).toNat=48+k:=by simp;omega
theorem parse_snoc(l:List UInt8): ∀(acc u k:Nat),Lib.parseUint10 acc l=.ok u→k<10→u*10+k<18446744073709551610→Lib.parseUint10 acc (l++[UInt8.ofNat (48+k)])=.ok (u*10+k):=by
 induction l with
  |nil=>intro acc u k h hk hu;simp only[Lib.parseUint10]at h;injection h with h;subst h;simp only[List.nil_append,Lib.parseUint10,dig_nat k hk];rw[if_pos (by omega),if_neg (by omega),if_neg (by omega)];congr 1;omega
  |cons c r ih=>
   intro acc u k h hk hu;simp only[List.cons_append,Lib.parseUint10]at h⊢;split at h
   ·split at h;·cases h
    ·split at h;·cases h
     ·rename_i h1 h2 h3;rw[if_pos h1,if_neg h2,if_neg h3];exact ih _ _ _ h hk hu
   ·cases h
theorem parse_dec(u:Nat):u<9223372036854775809→Lib.parseUint10 0 (Lib.decDigits u)=.ok u:=by
 induction u using Nat.strongRecOn with
  |_ u ih=>
   intro hu;by_cases h:u<10;·rw[Lib.decDigits,dif_pos h];simp only[Lib.parseUint10,dig_nat u h];rw[if_pos (by omega),if_neg (by omega),if_neg (by omega)];congr 1;omega
   ·rw[Lib.decDigits,dif_neg h];rw[parse_snoc _ 0 (u/10) (u%10) (ih (u/10) (by omega) (by omega)) (by omega) (by omega)];congr 1;omega
theorem dec_bytes(k:Nat): ∀c∈Lib.decDigits k,48≤c.toNat∧c.toNat≤57:=by
 induction k using Nat.strongRecOn with
  |_ k ih=>
   intro c hc;by_cases h:k<10;·rw[Lib.decDigits,dif_pos h]at hc;simp only[List.mem_singleton]at hc;subst hc;rw[dig_nat k h];omega
   ·rw[Lib.decDigits,dif_neg h]at hc;rcases List.mem_append.1 hc with hc|hc;·exact ih _ (by omega) c hc
    ·simp only[List.mem_singleton]at hc;subst hc;rw[dig_nat _ (by omega)];omega
theorem dec_ne(k:Nat):Lib.decDigits k≠[]:=by rw[Lib.decDigits];split<;>simp
theorem itoa_bytes(n:Int): ∀c∈Lib.itoa n,c.toNat=45∨(48≤c.toNat∧c.toNat≤57):=by
 intro c hc;unfold Lib.itoa at hc;split at hc
 ·rcases List.mem_cons.1 hc with rfl|hc;·left;rfl
  ·right;exact dec_bytes _ c hc
 ·right;exact dec_bytes _ c hc
theorem itoa_no(n:Int)(c:UInt8)(hc:c.toNat≠45)(h:c.toNat<48):c∉Lib.itoa n:=fun hm=>by
 rcases itoa_bytes n c hm with h1|h1;·exact hc h1
 ·omega
theorem atoi_itoa(n:Int)(h0: -9223372036854775808≤n)(h1:n≤9223372036854775807):Lib.atoiAll (Lib.itoa n)=.ok n:=by
 unfold Lib.itoa;split
 ·rename_i hn;show(match Lib.parseMag (if(45:UInt8).toNat=43∨(45:UInt8).toNat=45 then _ else _)with|.syntax=>_|.range=>_|.ok u=>_)=_;rw[if_pos (.inr rfl)];have:Lib.parseMag (Lib.decDigits n.natAbs)=.ok n.natAbs:=by unfold Lib.parseMag;rw[if_neg (dec_ne _)];exact parse_dec _ (by omega)
  rw[this];simp;rw[if_neg (by omega)];congr 1;omega
 ·rename_i hn;obtain⟨c,r,hcr⟩: ∃c r,Lib.decDigits n.toNat=c::r:=by cases hd:Lib.decDigits n.toNat with|nil=>exact absurd hd (dec_ne _)|cons c r=>exact⟨c,r,rfl⟩
  have hc:=dec_bytes n.toNat c (by rw[hcr];simp);have hp:Lib.parseMag (Lib.decDigits n.toNat)=.ok n.toNat:=by unfold Lib.parseMag;rw[if_neg (dec_ne _)];exact parse_dec _ (by omega)
  rw[hcr]at hp⊢;unfold Lib.atoiAll;simp only;rw[if_neg (by omega),hp];have h45: ¬c.toNat=45:=by omega
  simp only[h45,not_false_eq_true,true_and,false_and,if_false];rw[if_neg (by omega)];congr 1;omega
theorem ib_hit(c:UInt8): ∀(a b:List UInt8),c∉a→Lib.indexByte (a++c::b) c=a.length|[],b,_=>by simp[Lib.indexByte]|x::a,b,h=>by have hx: ¬x=c:=fun e=>h (by rw[e];simp);have ih:=ib_hit c a b (fun hm=>h (by simp[hm]));simp only[List.cons_append,Lib.indexByte,ih];rw[if_neg (by simpa using hx),if_neg (by simp)];simp
theorem ib_miss(c:UInt8): ∀(a:List UInt8),c∉a→Lib.indexByte a c= -1|[],_=>rfl|x::a,h=>by have hx: ¬x=c:=fun e=>h (by rw[e];simp);have ih:=ib_miss c a (fun hm=>h (by simp[hm]));simp only[Lib.indexByte,ih];rw[if_neg (by simpa using hx)];rfl
theorem cut_hit(c:UInt8)(a b:List UInt8)(h:c∉a):Lib.cut (a++c::b) [c]=(a,b,true):=by unfold Lib.cut;rw[Lib.index_one,ib_hit c a b h,if_pos (by omega)];simp
theorem cut_miss(c:UInt8)(a:List UInt8)(h:c∉a):Lib.cut a [c]=(a,[],false):=by unfold Lib.cut;rw[Lib.index_one,ib_miss c a h,if_neg (by omega)]
theorem split_hit(c:UInt8)(a b:List UInt8)(h:c∉a):Lib.split (a++c::b) [c]=a::Lib.split b [c]:=by unfold Lib.split;rw[Lib.count_one,Lib.count_one,List.count_append,List.count_cons_self,List.count_eq_zero.2 h,Nat.zero_add];show(if Lib.index (a++c::b) [c]== -1 then _ else _)=_;rw[Lib.index_one,ib_hit c a b h,if_neg (by simp)];simp
theorem split_miss(c:UInt8)(a:List UInt8)(h:c∉a):Lib.split a [c]=[a]:=by unfold Lib.split;rw[Lib.count_one,List.count_eq_zero.2 h];rfl
theorem cut_cases(c:UInt8)(l:List UInt8):c∉l∨ ∃a b,l=a++c::b∧c∉a:=by
 induction l with
  |nil=>left;simp
  |cons x l ih=>
   by_cases hx:x=c;·right;exact⟨[],l,by rw[hx];rfl,by simp⟩
   ·rcases ih with h|⟨a,b,h1,h2⟩;·left;simp[Ne.symm hx,h]
    ·right;exact⟨x::a,b,by rw[h1];rfl,by simp[Ne.symm hx,h2]⟩
theorem split_words(c:UInt8): ∀(n:Nat)(l:List UInt8),l.length≤n→ ∀w∈Lib.split l [c],w.length≤l.length:=by
 intro n;induction n with
  |zero=>intro l hl w hw;have:l=[]:=List.length_eq_zero_iff.1 (by omega);subst this;rw[split_miss c [] (by simp)]at hw;simp at hw;subst hw;simp
  |succ n ih=>
   intro l hl w hw;rcases cut_cases c l with h|⟨a,b,rfl,h⟩;·rw[split_miss c l h]at hw;simp at hw;subst hw;exact Nat.le_refl _
   ·rw[split_hit c a b h]at hw;simp only[List.length_append,List.length_cons]at hl⊢;rcases List.mem_cons.1 hw with rfl|hw;·omega
    ·have:=ih b (by omega) w hw;omega
open Go.RowKit Go.Maps Go.Sort
/-!### a clock's bytes -/
def numsB(ns:List Int):List UInt8:=ns.flatMap fun n=>32::Lib.itoa n
def lineB(s:List UInt8)(ns:List Int):List UInt8:=s++numsB ns++[10]
def srcB(m:Row (Int×Int)):List UInt8:=m.flatMap fun p=>lineB p.1 [p.2.1,p.2.2]
def encC(c:Clk):List UInt8:=lineB [99,108,111,99,107] [c.slack,c.idle,c.now,c.mark]++srcB c.src
theorem numsB_take(ns:List Int)(k:Nat)(hk:k<ns.length):numsB (ns.take (k+1))=numsB (ns.take k)++[32]++Lib.itoa ns[k]:=by unfold numsB;rw[List.take_add_one,List.getElem?_eq_getElem hk,Option.toList_some,List.flatMap_append];simp
theorem numsB_cons(n:Int)(ns:List Int):numsB (n::ns)=32::(Lib.itoa n++numsB ns):=by simp[numsB]
theorem numsB_len(ns:List Int)(h: ∀n∈ns,-9223372036854775808≤n∧n≤9223372036854775807):(numsB ns).length≤22*ns.length:=by induction ns with|nil=>simp[numsB]|cons n ns ih=>have h1:=ih fun x hx=>h x (List.mem_cons_of_mem _ hx);have h2:=Lib.itoa_length_le n (h n (List.mem_cons_self)).1 (h n (List.mem_cons_self)).2;rw[numsB_cons];simp only[List.length_append,List.length_cons];omega
theorem numsB_no(c:UInt8)(hc:c.toNat≠45)(h32:c≠32)(h:c.toNat<48)(ns:List Int):c∉numsB ns:=by
 induction ns with
  |nil=>simp[numsB]
  |cons n ns ih=>
   rw[numsB_cons];intro hm;rcases List.mem_cons.1 hm with hm|hm;·exact h32 hm
   ·rcases List.mem_append.1 hm with hm|hm;·exact itoa_no n c hc h hm
    ·exact ih hm
theorem words_nums: ∀(ns:List Int)(s:List UInt8),32∉s→Lib.split (s++numsB ns) [32]=s::ns.map Lib.itoa|[],s,h=>by simp only[numsB,List.flatMap_nil,List.append_nil,List.map_nil];exact split_miss 32 s h|n::ns,s,h=>by rw[numsB_cons,split_hit 32 s _ h,words_nums ns (Lib.itoa n) (itoa_no n 32 (by decide) (by decide))];rfl
def atoiV(w:List UInt8):Int:=match Lib.atoiAll w with|.ok v=>v|.syntax=>0|.range=>Lib.atoiSat w
def atoiE(w:List UInt8):Bool:=match Lib.atoiAll w with|.ok _=>true|_=>false
def atoiB(w:List UInt8):Bool:=atoiE w&&decide (-1≤atoiV w)&&decide (atoiV w≤1099511627776)
theorem atoiV_itoa{n:Int}(h0: -9223372036854775808≤n)(h1:n≤9223372036854775807):atoiV (Lib.itoa n)=n:=by unfold atoiV;rw[atoi_itoa n h0 h1]
theorem atoiB_itoa{n:Int}(h0: -1≤n)(h1:n≤1099511627776):atoiB (Lib.itoa n)=true:=by unfold atoiB atoiE;rw[atoiV_itoa (by omega) (by omega),atoi_itoa n (by omega) (by omega)];simp[h0,h1]
structure LnD where
 word:List UInt8
 nums:List Int
 rest:List UInt8
 ok:Bool
def lineD(n:Nat)(rest:List UInt8)(ok:Bool):LnD:=if(Lib.cut rest [10]).2.2&&decide ((Lib.split (Lib.cut rest [10]).1 [32]).length=n+1)then⟨(Lib.split (Lib.cut rest [10]).1 [32]).headD [],((Lib.split (Lib.cut rest [10]).1 [32]).drop 1).map atoiV,(Lib.cut rest [10]).2.1,ok&&((Lib.split (Lib.cut rest [10]).1 [32]).drop 1).all atoiB⟩else⟨[],List.replicate n 0,rest,false⟩
theorem lineD_len(n:Nat)(rest:List UInt8)(ok:Bool):(lineD n rest ok).nums.length=n:=by
 unfold lineD;split;·rename_i h;simp only[Bool.and_eq_true,decide_eq_true_eq]at h;simp only[List.length_map,List.length_drop];omega
 ·simp
theorem cut_len(rest:List UInt8)(h:(Lib.cut rest [10]).2.2=true):(Lib.cut rest [10]).2.1.length<rest.length:=by
 rcases cut_cases 10 rest with h1|⟨a,b,rfl,h1⟩;·rw[cut_miss 10 rest h1]at h;cases h
 ·rw[cut_hit 10 a b h1];simp;omega
theorem lineD_rest(n:Nat)(rest:List UInt8)(ok:Bool):(lineD n rest ok).rest.length≤rest.length∧((lineD n rest ok).ok=true→(lineD n rest ok).rest.length<rest.length∧ok=true):=by
 unfold lineD;split;·rename_i h;simp only[Bool.and_eq_true,decide_eq_true_eq]at h;have:=cut_len rest h.1;simp only[Bool.and_eq_true];exact⟨by omega,fun h=>⟨this,h.1⟩⟩
 ·simp
theorem lineD_nums(n:Nat)(rest:List UInt8)(ok:Bool)(h:(lineD n rest ok).ok=true): ∀v∈(lineD n rest ok).nums,-1≤v∧v≤1099511627776:=by
 unfold lineD at h⊢;split;·rename_i hc;rw[if_pos hc]at h;simp only[Bool.and_eq_true]at h;intro v hv;simp only at hv;obtain⟨x,hx,rfl⟩:=List.mem_map.1 hv;have:=List.all_eq_true.1 h.2 x hx;unfold atoiB at this;simp only[Bool.and_eq_true,decide_eq_true_eq]at this;omega
 ·rename_i hc;rw[if_neg hc]at h;cases h
theorem lineD_line(s:List UInt8)(ns:List Int)(r:List UInt8)(h1:32∉s)(h2:10∉s)(hb: ∀v∈ns,-1≤v∧v≤1099511627776):lineD ns.length (lineB s ns++r) true=⟨s,ns,r,true⟩:=by
 have hc:Lib.cut (lineB s ns++r) [10]=(s++numsB ns,r,true):=by
  have:lineB s ns++r=(s++numsB ns)++10::r:=by unfold lineB;simp
  rw[this];exact cut_hit 10 _ _ fun hm=>(List.mem_append.1 hm).elim h2 (numsB_no 10 (by decide) (by decide) (by decide) ns)
 unfold lineD;rw[hc];simp only;rw[words_nums ns s h1];simp only[List.length_cons,List.length_map,decide_true,Bool.and_self,if_true,List.headD_cons,List.drop_succ_cons,List.drop_zero,List.map_map];have e1:(ns.map (atoiV∘Lib.itoa))=ns:=by
  conv=>rhs;rw[←List.map_id ns]
  exact List.map_congr_left fun v hv=>by have:=hb v hv;exact atoiV_itoa (by omega) (by omega)
 have e2:(ns.map Lib.itoa).all atoiB=true:=by rw[List.all_map];exact List.all_eq_true.2 fun v hv=>by have:=hb v hv;exact atoiB_itoa this.1 this.2
 rw[e1,e2];rfl
def srcOk(now:Int)(d:LnD):Bool:=d.ok&&nameB d.word&&decide (0≤d.nums.getD 0 0)&&decide (0≤d.nums.getD 1 0)&&decide (d.nums.getD 1 0≤now)
def runD:Nat→Int→List UInt8→Bool→Row (Int×Int)→Bool×Row (Int×Int)|0,_,_,ok,m=>(ok,m)|f+1,now,rest,ok,m=>if ok&&!rest.isEmpty then runD f now (lineD 2 rest ok).rest (srcOk now (lineD 2 rest ok)) (putB (lineD 2 rest ok).word ((lineD 2 rest ok).nums.getD 0 0,(lineD 2 rest ok).nums.getD 1 0) m)else(ok,m)
def headOk(d:LnD):Bool:=d.ok&&decide (0≤d.nums.getD 0 0)&&decide (0≤d.nums.getD 1 0)&&decide (0≤d.nums.getD 2 0)
def clkD(d:LnD)(m:Row (Int×Int)):Clk:=⟨d.nums.getD 0 0,d.nums.getD 1 0,d.nums.getD 2 0,d.nums.getD 3 0,m⟩
def markB(c:Clk):Bool:=match c.told with|none=>true|some m=>decide (m≤c.mark)
def decC(b:List UInt8):Option Clk:=if(runD (b.length+1) ((lineD 4 b true).nums.getD 2 0) (lineD 4 b true).rest (headOk (lineD 4 b true)) []).1&&(encC (clkD (lineD 4 b true) (runD (b.length+1) ((lineD 4 b true).nums.getD 2 0) (lineD 4 b true).rest (headOk (lineD 4 b true)) []).2)==b)&&markB (clkD (lineD 4 b true) (runD (b.length+1) ((lineD 4 b true).nums.getD 2 0) (lineD 4 b true).rest (headOk (lineD 4 b true)) []).2)then some (clkD (lineD 4 b true) (runD (b.length+1) ((lineD 4 b true).nums.getD 2 0) (lineD 4 b true).rest (headOk (lineD 4 b true)) []).2)else none
theorem insB_last{α:Type}(k:List UInt8)(v:α): ∀m:Row α,(∀p∈m,bytesBefore p.1 k=true)→insB (k,v) m=m++[(k,v)]
 |[],_=>rfl
 |y::r,h=>by
  have hy:=h y (by simp);have:bytesBefore k y.1=false:=by cases hb:bytesBefore k y.1 with|false=>rfl|true=>have:=bb_trans hb hy;rw[bb_irrefl]at this;cases this
  unfold insB;simp only[this];rw[insB_last k v r fun p hp=>h p (by simp[hp])];rfl
theorem putB_last{α:Type}(k:List UInt8)(v:α)(m:Row α)(h: ∀p∈m,bytesBefore p.1 k=true):putB k v m=m++[(k,v)]:=by
 unfold putB;have:m.filter (fun p=>!(p.1==k))=m:=List.filter_eq_self.2 fun p hp=>by
  have:=h p hp;have:p.1≠k:=fun e=>by rw[e,bb_irrefl]at this;cases this
  simp[this]
 rw[this,insB_last k v m h]
theorem nameC_no{c:UInt8}(h:nameC c=true):c≠10∧c≠32:=by
 constructor;·rintro rfl;revert h;decide
 ·rintro rfl;revert h;decide
theorem nameB_no{s:List UInt8}(h:nameB s=true):32∉s∧10∉s:=by
 unfold nameB at h;simp only[Bool.and_eq_true,decide_eq_true_eq]at h;constructor;·intro hm;exact(nameC_no (List.all_eq_true.1 h.2 _ hm)).2 rfl
 ·intro hm;exact(nameC_no (List.all_eq_true.1 h.2 _ hm)).1 rfl
theorem srcB_append(a b:Row (Int×Int)):srcB (a++b)=srcB a++srcB b:=by unfold srcB;rw[List.flatMap_append]
theorem lineB_ne(s:List UInt8)(ns:List Int):(lineB s ns).isEmpty=false:=by unfold lineB;simp
theorem runD_src(c:Clk)(hc:ClkOk c): ∀(m done:Row (Int×Int))(f:Nat),done++m=c.src→m.length<f→runD f c.now (srcB m) true done=(true,c.src)
 |[],done,f,h,hf=>by obtain⟨g,rfl⟩: ∃g,f=g+1:=⟨f-1,by simp at hf;omega⟩;unfold runD;simp at h;simp[srcB,h]
 |(s,a,q)::m,done,f,h,hf=>by
  obtain⟨g,rfl⟩: ∃g,f=g+1:=⟨f-1,by simp at hf;omega⟩;have hmem:(s,a,q)∈c.src:=by rw[←h];simp
  have hs:=hc.src _ hmem;simp only at hs;have hn:=hc.now;have e0:srcB ((s,a,q)::m)=lineB s [a,q]++srcB m:=by simp[srcB]
  have hl:=lineD_line s [a,q] (srcB m) (nameB_no hs.1).1 (nameB_no hs.1).2 (by intro v hv;simp at hv;rcases hv with rfl|rfl<;>omega);simp only[List.length_cons,List.length_nil,Nat.zero_add,Nat.reduceAdd]at hl;have hup:=hc.rising;rw[←h]at hup;have hlast:=putB_last s (a,q) done fun p hp=>(List.pairwise_append.1 hup).2.2 p hp (s,a,q) (by simp);have hne:(srcB ((s,a,q)::m)).isEmpty=false:=by rw[e0];have:=lineB_ne s [a,q];simp at this⊢;intro h;exact absurd h this
  unfold runD;rw[hne];simp only[Bool.not_false,Bool.and_self,if_true];rw[e0,hl];simp only[srcOk,hs.1,List.getD_cons_zero,List.getD_cons_succ,Bool.true_and];rw[hlast,decide_eq_true hs.2.1,decide_eq_true hs.2.2.2.1,decide_eq_true hs.2.2.2.2];exact runD_src c hc m (done++[(s,a,q)]) g (by rw[←h];simp) (by simp at hf;omega)
theorem srcB_length(m:Row (Int×Int)):m.length≤(srcB m).length:=by
 induction m with
  |nil=>simp[srcB]
  |cons p m ih=>
   have e0:srcB (p::m)=lineB p.1 [p.2.1,p.2.2]++srcB m:=by simp[srcB]
   rw[e0];have:0<(lineB p.1 [p.2.1,p.2.2]).length:=by unfold lineB;simp;omega
   simp;omega
theorem markB_risen{c:Clk}(h:c.rise=c):markB c=true:=by
 unfold markB;cases ht:c.told with
  |none=>rfl
  |some m=>
   have:c.rise.mark=max c.mark m:=by unfold Clk.rise;rw[ht]
   rw[h]at this;simp only[decide_eq_true_eq];omega
theorem decC_enc{c:Clk}(hc:ClkOk c)(hr:c.rise=c):decC (encC c)=some c:=by
 have h1:=hc.slack;have h2:=hc.idle;have h3:=hc.now;have h4:=hc.mark;have hl:=lineD_line [99,108,111,99,107] [c.slack,c.idle,c.now,c.mark] (srcB c.src) (by decide) (by decide) (by intro v hv;simp at hv;rcases hv with rfl|rfl|rfl|rfl<;>omega);simp only[List.length_cons,List.length_nil,Nat.zero_add,Nat.reduceAdd]at hl;have hl':lineD 4 (encC c) true=⟨[99,108,111,99,107],[c.slack,c.idle,c.now,c.mark],srcB c.src,true⟩:=hl;have hrun:=runD_src c hc c.src [] ((encC c).length+1) rfl (by
  have:=srcB_length c.src;have:(encC c).length=(lineB [99,108,111,99,107] [c.slack,c.idle,c.now,c.mark]).length+(srcB c.src).length:=by unfold encC;rw[List.length_append]
  omega);unfold decC;rw[hl'];have hh:headOk ⟨[99,108,111,99,107],[c.slack,c.idle,c.now,c.mark],srcB c.src,true⟩=true:=by simp only[headOk,List.getD_cons_zero,List.getD_cons_succ,Bool.true_and];rw[decide_eq_true h1.1,decide_eq_true h2.1,decide_eq_true h3.1];rfl
 rw[hh];simp only[List.getD_cons_zero,List.getD_cons_succ];rw[hrun];have e:clkD ⟨[99,108,111,99,107],[c.slack,c.idle,c.now,c.mark],srcB c.src,true⟩ c.src=c:=by simp only[clkD,List.getD_cons_zero,List.getD_cons_succ]
 rw[e,markB_risen hr];simp
structure RunI(now:Int)(ok:Bool)(m:Row (Int×Int)):Prop where
 up:RowUp m
 each:ok=true→ ∀p∈m,nameB p.1=true∧0≤p.2.1∧p.2.1≤1099511627776∧0≤p.2.2∧p.2.2≤now
theorem RunI.nil(now:Int)(ok:Bool):RunI now ok []:=⟨List.Pairwise.nil,fun _ p hp=>by simp at hp⟩
theorem lineD_num(n:Nat)(rest:List UInt8)(ok:Bool)(h:(lineD n rest ok).ok=true)(k:Nat):(lineD n rest ok).nums.getD k 0≤1099511627776∧ -1≤(lineD n rest ok).nums.getD k 0:=by rw[List.getD_eq_getElem?_getD];cases hg:(lineD n rest ok).nums[k]? with|none=>simp|some v=>have:=lineD_nums n rest ok h v (List.mem_of_getElem? hg);simp;omega
theorem RunI.step{now:Int}{ok:Bool}{m:Row (Int×Int)}(h:RunI now ok m)(rest:List UInt8):RunI now (srcOk now (lineD 2 rest ok)) (putB (lineD 2 rest ok).word ((lineD 2 rest ok).nums.getD 0 0,(lineD 2 rest ok).nums.getD 1 0) m):=by
 refine⟨putB_rising h.up _ _,fun ho p hp=>?_⟩;unfold srcOk at ho;simp only[Bool.and_eq_true,decide_eq_true_eq]at ho;obtain⟨⟨⟨⟨h1,h2⟩,h3⟩,h4⟩,h5⟩:=ho;have hok:=((lineD_rest 2 rest ok).2 h1).2;rcases putB_mem.1 hp with rfl|⟨hp,_⟩;·exact⟨h2,h3,(lineD_num 2 rest ok h1 0).1,h4,h5⟩
 ·exact h.each hok p hp
theorem clk_of_run{b:List UInt8}{m:Row (Int×Int)}(hh:headOk (lineD 4 b true)=true)(h:RunI ((lineD 4 b true).nums.getD 2 0) true m):ClkOk (clkD (lineD 4 b true) m):=by unfold headOk at hh;simp only[Bool.and_eq_true,decide_eq_true_eq]at hh;obtain⟨⟨⟨h1,h2⟩,h3⟩,h4⟩:=hh;have k:=lineD_num 4 b true h1;exact⟨⟨h2,(k 0).1⟩,⟨h3,(k 1).1⟩,⟨h4,(k 2).1⟩,⟨(k 3).2,(k 3).1⟩,h.up,h.each rfl⟩
theorem runD_ok: ∀(f:Nat)(now:Int)(rest:List UInt8)(ok:Bool)(m:Row (Int×Int)),RunI now ok m→RunI now (runD f now rest ok m).1 (runD f now rest ok m).2∧((runD f now rest ok m).1=true→ok=true)
 |0,now,rest,ok,m,h=>⟨h,fun h=>h⟩
 |f+1,now,rest,ok,m,h=>by
  unfold runD;split;·rename_i hc;have:=runD_ok f now (lineD 2 rest ok).rest (srcOk now (lineD 2 rest ok)) _ (h.step rest);refine⟨this.1,fun _=>?_⟩;simp only[Bool.and_eq_true]at hc;exact hc.1
  ·exact⟨h,fun h=>h⟩
theorem decC_some{b:List UInt8}{c:Clk}(h:decC b=some c):ClkOk c∧encC c=b∧markB c=true:=by
 unfold decC at h;split at h;·rename_i hc;injection h with h;simp only[Bool.and_eq_true,beq_iff_eq]at hc;obtain⟨⟨h1,h2⟩,h3⟩:=hc;have k:=runD_ok (b.length+1) ((lineD 4 b true).nums.getD 2 0) (lineD 4 b true).rest (headOk (lineD 4 b true)) [] (RunI.nil _ _);rw[h1]at k;rw[←h];exact⟨clk_of_run (k.2 rfl) k.1,h2,h3⟩
 ·cases h
end Go.Proofs.YtcmmclliabhnjaaGreatDoor
