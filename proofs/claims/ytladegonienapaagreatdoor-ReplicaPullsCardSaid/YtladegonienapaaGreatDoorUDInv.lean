/-
  Layer 5, plain: the files of a journal whose entries are known.
-/
import Derived.Test.YtladegonienapaaGreatDoorUEvLen
set_option maxRecDepth 100000
set_option maxHeartbeats 16000000
namespace ky
def yg(p:Nat×Nat)(c:UInt8):Nat×Nat:=((p.1+c.toNat)%65521,(p.2+(p.1+c.toNat)%65521)%65521)
def ad(l:List UInt8):Nat×Nat:=l.foldl yg (1,0)
def KQ(l:List UInt8):Nat:=(ad l).2*65536+(ad l).1
theorem IM(l:List UInt8)(c:UInt8):ad (l++[c])=yg (ad l) c:=by simp[ad,List.foldl_append]
theorem QO(l:List UInt8)(k:Nat)(h:k<l.length):ad (l.take (k+1))=yg (ad (l.take k)) l[k]:=by rw[List.take_add_one,List.getElem?_eq_getElem h];exact IM _ _
theorem NZ(l:List UInt8):(ad l).1<65521∧(ad l).2<65521:=by
 rcases List.eq_nil_or_concat l with rfl|⟨l',c,rfl⟩;·decide
 ·rw[List.concat_eq_append,IM];constructor<;>exact Nat.mod_lt _ (by decide)
theorem QL(l:List UInt8):KQ l<4294967296:=by have:=NZ l;unfold KQ;omega
def u8(n:Nat):UInt8:=UInt8.ofNat n
theorem Ch(n:Nat):(u8 n).toNat=n%256:=by simp[u8]
def be3(n:Nat):List UInt8:=[u8 (n/65536),u8 (n/256),u8 n]
def be4(n:Nat):List UInt8:=[u8 (n/16777216),u8 (n/65536),u8 (n/256),u8 n]
def front(p:List UInt8):List UInt8:=be3 p.length++(be3 p.length).map (255- ·)++p
def wU(p:List UInt8):List UInt8:=front p++be4 (KQ (front p))
theorem mH(p:List UInt8):(front p).length=p.length+6:=by simp[front,be3]
theorem iB(p:List UInt8):(wU p).length=p.length+10:=by simp[wU,mH,be4]
def sz(l:List UInt8):Nat:=(l.getD 0 0).toNat*65536+(l.getD 1 0).toNat*256+(l.getD 2 0).toNat
def wG(l:List UInt8)(i:Nat):Bool:=decide (i<l.length)&&(l.getD i 0 !=255-l.getD (i-3) 0)
def YX(l:List UInt8):Bool:=wG l 3||wG l 4||wG l 5
def there(l:List UInt8):Bool:=decide (6≤l.length)&&decide (sz l+10≤l.length)
def wrong(l:List UInt8):Bool:=there l&&((l.drop (6+sz l)).take 4 !=be4 (KQ (l.take (6+sz l))))
theorem sub255(b:UInt8):(255-b).toNat=255-b.toNat:=by rw[UInt8.toNat_sub];have:=b.toNat_lt;have e:(255:UInt8).toNat=255:=rfl;rw[e];omega
end ky
namespace ky
end ky
namespace Go.Proofs.YtladegonienapaaGreatDoor
open Go.RowKit Go.Maps Go.Sort
structure Fl where
 data:List UInt8
 lasts:Int
 stays:Bool
def Fl.none:Fl:=⟨[],0,false⟩
structure Dk where
 files:Row Fl
 used:Int
 lit:Bool
 rM:Int
 down:Bool
def Dk.new:Dk:=⟨[],0,false,0,false⟩
def Dk.file(d:Dk)(s:List UInt8):Fl:=(aC d.files s).getD Fl.none
def Dk.asked(d:Dk)(s:List UInt8):Int:=if d.down then 8 else if s.length<1∨64<s.length then 1 else 0
def Dk.found(d:Dk)(s:List UInt8):Int:=if d.asked s≠0 then d.asked s else if(aC d.files s).isNone then 6 else 0
def Dk.fe(d:Dk)(s:List UInt8)(more:Int):Bool:=decide (4194304<d.used+more)||((aC d.files s).isNone&&decide (4096≤d.files.length))
def Dk.step(d:Dk):Dk:=if d.lit then(if d.rM=0 then{d with down:=true}else{d with rM:=d.rM-1})else d
def Dk.iT(d:Dk):Bool:=!(d.lit&&(d.rM==0))
def Dk.put(d:Dk)(s:List UInt8)(f:Fl):Dk:={d with files:=aL s f d.files}
def Dk.append(d:Dk)(s:List UInt8)(b:List UInt8):Dk:=if d.asked s≠0 then d else if d.fe s b.length then d else({d.put s {d.file s with data:=(d.file s).data++b}with used:=d.used+b.length}:Dk).step
def Dk.bO(d:Dk)(s:List UInt8)(b:List UInt8):Int:=if d.asked s≠0 then d.asked s else if d.fe s b.length then 5 else if d.iT then 0 else 8
def Dk.sync(d:Dk)(s:List UInt8):Dk:=if d.found s≠0 then d else if d.iT then d.step.put s {d.file s with lasts:=(d.file s).data.length,stays:=true}else d.step
def Dk.bT(d:Dk)(s:List UInt8):Int:=if d.found s≠0 then d.found s else if d.iT then 0 else 8
def Dk.replace(d:Dk)(s:List UInt8)(b:List UInt8):Dk:=if d.asked s≠0 then d else if d.fe s (b.length-(d.file s).data.length)then d else if d.iT then{d.step.put s ⟨b,b.length,true⟩with used:=d.used+(b.length-(d.file s).data.length)}else d.step
def Dk.bz(d:Dk)(s:List UInt8)(b:List UInt8):Int:=if d.asked s≠0 then d.asked s else if d.fe s (b.length-(d.file s).data.length)then 5 else if d.iT then 0 else 8
theorem Dk.qM{d:Dk}{s:List UInt8}(h:d.down=false)(h1:1≤s.length)(h2:s.length≤64):d.asked s=0:=by unfold Dk.asked;rw[h,if_neg (by simp),if_neg (by omega)]
theorem Dk.jM{d:Dk}(h:d.lit=false):d.step=d∧d.iT=true:=by unfold Dk.step Dk.iT;rw[h];exact⟨rfl,rfl⟩
theorem iW{α:Type}{m:Row α}{k:List UInt8}(v:α)(h:(aC m k).isSome=true):(aL k v m).length≤m.length:=by
 unfold aL;rw[nW];have⟨v',hv⟩:=Option.isSome_iff_exists.1 h;have hm:=ak hv;have:(m.filter fun p=>!(p.1==k)).length<m.length:=by rw[List.length_filter_lt_length_iff_exists];exact⟨_,hm,by simp⟩
 omega
section
variable{α:Type}
def aT(per k:Nat)(l:List α):List α:=(l.drop (k*per)).take per
def iw(n per:Nat):Nat:=(n+per-1)/per
theorem fP(per k:Nat)(l:List α):(aT per k l).length=min per (l.length-k*per):=by simp[aT]
theorem PK(per k:Nat)(l:List α):(aT per k l).length≤per:=by rw[fP];omega
theorem oO{per k m:Nat}(l:List α)(h:(k+1)*per≤m):aT per k (l.take m)=aT per k l:=by rw[Nat.succ_mul]at h;unfold aT;rw[List.drop_take,List.take_take,Nat.min_eq_left (by omega)]
theorem uy{per k:Nat}(l r:List α)(h:(k+1)*per≤l.length):aT per k (l++r)=aT per k l:=by rw[Nat.succ_mul]at h;unfold aT;rw[List.drop_append_of_le_length (by omega),List.take_append_of_le_length (by simp;omega)]
theorem Jv{per:Nat}(hp:1≤per)(l:List α)(x:α):aT per (l.length/per) (l++[x])=aT per (l.length/per) l++[x]:=by
 have h1:l.length/per*per≤l.length:=Nat.div_mul_le_self _ _;have h2:l.length<l.length/per*per+per:=by have e:=Nat.div_add_mod l.length per;have:=Nat.mod_lt l.length (show per>0 by omega);rw[Nat.mul_comm]at e;omega
 unfold aT;rw[List.drop_append_of_le_length h1];rw[List.take_of_length_le (by simp;omega),List.take_of_length_le (by simp;omega)]
theorem Cw(per k:Nat)(l:List α)(h:l.length≤k*per):aT per k l=[]:=by unfold aT;rw[List.drop_eq_nil_of_le h];simp
theorem Jw{per k:Nat}(l:List α)(h:l.length≤(k+1)*per):aT per k l=l.drop (k*per):=by rw[Nat.succ_mul]at h;unfold aT;rw[List.take_of_length_le (by simp;omega)]
theorem sN(per k:Nat)(l:List α):l.drop (k*per)=aT per k l++l.drop ((k+1)*per):=by unfold aT;rw[Nat.succ_mul,←List.drop_drop,List.take_append_drop]
theorem Ik{n per:Nat}(hp:1≤per):n≤iw n per*per:=by unfold iw;have e:=Nat.div_add_mod (n+per-1) per;have:=Nat.mod_lt (n+per-1) (show per>0 by omega);rw[Nat.mul_comm]at e;omega
theorem P7{n per:Nat}:iw n per*per≤n+per-1:=by unfold iw;exact Nat.div_mul_le_self _ _
theorem sW{n per:Nat}(hp:1≤per):iw (n+1) per=n/per+1:=by unfold iw;rw[show n+1+per-1=n+per by omega,Nat.add_div_right _ (by omega)]
end
/-!### decimal digits -/
open Lib
def Gr(l:List UInt8):Nat:=l.foldl (fun a c=>a*10+(c.toNat-48)) 0
theorem qc(k:Nat):Gr (decDigits k)=k:=by
 induction k using Nat.strongRecOn with
  |_ k ih=>
   by_cases h:k<10;·rw[decDigits,dif_pos h];simp[Gr];omega
   ·have:=ih (k/10) (by omega);rw[decDigits,dif_neg h];unfold Gr at*;rw[List.foldl_append,this];simp;omega
theorem yM{k k':Nat}(h:decDigits k=decDigits k'):k=k':=by rw[←qc k,h,qc]
def aO(s:List UInt8)(k:Nat):List UInt8:=s++46::decDigits k
theorem nK{s:List UInt8}{k k':Nat}(h:aO s k=aO s k'):k=k':=by unfold aO at h;have:=List.append_cancel_left h;simp at this;exact yM this
theorem xY{k:Nat}(h:k<100):1≤(decDigits k).length∧(decDigits k).length≤2:=by
 by_cases h1:k<10;·rw[decDigits,dif_pos h1];simp
 ·rw[decDigits,dif_neg h1,decDigits,dif_pos (by omega)];simp
theorem lK(s:List UInt8){k:Nat}(h:k<100):1≤(aO s k).length∧(aO s k).length≤s.length+3:=by have:=xY h;unfold aO;simp;omega
def mK:Option Ev→List UInt8|none=>[]|some e=>yL e
def aU(x:Option Ev):List UInt8:=ky.wU (mK x)
structure Jl where
 dk:Dk
 name:List UInt8
 per:Nat
 files:Nat
 es:List (Option Ev)
 lasts:Nat
 stuck:Int
def Jl.new(d:Dk)(s:List UInt8)(per:Nat):Jl:=⟨d,s,per,0,[],0,0⟩
def Jl.last(j:Jl):List UInt8:=aO j.name (j.files-1)
def Jl.sync(j:Jl):Jl:=if j.files=0 then j else if j.dk.bT j.last≠0 then{j with dk:=j.dk.sync j.last,stuck:=j.dk.bT j.last}else{j with dk:=j.dk.sync j.last,lasts:=j.es.length}
def Jl.bT(j:Jl):Int:=if j.files=0 then 0 else j.dk.bT j.last
def Jl.pre(j:Jl):Jl:=if j.es.length%j.per=0 then j.sync else j
def Jl.AJ(j:Jl):Int:=if j.es.length%j.per=0 then j.bT else 0
def Jl.bC(j:Jl):List UInt8:=aO j.name (j.es.length/j.per)
def Jl.put(j:Jl)(x:Option Ev):Jl:=if j.AJ≠0 then j.pre else if j.pre.dk.bO j.bC (aU x)≠0 then{j.pre with dk:=j.pre.dk.append j.bC (aU x),stuck:=j.pre.dk.bO j.bC (aU x)}else{j.pre with dk:=j.pre.dk.append j.bC (aU x),files:=j.es.length/j.per+1,es:=j.es++[x]}
def Jl.jE(j:Jl)(x:Option Ev):Int:=if j.AJ≠0 then j.AJ else j.pre.dk.bO j.bC (aU x)
def Jl.puts:Jl→List Ev→Jl|j,[]=>j|j,e::l=>if j.jE (some e)≠0 then j.put (some e)else(j.put (some e)).puts l
def Jl.iE:Jl→List Ev→Int|_,[]=>0|j,e::l=>if j.jE (some e)≠0 then j.jE (some e)else(j.put (some e)).iE l
theorem Jl.nN(b:List Ev): ∀(a:List Ev)(j:Jl),j.iE a=0→j.puts (a++b)=(j.puts a).puts b∧j.iE (a++b)=(j.puts a).iE b
 |[],_,_=>⟨rfl,rfl⟩
 |e::a,j,h=>by
  unfold Jl.iE at h;by_cases h0:j.jE (some e)≠0;·rw[if_pos h0]at h;exact absurd h h0
  ·rw[if_neg h0]at h;have ih:=Jl.nN b a (j.put (some e)) h;simp only[List.cons_append,Jl.puts,Jl.iE,if_neg h0];exact ih
theorem Jl.JV(j:Jl)(a:List Ev)(e:Ev)(h:j.iE a=0):j.puts (a++[e])=(j.puts a).put (some e)∧j.iE (a++[e])=(j.puts a).jE (some e):=by
 have:=Jl.nN [e] a j h;refine⟨this.1.trans ?_,this.2.trans ?_⟩;·simp only[Jl.puts];split<;>rfl
 ·simp only[Jl.iE];split;·rfl
  ·next h0=>exact(Decidable.not_not.1 h0).symm
structure Jl.kz(j:Jl):Prop where
 Em:j.dk.lit=false
 up:j.dk.down=false
 free:j.stuck=0
 per1:1≤j.per
 nm:j.name.length≤24
 used0:0≤j.dk.used
 used:j.dk.used≤1300*j.es.length
 fl:j.dk.files.length≤j.es.length+1
 here:j.files≠0→(aC j.dk.files j.last).isSome=true
 small:j.files≤j.es.length+1
theorem Jl.kz.sync{j:Jl}(h:j.kz)(hn:j.es.length<100):j.sync.kz∧j.bT=0∧j.sync.es=j.es∧j.sync.name=j.name∧j.sync.per=j.per∧j.sync.files=j.files∧j.sync.dk.used=j.dk.used:=by
 unfold Jl.sync Jl.bT;by_cases h0:j.files=0;·simp only[if_pos h0];exact⟨h,trivial,trivial,trivial,trivial,trivial,trivial⟩
 ·have hs:=h.small;have hl:=lK j.name (k:=j.files-1) (by omega);have ha:j.dk.asked j.last=0:=Dk.qM h.up hl.1 (by have:=h.nm;unfold Jl.last;omega);have hf:j.dk.found j.last=0:=by unfold Dk.found;rw[ha,if_neg (by simp)];have:=h.here h0;rw[if_neg (by cases hg:aC j.dk.files j.last with|none=>rw[hg]at this;cases this|some _=>simp)]
  have⟨e1,e2⟩:=Dk.jM h.Em;have hE:j.dk.bT j.last=0:=by unfold Dk.bT;rw[if_neg (by simp[hf]),e2];rfl
  simp only[if_neg h0];rw[if_neg (by simp[hE])];have hd:j.dk.sync j.last=j.dk.put j.last {j.dk.file j.last with lasts:=(j.dk.file j.last).data.length,stays:=true}:=by unfold Dk.sync;rw[if_neg (by simp[hf]),e2,e1];rfl
  refine⟨⟨?_,?_,h.free,h.per1,h.nm,?_,?_,?_,?_,h.small⟩,hE,rfl,rfl,rfl,rfl,?_⟩;·rw[hd];exact h.Em
  ·rw[hd];exact h.up
  ·rw[hd];exact h.used0
  ·rw[hd];exact h.used
  ·rw[hd];show(aL j.last _ j.dk.files).length≤j.es.length+1;exact Nat.le_trans (iW _ (h.here h0)) h.fl
  ·intro _;rw[hd];show(aC (aL j.last _ j.dk.files) j.last).isSome=true;rw[dE];rfl
  ·rw[hd];rfl
theorem Jl.kz.pre{j:Jl}(h:j.kz)(hn:j.es.length<100):j.pre.kz∧j.AJ=0∧j.pre.es=j.es∧j.pre.name=j.name∧j.pre.per=j.per∧j.pre.files=j.files∧j.pre.dk.used=j.dk.used:=by
 unfold Jl.pre Jl.AJ;split;·exact h.sync hn
 ·exact⟨h,rfl,rfl,rfl,rfl,rfl,rfl⟩
theorem Jl.kz.put{j:Jl}(h:j.kz)(hn:j.es.length<100)(x:Option Ev)(hx:(mK x).length≤1229):(j.put x).kz∧j.jE x=0∧(j.put x).es=j.es++[x]∧(j.put x).name=j.name∧(j.put x).per=j.per:=by
 obtain⟨hp,e0,e1,e2,e3,e4,e5⟩:=h.pre hn;have hk:j.es.length/j.per≤j.es.length:=Nat.div_le_self _ _;have hl:=lK j.name (k:=j.es.length/j.per) (by omega);have hnm:=h.nm;have ha:j.pre.dk.asked j.bC=0:=Dk.qM hp.up hl.1 (by unfold Jl.bC;omega);have hsl:(aU x).length≤1239:=by unfold aU;rw[ky.iB];omega
 have hu:=h.used;have hfl:=hp.fl;rw[e1]at hfl;have hfull:j.pre.dk.fe j.bC (aU x).length=false:=by
  unfold Dk.fe;rw[Bool.or_eq_false_iff];refine⟨?_,?_⟩;·rw[decide_eq_false_iff_not,e5];omega
  ·rw[Bool.and_eq_false_iff];right;rw[decide_eq_false_iff_not];omega
 have hE:j.pre.dk.bO j.bC (aU x)=0:=by unfold Dk.bO;rw[if_neg (by simp[ha]),hfull,(Dk.jM hp.Em).2];rfl
 have hd:j.pre.dk.append j.bC (aU x)={j.pre.dk.put j.bC {j.pre.dk.file j.bC with data:=(j.pre.dk.file j.bC).data++aU x}with used:=j.pre.dk.used+(aU x).length}:=by unfold Dk.append;rw[if_neg (by simp[ha]),hfull];exact(Dk.jM (d:={j.pre.dk.put j.bC {j.pre.dk.file j.bC with data:=(j.pre.dk.file j.bC).data++aU x}with used:=j.pre.dk.used+(aU x).length}) hp.Em).1
 have hput:j.put x={j.pre with dk:=j.pre.dk.append j.bC (aU x),files:=j.es.length/j.per+1,es:=j.es++[x]}:=by unfold Jl.put;rw[if_neg (by simp[e0]),if_neg (by simp[hE])]
 have VK:j.jE x=0:=by unfold Jl.jE;rw[if_neg (by simp[e0])];exact hE
 refine⟨?_,VK,?_,?_,?_⟩
 ·rw[hput,hd];refine⟨hp.Em,hp.up,hp.free,hp.per1,?_,?_,?_,?_,?_,?_⟩;·show j.pre.name.length≤24;exact hp.nm
  ·show 0≤j.pre.dk.used+_;have:=hp.used0;omega
  ·show j.pre.dk.used+_≤1300*_;rw[e5];simp only[List.length_append,List.length_cons,List.length_nil];omega
  ·show(aL j.bC _ j.pre.dk.files).length≤(j.es++[x]).length+1;refine Nat.le_trans (dJ j.pre.dk.files j.bC _) ?_;simp only[List.length_append,List.length_cons,List.length_nil];omega
  ·intro _;show(aC (aL j.bC _ j.pre.dk.files) (aO j.pre.name (j.es.length/j.per+1-1))).isSome=true;have:aO j.pre.name (j.es.length/j.per+1-1)=j.bC:=by unfold Jl.bC;rw[e2];rfl
   rw[this,dE];rfl
  ·show j.es.length/j.per+1≤(j.es++[x]).length+1;simp only[List.length_append,List.length_cons,List.length_nil];omega
 ·rw[hput]
 ·rw[hput];exact e2
 ·rw[hput];exact e3
theorem Jl.kz.puts(l:List Ev): ∀{j:Jl},j.kz→j.es.length+l.length≤100→(∀e∈l,(yL e).length≤1229)→(j.puts l).kz∧j.iE l=0∧(j.puts l).es=j.es++l.map some∧(j.puts l).name=j.name∧(j.puts l).per=j.per:=by
 induction l with
  |nil=>intro j h _ _;exact⟨h,rfl,by simp[Jl.puts],rfl,rfl⟩
  |cons e l ih=>
   intro j h hn hl;simp only[List.length_cons]at hn;obtain⟨h1,h2,h3,h4,h5⟩:=h.put (by omega) (some e) (hl e (by simp));obtain⟨a,b,c,d,f⟩:=ih h1 (by rw[h3];simp;omega) (fun x hx=>hl x (by simp[hx]));have h0: ¬j.jE (some e)≠0:=by simp[h2]
   simp only[Jl.puts,Jl.iE,if_neg h0];refine⟨a,b,?_,d.trans h4,f.trans h5⟩;rw[c,h3];simp
theorem Jl.Eb(s:List UInt8)(per:Nat)(h:s.length≤24)(hp:1≤per):(Jl.new Dk.new s per).kz:=⟨rfl,rfl,rfl,hp,h,by simp[Jl.new,Dk.new],by simp[Jl.new,Dk.new],by simp[Jl.new,Dk.new],fun h=>absurd rfl h,by simp[Jl.new]⟩
def total:Row Fl→Int|[]=>0|p::m=>p.2.data.length+total m
theorem l8: ∀m:Row Fl,0≤total m|[]=>Int.le_refl _|p::m=>by unfold total;have:=l8 m;omega
theorem yU(x:List UInt8×Fl): ∀m:Row Fl,total (fQ x m)=x.2.data.length+total m
 |[]=>rfl
 |y::r=>by
  unfold fQ;split;·rfl
  ·simp only[total,yU x r];omega
theorem qX: ∀{m:Row Fl},bP m→ ∀k,total (m.filter fun p=>!(p.1==k))+((aC m k).getD Fl.none).data.length=total m
 |[],_,k=>by simp[total,aC,Fl.none]
 |y::r,h,k=>by
  obtain⟨h1,h2⟩:=List.pairwise_cons.1 h;have ih:=qX h2 k;by_cases e:y.1=k
  ·have hn: ∀p∈r,p.1≠k:=fun p hp e'=>by have:=h1 p hp;rw[e,e',az]at this;cases this
   have hf:r.filter (fun p=>!(p.1==k))=r:=List.filter_eq_self.2 fun p hp=>by simp[hn p hp]
   have hg:aC (y::r) k=some y.2:=by unfold aC;simp[e]
   rw[hg,List.filter_cons,if_neg (by simp[e]),hf];simp only[total,Option.getD_some];omega
  ·have hg:aC (y::r) k=aC r k:=by unfold aC;simp[e]
   rw[hg,List.filter_cons,if_pos (by simp[e])];simp only[total];omega
theorem Jo{m:Row Fl}(h:bP m)(k:List UInt8)(f:Fl):total (aL k f m)=total m-((aC m k).getD Fl.none).data.length+f.data.length:=by unfold aL;rw[yU];have:=qX h k;show(f.data.length:Int)+_=_;omega
theorem yT: ∀{m:Row Fl}{p:List UInt8×Fl},p∈m→(p.2.data.length:Int)≤total m
 |y::r,p,h=>by
  unfold total;rcases List.mem_cons.1 h with rfl|h;·have:=l8 r;omega
  ·have:=yT h;omega
structure Dk.Ok(d:Dk):Prop where
 up:bP d.files
 used:d.used=total d.files
 max:d.used≤4194304
 fuse0:0≤d.rM
 fuse1:d.rM≤1000
 num:d.files.length≤4096
 O5: ∀p∈d.files,0≤p.2.lasts∧p.2.lasts≤p.2.data.length
theorem Dk.Mw:Dk.new.Ok:=⟨by simp[Dk.new,bP],rfl,by simp[Dk.new],by simp[Dk.new],by simp[Dk.new],by simp[Dk.new],by simp[Dk.new]⟩
theorem Dk.Ok.used0{d:Dk}(h:d.Ok):0≤d.used:=by rw[h.used];exact l8 _
theorem Dk.Ok.Ec{d:Dk}(h:d.Ok)(s:List UInt8):0≤(d.file s).lasts∧(d.file s).lasts≤(d.file s).data.length:=by unfold Dk.file;cases hg:aC d.files s with|none=>simp[Fl.none]|some f=>exact h.O5 _ (ak hg)
theorem Dk.Ok.xL{d:Dk}(h:d.Ok)(s:List UInt8):((d.file s).data.length:Int)≤d.used:=by unfold Dk.file;cases hg:aC d.files s with|none=>simpa[Fl.none]using h.used0|some f=>rw[h.used];exact yT (ak hg)
theorem Dk.Ok.step{d:Dk}(h:d.Ok):d.step.Ok:=by
 unfold Dk.step;split
 ·split;·exact⟨h.up,h.used,h.max,h.fuse0,h.fuse1,h.num,h.O5⟩
  ·exact⟨h.up,h.used,h.max,by have:=h.fuse0;show 0≤d.rM-1;omega,by have:=h.fuse1;show d.rM-1≤1000;omega,h.num,h.O5⟩
 ·exact h
theorem Dk.dI(d:Dk):d.step.files=d.files∧d.step.used=d.used:=by
 unfold Dk.step;split;·split<;>exact⟨rfl,rfl⟩
 ·exact⟨rfl,rfl⟩
theorem Dk.Ok.put{d:Dk}(h:d.Ok)(s:List UInt8)(f:Fl)(u:Int)(hu:u=d.used-(d.file s).data.length+f.data.length)(hm:u≤4194304)(hr:(aC d.files s).isSome=true∨d.files.length<4096)(hl:0≤f.lasts∧f.lasts≤f.data.length):({d.put s f with used:=u}:Dk).Ok:=by
 refine⟨aZ h.up _ _,?_,hm,h.fuse0,h.fuse1,?_,fun p hp=>?_⟩;·show u=total (aL s f d.files);rw[hu,Jo h.up,←h.used];rfl
 ·show(aL s f d.files).length≤4096;rcases hr with hr|hr;·exact Nat.le_trans (iW f hr) h.num
  ·have:=dJ d.files s f;omega
 ·rcases aJ.1 hp with rfl|⟨hp,_⟩;·exact hl
  ·exact h.O5 p hp
theorem Dk.vU{d:Dk}{s:List UInt8}{m:Int}(h:d.fe s m=false):d.used+m≤4194304∧((aC d.files s).isSome=true∨d.files.length<4096):=by
 unfold Dk.fe at h;rw[Bool.or_eq_false_iff,decide_eq_false_iff_not,Bool.and_eq_false_iff]at h;refine⟨by omega,?_⟩;rcases h.2 with h|h;·left;cases hg:aC d.files s<;>simp_all
 ·right;rw[decide_eq_false_iff_not]at h;omega
theorem Dk.xI{d:Dk}{s:List UInt8}(h:d.found s=0):d.asked s=0∧(aC d.files s).isSome=true:=by
 unfold Dk.found at h;by_cases h0:d.asked s=0;·refine⟨h0,?_⟩;rw[if_neg (by simp[h0])]at h;cases hg:aC d.files s with|none=>rw[hg]at h;simp at h|some f=>rfl
 ·rw[if_pos h0]at h;exact absurd h h0
theorem Dk.Ok.append{d:Dk}(h:d.Ok)(s b:List UInt8):(d.append s b).Ok:=by
 unfold Dk.append;split;·exact h
 ·split;·exact h
  ·next hf=>
    obtain⟨h1,h2⟩:=Dk.vU (Bool.eq_false_iff.2 hf);refine Dk.Ok.step (h.put s _ _ ?_ h1 h2 ?_);·show d.used+(b.length:Int)=d.used-(d.file s).data.length+(((d.file s).data++b).length:Nat);simp;omega
    ·have:=h.Ec s;simp;omega
theorem Dk.Ok.sync{d:Dk}(h:d.Ok)(s:List UInt8):(d.sync s).Ok:=by
 unfold Dk.sync;split;·exact h
 ·next hf=>
   have hf:=Dk.xI (Decidable.not_not.1 hf);split;·have hs:=h.step;have:=hs.put s {d.file s with lasts:=(d.file s).data.length,stays:=true} d.step.used (by show d.step.used=d.step.used-(d.step.file s).data.length+((d.file s).data.length:Int);unfold Dk.file;rw[d.dI.1];omega) hs.max (.inl (by rw[d.dI.1];exact hf.2)) ⟨by simp,by simp⟩;exact this
   ·exact h.step
theorem Dk.Ok.replace{d:Dk}(h:d.Ok)(s b:List UInt8):(d.replace s b).Ok:=by
 unfold Dk.replace;split;·exact h
 ·split;·exact h
  ·next hf=>
    obtain⟨h1,h2⟩:=Dk.vU (Bool.eq_false_iff.2 hf);split;·refine h.step.put s ⟨b,b.length,true⟩ _ ?_ h1 (by rw[d.dI.1];exact h2) ⟨by simp,by simp⟩;unfold Dk.file;rw[d.dI.1,d.dI.2];simp;omega
    ·exact h.step
def aF(l:List (Option Ev)):List UInt8:=l.flatMap aU
theorem qd(a b:List (Option Ev)):aF (a++b)=aF a++aF b:=by simp[aF]
theorem iV{α:Type}(per i m:Nat)(l:List α):aT per i (l.take m)=(aT per i l).take (m-i*per):=by unfold aT;rw[List.drop_take,List.take_take,List.take_take,Nat.min_comm]
structure fI(fs:Row Fl)(s:List UInt8)(per fc:Nat)(L:List (Option Ev))(m:Nat):Prop where
 up:bP fs
 here: ∀k,k<fc→ ∃st,aC fs (aO s k)=some ⟨aF (aT per k L),(aF (aT per k (L.take m))).length,st⟩∧(st=true∨(k+1=fc∧m≤k*per))
 only: ∀p∈fs,∃k,k<fc∧p.1=aO s k
 lo:iw L.length per≤fc
 hi:fc≤L.length/per+1
 m0:(fc-1)*per≤m
 m1:m≤L.length
 per1:1≤per
theorem fI.new(s:List UInt8)(per:Nat)(h:1≤per):fI [] s per 0 [] 0:=⟨by simp[bP],fun k hk=>by omega,by simp,by unfold iw;rw[List.length_nil,Nat.div_eq_of_lt (by omega)];exact Nat.le_refl _,by simp,by simp,by simp,h⟩
section
variable{fs:Row Fl}{s:List UInt8}{per fc m:Nat}{L:List (Option Ev)}
theorem fI.below(h:fI fs s per fc L m){k:Nat}(hk:k+1<fc):(k+1)*per≤m:=Nat.le_trans (Nat.mul_le_mul_right _ (by omega)) h.m0
theorem fI.last(h:fI fs s per fc L m):L.length≤fc*per:=Nat.le_trans (Ik h.per1) (Nat.mul_le_mul_right _ h.lo)
theorem fI.sync(h:fI fs s per fc L m)(h0:fc≠0){f:Fl}(hf:aC fs (aO s (fc-1))=some f):fI (aL (aO s (fc-1)) {f with lasts:=f.data.length,stays:=true} fs) s per fc L L.length:=by
 refine⟨aZ h.up _ _,fun k hk=>?_,fun p hp=>?_,h.lo,h.hi,Nat.le_trans h.m0 h.m1,Nat.le_refl _,h.per1⟩
 ·rw[List.take_length];obtain⟨st,hg,hst⟩:=h.here k hk;by_cases e:k=fc-1;·subst e;rw[hf]at hg;injection hg with hg;exact⟨true,by rw[dE,hg],.inl rfl⟩
  ·refine⟨st,?_,.inl (hst.resolve_right (by omega))⟩;rw[fT _ _ (fun e'=>e (nK e')),hg,oO L (h.below (by omega))]
 ·rcases aJ.1 hp with rfl|⟨hp,_⟩;·exact⟨fc-1,by omega,rfl⟩
  ·exact h.only p hp
theorem fI.none(h:fI fs s per fc L m){k:Nat}(hk:fc≤k):aC fs (aO s k)=none:=by cases hg:aC fs (aO s k)with|none=>rfl|some f=>obtain⟨k',hk',e⟩:=h.only _ (ak hg);have:=nK e;omega
theorem fI.append(h:fI fs s per fc L m)(hs:L.length%per=0→L.length≤m)(x:Option Ev):fI (aL (aO s (L.length/per)) {(aC fs (aO s (L.length/per))).getD Fl.none with data:=((aC fs (aO s (L.length/per))).getD Fl.none).data++aU x} fs) s per (L.length/per+1) (L++[x]) m:=by
 have hp:=h.per1;have Zj:=Nat.div_add_mod L.length per;rw[Nat.mul_comm]at Zj;have qV:=Nat.mod_lt L.length (show per>0 by omega);have hfc:fc=L.length/per+1∨(fc=L.length/per∧L.length%per=0):=by
  have:=h.hi;have h2:=h.last;by_cases e:fc=L.length/per+1;·exact .inl e
  ·right;have h3:fc≤L.length/per:=by omega
   have h4:fc*per≤L.length/per*per:=Nat.mul_le_mul_right _ h3;have h5:L.length%per=0:=by omega
   refine⟨?_,h5⟩;rcases Nat.lt_or_ge fc (L.length/per)with h6|h6;·have:(fc+1)*per≤L.length/per*per:=Nat.mul_le_mul_right _ h6;rw[Nat.succ_mul]at this;omega
   ·omega
 have ht:(L++[x]).take m=L.take m:=List.take_append_of_le_length h.m1;have hsm: ∀i,i<L.length/per→(i+1)*per≤L.length:=fun i hi=>Nat.le_trans (Nat.mul_le_mul_right _ hi) (Nat.div_mul_le_self _ _);refine⟨aZ h.up _ _,fun k hk=>?_,fun p hp'=>?_,?_,?_,?_,?_,hp⟩
 ·rw[ht];by_cases e:k=L.length/per
  ·subst e;rw[dE,Jv hp,qd];rcases hfc with e|⟨e,e'⟩
   ·obtain⟨st,hg,hst⟩:=h.here (L.length/per) (by omega);refine⟨st,?_,?_⟩;·rw[hg];simp[aF]
    ·rcases hst with h1|⟨_,h1⟩;·exact .inl h1
     ·exact .inr ⟨rfl,h1⟩
   ·rw[h.none (by omega)];have hn:L.length≤L.length/per*per:=by omega
    refine⟨false,?_,.inr ⟨rfl,Nat.le_trans h.m1 hn⟩⟩;rw[Cw _ _ _ hn,Cw per (L.length/per) (L.take m) (by simp;omega)];simp[aF,Fl.none]
  ·have hk':k<L.length/per:=by omega
   rw[fT _ _ (fun e'=>e (nK e')),uy _ _ (hsm k hk')];obtain⟨st,hg,hst⟩:=h.here k (by omega);refine⟨st,hg,.inl (hst.resolve_right ?_)⟩;rintro⟨e1,e2⟩;rcases hfc with e3|⟨e3,e4⟩;·omega
   ·have:=hs e4;have h8:k*per+per=L.length/per*per:=by rw[←Nat.succ_mul,←e3,←e1]
    omega
 ·rcases aJ.1 hp' with rfl|⟨hp',_⟩;·exact⟨_,by omega,rfl⟩
  ·obtain⟨k,hk,e⟩:=h.only p hp';exact⟨k,by omega,e⟩
 ·rw[List.length_append];exact Nat.le_of_eq (sW hp)
 ·rw[List.length_append];have:=Nat.div_le_div_right (c:=per) (show L.length≤L.length+[x].length by omega);omega
 ·rw[Nat.add_sub_cancel];rcases hfc with e|⟨e,e'⟩;·have:=h.m0;rw[e,Nat.add_sub_cancel]at this;exact this
  ·have:=hs e';omega
 ·have:=h.m1;simp;omega
theorem fI.replace(h:fI fs s per fc L m){k:Nat}(hk:k<fc){L':List (Option Ev)}(hl:L'.length=L.length)(hs: ∀i,i≠k→aT per i L'=aT per i L):fI (aL (aO s k) ⟨aF (aT per k L'),(aF (aT per k L')).length,true⟩ fs) s per fc L' (if k+1=fc then L.length else m):=by
 refine⟨aZ h.up _ _,fun i hi=>?_,fun p hp=>?_,hl▸h.lo,hl▸h.hi,?_,?_,h.per1⟩
 ·by_cases e:i=k
  ·subst e;rw[dE];refine⟨true,?_,.inl rfl⟩;split;·rw[←hl,List.take_length]
   ·rw[oO L' (h.below (by omega))]
  ·rw[fT _ _ (fun e'=>e (nK e'))];obtain⟨st,hg,hst⟩:=h.here i hi;refine⟨st,?_,?_⟩
   ·rw[hg,hs i e];split;·rw[iV,iV,hs i e,←iV,←iV,oO L (h.below (by omega)),List.take_length]
    ·rw[iV,iV,hs i e]
   ·rcases hst with h1|⟨h1,h2⟩;·exact .inl h1
    ·rw[if_neg (by omega)];exact .inr ⟨h1,h2⟩
 ·rcases aJ.1 hp with rfl|⟨hp,_⟩;·exact⟨k,hk,rfl⟩
  ·exact h.only p hp
 ·split;·exact Nat.le_trans h.m0 h.m1
  ·exact h.m0
 ·rw[hl];split;·exact Nat.le_refl _
  ·exact h.m1
end
/-!### the journal's own deeds -/
def Jl.Inv(j:Jl):Prop:=fI j.dk.files j.name j.per j.files j.es j.lasts
theorem Jl.Qh(s:List UInt8)(per:Nat)(h:1≤per):(Jl.new Dk.new s per).Inv:=fI.new s per h
theorem Jl.Inv.sync{j:Jl}(h:j.Inv)(hf:j.kz)(hn:j.es.length<100):j.sync.Inv∧j.sync.lasts=if j.files=0 then j.lasts else j.es.length:=by
 have key:=hf.sync hn;unfold Jl.bT at key;unfold Jl.sync at key⊢;by_cases h0:j.files=0;·rw[if_pos h0,if_pos h0];exact⟨h,rfl⟩
 ·simp only[if_neg h0]at key⊢;have hE:=key.2.1;simp only[hE,ne_eq,not_true_eq_false,if_false];obtain⟨st,hg,_⟩:=h.here (j.files-1) (by omega);have hfo:j.dk.found j.last=0:=by refine Decidable.byContradiction fun hc=>?_;unfold Dk.bT at hE;rw[if_pos hc]at hE;exact hc hE
  have hd:(j.dk.sync j.last).files=aL j.last {j.dk.file j.last with lasts:=(j.dk.file j.last).data.length,stays:=true} j.dk.files:=by have⟨e1,e2⟩:=Dk.jM hf.Em;unfold Dk.sync;rw[if_neg (by simp[hfo]),e2,e1];rfl
  refine⟨?_,by first|rfl|trivial⟩;show fI (j.dk.sync j.last).files j.name j.per j.files j.es j.es.length;rw[hd];have IA:j.dk.file j.last=⟨aF (aT j.per (j.files-1) j.es),(aF (aT j.per (j.files-1) (j.es.take j.lasts))).length,st⟩:=by unfold Dk.file Jl.last;rw[hg];rfl
  rw[IA];exact fI.sync h h0 hg
theorem Jl.Inv.pre{j:Jl}(h:j.Inv)(hf:j.kz)(hn:j.es.length<100):j.pre.Inv∧j.pre.lasts=if j.es.length%j.per=0∧j.files≠0 then j.es.length else j.lasts:=by
 unfold Jl.pre;by_cases h0:j.es.length%j.per=0;·simp only[if_pos h0];have:=h.sync hf hn;refine⟨this.1,this.2.trans ?_⟩;by_cases h1:j.files=0<;>simp[h0,h1]
 ·simp only[if_neg h0];exact⟨h,by simp[h0]⟩
theorem Jl.Inv.put{j:Jl}(h:j.Inv)(hf:j.kz)(hn:j.es.length<100)(x:Option Ev)(hx:(mK x).length≤1229):(j.put x).Inv∧(j.put x).lasts=max j.lasts (j.es.length/j.per*j.per)∧(j.put x).files=iw (j.es.length+1) j.per:=by
 obtain⟨hp,e0,e1,e2,e3,e4,e5⟩:=hf.pre hn;obtain⟨hi,hl⟩:=h.pre hf hn;have hE:=(hf.put hn x hx).2.1;have hE':j.pre.dk.bO j.bC (aU x)=0:=by unfold Jl.jE at hE;rw[if_neg (by simp[e0])]at hE;exact hE
 have hput:j.put x={j.pre with dk:=j.pre.dk.append j.bC (aU x),files:=j.es.length/j.per+1,es:=j.es++[x]}:=by unfold Jl.put;rw[if_neg (by simp[e0]),if_neg (by simp[hE'])]
 have ha:j.pre.dk.asked j.bC=0:=by refine Decidable.byContradiction fun hc=>?_;unfold Dk.bO at hE';rw[if_pos hc]at hE';exact hc hE'
 have hb:j.pre.dk.fe j.bC (aU x).length=false:=by refine Bool.eq_false_iff.2 fun hc=>?_;unfold Dk.bO at hE';rw[if_neg (by simp[ha]),hc]at hE';simp at hE'
 have hd:(j.pre.dk.append j.bC (aU x)).files=aL j.bC {j.pre.dk.file j.bC with data:=(j.pre.dk.file j.bC).data++aU x} j.pre.dk.files:=by unfold Dk.append;rw[if_neg (by simp[ha]),hb];simp only[Bool.false_eq_true,if_false];rw[(Dk.dI _).1];rfl
 have hi':fI j.pre.dk.files j.name j.per j.files j.es j.pre.lasts:=by have:=hi;unfold Jl.Inv at this;rw[e1,e2,e3,e4]at this;exact this
 have Zj:=Nat.div_add_mod j.es.length j.per;rw[Nat.mul_comm]at Zj;have hlm:j.es.length%j.per=0→j.es.length≤j.pre.lasts:=fun h0=>by
  rw[hl];by_cases h1:j.files=0;·have:=fI.last h;rw[h1]at this;omega
  ·rw[if_pos ⟨h0,h1⟩];exact Nat.le_refl _
 have hm1:=fI.m1 h;refine⟨?_,?_,?_⟩;·rw[hput];show fI (j.pre.dk.append j.bC (aU x)).files j.pre.name j.pre.per (j.es.length/j.per+1) (j.es++[x]) j.pre.lasts;rw[hd,e2,e3];exact hi'.append hlm x
 ·rw[hput];show j.pre.lasts=_;rw[hl];by_cases h0:j.es.length%j.per=0
  ·by_cases h1:j.files=0
   ·have h2:=fI.last h;rw[h1]at h2;have:j.es.length=0:=by omega
    rw[if_neg (by simp[h1])];simp[this]
   ·rw[if_pos ⟨h0,h1⟩];omega
  ·rw[if_neg (by simp[h0])];have h1:=fI.m0 h;have h2:j.files=j.es.length/j.per+1:=by
    have:=fI.hi h;have h3:=fI.last h;rcases Nat.lt_or_ge j.files (j.es.length/j.per+1)with h4|h4;·have h5:j.files*j.per≤j.es.length/j.per*j.per:=Nat.mul_le_mul_right _ (by omega);omega
    ·omega
   rw[h2,Nat.add_sub_cancel]at h1;omega
 ·rw[hput];exact(sW hf.per1).symm
end Go.Proofs.YtladegonienapaaGreatDoor
