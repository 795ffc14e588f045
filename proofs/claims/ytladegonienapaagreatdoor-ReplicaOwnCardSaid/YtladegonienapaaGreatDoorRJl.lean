/-
  Layer 5: a journal in memory; file.
-/
import Derived.Test.YtladegonienapaaGreatDoorRDk6
set_option maxRecDepth 100000
set_option maxHeartbeats 16000000
namespace jk
def tN(p:Nat×Nat)(c:UInt8):Nat×Nat:=((p.1+c.toNat)%65521,(p.2+(p.1+c.toNat)%65521)%65521)
def ad(l:List UInt8):Nat×Nat:=l.foldl tN (1,0)
def EH(l:List UInt8):Nat:=(ad l).2*65536+(ad l).1
theorem CV(l:List UInt8)(c:UInt8):ad (l++[c])=tN (ad l) c:=by simp[ad,List.foldl_append]
theorem J8(l:List UInt8)(k:Nat)(h:k<l.length):ad (l.take (k+1))=tN (ad (l.take k)) l[k]:=by rw[List.take_add_one,List.getElem?_eq_getElem h];exact CV _ _
theorem Hw(l:List UInt8):(ad l).1<65521∧(ad l).2<65521:=by
 rcases List.eq_nil_or_concat l with rfl|⟨l',c,rfl⟩;·decide
 ·rw[List.concat_eq_append,CV];constructor<;>exact Nat.mod_lt _ (by decide)
theorem J5(l:List UInt8):EH l<4294967296:=by have:=Hw l;unfold EH;omega
def u8(n:Nat):UInt8:=UInt8.ofNat n
theorem xX(n:Nat):(u8 n).toNat=n%256:=by simp[u8]
def be3(n:Nat):List UInt8:=[u8 (n/65536),u8 (n/256),u8 n]
def be4(n:Nat):List UInt8:=[u8 (n/16777216),u8 (n/65536),u8 (n/256),u8 n]
def front(p:List UInt8):List UInt8:=be3 p.length++(be3 p.length).map (255- ·)++p
def rM(p:List UInt8):List UInt8:=front p++be4 (EH (front p))
theorem jV(p:List UInt8):(front p).length=p.length+6:=by simp[front,be3]
theorem nP(p:List UInt8):(rM p).length=p.length+10:=by simp[rM,jV,be4]
def sz(l:List UInt8):Nat:=(l.getD 0 0).toNat*65536+(l.getD 1 0).toNat*256+(l.getD 2 0).toNat
def ru(l:List UInt8)(i:Nat):Bool:=decide (i<l.length)&&(l.getD i 0 !=255-l.getD (i-3) 0)
def Q6(l:List UInt8):Bool:=ru l 3||ru l 4||ru l 5
def there(l:List UInt8):Bool:=decide (6≤l.length)&&decide (sz l+10≤l.length)
def wrong(l:List UInt8):Bool:=there l&&((l.drop (6+sz l)).take 4 !=be4 (EH (l.take (6+sz l))))
theorem sub255(b:UInt8):(255-b).toNat=255-b.toNat:=by rw[UInt8.toNat_sub];have:=b.toNat_lt;have e:(255:UInt8).toNat=255:=rfl;rw[e];omega
end jk
namespace jk
end jk
namespace Go.Proofs.YtladegonienapaaGreatDoor
section
variable{α:Type}
end
/-!### decimal digits -/
open Lib
def bP(s:List UInt8)(k:Nat):List UInt8:=s++46::decDigits k
theorem tu{k:Nat}(h:k<100):1≤(decDigits k).length∧(decDigits k).length≤2:=by
 by_cases h1:k<10;·rw[decDigits,dif_pos h1];simp
 ·rw[decDigits,dif_neg h1,decDigits,dif_pos (by omega)];simp
theorem nO(s:List UInt8){k:Nat}(h:k<100):1≤(bP s k).length∧(bP s k).length≤s.length+3:=by have:=tu h;unfold bP;simp;omega
open Go.RowKit Go.Maps Go.Sort
def xe:Option Ev→List UInt8|none=>[]|some e=>uH e
def aW(x:Option Ev):List UInt8:=jk.rM (xe x)
structure Jl where
 dk:Dk
 name:List UInt8
 per:Nat
 files:Nat
 es:List (Option Ev)
 lasts:Nat
 stuck:Int
def Jl.new(d:Dk)(s:List UInt8)(per:Nat):Jl:=⟨d,s,per,0,[],0,0⟩
def Jl.last(j:Jl):List UInt8:=bP j.name (j.files-1)
def Jl.sync(j:Jl):Jl:=if j.files=0 then j else if j.dk.bu j.last≠0 then{j with dk:=j.dk.sync j.last,stuck:=j.dk.bu j.last}else{j with dk:=j.dk.sync j.last,lasts:=j.es.length}
def Jl.bu(j:Jl):Int:=if j.files=0 then 0 else j.dk.bu j.last
def Jl.pre(j:Jl):Jl:=if j.es.length%j.per=0 then j.sync else j
def Jl.wG(j:Jl):Int:=if j.es.length%j.per=0 then j.bu else 0
def Jl.gJ(j:Jl):List UInt8:=bP j.name (j.es.length/j.per)
def Jl.put(j:Jl)(x:Option Ev):Jl:=if j.wG≠0 then j.pre else if j.pre.dk.bE j.gJ (aW x)≠0 then{j.pre with dk:=j.pre.dk.append j.gJ (aW x),stuck:=j.pre.dk.bE j.gJ (aW x)}else{j.pre with dk:=j.pre.dk.append j.gJ (aW x),files:=j.es.length/j.per+1,es:=j.es++[x]}
def Jl.iO(j:Jl)(x:Option Ev):Int:=if j.wG≠0 then j.wG else j.pre.dk.bE j.gJ (aW x)
def Jl.puts:Jl→List Ev→Jl|j,[]=>j|j,e::l=>if j.iO (some e)≠0 then j.put (some e)else(j.put (some e)).puts l
def Jl.gy:Jl→List Ev→Int|_,[]=>0|j,e::l=>if j.iO (some e)≠0 then j.iO (some e)else(j.put (some e)).gy l
theorem Jl.kK(b:List Ev): ∀(a:List Ev)(j:Jl),j.gy a=0→j.puts (a++b)=(j.puts a).puts b∧j.gy (a++b)=(j.puts a).gy b
 |[],_,_=>⟨rfl,rfl⟩
 |e::a,j,h=>by
  unfold Jl.gy at h;by_cases h0:j.iO (some e)≠0;·rw[if_pos h0]at h;exact absurd h h0
  ·rw[if_neg h0]at h;have ih:=Jl.kK b a (j.put (some e)) h;simp only[List.cons_append,Jl.puts,Jl.gy,if_neg h0];exact ih
theorem Jl.DZ(j:Jl)(a:List Ev)(e:Ev)(h:j.gy a=0):j.puts (a++[e])=(j.puts a).put (some e)∧j.gy (a++[e])=(j.puts a).iO (some e):=by
 have:=Jl.kK [e] a j h;refine⟨this.1.trans ?_,this.2.trans ?_⟩;·simp only[Jl.puts];split<;>rfl
 ·simp only[Jl.gy];split;·rfl
  ·next h0=>exact(Decidable.not_not.1 h0).symm
structure Jl.iQ(j:Jl):Prop where
 G9:j.dk.lit=false
 up:j.dk.down=false
 free:j.stuck=0
 per1:1≤j.per
 nm:j.name.length≤24
 used0:0≤j.dk.used
 used:j.dk.used≤1300*j.es.length
 fl:j.dk.files.length≤j.es.length+1
 here:j.files≠0→(aA j.dk.files j.last).isSome=true
 small:j.files≤j.es.length+1
theorem Jl.iQ.sync{j:Jl}(h:j.iQ)(hn:j.es.length<100):j.sync.iQ∧j.bu=0∧j.sync.es=j.es∧j.sync.name=j.name∧j.sync.per=j.per∧j.sync.files=j.files∧j.sync.dk.used=j.dk.used:=by
 unfold Jl.sync Jl.bu;by_cases h0:j.files=0;·simp only[if_pos h0];exact⟨h,trivial,trivial,trivial,trivial,trivial,trivial⟩
 ·have hs:=h.small;have hl:=nO j.name (k:=j.files-1) (by omega);have ha:j.dk.asked j.last=0:=Dk.tK h.up hl.1 (by have:=h.nm;unfold Jl.last;omega);have hf:j.dk.found j.last=0:=by unfold Dk.found;rw[ha,if_neg (by simp)];have:=h.here h0;rw[if_neg (by cases hg:aA j.dk.files j.last with|none=>rw[hg]at this;cases this|some _=>simp)]
  have⟨e1,e2⟩:=Dk.lL h.G9;have hE:j.dk.bu j.last=0:=by unfold Dk.bu;rw[if_neg (by simp[hf]),e2];rfl
  simp only[if_neg h0];rw[if_neg (by simp[hE])];have hd:j.dk.sync j.last=j.dk.put j.last {j.dk.file j.last with lasts:=(j.dk.file j.last).data.length,stays:=true}:=by unfold Dk.sync;rw[if_neg (by simp[hf]),e2,e1];rfl
  refine⟨⟨?_,?_,h.free,h.per1,h.nm,?_,?_,?_,?_,h.small⟩,hE,rfl,rfl,rfl,rfl,?_⟩;·rw[hd];exact h.G9
  ·rw[hd];exact h.up
  ·rw[hd];exact h.used0
  ·rw[hd];exact h.used
  ·rw[hd];show(aR j.last _ j.dk.files).length≤j.es.length+1;exact Nat.le_trans (jA _ (h.here h0)) h.fl
  ·intro _;rw[hd];show(aA (aR j.last _ j.dk.files) j.last).isSome=true;rw[gu];rfl
  ·rw[hd];rfl
theorem Jl.iQ.pre{j:Jl}(h:j.iQ)(hn:j.es.length<100):j.pre.iQ∧j.wG=0∧j.pre.es=j.es∧j.pre.name=j.name∧j.pre.per=j.per∧j.pre.files=j.files∧j.pre.dk.used=j.dk.used:=by
 unfold Jl.pre Jl.wG;split;·exact h.sync hn
 ·exact⟨h,rfl,rfl,rfl,rfl,rfl,rfl⟩
theorem Jl.iQ.put{j:Jl}(h:j.iQ)(hn:j.es.length<100)(x:Option Ev)(hx:(xe x).length≤1229):(j.put x).iQ∧j.iO x=0∧(j.put x).es=j.es++[x]∧(j.put x).name=j.name∧(j.put x).per=j.per:=by
 obtain⟨hp,e0,e1,e2,e3,e4,e5⟩:=h.pre hn;have hk:j.es.length/j.per≤j.es.length:=Nat.div_le_self _ _;have hl:=nO j.name (k:=j.es.length/j.per) (by omega);have hnm:=h.nm;have ha:j.pre.dk.asked j.gJ=0:=Dk.tK hp.up hl.1 (by unfold Jl.gJ;omega);have hsl:(aW x).length≤1239:=by unfold aW;rw[jk.nP];omega
 have hu:=h.used;have hfl:=hp.fl;rw[e1]at hfl;have hfull:j.pre.dk.jb j.gJ (aW x).length=false:=by
  unfold Dk.jb;rw[Bool.or_eq_false_iff];refine⟨?_,?_⟩;·rw[decide_eq_false_iff_not,e5];omega
  ·rw[Bool.and_eq_false_iff];right;rw[decide_eq_false_iff_not];omega
 have hE:j.pre.dk.bE j.gJ (aW x)=0:=by unfold Dk.bE;rw[if_neg (by simp[ha]),hfull,(Dk.lL hp.G9).2];rfl
 have hd:j.pre.dk.append j.gJ (aW x)={j.pre.dk.put j.gJ {j.pre.dk.file j.gJ with data:=(j.pre.dk.file j.gJ).data++aW x}with used:=j.pre.dk.used+(aW x).length}:=by unfold Dk.append;rw[if_neg (by simp[ha]),hfull];exact(Dk.lL (d:={j.pre.dk.put j.gJ {j.pre.dk.file j.gJ with data:=(j.pre.dk.file j.gJ).data++aW x}with used:=j.pre.dk.used+(aW x).length}) hp.G9).1
 have hput:j.put x={j.pre with dk:=j.pre.dk.append j.gJ (aW x),files:=j.es.length/j.per+1,es:=j.es++[x]}:=by unfold Jl.put;rw[if_neg (by simp[e0]),if_neg (by simp[hE])]
 have Oj:j.iO x=0:=by unfold Jl.iO;rw[if_neg (by simp[e0])];exact hE
 refine⟨?_,Oj,?_,?_,?_⟩
 ·rw[hput,hd];refine⟨hp.G9,hp.up,hp.free,hp.per1,?_,?_,?_,?_,?_,?_⟩;·show j.pre.name.length≤24;exact hp.nm
  ·show 0≤j.pre.dk.used+_;have:=hp.used0;omega
  ·show j.pre.dk.used+_≤1300*_;rw[e5];simp only[List.length_append,List.length_cons,List.length_nil];omega
  ·show(aR j.gJ _ j.pre.dk.files).length≤(j.es++[x]).length+1;refine Nat.le_trans (df j.pre.dk.files j.gJ _) ?_;simp only[List.length_append,List.length_cons,List.length_nil];omega
  ·intro _;show(aA (aR j.gJ _ j.pre.dk.files) (bP j.pre.name (j.es.length/j.per+1-1))).isSome=true;have:bP j.pre.name (j.es.length/j.per+1-1)=j.gJ:=by unfold Jl.gJ;rw[e2];rfl
   rw[this,gu];rfl
  ·show j.es.length/j.per+1≤(j.es++[x]).length+1;simp only[List.length_append,List.length_cons,List.length_nil];omega
 ·rw[hput]
 ·rw[hput];exact e2
 ·rw[hput];exact e3
theorem Jl.iQ.puts(l:List Ev): ∀{j:Jl},j.iQ→j.es.length+l.length≤100→(∀e∈l,(uH e).length≤1229)→(j.puts l).iQ∧j.gy l=0∧(j.puts l).es=j.es++l.map some∧(j.puts l).name=j.name∧(j.puts l).per=j.per:=by
 induction l with
  |nil=>intro j h _ _;exact⟨h,rfl,by simp[Jl.puts],rfl,rfl⟩
  |cons e l ih=>
   intro j h hn hl;simp only[List.length_cons]at hn;obtain⟨h1,h2,h3,h4,h5⟩:=h.put (by omega) (some e) (hl e (by simp));obtain⟨a,b,c,d,f⟩:=ih h1 (by rw[h3];simp;omega) (fun x hx=>hl x (by simp[hx]));have h0: ¬j.iO (some e)≠0:=by simp[h2]
   simp only[Jl.puts,Jl.gy,if_neg h0];refine⟨a,b,?_,d.trans h4,f.trans h5⟩;rw[c,h3];simp
theorem Jl.GG(s:List UInt8)(per:Nat)(h:s.length≤24)(hp:1≤per):(Jl.new Dk.new s per).iQ:=⟨rfl,rfl,rfl,hp,h,by simp[Jl.new,Dk.new],by simp[Jl.new,Dk.new],by simp[Jl.new,Dk.new],fun h=>absurd rfl h,by simp[Jl.new]⟩
def Ev.zero:Ev:=⟨[],0,0,0,[],[],0,[]⟩
def ny:Option Ev→List Value|none=>Ev.zero.cells++[.bool true]|some e=>e.cells++[.bool false]
def bK(x:Option Ev):Ev:=x.getD Ev.zero
def aN(es:List (Option Ev)):List Value:=es.flatMap ny
theorem wX(x:Option Ev):ny x=(bK x).cells++[.bool x.isNone]:=by cases x<;>rfl
theorem jd(x:Option Ev):(ny x).length=9:=by cases x<;>rfl
theorem qQ(es:List (Option Ev)):(aN es).length=es.length*9:=by induction es with|nil=>rfl|cons e es ih=>simp only[aN,List.flatMap_cons,List.length_append,List.length_cons,jd]at*;rw[ih];omega
theorem wV(es:List (Option Ev))(x:Option Ev):aN (es++[x])=aN es++ny x:=by simp[aN]
theorem wW(es:List (Option Ev))(k j:Nat)(hk:k<es.length)(hj:j<9):(aN es)[k*9+j]?=(ny es[k])[j]?:=by induction es generalizing k with|nil=>simp at hk|cons e es ih=>have hc:=jd e;simp only[aN,List.flatMap_cons];cases k with|zero=>rw[Nat.zero_mul,Nat.zero_add,List.getElem?_append_left (by omega)];rfl|succ k=>rw[List.getElem?_append_right (by omega),hc,show(k+1)*9+j-9=k*9+j by omega];exact ih k (by simpa using hk)
theorem GM(x:Option Ev): ∀u∈ny x,u.oneCell'=true:=by
 intro u hu;rw[wX]at hu;rcases List.mem_append.1 hu with h|h;·exact cells_one _ u h
 ·simp at h;subst h;rfl
abbrev wY(x:Option Ev):Value:=.agg #[.string ⟨(bK x).src.toArray⟩,.int .i64 (bK x).num,.int .i64 (bK x).at_,.int .i64 (bK x).kind,.string ⟨(bK x).per.toArray⟩,.string ⟨(bK x).item.toArray⟩,.int .i64 (bK x).val,.string ⟨(bK x).text.toArray⟩,.bool x.isNone]
theorem GL:(Tryz.prog.info? 91).map (fun i=>(i.zero,i.size,i.bytes))=some (some (.agg #[.string ByteArray.empty,.int .i64 0,.int .i64 0,.int .i64 0,.string ByteArray.empty,.string ByteArray.empty,.int .i64 0,.string ByteArray.empty,.bool false]),9,104):=by kernel_rfl
def xx(w:World)(base:Nat)(v:Value)(es:List (Option Ev)):Prop:=w.ownsRow base 91 9 v es.length (aN es)
abbrev sD(bd:Nat)(v:Value)(j:Jl):Obj:=.cells #[.pointer (some ⟨bd,0,none⟩),.string ⟨j.name.toArray⟩,.int .i64 j.per,.int .i64 j.files,v,.int .i64 j.lasts,.int .i64 j.stuck] 88
structure Jl.Ok(j:Jl):Prop where
 per1:1≤j.per
 per2:j.per≤4096
 nm:j.name.length≤24
 num:j.es.length≤100000
 fl:j.files≤j.es.length+1
 KW:j.lasts≤j.es.length
 may: ∀e,some e∈j.es→aB e=true
structure fO(w:World)(G F:Nat→Prop)(bj bd:Nat)(v:Value)(j:Jl):Prop where
 dk:kC w G bd j.dk
 blk:w.heap[bj]?=some (sD bd v j)
 own:xx w 0 v j.es
 fj:F bj
 fv: ∀b,v.ownBlock=some b→F b∧b≠bj
 ap: ∀b,F b→ ¬G b
 lt: ∀b,F b→b<w.heap.size
def fo(w:World)(G F:Nat→Prop)(bj bd:Nat)(j:Jl):Prop:=j.Ok∧ ∃v,fO w G F bj bd v j
def xP(w:World)(G F:Nat→Prop)(bj bd:Nat)(j':Jl)(w':World):Prop:= ∃G' F',fo w' G' F' bj bd j'∧(∀b,G' b→G b∨w.heap.size≤b)∧(∀b,F' b→F b∨w.heap.size≤b)∧ai (fun b=>G b∨F b) w w'
section
variable{w w':World}{G F:Nat→Prop}{bj bd:Nat}{v:Value}{j:Jl}
theorem xx.bF{w w':World}{base:Nat}{v:Value}{l:List (Option Ev)}(h:xx w base v l)(hb: ∀b,v.ownBlock=some b→w'.heap[b]?=w.heap[b]?):xx w' base v l:=by
 refine⟨h.1,?_⟩;rcases h.2 with⟨e,hl⟩|⟨g,cap,cur,e,hb',hg,hr⟩;·exact .inl ⟨e,hl⟩
 ·exact .inr ⟨g,cap,cur,e,hb',(hb g (by rw[e];rfl)).trans hg,hr⟩
theorem fO.keep(h:fO w G F bj bd v j)(hsz:w.heap.size≤w'.heap.size)(hk: ∀b,G b∨F b→w'.heap[b]?=w.heap[b]?):fO w' G F bj bd v j:=⟨h.dk.keep hsz (fun b hb=>hk b (.inl hb)),(hk _ (.inr h.fj)).trans h.blk,h.own.bF fun b hb=>hk b (.inr (h.fv b hb).1),h.fj,h.fv,h.ap,fun b hb=>Nat.lt_of_lt_of_le (h.lt b hb) hsz⟩
theorem fO.up(h:fO w G F bj bd v j)(hb:Below w.heap.size w w'):fO w' G F bj bd v j:=h.keep hb.size fun b hg=>hb.block b (hg.elim (h.dk.lt b) (h.lt b))
theorem fo.up(h:fo w G F bj bd j)(hb:Below w.heap.size w w'):fo w' G F bj bd j:=⟨h.1,h.2.choose,h.2.choose_spec.up hb⟩
theorem fo.keep(h:fo w G F bj bd j)(hsz:w.heap.size≤w'.heap.size)(hk: ∀b,G b∨F b→w'.heap[b]?=w.heap[b]?):fo w' G F bj bd j:=⟨h.1,h.2.choose,h.2.choose_spec.keep hsz hk⟩
theorem fo.dk(h:fo w G F bj bd j):kC w G bd j.dk:=h.2.choose_spec.dk
theorem fo.lt(h:fo w G F bj bd j): ∀b,G b∨F b→b<w.heap.size:=fun b hb=>hb.elim (h.dk.lt b) (h.2.choose_spec.lt b)
theorem xP.refl(h:fo w G F bj bd j):xP w G F bj bd j w:=⟨G,F,h,fun _ h=>.inl h,fun _ h=>.inl h,ai.refl _ _⟩
theorem fO.cells(h:fO w G F bj bd v j):w.cell? ⟨bj,0,none⟩=some (.pointer (some ⟨bd,0,none⟩))∧w.cell? ⟨bj,1,none⟩=some (.string ⟨j.name.toArray⟩)∧w.cell? ⟨bj,2,none⟩=some (.int .i64 j.per)∧w.cell? ⟨bj,3,none⟩=some (.int .i64 j.files)∧w.cell? ⟨bj,4,none⟩=some v∧w.cell? ⟨bj,5,none⟩=some (.int .i64 j.lasts)∧w.cell? ⟨bj,6,none⟩=some (.int .i64 j.stuck):=by have key: ∀o,w.cell? ⟨bj,o,none⟩=_:=fun o=>cell_of_row w bj o _ _ (0,0) h.blk;exact⟨(key 0).trans rfl,(key 1).trans rfl,(key 2).trans rfl,(key 3).trans rfl,(key 4).trans rfl,(key 5).trans rfl,(key 6).trans rfl⟩
theorem fO.frozen(h:fO w G F bj bd v j)(o:Nat):w.frozen? ⟨bj,o,none⟩=false:=frozen_of_row w bj o _ _ h.blk
theorem fO.head{G':Nat→Prop}{j':Jl}(h:fO w G F bj bd v j)(hd:kC w' G' bd j'.dk)(hG: ∀b,G' b→G b∨w.heap.size≤b)(hb:w'.heap[bj]?=some (sD bd v j'))(he:j'.es=j.es)(hsz:w.heap.size≤w'.heap.size)(hk: ∀b,F b→b≠bj→w'.heap[b]?=w.heap[b]?):fO w' G' F bj bd v j':=⟨hd,hb,he▸h.own.bF fun b hb=>hk b (h.fv b hb).1 (h.fv b hb).2,h.fj,h.fv,fun b hb hg=>(hG b hg).elim (h.ap b hb) (fun hs=>by have:=h.lt b hb;omega),fun b hb=>Nat.lt_of_lt_of_le (h.lt b hb) hsz⟩
end
end Go.Proofs.YtladegonienapaaGreatDoor
