/-
  Layer 5: a journal in memory; file.
-/
import Derived.Lib.ItoaNum
import Derived.Test.YtajihpcdplpcdaaGreatDoorTEvMay
import Derived.Test.YtajihpcdplpcdaaGreatDoorTEvLen
import Derived.Test.YtajihpcdplpcdaaGreatDoorTRowK
import Derived.Test.YtajihpcdplpcdaaGreatDoorTDk6
import Derived.Test.YtajihpcdplpcdaaGreatDoorTEvForget
set_option maxRecDepth 100000
set_option maxHeartbeats 16000000
namespace Frm
def adStep(p:Nat×Nat)(c:UInt8):Nat×Nat:=((p.1+c.toNat)%65521,(p.2+(p.1+c.toNat)%65521)%65521)
def ad(l:List UInt8):Nat×Nat:=l.foldl adStep (1,0)
def asum(l:List UInt8):Nat:=(ad l).2*65536+(ad l).1
theorem ad_snoc(l:List UInt8)(c:UInt8):ad (l++[c])=adStep (ad l) c:=by simp[ad,List.foldl_append]
theorem ad_take(l:List UInt8)(k:Nat)(h:k<l.length):ad (l.take (k+1))=adStep (ad (l.take k)) l[k]:=by rw[List.take_add_one,List.getElem?_eq_getElem h];exact ad_snoc _ _
theorem ad_lt(l:List UInt8):(ad l).1<65521∧(ad l).2<65521:=by
 rcases List.eq_nil_or_concat l with rfl|⟨l',c,rfl⟩;·decide
 ·rw[List.concat_eq_append,ad_snoc];constructor<;>exact Nat.mod_lt _ (by decide)
theorem asum_lt(l:List UInt8):asum l<4294967296:=by have:=ad_lt l;unfold asum;omega
def u8(n:Nat):UInt8:=UInt8.ofNat n
theorem u8_toNat(n:Nat):(u8 n).toNat=n%256:=by simp[u8]
def be3(n:Nat):List UInt8:=[u8 (n/65536),u8 (n/256),u8 n]
def be4(n:Nat):List UInt8:=[u8 (n/16777216),u8 (n/65536),u8 (n/256),u8 n]
def front(p:List UInt8):List UInt8:=be3 p.length++(be3 p.length).map (255- ·)++p
def sealB(p:List UInt8):List UInt8:=front p++be4 (asum (front p))
theorem front_length(p:List UInt8):(front p).length=p.length+6:=by simp[front,be3]
theorem sealB_length(p:List UInt8):(sealB p).length=p.length+10:=by simp[sealB,front_length,be4]
def sz(l:List UInt8):Nat:=(l.getD 0 0).toNat*65536+(l.getD 1 0).toNat*256+(l.getD 2 0).toNat
def unlikeAt(l:List UInt8)(i:Nat):Bool:=decide (i<l.length)&&(l.getD i 0 !=255-l.getD (i-3) 0)
def unlike(l:List UInt8):Bool:=unlikeAt l 3||unlikeAt l 4||unlikeAt l 5
def there(l:List UInt8):Bool:=decide (6≤l.length)&&decide (sz l+10≤l.length)
def wrong(l:List UInt8):Bool:=there l&&((l.drop (6+sz l)).take 4 !=be4 (asum (l.take (6+sz l))))
theorem sub255(b:UInt8):(255-b).toNat=255-b.toNat:=by rw[UInt8.toNat_sub];have:=b.toNat_lt;have e:(255:UInt8).toNat=255:=rfl;rw[e];omega
end Frm
namespace Frm
end Frm
namespace Go.Proofs.YtajihpcdplpcdaaGreatDoor
section
variable{α:Type}
end
/-!### decimal digits -/
open Lib
def segF(s:List UInt8)(k:Nat):List UInt8:=s++46::decDigits k
theorem digits_two{k:Nat}(h:k<100):1≤(decDigits k).length∧(decDigits k).length≤2:=by
 by_cases h1:k<10;·rw[decDigits,dif_pos h1];simp
 ·rw[decDigits,dif_neg h1,decDigits,dif_pos (by omega)];simp
theorem segF_len(s:List UInt8){k:Nat}(h:k<100):1≤(segF s k).length∧(segF s k).length≤s.length+3:=by have:=digits_two h;unfold segF;simp;omega
open Go.RowKit Go.Maps Go.Sort
def bytesE:Option Ev→List UInt8|none=>[]|some e=>encE e
def sealE(x:Option Ev):List UInt8:=Frm.sealB (bytesE x)
structure Jl where
 dk:Dk
 name:List UInt8
 per:Nat
 files:Nat
 es:List (Option Ev)
 lasts:Nat
 stuck:Int
def Jl.new(d:Dk)(s:List UInt8)(per:Nat):Jl:=⟨d,s,per,0,[],0,0⟩
def Jl.last(j:Jl):List UInt8:=segF j.name (j.files-1)
def Jl.sync(j:Jl):Jl:=if j.files=0 then j else if j.dk.syncE j.last≠0 then{j with dk:=j.dk.sync j.last,stuck:=j.dk.syncE j.last}else{j with dk:=j.dk.sync j.last,lasts:=j.es.length}
def Jl.syncE(j:Jl):Int:=if j.files=0 then 0 else j.dk.syncE j.last
def Jl.pre(j:Jl):Jl:=if j.es.length%j.per=0 then j.sync else j
def Jl.preE(j:Jl):Int:=if j.es.length%j.per=0 then j.syncE else 0
def Jl.seg(j:Jl):List UInt8:=segF j.name (j.es.length/j.per)
def Jl.put(j:Jl)(x:Option Ev):Jl:=if j.preE≠0 then j.pre else if j.pre.dk.appendE j.seg (sealE x)≠0 then{j.pre with dk:=j.pre.dk.append j.seg (sealE x),stuck:=j.pre.dk.appendE j.seg (sealE x)}else{j.pre with dk:=j.pre.dk.append j.seg (sealE x),files:=j.es.length/j.per+1,es:=j.es++[x]}
def Jl.putE(j:Jl)(x:Option Ev):Int:=if j.preE≠0 then j.preE else j.pre.dk.appendE j.seg (sealE x)
def Jl.puts:Jl→List Ev→Jl|j,[]=>j|j,e::l=>if j.putE (some e)≠0 then j.put (some e)else(j.put (some e)).puts l
def Jl.putsE:Jl→List Ev→Int|_,[]=>0|j,e::l=>if j.putE (some e)≠0 then j.putE (some e)else(j.put (some e)).putsE l
theorem Jl.puts_append(b:List Ev): ∀(a:List Ev)(j:Jl),j.putsE a=0→j.puts (a++b)=(j.puts a).puts b∧j.putsE (a++b)=(j.puts a).putsE b
 |[],_,_=>⟨rfl,rfl⟩
 |e::a,j,h=>by
  unfold Jl.putsE at h;by_cases h0:j.putE (some e)≠0;·rw[if_pos h0]at h;exact absurd h h0
  ·rw[if_neg h0]at h;have ih:=Jl.puts_append b a (j.put (some e)) h;simp only[List.cons_append,Jl.puts,Jl.putsE,if_neg h0];exact ih
theorem Jl.puts_snoc(j:Jl)(a:List Ev)(e:Ev)(h:j.putsE a=0):j.puts (a++[e])=(j.puts a).put (some e)∧j.putsE (a++[e])=(j.puts a).putE (some e):=by
 have:=Jl.puts_append [e] a j h;refine⟨this.1.trans ?_,this.2.trans ?_⟩;·simp only[Jl.puts];split<;>rfl
 ·simp only[Jl.putsE];split;·rfl
  ·next h0=>exact(Decidable.not_not.1 h0).symm
structure Jl.Fine(j:Jl):Prop where
 dark:j.dk.lit=false
 up:j.dk.down=false
 free:j.stuck=0
 per1:1≤j.per
 nm:j.name.length≤24
 used0:0≤j.dk.used
 used:j.dk.used≤1300*j.es.length
 fl:j.dk.files.length≤j.es.length+1
 here:j.files≠0→(getB j.dk.files j.last).isSome=true
 small:j.files≤j.es.length+1
theorem Jl.Fine.sync{j:Jl}(h:j.Fine)(hn:j.es.length<100):j.sync.Fine∧j.syncE=0∧j.sync.es=j.es∧j.sync.name=j.name∧j.sync.per=j.per∧j.sync.files=j.files∧j.sync.dk.used=j.dk.used:=by
 unfold Jl.sync Jl.syncE;by_cases h0:j.files=0;·simp only[if_pos h0];exact⟨h,trivial,trivial,trivial,trivial,trivial,trivial⟩
 ·have hs:=h.small;have hl:=segF_len j.name (k:=j.files-1) (by omega);have ha:j.dk.asked j.last=0:=Dk.asked_fine h.up hl.1 (by have:=h.nm;unfold Jl.last;omega);have hf:j.dk.found j.last=0:=by unfold Dk.found;rw[ha,if_neg (by simp)];have:=h.here h0;rw[if_neg (by cases hg:getB j.dk.files j.last with|none=>rw[hg]at this;cases this|some _=>simp)]
  have⟨e1,e2⟩:=Dk.step_dark h.dark;have hE:j.dk.syncE j.last=0:=by unfold Dk.syncE;rw[if_neg (by simp[hf]),e2];rfl
  simp only[if_neg h0];rw[if_neg (by simp[hE])];have hd:j.dk.sync j.last=j.dk.put j.last {j.dk.file j.last with lasts:=(j.dk.file j.last).data.length,stays:=true}:=by unfold Dk.sync;rw[if_neg (by simp[hf]),e2,e1];rfl
  refine⟨⟨?_,?_,h.free,h.per1,h.nm,?_,?_,?_,?_,h.small⟩,hE,rfl,rfl,rfl,rfl,?_⟩;·rw[hd];exact h.dark
  ·rw[hd];exact h.up
  ·rw[hd];exact h.used0
  ·rw[hd];exact h.used
  ·rw[hd];show(putB j.last _ j.dk.files).length≤j.es.length+1;exact Nat.le_trans (putB_length_here _ (h.here h0)) h.fl
  ·intro _;rw[hd];show(getB (putB j.last _ j.dk.files) j.last).isSome=true;rw[getB_put_same];rfl
  ·rw[hd];rfl
theorem Jl.Fine.pre{j:Jl}(h:j.Fine)(hn:j.es.length<100):j.pre.Fine∧j.preE=0∧j.pre.es=j.es∧j.pre.name=j.name∧j.pre.per=j.per∧j.pre.files=j.files∧j.pre.dk.used=j.dk.used:=by
 unfold Jl.pre Jl.preE;split;·exact h.sync hn
 ·exact⟨h,rfl,rfl,rfl,rfl,rfl,rfl⟩
theorem Jl.Fine.put{j:Jl}(h:j.Fine)(hn:j.es.length<100)(x:Option Ev)(hx:(bytesE x).length≤1229):(j.put x).Fine∧j.putE x=0∧(j.put x).es=j.es++[x]∧(j.put x).name=j.name∧(j.put x).per=j.per:=by
 obtain⟨hp,e0,e1,e2,e3,e4,e5⟩:=h.pre hn;have hk:j.es.length/j.per≤j.es.length:=Nat.div_le_self _ _;have hl:=segF_len j.name (k:=j.es.length/j.per) (by omega);have hnm:=h.nm;have ha:j.pre.dk.asked j.seg=0:=Dk.asked_fine hp.up hl.1 (by unfold Jl.seg;omega);have hsl:(sealE x).length≤1239:=by unfold sealE;rw[Frm.sealB_length];omega
 have hu:=h.used;have hfl:=hp.fl;rw[e1]at hfl;have hfull:j.pre.dk.fullB j.seg (sealE x).length=false:=by
  unfold Dk.fullB;rw[Bool.or_eq_false_iff];refine⟨?_,?_⟩;·rw[decide_eq_false_iff_not,e5];omega
  ·rw[Bool.and_eq_false_iff];right;rw[decide_eq_false_iff_not];omega
 have hE:j.pre.dk.appendE j.seg (sealE x)=0:=by unfold Dk.appendE;rw[if_neg (by simp[ha]),hfull,(Dk.step_dark hp.dark).2];rfl
 have hd:j.pre.dk.append j.seg (sealE x)={j.pre.dk.put j.seg {j.pre.dk.file j.seg with data:=(j.pre.dk.file j.seg).data++sealE x}with used:=j.pre.dk.used+(sealE x).length}:=by unfold Dk.append;rw[if_neg (by simp[ha]),hfull];exact(Dk.step_dark (d:={j.pre.dk.put j.seg {j.pre.dk.file j.seg with data:=(j.pre.dk.file j.seg).data++sealE x}with used:=j.pre.dk.used+(sealE x).length}) hp.dark).1
 have hput:j.put x={j.pre with dk:=j.pre.dk.append j.seg (sealE x),files:=j.es.length/j.per+1,es:=j.es++[x]}:=by unfold Jl.put;rw[if_neg (by simp[e0]),if_neg (by simp[hE])]
 have hputE:j.putE x=0:=by unfold Jl.putE;rw[if_neg (by simp[e0])];exact hE
 refine⟨?_,hputE,?_,?_,?_⟩
 ·rw[hput,hd];refine⟨hp.dark,hp.up,hp.free,hp.per1,?_,?_,?_,?_,?_,?_⟩;·show j.pre.name.length≤24;exact hp.nm
  ·show 0≤j.pre.dk.used+_;have:=hp.used0;omega
  ·show j.pre.dk.used+_≤1300*_;rw[e5];simp only[List.length_append,List.length_cons,List.length_nil];omega
  ·show(putB j.seg _ j.pre.dk.files).length≤(j.es++[x]).length+1;refine Nat.le_trans (putB_length_le j.pre.dk.files j.seg _) ?_;simp only[List.length_append,List.length_cons,List.length_nil];omega
  ·intro _;show(getB (putB j.seg _ j.pre.dk.files) (segF j.pre.name (j.es.length/j.per+1-1))).isSome=true;have:segF j.pre.name (j.es.length/j.per+1-1)=j.seg:=by unfold Jl.seg;rw[e2];rfl
   rw[this,getB_put_same];rfl
  ·show j.es.length/j.per+1≤(j.es++[x]).length+1;simp only[List.length_append,List.length_cons,List.length_nil];omega
 ·rw[hput]
 ·rw[hput];exact e2
 ·rw[hput];exact e3
theorem Jl.Fine.puts(l:List Ev): ∀{j:Jl},j.Fine→j.es.length+l.length≤100→(∀e∈l,(encE e).length≤1229)→(j.puts l).Fine∧j.putsE l=0∧(j.puts l).es=j.es++l.map some∧(j.puts l).name=j.name∧(j.puts l).per=j.per:=by
 induction l with
  |nil=>intro j h _ _;exact⟨h,rfl,by simp[Jl.puts],rfl,rfl⟩
  |cons e l ih=>
   intro j h hn hl;simp only[List.length_cons]at hn;obtain⟨h1,h2,h3,h4,h5⟩:=h.put (by omega) (some e) (hl e (by simp));obtain⟨a,b,c,d,f⟩:=ih h1 (by rw[h3];simp;omega) (fun x hx=>hl x (by simp[hx]));have h0: ¬j.putE (some e)≠0:=by simp[h2]
   simp only[Jl.puts,Jl.putsE,if_neg h0];refine⟨a,b,?_,d.trans h4,f.trans h5⟩;rw[c,h3];simp
theorem Jl.fine_new(s:List UInt8)(per:Nat)(h:s.length≤24)(hp:1≤per):(Jl.new Dk.new s per).Fine:=⟨rfl,rfl,rfl,hp,h,by simp[Jl.new,Dk.new],by simp[Jl.new,Dk.new],by simp[Jl.new,Dk.new],fun h=>absurd rfl h,by simp[Jl.new]⟩
def Ev.zero:Ev:=⟨[],0,0,0,[],[],0,[]⟩
def entC:Option Ev→List Value|none=>Ev.zero.cells++[.bool true]|some e=>e.cells++[.bool false]
def entE(x:Option Ev):Ev:=x.getD Ev.zero
def entCells(es:List (Option Ev)):List Value:=es.flatMap entC
theorem entC_eq(x:Option Ev):entC x=(entE x).cells++[.bool x.isNone]:=by cases x<;>rfl
theorem entC_length(x:Option Ev):(entC x).length=9:=by cases x<;>rfl
theorem entCells_length(es:List (Option Ev)):(entCells es).length=es.length*9:=by induction es with|nil=>rfl|cons e es ih=>simp only[entCells,List.flatMap_cons,List.length_append,List.length_cons,entC_length]at*;rw[ih];omega
theorem entCells_one(es:List (Option Ev))(x:Option Ev):entCells (es++[x])=entCells es++entC x:=by simp[entCells]
theorem entCells_get(es:List (Option Ev))(k j:Nat)(hk:k<es.length)(hj:j<9):(entCells es)[k*9+j]?=(entC es[k])[j]?:=by induction es generalizing k with|nil=>simp at hk|cons e es ih=>have hc:=entC_length e;simp only[entCells,List.flatMap_cons];cases k with|zero=>rw[Nat.zero_mul,Nat.zero_add,List.getElem?_append_left (by omega)];rfl|succ k=>rw[List.getElem?_append_right (by omega),hc,show(k+1)*9+j-9=k*9+j by omega];exact ih k (by simpa using hk)
theorem entC_one(x:Option Ev): ∀u∈entC x,u.oneCell'=true:=by
 intro u hu;rw[entC_eq]at hu;rcases List.mem_append.1 hu with h|h;·exact cells_one _ u h
 ·simp at h;subst h;rfl
abbrev entAgg(x:Option Ev):Value:=.agg #[.string ⟨(entE x).src.toArray⟩,.int .i64 (entE x).num,.int .i64 (entE x).at_,.int .i64 (entE x).kind,.string ⟨(entE x).per.toArray⟩,.string ⟨(entE x).item.toArray⟩,.int .i64 (entE x).val,.string ⟨(entE x).text.toArray⟩,.bool x.isNone]
theorem ent_info:(Tryz.prog.info? 110).map (fun i=>(i.zero,i.size,i.bytes))=some (some (.agg #[.string ByteArray.empty,.int .i64 0,.int .i64 0,.int .i64 0,.string ByteArray.empty,.string ByteArray.empty,.int .i64 0,.string ByteArray.empty,.bool false]),9,104):=by kernel_rfl
def OwnJ(w:World)(base:Nat)(v:Value)(es:List (Option Ev)):Prop:=w.ownsRow base 110 9 v es.length (entCells es)
abbrev jlObj(bd:Nat)(v:Value)(j:Jl):Obj:=.cells #[.pointer (some ⟨bd,0,none⟩),.string ⟨j.name.toArray⟩,.int .i64 j.per,.int .i64 j.files,v,.int .i64 j.lasts,.int .i64 j.stuck] 98
structure Jl.Ok(j:Jl):Prop where
 per1:1≤j.per
 per2:j.per≤4096
 nm:j.name.length≤24
 num:j.es.length≤100000
 fl:j.files≤j.es.length+1
 las:j.lasts≤j.es.length
 may: ∀e,some e∈j.es→mayB e=true
structure JlAt(w:World)(G F:Nat→Prop)(bj bd:Nat)(v:Value)(j:Jl):Prop where
 dk:DkIn w G bd j.dk
 blk:w.heap[bj]?=some (jlObj bd v j)
 own:OwnJ w 0 v j.es
 fj:F bj
 fv: ∀b,v.ownBlock=some b→F b∧b≠bj
 ap: ∀b,F b→ ¬G b
 lt: ∀b,F b→b<w.heap.size
def JlIn(w:World)(G F:Nat→Prop)(bj bd:Nat)(j:Jl):Prop:=j.Ok∧ ∃v,JlAt w G F bj bd v j
def JlD(w:World)(G F:Nat→Prop)(bj bd:Nat)(j':Jl)(w':World):Prop:= ∃G' F',JlIn w' G' F' bj bd j'∧(∀b,G' b→G b∨w.heap.size≤b)∧(∀b,F' b→F b∨w.heap.size≤b)∧Keep (fun b=>G b∨F b) w w'
section
variable{w w':World}{G F:Nat→Prop}{bj bd:Nat}{v:Value}{j:Jl}
theorem OwnJ.keepB{w w':World}{base:Nat}{v:Value}{l:List (Option Ev)}(h:OwnJ w base v l)(hb: ∀b,v.ownBlock=some b→w'.heap[b]?=w.heap[b]?):OwnJ w' base v l:=by
 refine⟨h.1,?_⟩;rcases h.2 with⟨e,hl⟩|⟨g,cap,cur,e,hb',hg,hr⟩;·exact .inl ⟨e,hl⟩
 ·exact .inr ⟨g,cap,cur,e,hb',(hb g (by rw[e];rfl)).trans hg,hr⟩
theorem JlAt.keep(h:JlAt w G F bj bd v j)(hsz:w.heap.size≤w'.heap.size)(hk: ∀b,G b∨F b→w'.heap[b]?=w.heap[b]?):JlAt w' G F bj bd v j:=⟨h.dk.keep hsz (fun b hb=>hk b (.inl hb)),(hk _ (.inr h.fj)).trans h.blk,h.own.keepB fun b hb=>hk b (.inr (h.fv b hb).1),h.fj,h.fv,h.ap,fun b hb=>Nat.lt_of_lt_of_le (h.lt b hb) hsz⟩
theorem JlAt.up(h:JlAt w G F bj bd v j)(hb:Below w.heap.size w w'):JlAt w' G F bj bd v j:=h.keep hb.size fun b hg=>hb.block b (hg.elim (h.dk.lt b) (h.lt b))
theorem JlIn.up(h:JlIn w G F bj bd j)(hb:Below w.heap.size w w'):JlIn w' G F bj bd j:=⟨h.1,h.2.choose,h.2.choose_spec.up hb⟩
theorem JlIn.keep(h:JlIn w G F bj bd j)(hsz:w.heap.size≤w'.heap.size)(hk: ∀b,G b∨F b→w'.heap[b]?=w.heap[b]?):JlIn w' G F bj bd j:=⟨h.1,h.2.choose,h.2.choose_spec.keep hsz hk⟩
theorem JlIn.dk(h:JlIn w G F bj bd j):DkIn w G bd j.dk:=h.2.choose_spec.dk
theorem JlIn.lt(h:JlIn w G F bj bd j): ∀b,G b∨F b→b<w.heap.size:=fun b hb=>hb.elim (h.dk.lt b) (h.2.choose_spec.lt b)
theorem JlD.refl(h:JlIn w G F bj bd j):JlD w G F bj bd j w:=⟨G,F,h,fun _ h=>.inl h,fun _ h=>.inl h,Keep.refl _ _⟩
theorem JlAt.cells(h:JlAt w G F bj bd v j):w.cell? ⟨bj,0,none⟩=some (.pointer (some ⟨bd,0,none⟩))∧w.cell? ⟨bj,1,none⟩=some (.string ⟨j.name.toArray⟩)∧w.cell? ⟨bj,2,none⟩=some (.int .i64 j.per)∧w.cell? ⟨bj,3,none⟩=some (.int .i64 j.files)∧w.cell? ⟨bj,4,none⟩=some v∧w.cell? ⟨bj,5,none⟩=some (.int .i64 j.lasts)∧w.cell? ⟨bj,6,none⟩=some (.int .i64 j.stuck):=by have key: ∀o,w.cell? ⟨bj,o,none⟩=_:=fun o=>cell_of_row w bj o _ _ (0,0) h.blk;exact⟨(key 0).trans rfl,(key 1).trans rfl,(key 2).trans rfl,(key 3).trans rfl,(key 4).trans rfl,(key 5).trans rfl,(key 6).trans rfl⟩
theorem JlAt.frozen(h:JlAt w G F bj bd v j)(o:Nat):w.frozen? ⟨bj,o,none⟩=false:=frozen_of_row w bj o _ _ h.blk
theorem JlAt.head{G':Nat→Prop}{j':Jl}(h:JlAt w G F bj bd v j)(hd:DkIn w' G' bd j'.dk)(hG: ∀b,G' b→G b∨w.heap.size≤b)(hb:w'.heap[bj]?=some (jlObj bd v j'))(he:j'.es=j.es)(hsz:w.heap.size≤w'.heap.size)(hk: ∀b,F b→b≠bj→w'.heap[b]?=w.heap[b]?):JlAt w' G' F bj bd v j':=⟨hd,hb,he▸h.own.keepB fun b hb=>hk b (h.fv b hb).1 (h.fv b hb).2,h.fj,h.fv,fun b hb hg=>(hG b hg).elim (h.ap b hb) (fun hs=>by have:=h.lt b hb;omega),fun b hb=>Nat.lt_of_lt_of_le (h.lt b hb) hsz⟩
end
end Go.Proofs.YtajihpcdplpcdaaGreatDoor
