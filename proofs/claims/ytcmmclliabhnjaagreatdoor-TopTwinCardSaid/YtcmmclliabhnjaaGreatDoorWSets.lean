/-
  The top's laws: same.
-/
import Derived.Test.YtcmmclliabhnjaaGreatDoorRows
import Derived.WalkKit
import Derived.Deep.QuietTactic
import Derived.BigQuiet
import Derived.Lib.Hide
import Derived.WalkSmall
import Derived.Laws.EntriesVeiled
import Derived.Lib.SlBytesConst
import Derived.Maps.AppendAt
import Derived.Deep.AppendLies
import Derived.StringKeys
import Derived.Maps.OwnSet
import Derived.Maps.OwnOps
import Derived.Sort.KeysCollected
import Derived.Laws.Tables
import Derived.Deep.WholeRow
import Derived.Deep.MidRow
import Derived.Deep.RegionHeld
import Derived.Deep.RegionHeld3
set_option maxRecDepth 100000
set_option maxHeartbeats 16000000
namespace Go.Proofs.YtcmmclliabhnjaaGreatDoor
theorem qH{p:Prop}(h:p):RowKit.Hid p:=h
open Go.RowKit
structure Byt(w:World)(B:Nat)(A:Option Addr)(n c:Nat)(l:List UInt8):Prop where
 len:l.length=n
 cap:n≤c
 max:c≤maxLen
 cell:0<n→ ∃b off,A=some ⟨b,off,none⟩∧b<B∧ ∀i(h:i<l.length),w.cell? ⟨b,off+i,none⟩=some (.int .u8 l[i].toNat)
section
variable{w w':World}{B B' n c:Nat}{A:Option Addr}{l:List UInt8}
theorem Byt.keep(h:Byt w B A n c l)(hk: ∀p:Addr,p.block<B→w'.cell? p=w.cell? p):Byt w' B A n c l:=⟨h.len,h.cap,h.max,fun hn=>by obtain⟨b,off,e,hb,hc⟩:=h.cell hn;exact⟨b,off,e,hb,fun i hi=>(hk _ hb).trans (hc i hi)⟩⟩
theorem Byt.more(h:Byt w B A n c l)(hB:B≤B'):Byt w B' A n c l:=⟨h.len,h.cap,h.max,fun hn=>by obtain⟨b,off,e,hb,hc⟩:=h.cell hn;exact⟨b,off,e,by omega,hc⟩⟩
theorem Byt.below(h:Byt w B A n c l)(hb:Below B w w'):Byt w' B A n c l:=h.keep fun _ hp=>hb.cell hp
theorem Byt.drewN(h:Byt w B A n c l)(k:Nat):Byt (w.drewN k) B A n c l:=h.keep fun _ _=>rfl
theorem Byt.nil(w:World)(B:Nat)(A:Option Addr)(c:Nat)(hc:c≤maxLen):Byt w B A 0 c []:=⟨rfl,Nat.zero_le _,hc,fun h=>absurd h (by omega)⟩
end
theorem Byt.str{P:Program}{w:World}{B n c:Nat}{A:Option Addr}{l:List UInt8}(h:Byt w B A n c l)(src e dst:TypeId)(hs:P.underlying src=some (.slice e))(he:P.underlying e=some (.int .u8))(hd:P.underlying dst=some .string):(convert src dst (.slice A n c)).run P w=.ok (.string ⟨l.toArray⟩) w:=by
 rcases Nat.eq_zero_or_pos n with h0|h0
 ·subst h0;have hl:l=[]:=List.eq_nil_of_length_eq_zero h.len;subst hl;rcases A with _|⟨b,off,spot⟩;·exact run_convert_bytes_nil w src e hs he 0 c dst hd
  ·rw[run_convert_bytes_string w src dst e _ 0 c hs he hd];simp[Conv.bytesToString,loadCells];rfl
 ·obtain⟨b,off,rfl,_,hc⟩:=h.cell h0;have:=run_convert_bytes_arg (P:=P) w src e hs he b off n c (l.map fun x=>(x.toNat:Int)) (by simp[h.len]) (fun i hi=>by
   have hi':i<l.length:=by rw[h.len];exact hi
   rw[hc i hi'];simp[List.getElem?_eq_getElem hi']) dst hd;rw[this];simp[strOfNums,Function.comp_def]
theorem Byt.cut{w:World}{B n c b off:Nat}{l:List UInt8}(h:Byt w B (some ⟨b,off,none⟩) n c l)(lo m:Nat)(hm:lo+m≤n):Byt w B (some ⟨b,off+lo,none⟩) m (c-lo) ((l.drop lo).take m):=by
 have hl:=h.len;have hcap:=h.cap;have hmax:=h.max;refine⟨by simp[hl];omega,by omega,by omega,fun h0=>?_⟩;obtain⟨b',off',e,hb,hc⟩:=h.cell (by omega);obtain⟨rfl,rfl⟩:b=b'∧off=off':=by simpa using e
 refine⟨b,off+lo,rfl,hb,fun i hi=>?_⟩;have hi2:i<m:=by simp at hi;omega
 rw[Nat.add_assoc,hc (lo+i) (by omega)];simp
theorem Byt.new(w:World)(cs:Array Value)(e:TypeId)(l:List UInt8)(h:cs=(l.map fun x=>Value.int .u8 x.toNat).toArray)(n:Nat)(hn:l.length=n)(hm:n≤maxLen)(fr:Nat×Nat:=(0,0)):Byt (w.alloc (.cells cs e fr)) (w.heap.size+1) (some ⟨w.heap.size,0,none⟩) n n l:=by refine⟨hn,Nat.le_refl _,hm,fun _=>⟨w.heap.size,0,rfl,by omega,fun i hi=>?_⟩⟩;rw[cell_of_row _ w.heap.size _ cs e fr (heap_alloc_new w _),h];simp[hi]
theorem i64_or_nat(a b:Nat)(ha:a<4611686018427387904)(hb:b<4611686018427387904):bits .or .i64 (a:Int) (b:Int)=((a|||b:Nat):Int):=by have hx:a|||b<2^62:=Nat.or_lt_two_pow (by omega) (by omega);show IntKind.i64.wrap ((BitVec.ofInt 64 (a:Int)|||BitVec.ofInt 64 (b:Int)).toNat:Int)=_;rw[BitVec.toNat_or,BitVec.toNat_ofInt,BitVec.toNat_ofInt,IntKind.wrap_i64];rw[show((a:Int)%((2^64:Nat):Int)).toNat=a by omega,show((b:Int)%((2^64:Nat):Int)).toNat=b by omega];omega
theorem str_app(a b:List UInt8):(⟨a.toArray⟩:ByteArray)++⟨b.toArray⟩=⟨(a++b).toArray⟩:=by apply ByteArray.ext;rw[ByteArray.data_append];simp
theorem ret_bool{a b:Bool}(h:a=b):Ending.returned (.bool a)=.returned (.bool b):=by rw[h]
theorem ret_int{k:IntKind}{a b:Int}(h:a=b):Ending.returned (.int k a)=.returned (.int k b):=by rw[h]
structure Cel(w:World)(B size:Nat)(A:Option Addr)(n c:Nat)(xs:List Value):Prop where
 len:xs.length=n*size
 cap:n≤c
 max:c≤maxLen
 cell:0<n→ ∃b off,A=some ⟨b,off,none⟩∧b<B∧ ∀i u,xs[i]?=some u→w.cell? ⟨b,off+i,none⟩=some u
section
variable{w w':World}{B B' size n c:Nat}{A:Option Addr}{xs:List Value}
theorem Cel.keep(h:Cel w B size A n c xs)(hk: ∀p:Addr,p.block<B→w'.cell? p=w.cell? p):Cel w' B size A n c xs:=⟨h.len,h.cap,h.max,fun hn=>by obtain⟨b,off,e,hb,hc⟩:=h.cell hn;exact⟨b,off,e,hb,fun i u hi=>(hk _ hb).trans (hc i u hi)⟩⟩
theorem Cel.more(h:Cel w B size A n c xs)(hB:B≤B'):Cel w B' size A n c xs:=⟨h.len,h.cap,h.max,fun hn=>by obtain⟨b,off,e,hb,hc⟩:=h.cell hn;exact⟨b,off,e,by omega,hc⟩⟩
theorem Cel.below(h:Cel w B size A n c xs)(hb:Below B w w'):Cel w' B size A n c xs:=h.keep fun _ hp=>hb.cell hp
theorem Cel.drewN(h:Cel w B size A n c xs)(k:Nat):Cel (w.drewN k) B size A n c xs:=h.keep fun _ _=>rfl
theorem Cel.nil(w:World)(B size:Nat)(A:Option Addr)(c:Nat)(hc:c≤maxLen):Cel w B size A 0 c []:=⟨by simp,Nat.zero_le _,hc,fun h=>absurd h (by omega)⟩
theorem Cel.new(w:World)(cs:Array Value)(e:TypeId)(hm:n≤maxLen)(hl:cs.size=n*size):Cel (w.alloc (.cells cs e)) (w.heap.size+1) size (some ⟨w.heap.size,0,none⟩) n n cs.toList:=by refine⟨by simpa using hl,Nat.le_refl _,hm,fun _=>⟨w.heap.size,0,rfl,by omega,fun i u hi=>?_⟩⟩;rw[cell_of_row _ w.heap.size _ cs e (0,0) (heap_alloc_new w _)];simpa using hi
theorem Cel.of_own{base:Nat}{e:TypeId}(h:w.ownsRow base e size (.slice A n c) n xs):Cel w w.heap.size size A n c xs:=by
 rcases h.2 with⟨e,hl⟩|⟨g,cap,cur,e,hb,hg,hnc,hm,hs,ht⟩;·subst hl;have hxs:xs=[]:=List.eq_nil_of_length_eq_zero (by simpa using h.1);subst hxs;injection e with e1 e2 e3;subst e3;exact Cel.nil _ _ _ _ _ (by unfold maxLen;omega)
 ·injection e with e1 e2 e3;subst e1 e3;refine⟨h.1,hnc,hm,fun _=>⟨g,0,rfl,(Array.getElem?_eq_some_iff.1 hg).1,fun i u hi=>?_⟩⟩;have hlt:i<n*size:=by
   rcases Nat.lt_or_ge i (n*size)with h'|h';·exact h'
   ·rw[List.getElem?_eq_none (by rw[h.1];exact h')]at hi;cases hi
  rw[Nat.zero_add,World.ownsRow.cellAt h i hlt,hi]
end
theorem ownsRow_below{w w':World}{base B:Nat}{e:TypeId}{size n:Nat}{v:Value}{xs:List Value}(h:w.ownsRow base e size v n xs)(hb:Below B w w')(hB:w.heap.size≤B):w'.ownsRow base e size v n xs:=by
 refine⟨h.1,?_⟩;rcases h.2 with⟨e,hl⟩|⟨g,cap,cur,e,hb',hg,hr⟩;·exact .inl ⟨e,hl⟩
 ·exact .inr ⟨g,cap,cur,e,hb',(hb.block g (by have:=(Array.getElem?_eq_some_iff.1 hg).1;omega)).trans hg,hr⟩
theorem ownsRow_form{w:World}{base:Nat}{e:TypeId}{size n:Nat}{v:Value}{xs:List Value}(h:w.ownsRow base e size v n xs): ∃A c,v=.slice A n c:=by
 rcases h.2 with⟨e,hl⟩|⟨g,cap,cur,e,_⟩;·exact⟨none,0,by rw[e,hl]⟩
 ·exact⟨_,_,e⟩
section
variable{P:Program}
theorem run_app(w:World)(t ty e:TypeId)(i:TypeInfo)(z:Value)(size bytes:Nat)(ht:P.underlying t=some (.slice e))(hi:P.info? e=some i)(hz:i.zero=some z)(hsize:i.size=size)(hby:i.bytes=bytes)(hzs:z.cells.size=size)(hsz:0<size)(base:Nat)(v:Value)(n:Nat)(xs:List Value)(hown:w.ownsRow base e size v n xs)(B:Nat)(A:Option Addr)(m c:Nat)(ys:List Value)(hr:Cel w B size A m c ys)(h1: ∀u∈ys,u.oneCell'=true)(h63:n+m≤maxLen)(hbytes:(n+m)*bytes≤140737488355328)(hbase:base≤w.heap.size): ∃v' w',(Builtin.append_ #[t,t] ty #[v,.slice A m c]).run P w=.ok v' w'∧w'.ownsRow base e size v' (n+m) (xs++ys)∧w.grownBy w' v.ownBlock∧(v'.ownBlock=v.ownBlock∨v'.ownBlock=some w.heap.size):=by
 rcases Nat.eq_zero_or_pos m with h0|h0
 ·subst h0;have hl':ys=[]:=List.eq_nil_of_length_eq_zero (by simpa using hr.len);subst hl';refine⟨v,w,?_,by simpa using hown,World.grownBy.refl w _,.inl rfl⟩;rcases hown.2 with⟨rfl,hn⟩|⟨g,cap,cur,rfl,_,_,hnc,_⟩;·cases A<;>simp[Builtin.append_,run_underlying ht,sizeOf,typeInfo,hi,Builtin.lenOf,Builtin.firstCells,loadCells,loadCellsFrom]
  ·cases A<;>simp[Builtin.append_,run_underlying ht,sizeOf,typeInfo,hi,Builtin.lenOf,Builtin.firstCells,hnc,loadCells,loadCellsFrom,storeCells]
 ·obtain⟨b,off,rfl,_,hc⟩:=hr.cell h0;obtain⟨v',w',h1,h2,h3,_,h5⟩:=run_append_own_at (P:=P) w base t ty e i z size bytes ht hi hz hsize hby hzs hsz v n xs hown ⟨b,off,none⟩ m c ys hr.len (fun j u hj=>by
   have:(⟨b,off,none⟩:Addr).add j=⟨b,off+j,none⟩:=by unfold Addr.add;split<;>simp_all
   rw[this];exact hc j u hj) h1 h63 hbytes hbase;exact⟨v',w',h1,h2,h3,h5⟩
theorem wpList_app{ops:Array Oper}{rest:List Oper}{o:Oper}{a:Act}{Q:Exit→Act→World→Prop}{w:World}(hgd:o.guard=none)(s x:Operand)(t:TypeId)(ho:o.op=.call {callee:=.builtin .append,args:= #[s,x],argTypes:= #[t,t]})(e:TypeId)(i:TypeInfo)(z:Value)(size bytes:Nat)(ht:P.underlying t=some (.slice e))(hi:P.info? e=some i)(hz:i.zero=some z)(hsize:i.size=size)(hby:i.bytes=bytes)(hzs:z.cells.size=size)(hsz:0<size)(base:Nat)(v:Value)(n:Nat)(xs:List Value)(hs:a.eval s=v)(hown:w.ownsRow base e size v n xs)(B:Nat)(A:Option Addr)(m c:Nat)(ys:List Value)(hx:a.eval x=.slice A m c)(hr:Cel w B size A m c ys)(h1: ∀u∈ys,u.oneCell'=true)(h63:n+m≤maxLen)(hbytes:(n+m)*bytes≤140737488355328)(hbase:base≤w.heap.size)(h: ∀v' w',w'.ownsRow base e size v' (n+m) (xs++ys)→w.grownBy w' v.ownBlock→(v'.ownBlock=v.ownBlock∨v'.ownBlock=some w.heap.size)→wpList P ops Q rest (a.put o.dst v') w'):wpList P ops Q (o::rest) a w:=wpList_plain hgd fun K hK=>by obtain⟨v',w',h1,h2,h3,h4⟩:=run_app (P:=P) w t o.type e i z size bytes ht hi hz hsize hby hzs hsz base v n xs hown B A m c ys hr h1 h63 hbytes hbase;unfold Oper.wp execOp;simp only[ho,resolve,invoke,builtin,Sem.run_bind,Sem.run_pure,Result.andThen_ok,List.map_toArray,List.map_cons,List.map_nil,hs,hx,h1];exact hK _ _ (h v' w' h2 h3 h4)
end
def sv(l:List UInt8):Value:=.string ⟨l.toArray⟩
structure Ev where
 src:List UInt8
 num:Int
 at_:Int
 kind:Int
 per:List UInt8
 item:List UInt8
 val:Int
 text:List UInt8 deriving DecidableEq
def Ev.cells(e:Ev):List Value:=[.string ⟨e.src.toArray⟩,.int .i64 e.num,.int .i64 e.at_,.int .i64 e.kind,.string ⟨e.per.toArray⟩,.string ⟨e.item.toArray⟩,.int .i64 e.val,.string ⟨e.text.toArray⟩]
def Ev.agg(e:Ev):Value:=.agg #[.string ⟨e.src.toArray⟩,.int .i64 e.num,.int .i64 e.at_,.int .i64 e.kind,.string ⟨e.per.toArray⟩,.string ⟨e.item.toArray⟩,.int .i64 e.val,.string ⟨e.text.toArray⟩]
def evCells(es:List Ev):List Value:=es.flatMap Ev.cells
theorem evCells_length(es:List Ev):(evCells es).length=es.length*8:=by induction es with|nil=>rfl|cons e es ih=>simp only[evCells,List.flatMap_cons,List.length_append,List.length_cons]at*;rw[ih];simp[Ev.cells];omega
theorem evCells_append(a b:List Ev):evCells (a++b)=evCells a++evCells b:=by simp[evCells]
theorem evCells_one(es:List Ev)(e:Ev):evCells (es++[e])=evCells es++e.cells:=by simp[evCells]
theorem evCells_get(es:List Ev)(k j:Nat)(hk:k<es.length)(hj:j<8):(evCells es)[k*8+j]?=es[k].cells[j]?:=by induction es generalizing k with|nil=>simp at hk|cons e es ih=>have hc:e.cells.length=8:=rfl;simp only[evCells,List.flatMap_cons];cases k with|zero=>rw[Nat.zero_mul,Nat.zero_add,List.getElem?_append_left (by omega)];rfl|succ k=>rw[List.getElem?_append_right (by omega),hc,show(k+1)*8+j-8=k*8+j by omega];exact ih k (by simpa using hk)
def Evs(w:World)(B:Nat)(A:Option Addr)(n c:Nat)(es:List Ev):Prop:=Cel w B 8 A n c (evCells es)
theorem Evs.len{w:World}{B n c:Nat}{A:Option Addr}{es:List Ev}(h:Evs w B A n c es):es.length=n:=by have:=Cel.len h;rw[evCells_length]at this;omega
theorem Evs.at_{w:World}{B n c:Nat}{A:Option Addr}{es:List Ev}(h:Evs w B A n c es)(k:Nat)(hk:k<es.length): ∃b off,A=some ⟨b,off,none⟩∧b<B∧ ∀j u,es[k].cells[j]?=some u→w.cell? ⟨b,off+(k*8+j),none⟩=some u:=by
 have hl:=h.len;obtain⟨b,off,e,hb,hc⟩:=Cel.cell h (by omega);refine⟨b,off,e,hb,fun j u hj=>hc _ u ?_⟩;have hj8:j<8:=by
  rcases Nat.lt_or_ge j 8 with h'|h';·exact h'
  ·rw[List.getElem?_eq_none (by show 8≤j;exact h')]at hj;cases hj
 rw[evCells_get es k j hk hj8,hj]
def EvAt(w:World)(b o:Nat)(e:Ev):Prop:=w.cell? ⟨b,o,none⟩=some (.string ⟨e.src.toArray⟩)∧w.cell? ⟨b,o+1,none⟩=some (.int .i64 e.num)∧w.cell? ⟨b,o+2,none⟩=some (.int .i64 e.at_)∧w.cell? ⟨b,o+3,none⟩=some (.int .i64 e.kind)∧w.cell? ⟨b,o+4,none⟩=some (.string ⟨e.per.toArray⟩)∧w.cell? ⟨b,o+5,none⟩=some (.string ⟨e.item.toArray⟩)∧w.cell? ⟨b,o+6,none⟩=some (.int .i64 e.val)∧w.cell? ⟨b,o+7,none⟩=some (.string ⟨e.text.toArray⟩)
theorem Evs.ev{w:World}{B n c:Nat}{A:Option Addr}{es:List Ev}(h:Evs w B A n c es)(k:Nat)(hk:k<es.length): ∃b off,A=some ⟨b,off,none⟩∧b<B∧EvAt w b (off+k*8) es[k]:=by
 obtain⟨b,off,e,hb,hc⟩:=h.at_ k hk;have key: ∀j u,es[k].cells[j]?=some u→w.cell? ⟨b,off+k*8+j,none⟩=some u:=fun j u hj=>by rw[Nat.add_assoc];exact hc j u hj
 exact⟨b,off,e,hb,key 0 _ rfl,key 1 _ rfl,key 2 _ rfl,key 3 _ rfl,key 4 _ rfl,key 5 _ rfl,key 6 _ rfl,key 7 _ rfl⟩
theorem EvAt.below{w w':World}{b o B:Nat}{e:Ev}(h:EvAt w b o e)(hb:Below B w w')(hB:b<B):EvAt w' b o e:=by obtain⟨h0,h1,h2,h3,h4,h5,h6,h7⟩:=h;have key: ∀(o:Nat)u,w.cell? ⟨b,o,none⟩=some u→w'.cell? ⟨b,o,none⟩=some u:=fun o u hu=>(hb.cell (p:=⟨b,o,none⟩) hB).trans hu;exact⟨key _ _ h0,key _ _ h1,key _ _ h2,key _ _ h3,key _ _ h4,key _ _ h5,key _ _ h6,key _ _ h7⟩
abbrev evObj(e:Ev):Obj:=.cells #[.string ⟨e.src.toArray⟩,.int .i64 e.num,.int .i64 e.at_,.int .i64 e.kind,.string ⟨e.per.toArray⟩,.string ⟨e.item.toArray⟩,.int .i64 e.val,.string ⟨e.text.toArray⟩] 74
def EvIn(w:World)(b:Nat)(e:Ev):Prop:=w.cell? ⟨b,0,none⟩=some (.string ⟨e.src.toArray⟩)∧w.cell? ⟨b,1,none⟩=some (.int .i64 e.num)∧w.cell? ⟨b,2,none⟩=some (.int .i64 e.at_)∧w.cell? ⟨b,3,none⟩=some (.int .i64 e.kind)∧w.cell? ⟨b,4,none⟩=some (.string ⟨e.per.toArray⟩)∧w.cell? ⟨b,5,none⟩=some (.string ⟨e.item.toArray⟩)∧w.cell? ⟨b,6,none⟩=some (.int .i64 e.val)∧w.cell? ⟨b,7,none⟩=some (.string ⟨e.text.toArray⟩)
theorem EvIn.new(w:World)(e:Ev):EvIn (w.alloc (evObj e)) w.heap.size e:=by have key: ∀o,(w.alloc (evObj e)).cell? ⟨w.heap.size,o,none⟩=_:=fun o=>cell_of_row _ w.heap.size o _ _ (0,0) (heap_alloc_new w (evObj e));exact⟨(key 0).trans rfl,(key 1).trans rfl,(key 2).trans rfl,(key 3).trans rfl,(key 4).trans rfl,(key 5).trans rfl,(key 6).trans rfl,(key 7).trans rfl⟩
theorem EvIn.below{w w':World}{b B:Nat}{e:Ev}(h:EvIn w b e)(hb:Below B w w')(hB:b<B):EvIn w' b e:=by obtain⟨h0,h1,h2,h3,h4,h5,h6,h7⟩:=h;have key: ∀(o:Nat)u,w.cell? ⟨b,o,none⟩=some u→w'.cell? ⟨b,o,none⟩=some u:=fun o u hu=>(hb.cell (p:=⟨b,o,none⟩) hB).trans hu;exact⟨key _ _ h0,key _ _ h1,key _ _ h2,key _ _ h3,key _ _ h4,key _ _ h5,key _ _ h6,key _ _ h7⟩
theorem cells_one(e:Ev): ∀u∈e.cells,u.oneCell'=true:=by intro u hu;simp only[Ev.cells,List.mem_cons,List.not_mem_nil,or_false]at hu;rcases hu with rfl|rfl|rfl|rfl|rfl|rfl|rfl|rfl<;>rfl
theorem ev_info:(Tryz.prog.info? 74).map (fun i=>(i.zero,i.size,i.bytes))=some (some (.agg #[.string ByteArray.empty,.int .i64 0,.int .i64 0,.int .i64 0,.string ByteArray.empty,.string ByteArray.empty,.int .i64 0,.string ByteArray.empty]),8,96):=by kernel_rfl
open Go.Maps Go.Sort
theorem keyS:Keyed Tryz.prog 9:=string_keyed Tryz.underlying9
theorem zeroB(w:World):(zeroValue 4).run Tryz.prog w=.ok (.bool false) w:=by kernel_rfl
theorem plainElem_bool_inv{P:Program}{e:TypeId}(he:P.underlying e=some .bool){v:Value}{x:Bool}{ps:List MemPlace}(h:plainElem (H:=Unit) P e v=some (.lit (.bool x),ps)):v=.bool x:=by cases v<;>simp[plainElem,he]at h;rw[h.1]
def SetB(w:World)(b n:Nat)(ks:List (List UInt8)):Prop:= ∃D:DataW Unit,w.ownsMap Tryz.prog 9 (plainElem Tryz.prog 4) b n D∧Tidy D∧ ∀k:List UInt8,D.atKey (.string k) (.lit (.bool false))=.lit (.bool (decide (k∈ks)))∧has D (.string k)=decide (k∈ks)
theorem SetB.made(w:World):SetB (w.alloc (.map #[] 0)) w.heap.size 0 []:=⟨.map [],World.ownsMap_made _ _ _ _,tidy_empty,fun k=>⟨by simp[DataW.atKey],by simp[has]⟩⟩
theorem SetB.lt{w:World}{b n:Nat}{ks:List (List UInt8)}(h:SetB w b n ks):b<w.heap.size:=by obtain⟨D,h1,_⟩:=h;exact h1.lt
theorem SetB.block{w w':World}{b n:Nat}{ks:List (List UInt8)}(h:SetB w b n ks)(hb:w'.heap[b]?=w.heap[b]?):SetB w' b n ks:=by obtain⟨D,⟨es,clock,h1,h2⟩,h3⟩:=h;exact⟨D,⟨es,clock,hb.trans h1,h2⟩,h3⟩
theorem SetB.below{w w':World}{b n B:Nat}{ks:List (List UInt8)}(h:SetB w b n ks)(hb:Below B w w')(hB:b<B):SetB w' b n ks:=h.block (hb.block b hB)
theorem SetB.alloc{w:World}{b n:Nat}{ks:List (List UInt8)}(h:SetB w b n ks)(o:Obj):SetB (w.alloc o) b n ks:=h.block (Below.heap_alloc w o b h.lt)
theorem SetB.drewN{w:World}{b n:Nat}{ks:List (List UInt8)}(h:SetB w b n ks)(k:Nat):SetB (w.drewN k) b n ks:=h.block rfl
theorem key_str(k:List UInt8)(hk:k.length≤maxLen):keyOf Tryz.prog 9 (.string ⟨k.toArray⟩)=some (.string k):=by have:=WideMaps.keyOf_string_mk (P:=Tryz.prog) Tryz.underlying9 (s:=⟨k.toArray⟩) (by simpa[ByteArray.size]using hk);simpa using this
theorem SetB.look{w:World}{b n:Nat}{ks:List (List UInt8)}(h:SetB w b n ks)(k:List UInt8)(hk:k.length≤maxLen):(Instr.lookup 93 (.map (some b)) (.string ⟨k.toArray⟩) false).run Tryz.prog w=.ok (.bool (decide (k∈ks))) w:=by obtain⟨D,h1,_,h3⟩:=h;obtain⟨v,ps,hr,hv⟩:=h1.lookup keyS Tryz.underlying93 (zeroB w) (plainElem_bool (P:=Tryz.prog) Tryz.underlying4 false) (key_str k hk);rw[hr];rw[(h3 k).1]at hv;rw[plainElem_bool_inv Tryz.underlying4 hv]
theorem SetB.put{w:World}{b n:Nat}{ks:List (List UInt8)}(h:SetB w b n ks)(hn:n<maxLen)(k:List UInt8)(hk:k.length≤maxLen): ∃w',(Instr.mapUpdate 93 (.map (some b)) (.string ⟨k.toArray⟩) (.bool true)).run Tryz.prog w=.ok () w'∧SetB w' b (n+1) (k::ks)∧w.grownBy w' (some b):=by
 obtain⟨D,h1,h2,h3⟩:=h;obtain⟨w',hr,r1,r2⟩:=h1.update keyS Tryz.underlying93 hn (key_str k hk) (plainElem_bool (P:=Tryz.prog) Tryz.underlying4 true);have hkl:WideAt.IsKeyLit (.string k):=keyS.key (key_str k hk);refine⟨w',hr,⟨D.put (.string k) (.lit (.bool true)),r1,h2.put hkl _,fun x=>?_⟩,r2⟩;by_cases e:x=k;·subst e;exact⟨by rw[atKey_put_same h2.isMap hkl];simp,by rw[has_put_same h2.isMap hkl];simp⟩
 ·have hne:Lit.string x≠.string k:=fun h=>e (by injection h);rw[atKey_put_other hne,has_put_other hne,(h3 x).1,(h3 x).2];have:decide (x∈k::ks)=decide (x∈ks):=by simp[e]
  rw[this];exact⟨rfl,rfl⟩
theorem wpList_setput{ops:Array Oper}{rest:List Oper}{o:Oper}{a:Act}{Q:Exit→Act→World→Prop}{w:World}(hg:o.guard=none)(m x v:Operand)(hop:o.op=Op.mapUpdate 93 m x v)(b n:Nat)(ks:List (List UInt8))(hm:a.eval m=.map (some b))(hown:SetB w b n ks)(hn:n<maxLen)(k:List UInt8)(hx:a.eval x=.string ⟨k.toArray⟩)(hk:k.length≤maxLen)(hv:a.eval v=.bool true)(h: ∀w',SetB w' b (n+1) (k::ks)→w.grownBy w' (some b)→wpList Tryz.prog ops Q rest (a.put o.dst undef) w'):wpList Tryz.prog ops Q (o::rest) a w:=by refine wpList_plain hg fun K hK=>?_;obtain⟨w',hr,h1,h2⟩:=hown.put hn k hk;unfold Oper.wp;simp[execOp,hop,hm,hx,hv,hr,Result.andThen];exact hK _ _ (h w' h1 h2)
theorem SetB.perm{w:World}{b n:Nat}{ks:List (List UInt8)}{D:DataW Unit}(h1:w.ownsMap Tryz.prog 9 (plainElem Tryz.prog 4) b n D)(h3: ∀k:List UInt8,has D (.string k)=decide (k∈ks)){ss:List (List UInt8)}(hnd:ss.Nodup)(hm: ∀x,x∈ss↔x∈ks):ss.Perm (strKeys D):=by
 obtain⟨es,hD,hpw,_⟩:=h1.entries keyS;obtain⟨es',hD',hko⟩:=h1.keysOf;obtain rfl:es=es':=by rw[hD]at hD';simpa using hD'
 subst hD;exact perm_strKeys hpw (fun p hp=>by obtain⟨v,hv⟩:=hko p hp;obtain⟨x,_,hx,_⟩:=Maps.keyOf_str Tryz.underlying9 hv;exact⟨x,hx⟩) hnd (fun x=>by rw[h3 x,hm x];simp)
section
variable{P:Program}{ops:Array Oper}{rest:List Oper}{o o2:Oper}{a:Act}{Q:Exit→Act→World→Prop}{w:World}
theorem wpList_built(hg:o.guard=none)(t:TypeId)(parts:Array (Nat×Operand))(hop:o.op=Op.build t parts)(cells:Array Value)(hb:P.built t (parts.map fun p=>(p.1,a.eval p.2)).toList=some cells)(h:wpList P ops Q rest (a.put o.dst (.agg cells)) w):wpList P ops Q (o::rest) a w:=by refine wpList_plain hg fun K hK=>?_;have hr:=run_build (P:=P) w t (parts.map fun p=>(p.1,a.eval p.2)) cells hb;unfold Oper.wp;simp[execOp,hop,hr,Result.andThen];exact hK _ _ h
theorem wpList_fresh(hg:o.guard=none)(hg2:o2.guard=none)(t:TypeId)(hop:o.op=Op.alloc t)(x y:Operand)(hop2:o2.op=Op.store t x y)(z:Array Value)(hz: ∀w,(zeroValue t).run P w=.ok (.agg z) w)(c:Array Value)(hx:(a.put o.dst (.pointer (some ⟨w.heap.size,0,none⟩))).eval x=.pointer (some ⟨w.heap.size,0,none⟩))(hy:(a.put o.dst (.pointer (some ⟨w.heap.size,0,none⟩))).eval y=.agg c)(hi:(P.info? t).map (·.size)=some c.size)(ho:z.size=c.size)(h1:c.all (·.oneCell')=true)(h:wpList P ops Q rest ((a.put o.dst (.pointer (some ⟨w.heap.size,0,none⟩))).put o2.dst undef) (w.alloc (.cells c t))):wpList P ops Q (o::o2::rest) a w:=by refine wpList_plain hg fun K hK=>?_;unfold Oper.wp;have hn:(newVar t (.agg z)).run P w=.ok ⟨w.heap.size,0,none⟩ (w.alloc (.cells z t)):=rfl;simp[execOp,hop,hz,hn,Instr.alloc,Result.andThen];refine hK _ _ (wpList_plain hg2 fun K2 hK2=>?_);unfold Oper.wp;have hr:=run_storeAt_new (P:=P) w t z c hi ho h1;simp[execOp,hop2,hx,hy,hr,Result.andThen];exact hK2 _ _ h
theorem wpList_loaded(hg:o.guard=none)(t:TypeId)(x:Operand)(hop:o.op=Op.load t x)(b:Nat)(hx:a.eval x=.pointer (some ⟨b,0,none⟩))(c:Array Value)(d:TypeDesc)(hu:P.underlying t=some d)(hd:(match d with|.struct _|.array _ _=>true|_=>false)=true)(hi:(P.info? t).map (·.size)=some c.size)(hb:w.heap[b]?=some (.cells c t))(h:wpList P ops Q rest (a.put o.dst (.agg c)) w):wpList P ops Q (o::rest) a w:=by refine wpList_plain hg fun K hK=>?_;unfold Oper.wp;have hr:=run_loadVar_row (P:=P) w b t t c (0,0) d hb hu hd hi;simp[execOp,hop,hx,Instr.loadAt,Instr.sureAddr,hr,Result.andThen];exact hK _ _ h
theorem wpList_stored(hg:o.guard=none)(t:TypeId)(x y:Operand)(hop:o.op=Op.store t x y)(b:Nat)(hx:a.eval x=.pointer (some ⟨b,0,none⟩))(c old:Array Value)(hy:a.eval y=.agg c)(hb:w.heap[b]?=some (.cells old t))(hi:(P.info? t).map (·.size)=some c.size)(ho:old.size=c.size)(h1:c.all (·.oneCell')=true)(h:wpList P ops Q rest (a.put o.dst undef) (w.setRow b c)):wpList P ops Q (o::rest) a w:=by refine wpList_plain hg fun K hK=>?_;unfold Oper.wp;have hr:=run_storeVar_row (P:=P) w b t t old c hb hi ho h1;simp[execOp,hop,hx,hy,Instr.storeAt,Instr.sureAddr,hr,Result.andThen];exact hK _ _ h
end
theorem wpAnyH_weak{P:Program}{md:Region.Mode}{ops:Array Oper}{Q:Exit→Act→World→Prop}{S S':World→Prop}(hS: ∀w,S' w→S w): ∀(fuel:Nat)(listed:Array Bool)(a:Act)(w:World),wpAnyH P md ops Q S' fuel listed a w→wpAnyH P md ops Q S fuel listed a w|0,_,_,_,h=>h|fuel+1,_,_,_,h=>⟨h.1,fun i hi=>wpOp_mono (fun a' w' h'=>⟨hS _ h'.1,wpAnyH_weak hS fuel _ a' w' h'.2⟩) (h.2 i hi)⟩
theorem tkY{P:Program}{md:Region.Mode}{ops:Array Oper}{Q:Exit→Act→World→Prop}{S:World→Prop}{o2:Op}{o3:TypeId}{o4:String}{o5:Array Edge}{o6:Option (Nat×Bool)}{v:Value}{fuel:Nat}{listed listed':Array Bool}{a a':Act}{w:World}(i:Nat)(d:Tmp)(hi:ops[i]?=some ⟨some d,o2,o3,o4,o5,o6⟩)(h:wpAnyH P md ops Q S fuel listed' a' w)(hs:Region.noSelect ops=true:=by kernel_rfl)(hf:Region.free md ops listed i=true:=by kernel_rfl)(hr:(Region.ready md ops listed).contains i=true:=by kernel_rfl)(hw:Region.wanted ⟨some d,o2,o3,o4,o5,o6⟩ (yielded ops a.tmps)=true:=by rfl)(hy: ∀w,S w→(execOp a.eval ⟨some d,o2,o3,o4,o5,o6⟩).run P w=.ok (.value v) w:=by(intro wz hSz;(try dsimp only at hSz);go_simp;(first|done|with_reducible rfl)))(hQ: ∀c b u,Q (.panic c) (b.put (some d) v) u→Q (.panic c) b u:=by exact fun _ _ _ h=>h)(hS:S w:=by assumption)(hl:listed.setIfInBounds i true=listed':=by(first|(simp only[List.setIfInBounds_toArray,List.set_cons_zero,List.set_cons_succ];rfl)|rfl))(ha:a.put (some d) v=a':=by(first|(simp only[Act.put,List.setIfInBounds_toArray,List.set_cons_zero,List.set_cons_succ];rfl)|rfl)):wpAnyH P md ops Q S (fuel+1) listed a w:=wpAnyH_take hi hs hf hr hQ (Or.inl ⟨hw,hy⟩) hS (by rw[hl,ha];exact h)
theorem tkN{P:Program}{md:Region.Mode}{ops:Array Oper}{Q:Exit→Act→World→Prop}{S:World→Prop}{o2:Op}{o3:TypeId}{o4:String}{o5:Array Edge}{o6:Option (Nat×Bool)}{fuel:Nat}{listed listed':Array Bool}{a a':Act}{w:World}(i:Nat)(d:Tmp)(hi:ops[i]?=some ⟨some d,o2,o3,o4,o5,o6⟩)(h:wpAnyH P md ops Q S fuel listed' a' w)(hs:Region.noSelect ops=true:=by kernel_rfl)(hf:Region.free md ops listed i=true:=by kernel_rfl)(hr:(Region.ready md ops listed).contains i=true:=by kernel_rfl)(hw:Region.wanted ⟨some d,o2,o3,o4,o5,o6⟩ (yielded ops a.tmps)=false:=by rfl)(hQ: ∀c b u,Q (.panic c) (b.put (some d) undef) u→Q (.panic c) b u:=by exact fun _ _ _ h=>h)(hS:S w:=by assumption)(hl:listed.setIfInBounds i true=listed':=by(first|(simp only[List.setIfInBounds_toArray,List.set_cons_zero,List.set_cons_succ];rfl)|rfl))(ha:a.put (some d) undef=a':=by(first|(simp only[Act.put,List.setIfInBounds_toArray,List.set_cons_zero,List.set_cons_succ];rfl)|rfl)):wpAnyH P md ops Q S (fuel+1) listed a w:=wpAnyH_take hi hs hf hr hQ (Or.inr ⟨hw,rfl⟩) hS (by rw[hl,ha];exact h)
section
variable{P:Program}
end
theorem below_drew{B:Nat}{a w:World}(h:Below B a w):Below B a w.drew:=below_drewN h 1
theorem sameT_any(w:World)(B B':Nat)(A A':Option Addr)(n c c':Nat)(es:List Ev)(h:Evs w B A n c es)(h':Evs w B' A' n c' es)(hn:n≤100000):Calls Tryz.prog 14 #[.slice A n c,.slice A' n c'] w fun e w'=>e=.returned (.bool true)∧ ∃k,w'=w.drewN k:=by
 have HH:=qH h;clear h;have HH':=qH h';clear h';have hnn:((n:Int)!=(n:Int))=false:=by simp
 go_enter Tryz.func14,Tryz.ntmps14;go_wp2;clear hnn;go_loopw[13](fun i wr=> ∃k q:Nat,i=.int .i64 k∧k≤n∧wr=w.drewN q)(fun i _=>n-(intOf i).toNat);case atStart=>exact⟨0,0,rfl,Nat.zero_le _,rfl⟩
 case round=>
  obtain⟨k,q,rfl,hk,rfl⟩:=hrel;by_cases hkn:k<n
  ·have hkl:k<es.length:=by rw[HH.out.len];exact hkn
   obtain⟨b,off,rfl,hb,hc⟩:=HH.out.ev k hkl;obtain⟨b',off',rfl,hb',hc'⟩:=HH'.out.ev k hkl;obtain⟨e0,e1,e2,e3,e4,e5,e6,e7⟩:=hc;obtain⟨f0,f1,f2,f3,f4,f5,f6,f7⟩:=hc';have t1:(k:Int)<n:=by omega
   generalize es[k]=x at*;go_wp2;go_quiet(fail);go_wp2;go_roundw;case rel=>exact⟨k+1,q+nq,by go_num,by omega,by first|rfl|exact World.drewN_drewN ..⟩
   case measure=>simp[intOf];omega
  ·go_wp2;go_ret;exact⟨rfl,_,rfl⟩
end Go.Proofs.YtcmmclliabhnjaaGreatDoor
