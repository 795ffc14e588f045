/-
  A region that draws its order, under a stronger condition.
-/
import Derived.Test.YtladegonienapaaGreatDoorRows
import Derived.WalkKit
import Derived.Deep.QuietTactic
import Derived.BigQuiet
import Derived.Lib.Hide
import Derived.WalkSmall
import Derived.Laws.EntriesVeiled
import Derived.Lib.SlBytesConst
import Derived.Maps.AppendAt
import Derived.Deep.AppendLies
import Derived.StringKeys
import Derived.Maps.OwnSet
import Derived.Maps.OwnOps
import Derived.Sort.KeysCollected
import Derived.Deep.RegionHeld
import Derived.Deep.RegionHeld3
set_option maxRecDepth 100000
set_option maxHeartbeats 16000000
namespace Go.Proofs.YtladegonienapaaGreatDoor
theorem qH{p:Prop}(h:p):RowKit.Hid p:=h
theorem qS(p:Prop)(h:p):RowKit.Hid p:=h
theorem _root_.Go.RowKit.Hid.o{p:Prop}(h:RowKit.Hid p):p:=h
open Go.RowKit
structure dP(w:World)(B:Nat)(A:Option Addr)(n c:Nat)(l:List UInt8):Prop where
 len:l.length=n
 cap:n≤c
 max:c≤maxLen
 cell:0<n→ ∃b off,A=some ⟨b,off,none⟩∧b<B∧ ∀i(h:i<l.length),w.cell? ⟨b,off+i,none⟩=some (.int .u8 l[i].toNat)
section
variable{w w':World}{B B' n c:Nat}{A:Option Addr}{l:List UInt8}
theorem dP.keep(h:dP w B A n c l)(hk: ∀p:Addr,p.block<B→w'.cell? p=w.cell? p):dP w' B A n c l:=⟨h.len,h.cap,h.max,fun hn=>by obtain⟨b,off,e,hb,hc⟩:=h.cell hn;exact⟨b,off,e,hb,fun i hi=>(hk _ hb).trans (hc i hi)⟩⟩
theorem dP.more(h:dP w B A n c l)(hB:B≤B'):dP w B' A n c l:=⟨h.len,h.cap,h.max,fun hn=>by obtain⟨b,off,e,hb,hc⟩:=h.cell hn;exact⟨b,off,e,by omega,hc⟩⟩
theorem dP.below(h:dP w B A n c l)(hb:Below B w w'):dP w' B A n c l:=h.keep fun _ hp=>hb.cell hp
theorem dP.drewN(h:dP w B A n c l)(k:Nat):dP (w.drewN k) B A n c l:=h.keep fun _ _=>rfl
theorem dP.nil(w:World)(B:Nat)(A:Option Addr)(c:Nat)(hc:c≤maxLen):dP w B A 0 c []:=⟨rfl,Nat.zero_le _,hc,fun h=>absurd h (by omega)⟩
end
theorem dP.str{P:Program}{w:World}{B n c:Nat}{A:Option Addr}{l:List UInt8}(h:dP w B A n c l)(src e dst:TypeId)(hs:P.underlying src=some (.slice e))(he:P.underlying e=some (.int .u8))(hd:P.underlying dst=some .string):(convert src dst (.slice A n c)).run P w=.ok (.string ⟨l.toArray⟩) w:=by
 rcases Nat.eq_zero_or_pos n with h0|h0
 ·subst h0;have hl:l=[]:=List.eq_nil_of_length_eq_zero h.len;subst hl;rcases A with _|⟨b,off,spot⟩;·exact run_convert_bytes_nil w src e hs he 0 c dst hd
  ·rw[run_convert_bytes_string w src dst e _ 0 c hs he hd];simp[Conv.bytesToString,loadCells];rfl
 ·obtain⟨b,off,rfl,_,hc⟩:=h.cell h0;have:=run_convert_bytes_arg (P:=P) w src e hs he b off n c (l.map fun x=>(x.toNat:Int)) (by simp[h.len]) (fun i hi=>by
   have hi':i<l.length:=by rw[h.len];exact hi
   rw[hc i hi'];simp[List.getElem?_eq_getElem hi']) dst hd;rw[this];simp[strOfNums,Function.comp_def]
theorem dP.cut{w:World}{B n c b off:Nat}{l:List UInt8}(h:dP w B (some ⟨b,off,none⟩) n c l)(lo m:Nat)(hm:lo+m≤n):dP w B (some ⟨b,off+lo,none⟩) m (c-lo) ((l.drop lo).take m):=by
 have hl:=h.len;have hcap:=h.cap;have hmax:=h.max;refine⟨by simp[hl];omega,by omega,by omega,fun h0=>?_⟩;obtain⟨b',off',e,hb,hc⟩:=h.cell (by omega);obtain⟨rfl,rfl⟩:b=b'∧off=off':=by simpa using e
 refine⟨b,off+lo,rfl,hb,fun i hi=>?_⟩;have hi2:i<m:=by simp at hi;omega
 rw[Nat.add_assoc,hc (lo+i) (by omega)];simp
theorem dP.new(w:World)(cs:Array Value)(e:TypeId)(l:List UInt8)(h:cs=(l.map fun x=>Value.int .u8 x.toNat).toArray)(n:Nat)(hn:l.length=n)(hm:n≤maxLen)(fr:Nat×Nat:=(0,0)):dP (w.alloc (.cells cs e fr)) (w.heap.size+1) (some ⟨w.heap.size,0,none⟩) n n l:=by refine⟨hn,Nat.le_refl _,hm,fun _=>⟨w.heap.size,0,rfl,by omega,fun i hi=>?_⟩⟩;rw[cell_of_row _ w.heap.size _ cs e fr (heap_alloc_new w _),h];simp[hi]
theorem Bd(a b:Nat)(ha:a<4611686018427387904)(hb:b<4611686018427387904):bits .or .i64 (a:Int) (b:Int)=((a|||b:Nat):Int):=by have hx:a|||b<2^62:=Nat.or_lt_two_pow (by omega) (by omega);show IntKind.i64.wrap ((BitVec.ofInt 64 (a:Int)|||BitVec.ofInt 64 (b:Int)).toNat:Int)=_;rw[BitVec.toNat_or,BitVec.toNat_ofInt,BitVec.toNat_ofInt,IntKind.wrap_i64];rw[show((a:Int)%((2^64:Nat):Int)).toNat=a by omega,show((b:Int)%((2^64:Nat):Int)).toNat=b by omega];omega
theorem nat_join16(x y:Nat)(hx:x%65536=0)(hy:y<65536):x|||y=x+y:=nat_join 16 x y hx hy
theorem Cn(a b:List UInt8):(⟨a.toArray⟩:ByteArray)++⟨b.toArray⟩=⟨(a++b).toArray⟩:=by apply ByteArray.ext;rw[ByteArray.data_append];simp
theorem qV(l:List UInt8)(a b:Nat):(⟨l.toArray⟩:ByteArray).extract a b=⟨((l.drop a).take (b-a)).toArray⟩:=by apply ByteArray.ext;rw[ByteArray.data_extract];simp[List.take_drop]
theorem Jf{P:Program}(t:TypeId)(h:P.underlying t=some .string)(l:List UInt8)(i j:Int)(a b:Nat)(hi:i=(a:Int))(hj:j=(b:Int))(h1:a≤b)(h2:b≤l.length)(w:World):(Instr.slice t (.string ⟨l.toArray⟩) (some (.int .i64 i)) (some (.int .i64 j)) none).run P w=.ok (.string ⟨((l.drop a).take (b-a)).toArray⟩) w:=by subst hi hj;rw[run_slice_string w t ⟨l.toArray⟩ .i64 .i64 a b h (by omega) (by omega) (by simpa[ByteArray.size]using h2),qV];simp
theorem LU{P:Program}(t:TypeId)(h:P.underlying t=some .string)(l:List UInt8)(j:Int)(b:Nat)(hj:j=(b:Int))(h2:b≤l.length)(w:World):(Instr.slice t (.string ⟨l.toArray⟩) none (some (.int .i64 j)) none).run P w=.ok (.string ⟨(l.take b).toArray⟩) w:=by subst hj;rw[run_slice_string_to_if w t ⟨l.toArray⟩ .i64 b h,if_pos ⟨by omega,by simpa[ByteArray.size]using h2⟩,qV];simp
theorem aa{a b:Bool}(h:a=b):Ending.returned (.bool a)=.returned (.bool b):=by rw[h]
theorem dB{k:IntKind}{a b:Int}(h:a=b):Ending.returned (.int k a)=.returned (.int k b):=by rw[h]
structure aI(w:World)(B size:Nat)(A:Option Addr)(n c:Nat)(xs:List Value):Prop where
 len:xs.length=n*size
 cap:n≤c
 max:c≤maxLen
 cell:0<n→ ∃b off,A=some ⟨b,off,none⟩∧b<B∧ ∀i u,xs[i]?=some u→w.cell? ⟨b,off+i,none⟩=some u
section
variable{w w':World}{B B' size n c:Nat}{A:Option Addr}{xs:List Value}
theorem aI.keep(h:aI w B size A n c xs)(hk: ∀p:Addr,p.block<B→w'.cell? p=w.cell? p):aI w' B size A n c xs:=⟨h.len,h.cap,h.max,fun hn=>by obtain⟨b,off,e,hb,hc⟩:=h.cell hn;exact⟨b,off,e,hb,fun i u hi=>(hk _ hb).trans (hc i u hi)⟩⟩
theorem aI.more(h:aI w B size A n c xs)(hB:B≤B'):aI w B' size A n c xs:=⟨h.len,h.cap,h.max,fun hn=>by obtain⟨b,off,e,hb,hc⟩:=h.cell hn;exact⟨b,off,e,by omega,hc⟩⟩
theorem aI.below(h:aI w B size A n c xs)(hb:Below B w w'):aI w' B size A n c xs:=h.keep fun _ hp=>hb.cell hp
theorem aI.drewN(h:aI w B size A n c xs)(k:Nat):aI (w.drewN k) B size A n c xs:=h.keep fun _ _=>rfl
theorem aI.nil(w:World)(B size:Nat)(A:Option Addr)(c:Nat)(hc:c≤maxLen):aI w B size A 0 c []:=⟨by simp,Nat.zero_le _,hc,fun h=>absurd h (by omega)⟩
theorem aI.new(w:World)(cs:Array Value)(e:TypeId)(hm:n≤maxLen)(hl:cs.size=n*size):aI (w.alloc (.cells cs e)) (w.heap.size+1) size (some ⟨w.heap.size,0,none⟩) n n cs.toList:=by refine⟨by simpa using hl,Nat.le_refl _,hm,fun _=>⟨w.heap.size,0,rfl,by omega,fun i u hi=>?_⟩⟩;rw[cell_of_row _ w.heap.size _ cs e (0,0) (heap_alloc_new w _)];simpa using hi
theorem aI.bz{base:Nat}{e:TypeId}(h:w.ownsRow base e size (.slice A n c) n xs):aI w w.heap.size size A n c xs:=by
 rcases h.2 with⟨e,hl⟩|⟨g,cap,cur,e,hb,hg,hnc,hm,hs,ht⟩;·subst hl;have hxs:xs=[]:=List.eq_nil_of_length_eq_zero (by simpa using h.1);subst hxs;injection e with e1 e2 e3;subst e3;exact aI.nil _ _ _ _ _ (by unfold maxLen;omega)
 ·injection e with e1 e2 e3;subst e1 e3;refine⟨h.1,hnc,hm,fun _=>⟨g,0,rfl,(Array.getElem?_eq_some_iff.1 hg).1,fun i u hi=>?_⟩⟩;have hlt:i<n*size:=by
   rcases Nat.lt_or_ge i (n*size)with h'|h';·exact h'
   ·rw[List.getElem?_eq_none (by rw[h.1];exact h')]at hi;cases hi
  rw[Nat.zero_add,World.ownsRow.cellAt h i hlt,hi]
end
theorem ownsRow_below{w w':World}{base B:Nat}{e:TypeId}{size n:Nat}{v:Value}{xs:List Value}(h:w.ownsRow base e size v n xs)(hb:Below B w w')(hB:w.heap.size≤B):w'.ownsRow base e size v n xs:=by
 refine⟨h.1,?_⟩;rcases h.2 with⟨e,hl⟩|⟨g,cap,cur,e,hb',hg,hr⟩;·exact .inl ⟨e,hl⟩
 ·exact .inr ⟨g,cap,cur,e,hb',(hb.block g (by have:=(Array.getElem?_eq_some_iff.1 hg).1;omega)).trans hg,hr⟩
theorem ownsRow_form{w:World}{base:Nat}{e:TypeId}{size n:Nat}{v:Value}{xs:List Value}(h:w.ownsRow base e size v n xs): ∃A c,v=.slice A n c:=by
 rcases h.2 with⟨e,hl⟩|⟨g,cap,cur,e,_⟩;·exact⟨none,0,by rw[e,hl]⟩
 ·exact⟨_,_,e⟩
theorem mo{w:World}{base base':Nat}{e e':TypeId}{size size' n n':Nat}{v v':Value}{xs xs':List Value}(h:w.ownsRow base e size v n xs)(h':w.ownsRow base' e' size' v' n' xs')(hne:e≠e'):v.ownBlock=none∨v.ownBlock≠v'.ownBlock:=by
 rcases h.2 with⟨rfl,_⟩|⟨g,cap,cur,rfl,_,hg,_⟩;·exact .inl rfl
 ·right;rcases h'.2 with⟨rfl,_⟩|⟨g',cap',cur',rfl,_,hg',_⟩;·simp[Value.ownBlock]
  ·simp only[Value.ownBlock,ne_eq,Option.some.injEq];rintro rfl;rw[hg]at hg';injection hg' with hg';injection hg' with _ ht;exact hne ht
section
variable{P:Program}
theorem Co(w:World)(t ty e:TypeId)(i:TypeInfo)(z:Value)(size bytes:Nat)(ht:P.underlying t=some (.slice e))(hi:P.info? e=some i)(hz:i.zero=some z)(hsize:i.size=size)(hby:i.bytes=bytes)(hzs:z.cells.size=size)(hsz:0<size)(base:Nat)(v:Value)(n:Nat)(xs:List Value)(hown:w.ownsRow base e size v n xs)(B:Nat)(A:Option Addr)(m c:Nat)(ys:List Value)(hr:aI w B size A m c ys)(h1: ∀u∈ys,u.oneCell'=true)(h63:n+m≤maxLen)(hbytes:(n+m)*bytes≤140737488355328)(hbase:base≤w.heap.size): ∃v' w',(Builtin.append_ #[t,t] ty #[v,.slice A m c]).run P w=.ok v' w'∧w'.ownsRow base e size v' (n+m) (xs++ys)∧w.grownBy w' v.ownBlock∧(v'.ownBlock=v.ownBlock∨v'.ownBlock=some w.heap.size):=by
 rcases Nat.eq_zero_or_pos m with h0|h0
 ·subst h0;have hl':ys=[]:=List.eq_nil_of_length_eq_zero (by simpa using hr.len);subst hl';refine⟨v,w,?_,by simpa using hown,World.grownBy.refl w _,.inl rfl⟩;rcases hown.2 with⟨rfl,hn⟩|⟨g,cap,cur,rfl,_,_,hnc,_⟩;·cases A<;>simp[Builtin.append_,run_underlying ht,sizeOf,typeInfo,hi,Builtin.lenOf,Builtin.firstCells,loadCells,loadCellsFrom]
  ·cases A<;>simp[Builtin.append_,run_underlying ht,sizeOf,typeInfo,hi,Builtin.lenOf,Builtin.firstCells,hnc,loadCells,loadCellsFrom,storeCells]
 ·obtain⟨b,off,rfl,_,hc⟩:=hr.cell h0;obtain⟨v',w',h1,h2,h3,_,h5⟩:=run_append_own_at (P:=P) w base t ty e i z size bytes ht hi hz hsize hby hzs hsz v n xs hown ⟨b,off,none⟩ m c ys hr.len (fun j u hj=>by
   have:(⟨b,off,none⟩:Addr).add j=⟨b,off+j,none⟩:=by unfold Addr.add;split<;>simp_all
   rw[this];exact hc j u hj) h1 h63 hbytes hbase;exact⟨v',w',h1,h2,h3,h5⟩
theorem aJ{ops:Array Oper}{rest:List Oper}{o:Oper}{a:Act}{Q:Exit→Act→World→Prop}{w:World}(hgd:o.guard=none)(s x:Operand)(t:TypeId)(ho:o.op=.call {callee:=.builtin .append,args:= #[s,x],argTypes:= #[t,t]})(e:TypeId)(i:TypeInfo)(z:Value)(size bytes:Nat)(ht:P.underlying t=some (.slice e))(hi:P.info? e=some i)(hz:i.zero=some z)(hsize:i.size=size)(hby:i.bytes=bytes)(hzs:z.cells.size=size)(hsz:0<size)(base:Nat)(v:Value)(n:Nat)(xs:List Value)(hs:a.eval s=v)(hown:w.ownsRow base e size v n xs)(B:Nat)(A:Option Addr)(m c:Nat)(ys:List Value)(hx:a.eval x=.slice A m c)(hr:aI w B size A m c ys)(h1: ∀u∈ys,u.oneCell'=true)(h63:n+m≤maxLen)(hbytes:(n+m)*bytes≤140737488355328)(hbase:base≤w.heap.size)(h: ∀v' w',w'.ownsRow base e size v' (n+m) (xs++ys)→w.grownBy w' v.ownBlock→(v'.ownBlock=v.ownBlock∨v'.ownBlock=some w.heap.size)→wpList P ops Q rest (a.put o.dst v') w'):wpList P ops Q (o::rest) a w:=wpList_plain hgd fun K hK=>by obtain⟨v',w',h1,h2,h3,h4⟩:=Co (P:=P) w t o.type e i z size bytes ht hi hz hsize hby hzs hsz base v n xs hown B A m c ys hr h1 h63 hbytes hbase;unfold Oper.wp execOp;simp only[ho,resolve,invoke,builtin,Sem.run_bind,Sem.run_pure,Result.andThen_ok,List.map_toArray,List.map_cons,List.map_nil,hs,hx,h1];exact hK _ _ (h v' w' h2 h3 h4)
end
def sv(l:List UInt8):Value:=.string ⟨l.toArray⟩
structure Ev where
 src:List UInt8
 num:Int
 at_:Int
 kind:Int
 per:List UInt8
 item:List UInt8
 val:Int
 text:List UInt8 deriving DecidableEq
def Ev.cells(e:Ev):List Value:=[.string ⟨e.src.toArray⟩,.int .i64 e.num,.int .i64 e.at_,.int .i64 e.kind,.string ⟨e.per.toArray⟩,.string ⟨e.item.toArray⟩,.int .i64 e.val,.string ⟨e.text.toArray⟩]
def Ev.agg(e:Ev):Value:=.agg #[.string ⟨e.src.toArray⟩,.int .i64 e.num,.int .i64 e.at_,.int .i64 e.kind,.string ⟨e.per.toArray⟩,.string ⟨e.item.toArray⟩,.int .i64 e.val,.string ⟨e.text.toArray⟩]
def au(es:List Ev):List Value:=es.flatMap Ev.cells
theorem fG(es:List Ev):(au es).length=es.length*8:=by induction es with|nil=>rfl|cons e es ih=>simp only[au,List.flatMap_cons,List.length_append,List.length_cons]at*;rw[ih];simp[Ev.cells];omega
theorem kT(a b:List Ev):au (a++b)=au a++au b:=by simp[au]
theorem gG(es:List Ev)(e:Ev):au (es++[e])=au es++e.cells:=by simp[au]
theorem qJ(es:List Ev)(k j:Nat)(hk:k<es.length)(hj:j<8):(au es)[k*8+j]?=es[k].cells[j]?:=by induction es generalizing k with|nil=>simp at hk|cons e es ih=>have hc:e.cells.length=8:=rfl;simp only[au,List.flatMap_cons];cases k with|zero=>rw[Nat.zero_mul,Nat.zero_add,List.getElem?_append_left (by omega)];rfl|succ k=>rw[List.getElem?_append_right (by omega),hc,show(k+1)*8+j-8=k*8+j by omega];exact ih k (by simpa using hk)
def eD(w:World)(B:Nat)(A:Option Addr)(n c:Nat)(es:List Ev):Prop:=aI w B 8 A n c (au es)
theorem eD.len{w:World}{B n c:Nat}{A:Option Addr}{es:List Ev}(h:eD w B A n c es):es.length=n:=by have:=aI.len h;rw[fG]at this;omega
theorem eD.at_{w:World}{B n c:Nat}{A:Option Addr}{es:List Ev}(h:eD w B A n c es)(k:Nat)(hk:k<es.length): ∃b off,A=some ⟨b,off,none⟩∧b<B∧ ∀j u,es[k].cells[j]?=some u→w.cell? ⟨b,off+(k*8+j),none⟩=some u:=by
 have hl:=h.len;obtain⟨b,off,e,hb,hc⟩:=aI.cell h (by omega);refine⟨b,off,e,hb,fun j u hj=>hc _ u ?_⟩;have hj8:j<8:=by
  rcases Nat.lt_or_ge j 8 with h'|h';·exact h'
  ·rw[List.getElem?_eq_none (by show 8≤j;exact h')]at hj;cases hj
 rw[qJ es k j hk hj8,hj]
def xL(w:World)(b o:Nat)(e:Ev):Prop:=w.cell? ⟨b,o,none⟩=some (.string ⟨e.src.toArray⟩)∧w.cell? ⟨b,o+1,none⟩=some (.int .i64 e.num)∧w.cell? ⟨b,o+2,none⟩=some (.int .i64 e.at_)∧w.cell? ⟨b,o+3,none⟩=some (.int .i64 e.kind)∧w.cell? ⟨b,o+4,none⟩=some (.string ⟨e.per.toArray⟩)∧w.cell? ⟨b,o+5,none⟩=some (.string ⟨e.item.toArray⟩)∧w.cell? ⟨b,o+6,none⟩=some (.int .i64 e.val)∧w.cell? ⟨b,o+7,none⟩=some (.string ⟨e.text.toArray⟩)
theorem eD.ev{w:World}{B n c:Nat}{A:Option Addr}{es:List Ev}(h:eD w B A n c es)(k:Nat)(hk:k<es.length): ∃b off,A=some ⟨b,off,none⟩∧b<B∧xL w b (off+k*8) es[k]:=by
 obtain⟨b,off,e,hb,hc⟩:=h.at_ k hk;have key: ∀j u,es[k].cells[j]?=some u→w.cell? ⟨b,off+k*8+j,none⟩=some u:=fun j u hj=>by rw[Nat.add_assoc];exact hc j u hj
 exact⟨b,off,e,hb,key 0 _ rfl,key 1 _ rfl,key 2 _ rfl,key 3 _ rfl,key 4 _ rfl,key 5 _ rfl,key 6 _ rfl,key 7 _ rfl⟩
theorem xL.below{w w':World}{b o B:Nat}{e:Ev}(h:xL w b o e)(hb:Below B w w')(hB:b<B):xL w' b o e:=by obtain⟨h0,h1,h2,h3,h4,h5,h6,h7⟩:=h;have key: ∀(o:Nat)u,w.cell? ⟨b,o,none⟩=some u→w'.cell? ⟨b,o,none⟩=some u:=fun o u hu=>(hb.cell (p:=⟨b,o,none⟩) hB).trans hu;exact⟨key _ _ h0,key _ _ h1,key _ _ h2,key _ _ h3,key _ _ h4,key _ _ h5,key _ _ h6,key _ _ h7⟩
abbrev aj(e:Ev):Obj:=.cells #[.string ⟨e.src.toArray⟩,.int .i64 e.num,.int .i64 e.at_,.int .i64 e.kind,.string ⟨e.per.toArray⟩,.string ⟨e.item.toArray⟩,.int .i64 e.val,.string ⟨e.text.toArray⟩] 28
def dK(w:World)(b:Nat)(e:Ev):Prop:=w.cell? ⟨b,0,none⟩=some (.string ⟨e.src.toArray⟩)∧w.cell? ⟨b,1,none⟩=some (.int .i64 e.num)∧w.cell? ⟨b,2,none⟩=some (.int .i64 e.at_)∧w.cell? ⟨b,3,none⟩=some (.int .i64 e.kind)∧w.cell? ⟨b,4,none⟩=some (.string ⟨e.per.toArray⟩)∧w.cell? ⟨b,5,none⟩=some (.string ⟨e.item.toArray⟩)∧w.cell? ⟨b,6,none⟩=some (.int .i64 e.val)∧w.cell? ⟨b,7,none⟩=some (.string ⟨e.text.toArray⟩)
theorem dK.new(w:World)(e:Ev):dK (w.alloc (aj e)) w.heap.size e:=by have key: ∀o,(w.alloc (aj e)).cell? ⟨w.heap.size,o,none⟩=_:=fun o=>cell_of_row _ w.heap.size o _ _ (0,0) (heap_alloc_new w (aj e));exact⟨(key 0).trans rfl,(key 1).trans rfl,(key 2).trans rfl,(key 3).trans rfl,(key 4).trans rfl,(key 5).trans rfl,(key 6).trans rfl,(key 7).trans rfl⟩
theorem dK.below{w w':World}{b B:Nat}{e:Ev}(h:dK w b e)(hb:Below B w w')(hB:b<B):dK w' b e:=by obtain⟨h0,h1,h2,h3,h4,h5,h6,h7⟩:=h;have key: ∀(o:Nat)u,w.cell? ⟨b,o,none⟩=some u→w'.cell? ⟨b,o,none⟩=some u:=fun o u hu=>(hb.cell (p:=⟨b,o,none⟩) hB).trans hu;exact⟨key _ _ h0,key _ _ h1,key _ _ h2,key _ _ h3,key _ _ h4,key _ _ h5,key _ _ h6,key _ _ h7⟩
theorem cells_one(e:Ev): ∀u∈e.cells,u.oneCell'=true:=by intro u hu;simp only[Ev.cells,List.mem_cons,List.not_mem_nil,or_false]at hu;rcases hu with rfl|rfl|rfl|rfl|rfl|rfl|rfl|rfl<;>rfl
theorem jX:(Tryz.prog.info? 28).map (fun i=>(i.zero,i.size,i.bytes))=some (some (.agg #[.string ByteArray.empty,.int .i64 0,.int .i64 0,.int .i64 0,.string ByteArray.empty,.string ByteArray.empty,.int .i64 0,.string ByteArray.empty]),8,96):=by kernel_rfl
open Go.Maps Go.Sort
theorem mX:Keyed Tryz.prog 9:=string_keyed Tryz.underlying9
theorem KP(w:World):(zeroValue 4).run Tryz.prog w=.ok (.bool false) w:=by kernel_rfl
theorem iB{P:Program}{e:TypeId}(he:P.underlying e=some .bool){v:Value}{x:Bool}{ps:List MemPlace}(h:plainElem (H:=Unit) P e v=some (.lit (.bool x),ps)):v=.bool x:=by cases v<;>simp[plainElem,he]at h;rw[h.1]
def dJ(w:World)(b n:Nat)(ks:List (List UInt8)):Prop:= ∃D:DataW Unit,w.ownsMap Tryz.prog 9 (plainElem Tryz.prog 4) b n D∧Tidy D∧ ∀k:List UInt8,D.atKey (.string k) (.lit (.bool false))=.lit (.bool (decide (k∈ks)))∧has D (.string k)=decide (k∈ks)
theorem dJ.made(w:World):dJ (w.alloc (.map #[] 0)) w.heap.size 0 []:=⟨.map [],World.ownsMap_made _ _ _ _,tidy_empty,fun k=>⟨by simp[DataW.atKey],by simp[has]⟩⟩
theorem dJ.lt{w:World}{b n:Nat}{ks:List (List UInt8)}(h:dJ w b n ks):b<w.heap.size:=by obtain⟨D,h1,_⟩:=h;exact h1.lt
theorem dJ.block{w w':World}{b n:Nat}{ks:List (List UInt8)}(h:dJ w b n ks)(hb:w'.heap[b]?=w.heap[b]?):dJ w' b n ks:=by obtain⟨D,⟨es,clock,h1,h2⟩,h3⟩:=h;exact⟨D,⟨es,clock,hb.trans h1,h2⟩,h3⟩
theorem dJ.alloc{w:World}{b n:Nat}{ks:List (List UInt8)}(h:dJ w b n ks)(o:Obj):dJ (w.alloc o) b n ks:=h.block (Below.heap_alloc w o b h.lt)
theorem dJ.drewN{w:World}{b n:Nat}{ks:List (List UInt8)}(h:dJ w b n ks)(k:Nat):dJ (w.drewN k) b n ks:=h.block rfl
theorem eY(k:List UInt8)(hk:k.length≤maxLen):keyOf Tryz.prog 9 (.string ⟨k.toArray⟩)=some (.string k):=by have:=WideMaps.keyOf_string_mk (P:=Tryz.prog) Tryz.underlying9 (s:=⟨k.toArray⟩) (by simpa[ByteArray.size]using hk);simpa using this
theorem dJ.look{w:World}{b n:Nat}{ks:List (List UInt8)}(h:dJ w b n ks)(k:List UInt8)(hk:k.length≤maxLen):(Instr.lookup 77 (.map (some b)) (.string ⟨k.toArray⟩) false).run Tryz.prog w=.ok (.bool (decide (k∈ks))) w:=by obtain⟨D,h1,_,h3⟩:=h;obtain⟨v,ps,hr,hv⟩:=h1.lookup mX Tryz.underlying77 (KP w) (plainElem_bool (P:=Tryz.prog) Tryz.underlying4 false) (eY k hk);rw[hr];rw[(h3 k).1]at hv;rw[iB Tryz.underlying4 hv]
theorem dJ.put{w:World}{b n:Nat}{ks:List (List UInt8)}(h:dJ w b n ks)(hn:n<maxLen)(k:List UInt8)(hk:k.length≤maxLen): ∃w',(Instr.mapUpdate 77 (.map (some b)) (.string ⟨k.toArray⟩) (.bool true)).run Tryz.prog w=.ok () w'∧dJ w' b (n+1) (k::ks)∧w.grownBy w' (some b):=by
 obtain⟨D,h1,h2,h3⟩:=h;obtain⟨w',hr,r1,r2⟩:=h1.update mX Tryz.underlying77 hn (eY k hk) (plainElem_bool (P:=Tryz.prog) Tryz.underlying4 true);have hkl:WideAt.IsKeyLit (.string k):=mX.key (eY k hk);refine⟨w',hr,⟨D.put (.string k) (.lit (.bool true)),r1,h2.put hkl _,fun x=>?_⟩,r2⟩;by_cases e:x=k;·subst e;exact⟨by rw[atKey_put_same h2.isMap hkl];simp,by rw[has_put_same h2.isMap hkl];simp⟩
 ·have hne:Lit.string x≠.string k:=fun h=>e (by injection h);rw[atKey_put_other hne,has_put_other hne,(h3 x).1,(h3 x).2];have:decide (x∈k::ks)=decide (x∈ks):=by simp[e]
  rw[this];exact⟨rfl,rfl⟩
theorem uy{ops:Array Oper}{rest:List Oper}{o:Oper}{a:Act}{Q:Exit→Act→World→Prop}{w:World}(hg:o.guard=none)(m x v:Operand)(hop:o.op=Op.mapUpdate 77 m x v)(b n:Nat)(ks:List (List UInt8))(hm:a.eval m=.map (some b))(hown:dJ w b n ks)(hn:n<maxLen)(k:List UInt8)(hx:a.eval x=.string ⟨k.toArray⟩)(hk:k.length≤maxLen)(hv:a.eval v=.bool true)(h: ∀w',dJ w' b (n+1) (k::ks)→w.grownBy w' (some b)→wpList Tryz.prog ops Q rest (a.put o.dst undef) w'):wpList Tryz.prog ops Q (o::rest) a w:=by refine wpList_plain hg fun K hK=>?_;obtain⟨w',hr,h1,h2⟩:=hown.put hn k hk;unfold Oper.wp;simp[execOp,hop,hm,hx,hv,hr,Result.andThen];exact hK _ _ (h w' h1 h2)
theorem dJ.perm{w:World}{b n:Nat}{ks:List (List UInt8)}{D:DataW Unit}(h1:w.ownsMap Tryz.prog 9 (plainElem Tryz.prog 4) b n D)(h3: ∀k:List UInt8,has D (.string k)=decide (k∈ks)){ss:List (List UInt8)}(hnd:ss.Nodup)(hm: ∀x,x∈ss↔x∈ks):ss.Perm (strKeys D):=by
 obtain⟨es,hD,hpw,_⟩:=h1.entries mX;obtain⟨es',hD',hko⟩:=h1.keysOf;obtain rfl:es=es':=by rw[hD]at hD';simpa using hD'
 subst hD;exact perm_strKeys hpw (fun p hp=>by obtain⟨v,hv⟩:=hko p hp;obtain⟨x,_,hx,_⟩:=Maps.keyOf_str Tryz.underlying9 hv;exact⟨x,hx⟩) hnd (fun x=>by rw[h3 x,hm x];simp)
section
variable{P:Program}
theorem aI.from_{w:World}{B size n c:Nat}{A:Option Addr}{xs:List Value}(h:aI w B size A n c xs)(m:Nat)(hm:m≤n):aI w B size (if c=m then A else A.map (·.add (m*size))) (n-m) (c-m) (xs.drop (m*size)):=by
 have hl:=h.len;have hcap:=h.cap;have hmax:=h.max;refine⟨by rw[List.length_drop,hl,Nat.sub_mul],by omega,by omega,fun h0=>?_⟩;obtain⟨b,off,e,hb,hc⟩:=h.cell (by omega);refine⟨b,off+m*size,?_,hb,fun i u hi=>?_⟩;·rw[if_neg (by omega),e];simp[Addr.add]
 ·rw[List.getElem?_drop]at hi;rw[Nat.add_assoc];exact hc _ u hi
theorem aI.upto{w:World}{B size n c:Nat}{A:Option Addr}{xs:List Value}(h:aI w B size A n c xs)(m:Nat)(hm:m≤n):aI w B size A m c (xs.take (m*size)):=by
 have hl:=h.len;have hcap:=h.cap;have hle:m*size≤n*size:=Nat.mul_le_mul_right _ hm;refine⟨by rw[List.length_take,hl];omega,by omega,h.max,fun h0=>?_⟩;obtain⟨b,off,e,hb,hc⟩:=h.cell (by omega);refine⟨b,off,e,hb,fun i u hi=>?_⟩;rw[List.getElem?_take]at hi;split at hi;·exact hc _ u hi
 ·cases hi
theorem uG(l:List Ev)(m:Nat):(au l).drop (m*8)=au (l.drop m):=by induction l generalizing m with|nil=>simp[au]|cons e l ih=>cases m with|zero=>simp|succ m=>have h8:e.cells.length=8:=rfl;have e1:au (e::l)=e.cells++au l:=rfl;rw[e1,List.drop_succ_cons,←ih m,show(m+1)*8=e.cells.length+m*8 by omega,List.drop_append,List.drop_of_length_le (by omega),Nat.add_sub_cancel_left];rfl
theorem uF(l:List Ev)(m:Nat):(au l).take (m*8)=au (l.take m):=by induction l generalizing m with|nil=>simp[au]|cons e l ih=>cases m with|zero=>simp[au]|succ m=>have h8:e.cells.length=8:=rfl;have e1:au (e::l)=e.cells++au l:=rfl;have e2:au ((e::l).take (m+1))=e.cells++au (l.take m):=rfl;rw[e1,e2,←ih m,show(m+1)*8=e.cells.length+m*8 by omega,List.take_append,List.take_of_length_le (by omega),Nat.add_sub_cancel_left]
theorem FH{ops:Array Oper}{o:Oper}{a:Act}{w:World}{K:Act→World→Prop}{Q:Exit→Act→World→Prop}{E:Prop}(hgd:o.guard=none)(s x:Operand)(t:TypeId)(ho:o.op=.call {callee:=.builtin .append,args:= #[s,x],argTypes:= #[t,t]})(e:TypeId)(i:TypeInfo)(z:Value)(size bytes:Nat)(ht:P.underlying t=some (.slice e))(hi:P.info? e=some i)(hz:i.zero=some z)(hsize:i.size=size)(hby:i.bytes=bytes)(hzs:z.cells.size=size)(hsz:0<size)(base:Nat)(v:Value)(n:Nat)(xs:List Value)(hs:a.eval s=v)(hown:w.ownsRow base e size v n xs)(B:Nat)(A:Option Addr)(m c:Nat)(ys:List Value)(hx:a.eval x=.slice A m c)(hr:aI w B size A m c ys)(h1: ∀u∈ys,u.oneCell'=true)(h63:n+m≤maxLen)(hbytes:(n+m)*bytes≤140737488355328)(hbase:base≤w.heap.size)(h: ∀v' w',w'.ownsRow base e size v' (n+m) (xs++ys)→w.grownBy w' v.ownBlock→(v'.ownBlock=v.ownBlock∨v'.ownBlock=some w.heap.size)→K (a.put o.dst v') w'):if Region.wanted o (yielded ops a.tmps)=true then Oper.wp P o a w K Q else E:=by
 have hw:Region.wanted o (yielded ops a.tmps)=true:=by simp[Region.wanted,hgd]
 rw[if_pos hw];obtain⟨v',w',h1,h2,h3,h4⟩:=Co (P:=P) w t o.type e i z size bytes ht hi hz hsize hby hzs hsz base v n xs hown B A m c ys hr h1 h63 hbytes hbase;unfold Oper.wp execOp;simp only[ho,resolve,invoke,builtin,Sem.run_bind,Sem.run_pure,Result.andThen_ok,List.map_toArray,List.map_cons,List.map_nil,hs,hx,h1];exact h v' w' h2 h3 h4
end
theorem aT{B:Nat}{a w:World}(h:Below B a w):Below B a w.drew:=below_drewN h 1
theorem qg{P:Program}{md:Region.Mode}{ops:Array Oper}{Q:Exit→Act→World→Prop}{S S':World→Prop}(hS: ∀w,S' w→S w): ∀(fuel:Nat)(listed:Array Bool)(a:Act)(w:World),wpAnyH P md ops Q S' fuel listed a w→wpAnyH P md ops Q S fuel listed a w|0,_,_,_,h=>h|fuel+1,_,_,_,h=>⟨h.1,fun i hi=>wpOp_mono (fun a' w' h'=>⟨hS _ h'.1,qg hS fuel _ a' w' h'.2⟩) (h.2 i hi)⟩
theorem dn{P:Program}{md:Region.Mode}{ops:Array Oper}{Q:Exit→Act→World→Prop}{S:World→Prop}{o2:Op}{o3:TypeId}{o4:String}{o5:Array Edge}{o6:Option (Nat×Bool)}{v:Value}{fuel:Nat}{listed listed':Array Bool}{a a':Act}{w:World}(i:Nat)(d:Tmp)(hi:ops[i]?=some ⟨some d,o2,o3,o4,o5,o6⟩)(h:wpAnyH P md ops Q S fuel listed' a' w)(hs:Region.noSelect ops=true:=by kernel_rfl)(hf:Region.free md ops listed i=true:=by kernel_rfl)(hr:(Region.ready md ops listed).contains i=true:=by kernel_rfl)(hw:Region.wanted ⟨some d,o2,o3,o4,o5,o6⟩ (yielded ops a.tmps)=true:=by rfl)(hy: ∀w,S w→(execOp a.eval ⟨some d,o2,o3,o4,o5,o6⟩).run P w=.ok (.value v) w:=by(intro wz hSz;(try dsimp only at hSz);go_simp;(first|done|with_reducible rfl)))(hQ: ∀c b u,Q (.panic c) (b.put (some d) v) u→Q (.panic c) b u:=by exact fun _ _ _ h=>h)(hS:S w:=by assumption)(hl:listed.setIfInBounds i true=listed':=by(first|(simp only[List.setIfInBounds_toArray,List.set_cons_zero,List.set_cons_succ];rfl)|rfl))(ha:a.put (some d) v=a':=by(first|(simp only[Act.put,List.setIfInBounds_toArray,List.set_cons_zero,List.set_cons_succ];rfl)|rfl)):wpAnyH P md ops Q S (fuel+1) listed a w:=wpAnyH_take hi hs hf hr hQ (Or.inl ⟨hw,hy⟩) hS (by rw[hl,ha];exact h)
theorem gp{P:Program}{md:Region.Mode}{ops:Array Oper}{Q:Exit→Act→World→Prop}{S:World→Prop}{o2:Op}{o3:TypeId}{o4:String}{o5:Array Edge}{o6:Option (Nat×Bool)}{fuel:Nat}{listed listed':Array Bool}{a a':Act}{w:World}(i:Nat)(d:Tmp)(hi:ops[i]?=some ⟨some d,o2,o3,o4,o5,o6⟩)(h:wpAnyH P md ops Q S fuel listed' a' w)(hs:Region.noSelect ops=true:=by kernel_rfl)(hf:Region.free md ops listed i=true:=by kernel_rfl)(hr:(Region.ready md ops listed).contains i=true:=by kernel_rfl)(hw:Region.wanted ⟨some d,o2,o3,o4,o5,o6⟩ (yielded ops a.tmps)=false:=by rfl)(hQ: ∀c b u,Q (.panic c) (b.put (some d) undef) u→Q (.panic c) b u:=by exact fun _ _ _ h=>h)(hS:S w:=by assumption)(hl:listed.setIfInBounds i true=listed':=by(first|(simp only[List.setIfInBounds_toArray,List.set_cons_zero,List.set_cons_succ];rfl)|rfl))(ha:a.put (some d) undef=a':=by(first|(simp only[Act.put,List.setIfInBounds_toArray,List.set_cons_zero,List.set_cons_succ];rfl)|rfl)):wpAnyH P md ops Q S (fuel+1) listed a w:=wpAnyH_take hi hs hf hr hQ (Or.inr ⟨hw,rfl⟩) hS (by rw[hl,ha];exact h)
end Go.Proofs.YtladegonienapaaGreatDoor
