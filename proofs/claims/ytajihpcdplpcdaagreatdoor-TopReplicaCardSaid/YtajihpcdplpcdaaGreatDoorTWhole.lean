/-
  A region that draws its order, under a stronger condition.
-/
import Derived.Test.YtajihpcdplpcdaaGreatDoorRows
import Derived.WalkKit
import Derived.Deep.QuietTactic
import Derived.BigQuiet
import Derived.Lib.Hide
import Derived.WalkSmall
import Derived.Laws.EntriesVeiled
import Derived.Lib.SlBytesConst
import Derived.Maps.AppendAt
import Derived.Deep.AppendLies
import Derived.Laws.Tables
import Derived.Deep.WholeRow
import Derived.Deep.MidRow
import Derived.Deep.RegionHeld
import Derived.Deep.RegionHeld3
set_option maxRecDepth 100000
set_option maxHeartbeats 16000000
namespace Go.Proofs.YtajihpcdplpcdaaGreatDoor
theorem qH{p:Prop}(h:p):RowKit.Hid p:=h
open Go.RowKit
structure Byt(w:World)(B:Nat)(A:Option Addr)(n c:Nat)(l:List UInt8):Prop where
 len:l.length=n
 cap:n≤c
 max:c≤maxLen
 cell:0<n→ ∃b off,A=some ⟨b,off,none⟩∧b<B∧ ∀i(h:i<l.length),w.cell? ⟨b,off+i,none⟩=some (.int .u8 l[i].toNat)
section
variable{w w':World}{B B' n c:Nat}{A:Option Addr}{l:List UInt8}
theorem Byt.keep(h:Byt w B A n c l)(hk: ∀p:Addr,p.block<B→w'.cell? p=w.cell? p):Byt w' B A n c l:=⟨h.len,h.cap,h.max,fun hn=>by obtain⟨b,off,e,hb,hc⟩:=h.cell hn;exact⟨b,off,e,hb,fun i hi=>(hk _ hb).trans (hc i hi)⟩⟩
theorem Byt.more(h:Byt w B A n c l)(hB:B≤B'):Byt w B' A n c l:=⟨h.len,h.cap,h.max,fun hn=>by obtain⟨b,off,e,hb,hc⟩:=h.cell hn;exact⟨b,off,e,by omega,hc⟩⟩
theorem Byt.below(h:Byt w B A n c l)(hb:Below B w w'):Byt w' B A n c l:=h.keep fun _ hp=>hb.cell hp
theorem Byt.drewN(h:Byt w B A n c l)(k:Nat):Byt (w.drewN k) B A n c l:=h.keep fun _ _=>rfl
theorem Byt.nil(w:World)(B:Nat)(A:Option Addr)(c:Nat)(hc:c≤maxLen):Byt w B A 0 c []:=⟨rfl,Nat.zero_le _,hc,fun h=>absurd h (by omega)⟩
end
theorem Byt.str{P:Program}{w:World}{B n c:Nat}{A:Option Addr}{l:List UInt8}(h:Byt w B A n c l)(src e dst:TypeId)(hs:P.underlying src=some (.slice e))(he:P.underlying e=some (.int .u8))(hd:P.underlying dst=some .string):(convert src dst (.slice A n c)).run P w=.ok (.string ⟨l.toArray⟩) w:=by
 rcases Nat.eq_zero_or_pos n with h0|h0
 ·subst h0;have hl:l=[]:=List.eq_nil_of_length_eq_zero h.len;subst hl;rcases A with _|⟨b,off,spot⟩;·exact run_convert_bytes_nil w src e hs he 0 c dst hd
  ·rw[run_convert_bytes_string w src dst e _ 0 c hs he hd];simp[Conv.bytesToString,loadCells];rfl
 ·obtain⟨b,off,rfl,_,hc⟩:=h.cell h0;have:=run_convert_bytes_arg (P:=P) w src e hs he b off n c (l.map fun x=>(x.toNat:Int)) (by simp[h.len]) (fun i hi=>by
   have hi':i<l.length:=by rw[h.len];exact hi
   rw[hc i hi'];simp[List.getElem?_eq_getElem hi']) dst hd;rw[this];simp[strOfNums,Function.comp_def]
theorem Byt.cut{w:World}{B n c b off:Nat}{l:List UInt8}(h:Byt w B (some ⟨b,off,none⟩) n c l)(lo m:Nat)(hm:lo+m≤n):Byt w B (some ⟨b,off+lo,none⟩) m (c-lo) ((l.drop lo).take m):=by
 have hl:=h.len;have hcap:=h.cap;have hmax:=h.max;refine⟨by simp[hl];omega,by omega,by omega,fun h0=>?_⟩;obtain⟨b',off',e,hb,hc⟩:=h.cell (by omega);obtain⟨rfl,rfl⟩:b=b'∧off=off':=by simpa using e
 refine⟨b,off+lo,rfl,hb,fun i hi=>?_⟩;have hi2:i<m:=by simp at hi;omega
 rw[Nat.add_assoc,hc (lo+i) (by omega)];simp
theorem Byt.new(w:World)(cs:Array Value)(e:TypeId)(l:List UInt8)(h:cs=(l.map fun x=>Value.int .u8 x.toNat).toArray)(n:Nat)(hn:l.length=n)(hm:n≤maxLen)(fr:Nat×Nat:=(0,0)):Byt (w.alloc (.cells cs e fr)) (w.heap.size+1) (some ⟨w.heap.size,0,none⟩) n n l:=by refine⟨hn,Nat.le_refl _,hm,fun _=>⟨w.heap.size,0,rfl,by omega,fun i hi=>?_⟩⟩;rw[cell_of_row _ w.heap.size _ cs e fr (heap_alloc_new w _),h];simp[hi]
theorem i64_or_nat(a b:Nat)(ha:a<4611686018427387904)(hb:b<4611686018427387904):bits .or .i64 (a:Int) (b:Int)=((a|||b:Nat):Int):=by have hx:a|||b<2^62:=Nat.or_lt_two_pow (by omega) (by omega);show IntKind.i64.wrap ((BitVec.ofInt 64 (a:Int)|||BitVec.ofInt 64 (b:Int)).toNat:Int)=_;rw[BitVec.toNat_or,BitVec.toNat_ofInt,BitVec.toNat_ofInt,IntKind.wrap_i64];rw[show((a:Int)%((2^64:Nat):Int)).toNat=a by omega,show((b:Int)%((2^64:Nat):Int)).toNat=b by omega];omega
theorem nat_join16(x y:Nat)(hx:x%65536=0)(hy:y<65536):x|||y=x+y:=nat_join 16 x y hx hy
theorem str_app(a b:List UInt8):(⟨a.toArray⟩:ByteArray)++⟨b.toArray⟩=⟨(a++b).toArray⟩:=by apply ByteArray.ext;rw[ByteArray.data_append];simp
theorem ret_bool{a b:Bool}(h:a=b):Ending.returned (.bool a)=.returned (.bool b):=by rw[h]
theorem ret_int{k:IntKind}{a b:Int}(h:a=b):Ending.returned (.int k a)=.returned (.int k b):=by rw[h]
structure Cel(w:World)(B size:Nat)(A:Option Addr)(n c:Nat)(xs:List Value):Prop where
 len:xs.length=n*size
 cap:n≤c
 max:c≤maxLen
 cell:0<n→ ∃b off,A=some ⟨b,off,none⟩∧b<B∧ ∀i u,xs[i]?=some u→w.cell? ⟨b,off+i,none⟩=some u
section
variable{w w':World}{B B' size n c:Nat}{A:Option Addr}{xs:List Value}
theorem Cel.keep(h:Cel w B size A n c xs)(hk: ∀p:Addr,p.block<B→w'.cell? p=w.cell? p):Cel w' B size A n c xs:=⟨h.len,h.cap,h.max,fun hn=>by obtain⟨b,off,e,hb,hc⟩:=h.cell hn;exact⟨b,off,e,hb,fun i u hi=>(hk _ hb).trans (hc i u hi)⟩⟩
theorem Cel.more(h:Cel w B size A n c xs)(hB:B≤B'):Cel w B' size A n c xs:=⟨h.len,h.cap,h.max,fun hn=>by obtain⟨b,off,e,hb,hc⟩:=h.cell hn;exact⟨b,off,e,by omega,hc⟩⟩
theorem Cel.below(h:Cel w B size A n c xs)(hb:Below B w w'):Cel w' B size A n c xs:=h.keep fun _ hp=>hb.cell hp
theorem Cel.drewN(h:Cel w B size A n c xs)(k:Nat):Cel (w.drewN k) B size A n c xs:=h.keep fun _ _=>rfl
theorem Cel.nil(w:World)(B size:Nat)(A:Option Addr)(c:Nat)(hc:c≤maxLen):Cel w B size A 0 c []:=⟨by simp,Nat.zero_le _,hc,fun h=>absurd h (by omega)⟩
theorem Cel.new(w:World)(cs:Array Value)(e:TypeId)(hm:n≤maxLen)(hl:cs.size=n*size):Cel (w.alloc (.cells cs e)) (w.heap.size+1) size (some ⟨w.heap.size,0,none⟩) n n cs.toList:=by refine⟨by simpa using hl,Nat.le_refl _,hm,fun _=>⟨w.heap.size,0,rfl,by omega,fun i u hi=>?_⟩⟩;rw[cell_of_row _ w.heap.size _ cs e (0,0) (heap_alloc_new w _)];simpa using hi
theorem Cel.of_own{base:Nat}{e:TypeId}(h:w.ownsRow base e size (.slice A n c) n xs):Cel w w.heap.size size A n c xs:=by
 rcases h.2 with⟨e,hl⟩|⟨g,cap,cur,e,hb,hg,hnc,hm,hs,ht⟩;·subst hl;have hxs:xs=[]:=List.eq_nil_of_length_eq_zero (by simpa using h.1);subst hxs;injection e with e1 e2 e3;subst e3;exact Cel.nil _ _ _ _ _ (by unfold maxLen;omega)
 ·injection e with e1 e2 e3;subst e1 e3;refine⟨h.1,hnc,hm,fun _=>⟨g,0,rfl,(Array.getElem?_eq_some_iff.1 hg).1,fun i u hi=>?_⟩⟩;have hlt:i<n*size:=by
   rcases Nat.lt_or_ge i (n*size)with h'|h';·exact h'
   ·rw[List.getElem?_eq_none (by rw[h.1];exact h')]at hi;cases hi
  rw[Nat.zero_add,World.ownsRow.cellAt h i hlt,hi]
end
theorem ownsRow_below{w w':World}{base B:Nat}{e:TypeId}{size n:Nat}{v:Value}{xs:List Value}(h:w.ownsRow base e size v n xs)(hb:Below B w w')(hB:w.heap.size≤B):w'.ownsRow base e size v n xs:=by
 refine⟨h.1,?_⟩;rcases h.2 with⟨e,hl⟩|⟨g,cap,cur,e,hb',hg,hr⟩;·exact .inl ⟨e,hl⟩
 ·exact .inr ⟨g,cap,cur,e,hb',(hb.block g (by have:=(Array.getElem?_eq_some_iff.1 hg).1;omega)).trans hg,hr⟩
theorem ownsRow_form{w:World}{base:Nat}{e:TypeId}{size n:Nat}{v:Value}{xs:List Value}(h:w.ownsRow base e size v n xs): ∃A c,v=.slice A n c:=by
 rcases h.2 with⟨e,hl⟩|⟨g,cap,cur,e,_⟩;·exact⟨none,0,by rw[e,hl]⟩
 ·exact⟨_,_,e⟩
theorem ownsRow_apart{w:World}{base base':Nat}{e e':TypeId}{size size' n n':Nat}{v v':Value}{xs xs':List Value}(h:w.ownsRow base e size v n xs)(h':w.ownsRow base' e' size' v' n' xs')(hne:e≠e'):v.ownBlock=none∨v.ownBlock≠v'.ownBlock:=by
 rcases h.2 with⟨rfl,_⟩|⟨g,cap,cur,rfl,_,hg,_⟩;·exact .inl rfl
 ·right;rcases h'.2 with⟨rfl,_⟩|⟨g',cap',cur',rfl,_,hg',_⟩;·simp[Value.ownBlock]
  ·simp only[Value.ownBlock,ne_eq,Option.some.injEq];rintro rfl;rw[hg]at hg';injection hg' with hg';injection hg' with _ ht;exact hne ht
section
variable{P:Program}
theorem run_app(w:World)(t ty e:TypeId)(i:TypeInfo)(z:Value)(size bytes:Nat)(ht:P.underlying t=some (.slice e))(hi:P.info? e=some i)(hz:i.zero=some z)(hsize:i.size=size)(hby:i.bytes=bytes)(hzs:z.cells.size=size)(hsz:0<size)(base:Nat)(v:Value)(n:Nat)(xs:List Value)(hown:w.ownsRow base e size v n xs)(B:Nat)(A:Option Addr)(m c:Nat)(ys:List Value)(hr:Cel w B size A m c ys)(h1: ∀u∈ys,u.oneCell'=true)(h63:n+m≤maxLen)(hbytes:(n+m)*bytes≤140737488355328)(hbase:base≤w.heap.size): ∃v' w',(Builtin.append_ #[t,t] ty #[v,.slice A m c]).run P w=.ok v' w'∧w'.ownsRow base e size v' (n+m) (xs++ys)∧w.grownBy w' v.ownBlock∧(v'.ownBlock=v.ownBlock∨v'.ownBlock=some w.heap.size):=by
 rcases Nat.eq_zero_or_pos m with h0|h0
 ·subst h0;have hl':ys=[]:=List.eq_nil_of_length_eq_zero (by simpa using hr.len);subst hl';refine⟨v,w,?_,by simpa using hown,World.grownBy.refl w _,.inl rfl⟩;rcases hown.2 with⟨rfl,hn⟩|⟨g,cap,cur,rfl,_,_,hnc,_⟩;·cases A<;>simp[Builtin.append_,run_underlying ht,sizeOf,typeInfo,hi,Builtin.lenOf,Builtin.firstCells,loadCells,loadCellsFrom]
  ·cases A<;>simp[Builtin.append_,run_underlying ht,sizeOf,typeInfo,hi,Builtin.lenOf,Builtin.firstCells,hnc,loadCells,loadCellsFrom,storeCells]
 ·obtain⟨b,off,rfl,_,hc⟩:=hr.cell h0;obtain⟨v',w',h1,h2,h3,_,h5⟩:=run_append_own_at (P:=P) w base t ty e i z size bytes ht hi hz hsize hby hzs hsz v n xs hown ⟨b,off,none⟩ m c ys hr.len (fun j u hj=>by
   have:(⟨b,off,none⟩:Addr).add j=⟨b,off+j,none⟩:=by unfold Addr.add;split<;>simp_all
   rw[this];exact hc j u hj) h1 h63 hbytes hbase;exact⟨v',w',h1,h2,h3,h5⟩
theorem wpList_app{ops:Array Oper}{rest:List Oper}{o:Oper}{a:Act}{Q:Exit→Act→World→Prop}{w:World}(hgd:o.guard=none)(s x:Operand)(t:TypeId)(ho:o.op=.call {callee:=.builtin .append,args:= #[s,x],argTypes:= #[t,t]})(e:TypeId)(i:TypeInfo)(z:Value)(size bytes:Nat)(ht:P.underlying t=some (.slice e))(hi:P.info? e=some i)(hz:i.zero=some z)(hsize:i.size=size)(hby:i.bytes=bytes)(hzs:z.cells.size=size)(hsz:0<size)(base:Nat)(v:Value)(n:Nat)(xs:List Value)(hs:a.eval s=v)(hown:w.ownsRow base e size v n xs)(B:Nat)(A:Option Addr)(m c:Nat)(ys:List Value)(hx:a.eval x=.slice A m c)(hr:Cel w B size A m c ys)(h1: ∀u∈ys,u.oneCell'=true)(h63:n+m≤maxLen)(hbytes:(n+m)*bytes≤140737488355328)(hbase:base≤w.heap.size)(h: ∀v' w',w'.ownsRow base e size v' (n+m) (xs++ys)→w.grownBy w' v.ownBlock→(v'.ownBlock=v.ownBlock∨v'.ownBlock=some w.heap.size)→wpList P ops Q rest (a.put o.dst v') w'):wpList P ops Q (o::rest) a w:=wpList_plain hgd fun K hK=>by obtain⟨v',w',h1,h2,h3,h4⟩:=run_app (P:=P) w t o.type e i z size bytes ht hi hz hsize hby hzs hsz base v n xs hown B A m c ys hr h1 h63 hbytes hbase;unfold Oper.wp execOp;simp only[ho,resolve,invoke,builtin,Sem.run_bind,Sem.run_pure,Result.andThen_ok,List.map_toArray,List.map_cons,List.map_nil,hs,hx,h1];exact hK _ _ (h v' w' h2 h3 h4)
end
section
variable{P:Program}{ops:Array Oper}{rest:List Oper}{o o2:Oper}{a:Act}{Q:Exit→Act→World→Prop}{w:World}
theorem wpList_built(hg:o.guard=none)(t:TypeId)(parts:Array (Nat×Operand))(hop:o.op=Op.build t parts)(cells:Array Value)(hb:P.built t (parts.map fun p=>(p.1,a.eval p.2)).toList=some cells)(h:wpList P ops Q rest (a.put o.dst (.agg cells)) w):wpList P ops Q (o::rest) a w:=by refine wpList_plain hg fun K hK=>?_;have hr:=run_build (P:=P) w t (parts.map fun p=>(p.1,a.eval p.2)) cells hb;unfold Oper.wp;simp[execOp,hop,hr,Result.andThen];exact hK _ _ h
theorem wpList_fresh(hg:o.guard=none)(hg2:o2.guard=none)(t:TypeId)(hop:o.op=Op.alloc t)(x y:Operand)(hop2:o2.op=Op.store t x y)(z:Array Value)(hz: ∀w,(zeroValue t).run P w=.ok (.agg z) w)(c:Array Value)(hx:(a.put o.dst (.pointer (some ⟨w.heap.size,0,none⟩))).eval x=.pointer (some ⟨w.heap.size,0,none⟩))(hy:(a.put o.dst (.pointer (some ⟨w.heap.size,0,none⟩))).eval y=.agg c)(hi:(P.info? t).map (·.size)=some c.size)(ho:z.size=c.size)(h1:c.all (·.oneCell')=true)(h:wpList P ops Q rest ((a.put o.dst (.pointer (some ⟨w.heap.size,0,none⟩))).put o2.dst undef) (w.alloc (.cells c t))):wpList P ops Q (o::o2::rest) a w:=by refine wpList_plain hg fun K hK=>?_;unfold Oper.wp;have hn:(newVar t (.agg z)).run P w=.ok ⟨w.heap.size,0,none⟩ (w.alloc (.cells z t)):=rfl;simp[execOp,hop,hz,hn,Instr.alloc,Result.andThen];refine hK _ _ (wpList_plain hg2 fun K2 hK2=>?_);unfold Oper.wp;have hr:=run_storeAt_new (P:=P) w t z c hi ho h1;simp[execOp,hop2,hx,hy,hr,Result.andThen];exact hK2 _ _ h
theorem wpList_loaded(hg:o.guard=none)(t:TypeId)(x:Operand)(hop:o.op=Op.load t x)(b:Nat)(hx:a.eval x=.pointer (some ⟨b,0,none⟩))(c:Array Value)(d:TypeDesc)(hu:P.underlying t=some d)(hd:(match d with|.struct _|.array _ _=>true|_=>false)=true)(hi:(P.info? t).map (·.size)=some c.size)(hb:w.heap[b]?=some (.cells c t))(h:wpList P ops Q rest (a.put o.dst (.agg c)) w):wpList P ops Q (o::rest) a w:=by refine wpList_plain hg fun K hK=>?_;unfold Oper.wp;have hr:=run_loadVar_row (P:=P) w b t t c (0,0) d hb hu hd hi;simp[execOp,hop,hx,Instr.loadAt,Instr.sureAddr,hr,Result.andThen];exact hK _ _ h
theorem wpList_stored(hg:o.guard=none)(t:TypeId)(x y:Operand)(hop:o.op=Op.store t x y)(b:Nat)(hx:a.eval x=.pointer (some ⟨b,0,none⟩))(c old:Array Value)(hy:a.eval y=.agg c)(hb:w.heap[b]?=some (.cells old t))(hi:(P.info? t).map (·.size)=some c.size)(ho:old.size=c.size)(h1:c.all (·.oneCell')=true)(h:wpList P ops Q rest (a.put o.dst undef) (w.setRow b c)):wpList P ops Q (o::rest) a w:=by refine wpList_plain hg fun K hK=>?_;unfold Oper.wp;have hr:=run_storeVar_row (P:=P) w b t t old c hb hi ho h1;simp[execOp,hop,hx,hy,Instr.storeAt,Instr.sureAddr,hr,Result.andThen];exact hK _ _ h
end
theorem u8_info:(Tryz.prog.info? 5).map (fun i=>(i.zero,i.size,i.bytes))=some (some (.int .u8 0),1,1):=by kernel_rfl
def bvs(l:List UInt8):List Value:=l.map fun x=>Value.int .u8 x.toNat
theorem bvs_length(l:List UInt8):(bvs l).length=l.length:=by simp[bvs]
theorem bvs_get(l:List UInt8)(i:Nat)(h:i<l.length):(bvs l)[i]?=some (.int .u8 l[i].toNat):=by simp[bvs,h]
theorem bvs_append(l l':List UInt8):bvs (l++l')=bvs l++bvs l':=by simp[bvs]
def OwnB(w:World)(base:Nat)(v:Value)(l:List UInt8):Prop:=w.ownsRow base 5 1 v l.length (bvs l)
theorem OwnB.nil(w:World)(base:Nat):OwnB w base (.slice none 0 0) []:=World.ownsRow_nil _ _ _ _
theorem OwnB.byt{w:World}{base:Nat}{A:Option Addr}{n c:Nat}{l:List UInt8}(h:OwnB w base (.slice A n c) l):Byt w w.heap.size A n c l:=by
 rcases h.2 with⟨e,hl⟩|⟨g,cap,cur,e,hb,hg,hnc,hm,hs,ht⟩;·have hl':l=[]:=List.eq_nil_of_length_eq_zero hl;subst hl';injection e with e1 e2 e3;subst e1 e2 e3;exact Byt.nil _ _ _ _ (by unfold maxLen;omega)
 ·injection e with e1 e2 e3;subst e1 e2 e3;refine⟨rfl,hnc,hm,fun _=>⟨g,0,rfl,(Array.getElem?_eq_some_iff.1 hg).1,fun i hi=>?_⟩⟩;rw[Nat.zero_add,World.ownsRow.cellAt h i (by omega),bvs_get l i hi]
theorem OwnB.form{w:World}{base:Nat}{v:Value}{l:List UInt8}(h:OwnB w base v l): ∃A c,v=.slice A l.length c:=by
 rcases h.2 with⟨e,hl⟩|⟨g,cap,cur,e,_⟩;·exact⟨none,0,by rw[e,hl]⟩
 ·exact⟨_,_,e⟩
theorem OwnB.below{w w':World}{base B:Nat}{v:Value}{l:List UInt8}(h:OwnB w base v l)(hb:Below B w w')(hB:w.heap.size≤B):OwnB w' base v l:=by
 refine⟨h.1,?_⟩;rcases h.2 with⟨e,hl⟩|⟨g,cap,cur,e,hb',hg,hr⟩;·exact .inl ⟨e,hl⟩
 ·exact .inr ⟨g,cap,cur,e,hb',(hb.block g (by have:=(Array.getElem?_eq_some_iff.1 hg).1;omega)).trans hg,hr⟩
theorem OwnB.base_le{w:World}{base base':Nat}{v:Value}{l:List UInt8}(h:OwnB w base v l)(hb:base'≤base):OwnB w base' v l:=by
 refine⟨h.1,?_⟩;rcases h.2 with⟨e,hl⟩|⟨g,cap,cur,e,hb',hg,hr⟩;·exact .inl ⟨e,hl⟩
 ·exact .inr ⟨g,cap,cur,e,by omega,hg,hr⟩
theorem OwnB.alloc{w:World}{base:Nat}{v:Value}{l:List UInt8}(h:OwnB w base v l)(o:Obj):OwnB (w.alloc o) base v l:=World.ownsRow.alloc h o
theorem OwnB.lt{w:World}{base:Nat}{v:Value}{l:List UInt8}(h:OwnB w base v l): ∀k,v.ownBlock=some k→base≤k:=fun k hk=>(World.ownsRow.lt h k hk).1
theorem run_app8(w:World)(ty:TypeId)(base:Nat)(v:Value)(l:List UInt8)(hown:OwnB w base v l)(B:Nat)(A:Option Addr)(m c:Nat)(l':List UInt8)(hr:Byt w B A m c l')(hlen:l.length+m≤1099511627776)(hbase:base≤w.heap.size): ∃v' w',(Builtin.append_ #[22,22] ty #[v,.slice A m c]).run Tryz.prog w=.ok v' w'∧OwnB w' base v' (l++l')∧w.grownBy w' v.ownBlock∧(v'.ownBlock=v.ownBlock∨v'.ownBlock=some w.heap.size):=by
 obtain⟨i0,hi,hz0,hz1,hz2⟩:=info_parts u8_info;rcases Nat.eq_zero_or_pos m with h0|h0
 ·subst h0;have hl':l'=[]:=List.eq_nil_of_length_eq_zero hr.len;subst hl';refine⟨v,w,?_,by simpa using hown,World.grownBy.refl w _,.inl rfl⟩;rcases hown.2 with⟨rfl,hn⟩|⟨g,cap,cur,rfl,_,_,hnc,_⟩;·cases A<;>simp[Builtin.append_,run_underlying Tryz.underlying22,sizeOf,typeInfo,hi,Builtin.lenOf,Builtin.firstCells,loadCells,loadCellsFrom]
  ·cases A<;>simp[Builtin.append_,run_underlying Tryz.underlying22,sizeOf,typeInfo,hi,Builtin.lenOf,Builtin.firstCells,hnc,loadCells,loadCellsFrom,storeCells]
 ·obtain⟨b,off,rfl,_,hc⟩:=hr.cell h0;obtain⟨v',w',h1,h2,h3,_,h5⟩:=run_append_own_at (P:=Tryz.prog) w base 22 ty 5 i0 (.int .u8 0) 1 1 Tryz.underlying22 hi hz0 hz1 hz2 rfl (by decide) v l.length (bvs l) hown ⟨b,off,none⟩ m c (bvs l') (by rw[bvs_length,hr.len];omega) (fun j u hj=>by
   have hjl:j<l'.length:=by
    rcases Nat.lt_or_ge j l'.length with h|h;·exact h
    ·rw[List.getElem?_eq_none (by rw[bvs_length];exact h)]at hj;cases hj
   rw[bvs_get l' j hjl]at hj;injection hj with hj;subst hj;have:(⟨b,off,none⟩:Addr).add j=⟨b,off+j,none⟩:=by unfold Addr.add;split<;>simp_all
   rw[this];exact hc j hjl) (fun u hu=>by obtain⟨x,_,rfl⟩:=List.mem_map.1 hu;rfl) (by unfold maxLen;omega) (by omega) hbase;refine⟨v',w',h1,?_,h3,h5⟩;unfold OwnB;rw[List.length_append,bvs_append,hr.len];exact h2
theorem wpList_app8{ops:Array Oper}{rest:List Oper}{o:Oper}{a:Act}{Q:Exit→Act→World→Prop}{w:World}(hgd:o.guard=none)(s x:Operand)(ho:o.op=.call {callee:=.builtin .append,args:= #[s,x],argTypes:= #[22,22]})(base:Nat)(v:Value)(l:List UInt8)(hs:a.eval s=v)(hown:OwnB w base v l)(B:Nat)(A:Option Addr)(m c:Nat)(l':List UInt8)(hx:a.eval x=.slice A m c)(hr:Byt w B A m c l')(hlen:l.length+m≤1099511627776)(hbase:base≤w.heap.size)(h: ∀v' w',OwnB w' base v' (l++l')→w.grownBy w' v.ownBlock→(v'.ownBlock=v.ownBlock∨v'.ownBlock=some w.heap.size)→wpList Tryz.prog ops Q rest (a.put o.dst v') w'):wpList Tryz.prog ops Q (o::rest) a w:=wpList_plain hgd fun K hK=>by obtain⟨v',w',h1,h2,h3,h4⟩:=run_app8 w o.type base v l hown B A m c l' hr hlen hbase;unfold Oper.wp execOp;simp only[ho,resolve,invoke,builtin,Sem.run_bind,Sem.run_pure,Result.andThen_ok,List.map_toArray,List.map_cons,List.map_nil,hs,hx,h1];exact hK _ _ (h v' w' h2 h3 h4)
theorem wpAnyH_weak{P:Program}{md:Region.Mode}{ops:Array Oper}{Q:Exit→Act→World→Prop}{S S':World→Prop}(hS: ∀w,S' w→S w): ∀(fuel:Nat)(listed:Array Bool)(a:Act)(w:World),wpAnyH P md ops Q S' fuel listed a w→wpAnyH P md ops Q S fuel listed a w|0,_,_,_,h=>h|fuel+1,_,_,_,h=>⟨h.1,fun i hi=>wpOp_mono (fun a' w' h'=>⟨hS _ h'.1,wpAnyH_weak hS fuel _ a' w' h'.2⟩) (h.2 i hi)⟩
theorem tkY{P:Program}{md:Region.Mode}{ops:Array Oper}{Q:Exit→Act→World→Prop}{S:World→Prop}{o2:Op}{o3:TypeId}{o4:String}{o5:Array Edge}{o6:Option (Nat×Bool)}{v:Value}{fuel:Nat}{listed listed':Array Bool}{a a':Act}{w:World}(i:Nat)(d:Tmp)(hi:ops[i]?=some ⟨some d,o2,o3,o4,o5,o6⟩)(h:wpAnyH P md ops Q S fuel listed' a' w)(hs:Region.noSelect ops=true:=by kernel_rfl)(hf:Region.free md ops listed i=true:=by kernel_rfl)(hr:(Region.ready md ops listed).contains i=true:=by kernel_rfl)(hw:Region.wanted ⟨some d,o2,o3,o4,o5,o6⟩ (yielded ops a.tmps)=true:=by rfl)(hy: ∀w,S w→(execOp a.eval ⟨some d,o2,o3,o4,o5,o6⟩).run P w=.ok (.value v) w:=by(intro wz hSz;(try dsimp only at hSz);go_simp;(first|done|with_reducible rfl)))(hQ: ∀c b u,Q (.panic c) (b.put (some d) v) u→Q (.panic c) b u:=by exact fun _ _ _ h=>h)(hS:S w:=by assumption)(hl:listed.setIfInBounds i true=listed':=by(first|(simp only[List.setIfInBounds_toArray,List.set_cons_zero,List.set_cons_succ];rfl)|rfl))(ha:a.put (some d) v=a':=by(first|(simp only[Act.put,List.setIfInBounds_toArray,List.set_cons_zero,List.set_cons_succ];rfl)|rfl)):wpAnyH P md ops Q S (fuel+1) listed a w:=wpAnyH_take hi hs hf hr hQ (Or.inl ⟨hw,hy⟩) hS (by rw[hl,ha];exact h)
theorem tkN{P:Program}{md:Region.Mode}{ops:Array Oper}{Q:Exit→Act→World→Prop}{S:World→Prop}{o2:Op}{o3:TypeId}{o4:String}{o5:Array Edge}{o6:Option (Nat×Bool)}{fuel:Nat}{listed listed':Array Bool}{a a':Act}{w:World}(i:Nat)(d:Tmp)(hi:ops[i]?=some ⟨some d,o2,o3,o4,o5,o6⟩)(h:wpAnyH P md ops Q S fuel listed' a' w)(hs:Region.noSelect ops=true:=by kernel_rfl)(hf:Region.free md ops listed i=true:=by kernel_rfl)(hr:(Region.ready md ops listed).contains i=true:=by kernel_rfl)(hw:Region.wanted ⟨some d,o2,o3,o4,o5,o6⟩ (yielded ops a.tmps)=false:=by rfl)(hQ: ∀c b u,Q (.panic c) (b.put (some d) undef) u→Q (.panic c) b u:=by exact fun _ _ _ h=>h)(hS:S w:=by assumption)(hl:listed.setIfInBounds i true=listed':=by(first|(simp only[List.setIfInBounds_toArray,List.set_cons_zero,List.set_cons_succ];rfl)|rfl))(ha:a.put (some d) undef=a':=by(first|(simp only[Act.put,List.setIfInBounds_toArray,List.set_cons_zero,List.set_cons_succ];rfl)|rfl)):wpAnyH P md ops Q S (fuel+1) listed a w:=wpAnyH_take hi hs hf hr hQ (Or.inr ⟨hw,rfl⟩) hS (by rw[hl,ha];exact h)
end Go.Proofs.YtajihpcdplpcdaaGreatDoor
