/-
  Slices of cells cut; appending to a row of the call's own, at a step of a region that draws its order.
-/
import Derived.Test.YtajihpcdplpcdaaGreatDoorTWhole
import Derived.StringKeys
import Derived.Maps.OwnSet
import Derived.Maps.OwnOps
import Derived.Sort.KeysCollected
set_option maxRecDepth 100000
set_option maxHeartbeats 16000000
namespace Go.Proofs.YtajihpcdplpcdaaGreatDoor
open Go.RowKit
def sv(l:List UInt8):Value:=.string ⟨l.toArray⟩
structure Ev where
 src:List UInt8
 num:Int
 at_:Int
 kind:Int
 per:List UInt8
 item:List UInt8
 val:Int
 text:List UInt8 deriving DecidableEq
def Ev.cells(e:Ev):List Value:=[.string ⟨e.src.toArray⟩,.int .i64 e.num,.int .i64 e.at_,.int .i64 e.kind,.string ⟨e.per.toArray⟩,.string ⟨e.item.toArray⟩,.int .i64 e.val,.string ⟨e.text.toArray⟩]
def Ev.agg(e:Ev):Value:=.agg #[.string ⟨e.src.toArray⟩,.int .i64 e.num,.int .i64 e.at_,.int .i64 e.kind,.string ⟨e.per.toArray⟩,.string ⟨e.item.toArray⟩,.int .i64 e.val,.string ⟨e.text.toArray⟩]
def evCells(es:List Ev):List Value:=es.flatMap Ev.cells
theorem evCells_length(es:List Ev):(evCells es).length=es.length*8:=by induction es with|nil=>rfl|cons e es ih=>simp only[evCells,List.flatMap_cons,List.length_append,List.length_cons]at*;rw[ih];simp[Ev.cells];omega
theorem evCells_append(a b:List Ev):evCells (a++b)=evCells a++evCells b:=by simp[evCells]
theorem evCells_one(es:List Ev)(e:Ev):evCells (es++[e])=evCells es++e.cells:=by simp[evCells]
theorem evCells_get(es:List Ev)(k j:Nat)(hk:k<es.length)(hj:j<8):(evCells es)[k*8+j]?=es[k].cells[j]?:=by induction es generalizing k with|nil=>simp at hk|cons e es ih=>have hc:e.cells.length=8:=rfl;simp only[evCells,List.flatMap_cons];cases k with|zero=>rw[Nat.zero_mul,Nat.zero_add,List.getElem?_append_left (by omega)];rfl|succ k=>rw[List.getElem?_append_right (by omega),hc,show(k+1)*8+j-8=k*8+j by omega];exact ih k (by simpa using hk)
def Evs(w:World)(B:Nat)(A:Option Addr)(n c:Nat)(es:List Ev):Prop:=Cel w B 8 A n c (evCells es)
theorem Evs.len{w:World}{B n c:Nat}{A:Option Addr}{es:List Ev}(h:Evs w B A n c es):es.length=n:=by have:=Cel.len h;rw[evCells_length]at this;omega
theorem Evs.at_{w:World}{B n c:Nat}{A:Option Addr}{es:List Ev}(h:Evs w B A n c es)(k:Nat)(hk:k<es.length): ∃b off,A=some ⟨b,off,none⟩∧b<B∧ ∀j u,es[k].cells[j]?=some u→w.cell? ⟨b,off+(k*8+j),none⟩=some u:=by
 have hl:=h.len;obtain⟨b,off,e,hb,hc⟩:=Cel.cell h (by omega);refine⟨b,off,e,hb,fun j u hj=>hc _ u ?_⟩;have hj8:j<8:=by
  rcases Nat.lt_or_ge j 8 with h'|h';·exact h'
  ·rw[List.getElem?_eq_none (by show 8≤j;exact h')]at hj;cases hj
 rw[evCells_get es k j hk hj8,hj]
def EvAt(w:World)(b o:Nat)(e:Ev):Prop:=w.cell? ⟨b,o,none⟩=some (.string ⟨e.src.toArray⟩)∧w.cell? ⟨b,o+1,none⟩=some (.int .i64 e.num)∧w.cell? ⟨b,o+2,none⟩=some (.int .i64 e.at_)∧w.cell? ⟨b,o+3,none⟩=some (.int .i64 e.kind)∧w.cell? ⟨b,o+4,none⟩=some (.string ⟨e.per.toArray⟩)∧w.cell? ⟨b,o+5,none⟩=some (.string ⟨e.item.toArray⟩)∧w.cell? ⟨b,o+6,none⟩=some (.int .i64 e.val)∧w.cell? ⟨b,o+7,none⟩=some (.string ⟨e.text.toArray⟩)
theorem Evs.ev{w:World}{B n c:Nat}{A:Option Addr}{es:List Ev}(h:Evs w B A n c es)(k:Nat)(hk:k<es.length): ∃b off,A=some ⟨b,off,none⟩∧b<B∧EvAt w b (off+k*8) es[k]:=by
 obtain⟨b,off,e,hb,hc⟩:=h.at_ k hk;have key: ∀j u,es[k].cells[j]?=some u→w.cell? ⟨b,off+k*8+j,none⟩=some u:=fun j u hj=>by rw[Nat.add_assoc];exact hc j u hj
 exact⟨b,off,e,hb,key 0 _ rfl,key 1 _ rfl,key 2 _ rfl,key 3 _ rfl,key 4 _ rfl,key 5 _ rfl,key 6 _ rfl,key 7 _ rfl⟩
theorem EvAt.below{w w':World}{b o B:Nat}{e:Ev}(h:EvAt w b o e)(hb:Below B w w')(hB:b<B):EvAt w' b o e:=by obtain⟨h0,h1,h2,h3,h4,h5,h6,h7⟩:=h;have key: ∀(o:Nat)u,w.cell? ⟨b,o,none⟩=some u→w'.cell? ⟨b,o,none⟩=some u:=fun o u hu=>(hb.cell (p:=⟨b,o,none⟩) hB).trans hu;exact⟨key _ _ h0,key _ _ h1,key _ _ h2,key _ _ h3,key _ _ h4,key _ _ h5,key _ _ h6,key _ _ h7⟩
abbrev evObj(e:Ev):Obj:=.cells #[.string ⟨e.src.toArray⟩,.int .i64 e.num,.int .i64 e.at_,.int .i64 e.kind,.string ⟨e.per.toArray⟩,.string ⟨e.item.toArray⟩,.int .i64 e.val,.string ⟨e.text.toArray⟩] 60
def EvIn(w:World)(b:Nat)(e:Ev):Prop:=w.cell? ⟨b,0,none⟩=some (.string ⟨e.src.toArray⟩)∧w.cell? ⟨b,1,none⟩=some (.int .i64 e.num)∧w.cell? ⟨b,2,none⟩=some (.int .i64 e.at_)∧w.cell? ⟨b,3,none⟩=some (.int .i64 e.kind)∧w.cell? ⟨b,4,none⟩=some (.string ⟨e.per.toArray⟩)∧w.cell? ⟨b,5,none⟩=some (.string ⟨e.item.toArray⟩)∧w.cell? ⟨b,6,none⟩=some (.int .i64 e.val)∧w.cell? ⟨b,7,none⟩=some (.string ⟨e.text.toArray⟩)
theorem EvIn.new(w:World)(e:Ev):EvIn (w.alloc (evObj e)) w.heap.size e:=by have key: ∀o,(w.alloc (evObj e)).cell? ⟨w.heap.size,o,none⟩=_:=fun o=>cell_of_row _ w.heap.size o _ _ (0,0) (heap_alloc_new w (evObj e));exact⟨(key 0).trans rfl,(key 1).trans rfl,(key 2).trans rfl,(key 3).trans rfl,(key 4).trans rfl,(key 5).trans rfl,(key 6).trans rfl,(key 7).trans rfl⟩
theorem EvIn.below{w w':World}{b B:Nat}{e:Ev}(h:EvIn w b e)(hb:Below B w w')(hB:b<B):EvIn w' b e:=by obtain⟨h0,h1,h2,h3,h4,h5,h6,h7⟩:=h;have key: ∀(o:Nat)u,w.cell? ⟨b,o,none⟩=some u→w'.cell? ⟨b,o,none⟩=some u:=fun o u hu=>(hb.cell (p:=⟨b,o,none⟩) hB).trans hu;exact⟨key _ _ h0,key _ _ h1,key _ _ h2,key _ _ h3,key _ _ h4,key _ _ h5,key _ _ h6,key _ _ h7⟩
theorem cells_one(e:Ev): ∀u∈e.cells,u.oneCell'=true:=by intro u hu;simp only[Ev.cells,List.mem_cons,List.not_mem_nil,or_false]at hu;rcases hu with rfl|rfl|rfl|rfl|rfl|rfl|rfl|rfl<;>rfl
theorem ev_info:(Tryz.prog.info? 60).map (fun i=>(i.zero,i.size,i.bytes))=some (some (.agg #[.string ByteArray.empty,.int .i64 0,.int .i64 0,.int .i64 0,.string ByteArray.empty,.string ByteArray.empty,.int .i64 0,.string ByteArray.empty]),8,96):=by kernel_rfl
open Go.Maps Go.Sort
theorem keyS:Keyed Tryz.prog 9:=string_keyed Tryz.underlying9
theorem zeroB(w:World):(zeroValue 4).run Tryz.prog w=.ok (.bool false) w:=by kernel_rfl
theorem plainElem_bool_inv{P:Program}{e:TypeId}(he:P.underlying e=some .bool){v:Value}{x:Bool}{ps:List MemPlace}(h:plainElem (H:=Unit) P e v=some (.lit (.bool x),ps)):v=.bool x:=by cases v<;>simp[plainElem,he]at h;rw[h.1]
def SetB(w:World)(b n:Nat)(ks:List (List UInt8)):Prop:= ∃D:DataW Unit,w.ownsMap Tryz.prog 9 (plainElem Tryz.prog 4) b n D∧Tidy D∧ ∀k:List UInt8,D.atKey (.string k) (.lit (.bool false))=.lit (.bool (decide (k∈ks)))∧has D (.string k)=decide (k∈ks)
theorem SetB.made(w:World):SetB (w.alloc (.map #[] 0)) w.heap.size 0 []:=⟨.map [],World.ownsMap_made _ _ _ _,tidy_empty,fun k=>⟨by simp[DataW.atKey],by simp[has]⟩⟩
theorem SetB.lt{w:World}{b n:Nat}{ks:List (List UInt8)}(h:SetB w b n ks):b<w.heap.size:=by obtain⟨D,h1,_⟩:=h;exact h1.lt
theorem SetB.block{w w':World}{b n:Nat}{ks:List (List UInt8)}(h:SetB w b n ks)(hb:w'.heap[b]?=w.heap[b]?):SetB w' b n ks:=by obtain⟨D,⟨es,clock,h1,h2⟩,h3⟩:=h;exact⟨D,⟨es,clock,hb.trans h1,h2⟩,h3⟩
theorem SetB.alloc{w:World}{b n:Nat}{ks:List (List UInt8)}(h:SetB w b n ks)(o:Obj):SetB (w.alloc o) b n ks:=h.block (Below.heap_alloc w o b h.lt)
theorem SetB.drewN{w:World}{b n:Nat}{ks:List (List UInt8)}(h:SetB w b n ks)(k:Nat):SetB (w.drewN k) b n ks:=h.block rfl
theorem key_str(k:List UInt8)(hk:k.length≤maxLen):keyOf Tryz.prog 9 (.string ⟨k.toArray⟩)=some (.string k):=by have:=WideMaps.keyOf_string_mk (P:=Tryz.prog) Tryz.underlying9 (s:=⟨k.toArray⟩) (by simpa[ByteArray.size]using hk);simpa using this
theorem SetB.look{w:World}{b n:Nat}{ks:List (List UInt8)}(h:SetB w b n ks)(k:List UInt8)(hk:k.length≤maxLen):(Instr.lookup 79 (.map (some b)) (.string ⟨k.toArray⟩) false).run Tryz.prog w=.ok (.bool (decide (k∈ks))) w:=by obtain⟨D,h1,_,h3⟩:=h;obtain⟨v,ps,hr,hv⟩:=h1.lookup keyS Tryz.underlying79 (zeroB w) (plainElem_bool (P:=Tryz.prog) Tryz.underlying4 false) (key_str k hk);rw[hr];rw[(h3 k).1]at hv;rw[plainElem_bool_inv Tryz.underlying4 hv]
theorem SetB.put{w:World}{b n:Nat}{ks:List (List UInt8)}(h:SetB w b n ks)(hn:n<maxLen)(k:List UInt8)(hk:k.length≤maxLen): ∃w',(Instr.mapUpdate 79 (.map (some b)) (.string ⟨k.toArray⟩) (.bool true)).run Tryz.prog w=.ok () w'∧SetB w' b (n+1) (k::ks)∧w.grownBy w' (some b):=by
 obtain⟨D,h1,h2,h3⟩:=h;obtain⟨w',hr,r1,r2⟩:=h1.update keyS Tryz.underlying79 hn (key_str k hk) (plainElem_bool (P:=Tryz.prog) Tryz.underlying4 true);have hkl:WideAt.IsKeyLit (.string k):=keyS.key (key_str k hk);refine⟨w',hr,⟨D.put (.string k) (.lit (.bool true)),r1,h2.put hkl _,fun x=>?_⟩,r2⟩;by_cases e:x=k;·subst e;exact⟨by rw[atKey_put_same h2.isMap hkl];simp,by rw[has_put_same h2.isMap hkl];simp⟩
 ·have hne:Lit.string x≠.string k:=fun h=>e (by injection h);rw[atKey_put_other hne,has_put_other hne,(h3 x).1,(h3 x).2];have:decide (x∈k::ks)=decide (x∈ks):=by simp[e]
  rw[this];exact⟨rfl,rfl⟩
theorem wpList_setput{ops:Array Oper}{rest:List Oper}{o:Oper}{a:Act}{Q:Exit→Act→World→Prop}{w:World}(hg:o.guard=none)(m x v:Operand)(hop:o.op=Op.mapUpdate 79 m x v)(b n:Nat)(ks:List (List UInt8))(hm:a.eval m=.map (some b))(hown:SetB w b n ks)(hn:n<maxLen)(k:List UInt8)(hx:a.eval x=.string ⟨k.toArray⟩)(hk:k.length≤maxLen)(hv:a.eval v=.bool true)(h: ∀w',SetB w' b (n+1) (k::ks)→w.grownBy w' (some b)→wpList Tryz.prog ops Q rest (a.put o.dst undef) w'):wpList Tryz.prog ops Q (o::rest) a w:=by refine wpList_plain hg fun K hK=>?_;obtain⟨w',hr,h1,h2⟩:=hown.put hn k hk;unfold Oper.wp;simp[execOp,hop,hm,hx,hv,hr,Result.andThen];exact hK _ _ (h w' h1 h2)
theorem SetB.perm{w:World}{b n:Nat}{ks:List (List UInt8)}{D:DataW Unit}(h1:w.ownsMap Tryz.prog 9 (plainElem Tryz.prog 4) b n D)(h3: ∀k:List UInt8,has D (.string k)=decide (k∈ks)){ss:List (List UInt8)}(hnd:ss.Nodup)(hm: ∀x,x∈ss↔x∈ks):ss.Perm (strKeys D):=by
 obtain⟨es,hD,hpw,_⟩:=h1.entries keyS;obtain⟨es',hD',hko⟩:=h1.keysOf;obtain rfl:es=es':=by rw[hD]at hD';simpa using hD'
 subst hD;exact perm_strKeys hpw (fun p hp=>by obtain⟨v,hv⟩:=hko p hp;obtain⟨x,_,hx,_⟩:=Maps.keyOf_str Tryz.underlying9 hv;exact⟨x,hx⟩) hnd (fun x=>by rw[h3 x,hm x];simp)
section
variable{P:Program}
theorem Cel.from_{w:World}{B size n c:Nat}{A:Option Addr}{xs:List Value}(h:Cel w B size A n c xs)(m:Nat)(hm:m≤n):Cel w B size (if c=m then A else A.map (·.add (m*size))) (n-m) (c-m) (xs.drop (m*size)):=by
 have hl:=h.len;have hcap:=h.cap;have hmax:=h.max;refine⟨by rw[List.length_drop,hl,Nat.sub_mul],by omega,by omega,fun h0=>?_⟩;obtain⟨b,off,e,hb,hc⟩:=h.cell (by omega);refine⟨b,off+m*size,?_,hb,fun i u hi=>?_⟩;·rw[if_neg (by omega),e];simp[Addr.add]
 ·rw[List.getElem?_drop]at hi;rw[Nat.add_assoc];exact hc _ u hi
theorem Cel.upto{w:World}{B size n c:Nat}{A:Option Addr}{xs:List Value}(h:Cel w B size A n c xs)(m:Nat)(hm:m≤n):Cel w B size A m c (xs.take (m*size)):=by
 have hl:=h.len;have hcap:=h.cap;have hle:m*size≤n*size:=Nat.mul_le_mul_right _ hm;refine⟨by rw[List.length_take,hl];omega,by omega,h.max,fun h0=>?_⟩;obtain⟨b,off,e,hb,hc⟩:=h.cell (by omega);refine⟨b,off,e,hb,fun i u hi=>?_⟩;rw[List.getElem?_take]at hi;split at hi;·exact hc _ u hi
 ·cases hi
theorem step_app{ops:Array Oper}{o:Oper}{a:Act}{w:World}{K:Act→World→Prop}{Q:Exit→Act→World→Prop}{E:Prop}(hgd:o.guard=none)(s x:Operand)(t:TypeId)(ho:o.op=.call {callee:=.builtin .append,args:= #[s,x],argTypes:= #[t,t]})(e:TypeId)(i:TypeInfo)(z:Value)(size bytes:Nat)(ht:P.underlying t=some (.slice e))(hi:P.info? e=some i)(hz:i.zero=some z)(hsize:i.size=size)(hby:i.bytes=bytes)(hzs:z.cells.size=size)(hsz:0<size)(base:Nat)(v:Value)(n:Nat)(xs:List Value)(hs:a.eval s=v)(hown:w.ownsRow base e size v n xs)(B:Nat)(A:Option Addr)(m c:Nat)(ys:List Value)(hx:a.eval x=.slice A m c)(hr:Cel w B size A m c ys)(h1: ∀u∈ys,u.oneCell'=true)(h63:n+m≤maxLen)(hbytes:(n+m)*bytes≤140737488355328)(hbase:base≤w.heap.size)(h: ∀v' w',w'.ownsRow base e size v' (n+m) (xs++ys)→w.grownBy w' v.ownBlock→(v'.ownBlock=v.ownBlock∨v'.ownBlock=some w.heap.size)→K (a.put o.dst v') w'):if Region.wanted o (yielded ops a.tmps)=true then Oper.wp P o a w K Q else E:=by
 have hw:Region.wanted o (yielded ops a.tmps)=true:=by simp[Region.wanted,hgd]
 rw[if_pos hw];obtain⟨v',w',h1,h2,h3,h4⟩:=run_app (P:=P) w t o.type e i z size bytes ht hi hz hsize hby hzs hsz base v n xs hown B A m c ys hr h1 h63 hbytes hbase;unfold Oper.wp execOp;simp only[ho,resolve,invoke,builtin,Sem.run_bind,Sem.run_pure,Result.andThen_ok,List.map_toArray,List.map_cons,List.map_nil,hs,hx,h1];exact h v' w' h2 h3 h4
end
theorem below_drew{B:Nat}{a w:World}(h:Below B a w):Below B a w.drew:=below_drewN h 1
end Go.Proofs.YtajihpcdplpcdaaGreatDoor
