/-
  A lookup that tells whether the key lay there.
-/
import Derived.Test.YtcmmclliabhnjaaGreatDoorWSets
import Derived.Maps.RangeWalk
import Derived.Maps.OwnSet
set_option maxRecDepth 100000
set_option maxHeartbeats 16000000
namespace Go.Proofs.YtcmmclliabhnjaaGreatDoor
open Go.RowKit Go.Maps Go.Sort
/-!### the plain row -/
section plain
variable{α β:Type}
abbrev Row(α:Type):=List (List UInt8×α)
def insB(x:List UInt8×α):Row α→Row α|[]=>[x]|y::r=>if bytesBefore x.1 y.1 then x::y::r else y::insB x r
def putB(k:List UInt8)(v:α)(m:Row α):Row α:=insB (k,v) (m.filter fun p=>!(p.1==k))
def getB(m:Row α)(k:List UInt8):Option α:=(m.find? fun p=>p.1==k).map (·.2)
theorem insB_mem{x y:List UInt8×α}: ∀{m:Row α},y∈insB x m↔y=x∨y∈m
 |[]=>by simp[insB]
 |z::r=>by
  unfold insB;split;·simp
  ·simp only[List.mem_cons,insB_mem (m:=r)];constructor;·rintro(h|h|h)<;>simp[h]
   ·rintro(h|h|h)<;>simp[h]
theorem putB_mem{k:List UInt8}{v:α}{m:Row α}{y:List UInt8×α}:y∈putB k v m↔y=(k,v)∨(y∈m∧y.1≠k):=by unfold putB;rw[insB_mem];simp
theorem insB_length{x:List UInt8×α}: ∀m:Row α,(insB x m).length=m.length+1|[]=>rfl|z::r=>by unfold insB;split<;>simp[insB_length r]
theorem insB_map(f:α→β)(x:List UInt8×α): ∀m:Row α,(insB x m).map (fun p=>(p.1,f p.2))=insB (x.1,f x.2) (m.map fun p=>(p.1,f p.2))
 |[]=>rfl
 |z::r=>by
  simp only[insB,List.map_cons];split;·rfl
  ·simp only[List.map_cons,insB_map f x r]
theorem putB_map(f:α→β)(k:List UInt8)(v:α)(m:Row α):(putB k v m).map (fun p=>(p.1,f p.2))=putB k (f v) (m.map fun p=>(p.1,f p.2)):=by unfold putB;rw[insB_map,List.filter_map];rfl
theorem getB_map(f:α→β)(m:Row α)(k:List UInt8):getB (m.map fun p=>(p.1,f p.2)) k=(getB m k).map f:=by unfold getB;rw[List.find?_map];simp[Function.comp_def]
theorem getB_mem{m:Row α}{k:List UInt8}{v:α}(h:getB m k=some v):(k,v)∈m:=by unfold getB at h;rw[Option.map_eq_some_iff]at h;obtain⟨p,hp,rfl⟩:=h;have h1:=List.find?_some hp;have h2:=List.mem_of_find?_eq_some hp;simp at h1;subst h1;exact h2
theorem insB_find_hit{k:List UInt8}{v:α}: ∀m:Row α,(∀p∈m,p.1≠k)→(insB (k,v) m).find? (fun p=>p.1==k)=some (k,v)
 |[],_=>by simp[insB]
 |y::r,h=>by
  unfold insB;split;·simp
  ·have:=h y (by simp);simp[this,insB_find_hit r (fun p hp=>h p (by simp[hp]))]
theorem insB_find_miss{k k':List UInt8}{v:α}(hne:k'≠k): ∀m:Row α,(insB (k,v) m).find? (fun p=>p.1==k')=m.find? (fun p=>p.1==k')
 |[]=>by simp[insB,hne.symm]
 |y::r=>by
  unfold insB;split;·simp[hne.symm]
  ·by_cases e:y.1=k'<;>simp[e,insB_find_miss hne r]
theorem getB_put_same(m:Row α)(k:List UInt8)(v:α):getB (putB k v m) k=some v:=by
 unfold getB putB;rw[insB_find_hit];·rfl
 ·intro p hp;simpa using(List.mem_filter.1 hp).2
theorem getB_put_other(m:Row α){k k':List UInt8}(v:α)(hne:k'≠k):getB (putB k v m) k'=getB m k':=by unfold getB putB;rw[insB_find_miss hne];rw[find_filter_keep (fun p hp=>by simp only[beq_iff_eq]at hp;simp[hp,hne])]
def RowUp(m:Row α):Prop:=m.Pairwise fun p q=>bytesBefore p.1 q.1=true
theorem bb_trans{a b c:List UInt8}(h:bytesBefore a b=true)(h':bytesBefore b c=true):bytesBefore a c=true:=WideShapes.before_trans (a:=.string a) (b:=.string b) (c:=.string c) h h'
theorem bb_irrefl(a:List UInt8):bytesBefore a a=false:=WideShapes.before_irrefl (.string a)
theorem bb_total: ∀{a b:List UInt8},a≠b→bytesBefore a b=true∨bytesBefore b a=true
 |[],[],h=>absurd rfl h
 |[],_::_,_=>.inl rfl
 |_::_,[],_=>.inr rfl
 |x::a,y::b,h=>by
  unfold bytesBefore;by_cases e:x=y;·subst e;have hne:a≠b:=fun e'=>h (by rw[e']);rcases bb_total hne with h'|h'<;>simp[h']
  ·rcases UInt8.lt_or_lt_of_ne e with h'|h'<;>simp[h']
theorem insB_rising{x:List UInt8×α}: ∀m:Row α,RowUp m→(∀p∈m,p.1≠x.1)→RowUp (insB x m)
 |[],_,_=>by simp[insB,RowUp]
 |y::r,h,hne=>by
  obtain⟨h1,h2⟩:=List.pairwise_cons.1 h;unfold insB;split
  ·rename_i hb;refine List.pairwise_cons.2 ⟨fun q hq=>?_,h⟩;rcases List.mem_cons.1 hq with rfl|hq;·exact hb
   ·exact bb_trans hb (h1 q hq)
  ·rename_i hb;have hyx:bytesBefore y.1 x.1=true:=by
    rcases bb_total (hne y (by simp))with h'|h';·exact h'
    ·exact absurd h' hb
   refine List.pairwise_cons.2 ⟨fun q hq=>?_,insB_rising r h2 (fun p hp=>hne p (by simp[hp]))⟩;rcases insB_mem.1 hq with rfl|hq;·exact hyx
   ·exact h1 q hq
theorem putB_rising{m:Row α}(h:RowUp m)(k:List UInt8)(v:α):RowUp (putB k v m):=insB_rising _ (h.filter _) (fun p hp=>by simpa using(List.mem_filter.1 hp).2)
theorem RowUp.key{m:Row α}(h:RowUp m){p q:List UInt8×α}(hp:p∈m)(hq:q∈m)(e:p.1=q.1):p=q:=by
 induction m with
  |nil=>cases hp
  |cons y r ih=>
   obtain⟨h1,h2⟩:=List.pairwise_cons.1 h;rcases List.mem_cons.1 hp with hp|hp<;>rcases List.mem_cons.1 hq with hq|hq;·rw[hp,hq]
   ·have:=h1 q hq;rw[←hp,e,bb_irrefl]at this;cases this
   ·have:=h1 p hp;rw[←hq,←e,bb_irrefl]at this;cases this
   ·exact ih h2 hp hq
theorem getB_of_mem{m:Row α}(h:RowUp m){k:List UInt8}{v:α}(hm:(k,v)∈m):getB m k=some v:=by unfold getB;cases hf:m.find? (fun p=>p.1==k)with|none=>have:=List.find?_eq_none.1 hf (k,v) hm;simp at this|some p=>have h1:=List.find?_some hf;have h2:=List.mem_of_find?_eq_some hf;simp at h1;have:=h.key h2 hm h1;rw[this];rfl
theorem putB_length_le(m:Row α)(k:List UInt8)(v:α):(putB k v m).length≤m.length+1:=by unfold putB;rw[insB_length];have:=List.length_filter_le (fun p:List UInt8×α=>!(p.1==k)) m;omega
end plain
/-!### in memory -/
abbrev raw(v:Value):Option (DataW Value×List MemPlace):=some (.held v,[])
def mapD(m:Row Value):DataW Value:=.map (m.map fun p=>(.string p.1,.held p.2))
def MapS(w:World)(b:Nat)(m:Row Value):Prop:=w.ownsMap Tryz.prog 9 raw b m.length (mapD m)
theorem MapS.of{w:World}{b n:Nat}{m:Row Value}(h:w.ownsMap Tryz.prog 9 raw b n (mapD m)):MapS w b m:=by
 obtain⟨es,clock,h1,h2,h3,h4⟩:=h;refine⟨es,clock,h1,h2,?_,h4⟩;have:(m.map fun p=>((Lit.string p.1,DataW.held p.2):Lit×DataW Value)).length=es.size:=by have:=congrArg Maps.size h4;simp only[mapD,Maps.size,length_sorted]at this;simpa using this
 rw[List.length_map]at this;omega
theorem MapS.made(w:World):MapS (w.alloc (.map #[] 0)) w.heap.size []:=World.ownsMap_made _ _ _ _
section
variable{w w':World}{b:Nat}{m:Row Value}
theorem MapS.lt(h:MapS w b m):b<w.heap.size:=World.ownsMap.lt h
theorem MapS.block(h:MapS w b m)(hb:w'.heap[b]?=w.heap[b]?):MapS w' b m:=by obtain⟨es,clock,h1,h2⟩:=h;exact⟨es,clock,hb.trans h1,h2⟩
theorem MapS.isMap(h:MapS w b m): ∃es clock,w.heap[b]?=some (.map es clock):=by obtain⟨es,clock,h1,h2⟩:=h;exact⟨es,clock,h1⟩
theorem mapD_at(m:Row Value)(k:List UInt8)(z:Value):(mapD m).atKey (.string k) (.held z)=.held ((getB m k).getD z):=by unfold mapD DataW.atKey getB;simp only[List.find?_map];have:((fun p:Lit×DataW Value=>p.1.sameKey (.string k))∘fun p:List UInt8×Value=>(Lit.string p.1,DataW.held p.2))=fun p=>p.1==k:=rfl;rw[this];cases m.find? fun p=>p.1==k<;>rfl
theorem mapD_has(m:Row Value)(k:List UInt8):has (mapD m) (.string k)=(getB m k).isSome:=by unfold getB;show(m.map fun p=>((Lit.string p.1,DataW.held p.2):Lit×DataW Value)).any (fun p=>p.1.sameKey (.string k))=_;rw[List.any_map];have:((fun p:Lit×DataW Value=>p.1.sameKey (.string k))∘fun p:List UInt8×Value=>(Lit.string p.1,DataW.held p.2))=fun p=>p.1==k:=rfl;rw[this,Option.isSome_map,Bool.eq_iff_iff,List.find?_isSome,List.any_eq_true]
theorem mapD_ins(x:List UInt8×Value): ∀m:Row Value,DataW.insert (.string x.1,.held x.2) (m.map fun p=>((.string p.1,.held p.2):Lit×DataW Value))=(insB x m).map fun p=>(.string p.1,.held p.2)
 |[]=>rfl
 |y::r=>by
  simp only[insB,List.map_cons,DataW.insert];by_cases hb:bytesBefore x.1 y.1=true;·rw[if_pos hb,if_pos (show Lit.before (.string x.1) (.string y.1)=true from hb)];rfl
  ·rw[if_neg hb,if_neg (show¬Lit.before (.string x.1) (.string y.1)=true from hb),mapD_ins x r];rfl
theorem mapD_put(m:Row Value)(k:List UInt8)(v:Value):(mapD m).put (.string k) (.held v)=mapD (putB k v m):=by unfold mapD DataW.put putB;simp only;rw[List.filter_map];exact congrArg DataW.map (mapD_ins (k,v) _)
theorem MapS.look(h:MapS w b m)(k:List UInt8)(hk:k.length≤maxLen)(t e:TypeId)(ht:Tryz.prog.underlying t=some (.map 9 e))(z:Value)(hz:(zeroValue e).run Tryz.prog w=.ok z w):(Instr.lookup t (.map (some b)) (.string ⟨k.toArray⟩) false).run Tryz.prog w=.ok ((getB m k).getD z) w:=by obtain⟨v,ps,hr,hv⟩:=World.ownsMap.lookup h keyS ht hz (zd:=.held z) (zp:=[]) rfl (key_str k hk);rw[mapD_at]at hv;rw[hr];simp only[raw,Option.some.injEq,Prod.mk.injEq,DataW.held.injEq]at hv;rw[hv.1]
theorem MapS.put(h:MapS w b m)(hn:m.length<maxLen)(k:List UInt8)(hk:k.length≤maxLen)(t e:TypeId)(ht:Tryz.prog.underlying t=some (.map 9 e))(v:Value): ∃w',(Instr.mapUpdate t (.map (some b)) (.string ⟨k.toArray⟩) v).run Tryz.prog w=.ok () w'∧MapS w' b (putB k v m)∧w.grownBy w' (some b):=by obtain⟨w',hr,r1,r2⟩:=World.ownsMap.update h keyS ht hn (key_str k hk) (val:=v) (d:=.held v) (ps:=[]) rfl;rw[mapD_put]at r1;exact⟨w',hr,MapS.of r1,r2⟩
end
theorem wpList_mapS_put{ops:Array Oper}{rest:List Oper}{o:Oper}{a:Act}{Q:Exit→Act→World→Prop}{w:World}(hg:o.guard=none)(m x v:Operand)(t e:TypeId)(hop:o.op=Op.mapUpdate t m x v)(ht:Tryz.prog.underlying t=some (.map 9 e))(b:Nat)(M:Row Value)(hm:a.eval m=.map (some b))(hown:MapS w b M)(hn:M.length<maxLen)(k:List UInt8)(hx:a.eval x=.string ⟨k.toArray⟩)(hk:k.length≤maxLen)(u:Value)(hv:a.eval v=u)(h: ∀w',MapS w' b (putB k u M)→w.grownBy w' (some b)→wpList Tryz.prog ops Q rest (a.put o.dst undef) w'):wpList Tryz.prog ops Q (o::rest) a w:=by refine wpList_plain hg fun K hK=>?_;obtain⟨w',hr,h1,h2⟩:=hown.put hn k hk t e ht u;unfold Oper.wp;simp[execOp,hop,hm,hx,hv,hr,Result.andThen];exact hK _ _ (h w' h1 h2)
/-!### frames -/
structure Keep(F:Nat→Prop)(w w':World):Prop where
 os:w'.os=w.os
 tape:w'.tape=w.tape
 output:w'.output=w.output
 size:w.heap.size≤w'.heap.size
 block: ∀k,k<w.heap.size→ ¬F k→w'.heap[k]?=w.heap[k]?
section
variable{F G:Nat→Prop}{a w w' c:World}
theorem Keep.refl(F:Nat→Prop)(w:World):Keep F w w:=⟨rfl,rfl,rfl,Nat.le_refl _,fun _ _ _=>rfl⟩
theorem Keep.trans(h:Keep F a w)(k:Keep G w c)(hG: ∀b,b<a.heap.size→G b→F b):Keep F a c:=⟨k.os.trans h.os,k.tape.trans h.tape,k.output.trans h.output,Nat.le_trans h.size k.size,fun i hi hn=>(k.block i (Nat.lt_of_lt_of_le hi h.size) (fun hg=>hn (hG i hi hg))).trans (h.block i hi hn)⟩
theorem Keep.mono(h:Keep G w w')(hG: ∀b,b<w.heap.size→G b→F b):Keep F w w':=⟨h.os,h.tape,h.output,h.size,fun k hk hn=>h.block k hk (fun hg=>hn (hG k hk hg))⟩
theorem Keep.of_below(h:Below w.heap.size w w'):Keep F w w':=⟨h.os,h.tape,h.output,h.size,fun k hk _=>h.block k hk⟩
theorem Keep.of_grown{r:Option Nat}(h:w.grownBy w' r)(hr: ∀k,r=some k→F k):Keep F w w':=⟨h.os,h.tape,h.output,h.size,fun k hk hn=>h.block k hk (fun e=>hn (hr k e.symm))⟩
theorem Keep.below{B:Nat}(h:Keep F w w')(hB:B≤w.heap.size)(hF: ∀k,k<B→ ¬F k):Below B w w':=⟨h.os,h.tape,h.output,h.size,fun k hk=>h.block k (by omega) (hF k hk)⟩
theorem Keep.alloc(h:Keep F a w)(o:Obj):Keep F a (w.alloc o):=h.trans (G:=fun _=>False) (Keep.of_below ((Below.refl _ _).alloc (Nat.le_refl _) o)) (fun _ _ h=>h.elim)
theorem Keep.drewN(h:Keep F a w)(n:Nat):Keep F a (w.drewN n):=⟨h.os,h.tape,h.output,h.size,h.block⟩
theorem Keep.setCell(h:Keep F a w){p:Addr}(hp:p.block<a.heap.size→F p.block)(u:Value):Keep F a (w.setCell p u):=⟨h.os,h.tape,h.output,by simpa[World.setCell]using h.size,fun k hk hn=>(Below.heap_setCell w p u k (fun e=>hn (by subst e;exact hp hk))).trans (h.block k hk hn)⟩
theorem Keep.cell(h:Keep F w w'){p:Addr}(hp:p.block<w.heap.size)(hn: ¬F p.block):w'.cell? p=w.cell? p:=World.cell?_of_block (w:=w) (h.block p.block hp hn)
end
theorem heap_set_row{w:World}{b o:Nat}{cs:Array Value}{t:TypeId}{fr:Nat×Nat}{u:Value}(h:w.heap[b]?=some (.cells cs t fr)):(w.setCell ⟨b,o,none⟩ u).heap[b]?=some (.cells (cs.setIfInBounds o u) t fr):=by rw[setCell_eq_setRow w b o cs t fr u h];exact setRow_heap w b cs _ t fr h
theorem heap_lt{w:World}{b:Nat}{o:Obj}(h:w.heap[b]?=some o):b<w.heap.size:=(Array.getElem?_eq_some_iff.1 h).1
/-!### ranging -/
def MapR(w:World)(b r:Nat)(m:Row Value)(todo:List UInt8→Bool)(cnt:Nat):Prop:= ∃n left,w.ranges Tryz.prog 9 raw b r n (mapD m) left cnt∧ ∀k,left (.string k)=todo k
theorem MapR.map{w:World}{b r:Nat}{m:Row Value}{todo:List UInt8→Bool}{cnt:Nat}(h:MapR w b r m todo cnt):MapS w b m:=by obtain⟨n,left,h1,_⟩:=h;exact MapS.of h1.owns
theorem MapR.left_eq{w:World}{b r:Nat}{m:Row Value}{todo:List UInt8→Bool}{cnt:Nat}(h:MapR w b r m todo cnt):w.rangeLeft b r=cnt:=by obtain⟨n,left,h1,_⟩:=h;exact h1.left_eq
theorem MapR.lt{w:World}{b r:Nat}{m:Row Value}{todo:List UInt8→Bool}{cnt:Nat}(h:MapR w b r m todo cnt):r<w.heap.size:=by obtain⟨n,left,h1,_⟩:=h;exact h1.lt
theorem MapR.up{w w':World}{b r:Nat}{m:Row Value}{todo:List UInt8→Bool}{cnt:Nat}(h:MapR w b r m todo cnt)(hb:Below w.heap.size w w'):MapR w' b r m todo cnt:=by obtain⟨n,left,h1,h2⟩:=h;exact⟨n,left,h1.kept (row:=none) ⟨hb.os,hb.tape,hb.output,hb.size,fun i hi _=>hb.block i hi⟩ (by simp) (by simp),h2⟩
theorem mapD_at_some{m:Row Value}{k:List UInt8}{v:Value}(h:(mapD m).atKey (.string k) .nil=.held v):getB m k=some v:=by unfold mapD DataW.atKey at h;unfold getB;simp only[List.find?_map]at h;have e:((fun p:Lit×DataW Value=>p.1.sameKey (.string k))∘fun p:List UInt8×Value=>(Lit.string p.1,DataW.held p.2))=fun p=>p.1==k:=rfl;rw[e]at h;cases hf:m.find? fun p=>p.1==k with|none=>rw[hf]at h;cases h|some p=>rw[hf]at h;simp only[Option.map_some]at h;injection h with h;rw[←h];rfl
theorem wpList_range_S(w:World){ops:Array Oper}{rest:List Oper}{o:Oper}{a:Act}{Q:Exit→Act→World→Prop}(hg:o.guard=none)(mm:Operand)(t e:TypeId)(hop:o.op=Op.range t mm)(ht:Tryz.prog.underlying t=some (.map 9 e))(b:Nat)(m:Row Value)(hm:a.eval mm=.map (some b))(hown:MapS w b m)(hK: ∀w',MapR w' b w.heap.size m (fun k=>(getB m k).isSome) m.length→w.grownBy w' none→w'.heap.size=w.heap.size+1→wpList Tryz.prog ops Q rest (a.put o.dst (.pointer (some ⟨w.heap.size,0,none⟩))) w'):wpList Tryz.prog ops Q (o::rest) a w:=by
 refine wpList_range_own w hg mm t hop 9 e keyS ht raw b m.length (mapD m) hm hown ?_;intro w' h1 h2 h3;refine hK w' ⟨m.length,_,?_,fun k=>mapD_has m k⟩ h2 h3;have e:Maps.size (mapD m)=m.length:=by simp[mapD,Maps.size]
 rw[e]at h1;exact h1
theorem wpList_next_S(w:World){ops:Array Oper}{rest:List Oper}{o:Oper}{a:Act}{Q:Exit→Act→World→Prop}(hg:o.guard=none)(it:Operand)(hop:o.op=Op.next it false)(b r:Nat)(m:Row Value)(todo:List UInt8→Bool)(cnt:Nat)(hit:a.eval it=.pointer (some ⟨r,0,none⟩))(h:MapR w b r m todo cnt)(hDone:(∀k,todo k=false)→wpList Tryz.prog ops Q rest (a.put o.dst (.tuple #[.bool false])) w)(hMore: ∀(k:List UInt8)(v:Value)(w':World)(cnt':Nat),todo k=true→getB m k=some v→k.length≤maxLen→MapR w' b r m (fun x=>todo x&&!(x==k)) cnt'→cnt'<cnt→w.grownBy w' (some r)→w'.heap.size=w.heap.size→(Instr.entry (.pointer (some ⟨r,0,none⟩))).run Tryz.prog w'=.ok (.tuple #[.string ⟨k.toArray⟩,v]) w'→wpList Tryz.prog ops Q rest (a.put o.dst (.tuple #[.bool true,.string ⟨k.toArray⟩,v])) w'):wpList Tryz.prog ops Q (o::rest) a w:=by
 obtain⟨n,left,h1,h2⟩:=h;have hinv: ∀key kl,keyOf Tryz.prog 9 key=some kl→ ∃x:List UInt8,key=.string ⟨x.toArray⟩∧kl=.string x∧x.length≤maxLen:=fun key kl hk=>by obtain⟨x,h1,h2,h3⟩:=Maps.keyOf_str Tryz.underlying9 hk;exact⟨x,h1,h2,h3⟩
 refine wpList_next_ranges w hg it hop 9 keyS raw (fun x:List UInt8=>.string ⟨x.toArray⟩) id (fun key kl hk=>by obtain⟨x,hx,_⟩:=hinv key kl hk;exact⟨x,hx⟩) (fun v y _=>⟨v,rfl⟩) b r n (mapD m) left cnt hit h1 (fun _ hl=>hDone fun k=>by rw[←h2];exact hl _) ?_;intro x c kl y w' cnt' hkey hlk hv hat hrg hlt hgr hsz hen;obtain⟨x',hx',rfl,hxl⟩:=hinv _ _ hkey;obtain rfl:x=x':=by simpa using hx'
 have hy:y=(.held c,[]):=by have:=hv;simp only[raw,id,Option.some.injEq]at this;exact this.symm
 subst hy;exact hMore x c w' cnt' (by rw[←h2];exact hlk) (mapD_at_some (hat .nil)) hxl ⟨n,_,hrg,fun k=>by show(left (.string k)&&!(k==x))=_;rw[h2]⟩ hlt hgr hsz hen
theorem MapS.look2{w:World}{b:Nat}{m:Row Value}(h:MapS w b m)(k:List UInt8)(hk:k.length≤maxLen)(t e:TypeId)(ht:Tryz.prog.underlying t=some (.map 9 e))(z:Value)(hz:(zeroValue e).run Tryz.prog w=.ok z w):(Instr.lookup t (.map (some b)) (.string ⟨k.toArray⟩) true).run Tryz.prog w=.ok (.tuple #[(getB m k).getD z,.bool (getB m k).isSome]) w:=by obtain⟨v,ps,hr,hv⟩:=World.ownsMap.look_ok h keyS ht hz (zd:=.held z) (zp:=[]) rfl (key_str k hk);rw[mapD_at]at hv;rw[hr,mapD_has];simp only[raw,Option.some.injEq,Prod.mk.injEq,DataW.held.injEq]at hv;rw[hv.1]
end Go.Proofs.YtcmmclliabhnjaaGreatDoor
