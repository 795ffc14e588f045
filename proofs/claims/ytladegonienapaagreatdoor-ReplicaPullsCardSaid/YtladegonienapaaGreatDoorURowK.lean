/-
  copy at elements of several cells, into a row that is known whole.
  Rows: what the insertion of an element leaves, plain lists.
-/
import Derived.Test.YtladegonienapaaGreatDoorUSets
import Derived.Maps.RangeWalk
import Derived.Laws.CopyOwn
import Derived.Laws.NewBlocks
import Derived.Lib.Overlaps
import Derived.Lib.AppendZerosOnto
import Derived.Lib.AppendZeros
import Derived.Deep.DeepAppendWide
set_option maxRecDepth 100000
set_option maxHeartbeats 16000000
namespace Go.Proofs.YtladegonienapaaGreatDoor
open Go.RowKit Go.Maps Go.Sort
/-!### the plain row -/
section plain
variable{α β:Type}
abbrev Row(α:Type):=List (List UInt8×α)
def fQ(x:List UInt8×α):Row α→Row α|[]=>[x]|y::r=>if bytesBefore x.1 y.1 then x::y::r else y::fQ x r
def aL(k:List UInt8)(v:α)(m:Row α):Row α:=fQ (k,v) (m.filter fun p=>!(p.1==k))
def aC(m:Row α)(k:List UInt8):Option α:=(m.find? fun p=>p.1==k).map (·.2)
theorem xB{x y:List UInt8×α}: ∀{m:Row α},y∈fQ x m↔y=x∨y∈m
 |[]=>by simp[fQ]
 |z::r=>by
  unfold fQ;split;·simp
  ·simp only[List.mem_cons,xB (m:=r)];constructor;·rintro(h|h|h)<;>simp[h]
   ·rintro(h|h|h)<;>simp[h]
theorem aJ{k:List UInt8}{v:α}{m:Row α}{y:List UInt8×α}:y∈aL k v m↔y=(k,v)∨(y∈m∧y.1≠k):=by unfold aL;rw[xB];simp
theorem nW{x:List UInt8×α}: ∀m:Row α,(fQ x m).length=m.length+1|[]=>rfl|z::r=>by unfold fQ;split<;>simp[nW r]
theorem DV(f:α→β)(x:List UInt8×α): ∀m:Row α,(fQ x m).map (fun p=>(p.1,f p.2))=fQ (x.1,f x.2) (m.map fun p=>(p.1,f p.2))
 |[]=>rfl
 |z::r=>by
  simp only[fQ,List.map_cons];split;·rfl
  ·simp only[List.map_cons,DV f x r]
theorem De(f:α→β)(k:List UInt8)(v:α)(m:Row α):(aL k v m).map (fun p=>(p.1,f p.2))=aL k (f v) (m.map fun p=>(p.1,f p.2)):=by unfold aL;rw[DV,List.filter_map];rfl
theorem rJ(f:α→β)(m:Row α)(k:List UInt8):aC (m.map fun p=>(p.1,f p.2)) k=(aC m k).map f:=by unfold aC;rw[List.find?_map];simp[Function.comp_def]
theorem ak{m:Row α}{k:List UInt8}{v:α}(h:aC m k=some v):(k,v)∈m:=by unfold aC at h;rw[Option.map_eq_some_iff]at h;obtain⟨p,hp,rfl⟩:=h;have h1:=List.find?_some hp;have h2:=List.mem_of_find?_eq_some hp;simp at h1;subst h1;exact h2
theorem p8{k:List UInt8}{v:α}: ∀m:Row α,(∀p∈m,p.1≠k)→(fQ (k,v) m).find? (fun p=>p.1==k)=some (k,v)
 |[],_=>by simp[fQ]
 |y::r,h=>by
  unfold fQ;split;·simp
  ·have:=h y (by simp);simp[this,p8 r (fun p hp=>h p (by simp[hp]))]
theorem nX{k k':List UInt8}{v:α}(hne:k'≠k): ∀m:Row α,(fQ (k,v) m).find? (fun p=>p.1==k')=m.find? (fun p=>p.1==k')
 |[]=>by simp[fQ,hne.symm]
 |y::r=>by
  unfold fQ;split;·simp[hne.symm]
  ·by_cases e:y.1=k'<;>simp[e,nX hne r]
theorem dE(m:Row α)(k:List UInt8)(v:α):aC (aL k v m) k=some v:=by
 unfold aC aL;rw[p8];·rfl
 ·intro p hp;simpa using(List.mem_filter.1 hp).2
theorem fT(m:Row α){k k':List UInt8}(v:α)(hne:k'≠k):aC (aL k v m) k'=aC m k':=by unfold aC aL;rw[nX hne];rw[find_filter_keep (fun p hp=>by simp only[beq_iff_eq]at hp;simp[hp,hne])]
def bP(m:Row α):Prop:=m.Pairwise fun p q=>bytesBefore p.1 q.1=true
theorem fq{a b c:List UInt8}(h:bytesBefore a b=true)(h':bytesBefore b c=true):bytesBefore a c=true:=WideShapes.before_trans (a:=.string a) (b:=.string b) (c:=.string c) h h'
theorem az(a:List UInt8):bytesBefore a a=false:=WideShapes.before_irrefl (.string a)
theorem jv: ∀{a b:List UInt8},a≠b→bytesBefore a b=true∨bytesBefore b a=true
 |[],[],h=>absurd rfl h
 |[],_::_,_=>.inl rfl
 |_::_,[],_=>.inr rfl
 |x::a,y::b,h=>by
  unfold bytesBefore;by_cases e:x=y;·subst e;have hne:a≠b:=fun e'=>h (by rw[e']);rcases jv hne with h'|h'<;>simp[h']
  ·rcases UInt8.lt_or_lt_of_ne e with h'|h'<;>simp[h']
theorem uO{x:List UInt8×α}: ∀m:Row α,bP m→(∀p∈m,p.1≠x.1)→bP (fQ x m)
 |[],_,_=>by simp[fQ,bP]
 |y::r,h,hne=>by
  obtain⟨h1,h2⟩:=List.pairwise_cons.1 h;unfold fQ;split
  ·rename_i hb;refine List.pairwise_cons.2 ⟨fun q hq=>?_,h⟩;rcases List.mem_cons.1 hq with rfl|hq;·exact hb
   ·exact fq hb (h1 q hq)
  ·rename_i hb;have hyx:bytesBefore y.1 x.1=true:=by
    rcases jv (hne y (by simp))with h'|h';·exact h'
    ·exact absurd h' hb
   refine List.pairwise_cons.2 ⟨fun q hq=>?_,uO r h2 (fun p hp=>hne p (by simp[hp]))⟩;rcases xB.1 hq with rfl|hq;·exact hyx
   ·exact h1 q hq
theorem aZ{m:Row α}(h:bP m)(k:List UInt8)(v:α):bP (aL k v m):=uO _ (h.filter _) (fun p hp=>by simpa using(List.mem_filter.1 hp).2)
theorem bP.key{m:Row α}(h:bP m){p q:List UInt8×α}(hp:p∈m)(hq:q∈m)(e:p.1=q.1):p=q:=by
 induction m with
  |nil=>cases hp
  |cons y r ih=>
   obtain⟨h1,h2⟩:=List.pairwise_cons.1 h;rcases List.mem_cons.1 hp with hp|hp<;>rcases List.mem_cons.1 hq with hq|hq;·rw[hp,hq]
   ·have:=h1 q hq;rw[←hp,e,az]at this;cases this
   ·have:=h1 p hp;rw[←hq,←e,az]at this;cases this
   ·exact ih h2 hp hq
theorem fU{m:Row α}(h:bP m){k:List UInt8}{v:α}(hm:(k,v)∈m):aC m k=some v:=by unfold aC;cases hf:m.find? (fun p=>p.1==k)with|none=>have:=List.find?_eq_none.1 hf (k,v) hm;simp at this|some p=>have h1:=List.find?_some hf;have h2:=List.mem_of_find?_eq_some hf;simp at h1;have:=h.key h2 hm h1;rw[this];rfl
theorem dJ(m:Row α)(k:List UInt8)(v:α):(aL k v m).length≤m.length+1:=by unfold aL;rw[nW];have:=List.length_filter_le (fun p:List UInt8×α=>!(p.1==k)) m;omega
end plain
/-!### in memory -/
abbrev raw(v:Value):Option (DataW Value×List MemPlace):=some (.held v,[])
def mapD(m:Row Value):DataW Value:=.map (m.map fun p=>(.string p.1,.held p.2))
def dN(w:World)(b:Nat)(m:Row Value):Prop:=w.ownsMap Tryz.prog 9 raw b m.length (mapD m)
theorem dN.of{w:World}{b n:Nat}{m:Row Value}(h:w.ownsMap Tryz.prog 9 raw b n (mapD m)):dN w b m:=by
 obtain⟨es,clock,h1,h2,h3,h4⟩:=h;refine⟨es,clock,h1,h2,?_,h4⟩;have:(m.map fun p=>((Lit.string p.1,DataW.held p.2):Lit×DataW Value)).length=es.size:=by have:=congrArg Maps.size h4;simp only[mapD,Maps.size,length_sorted]at this;simpa using this
 rw[List.length_map]at this;omega
theorem dN.made(w:World):dN (w.alloc (.map #[] 0)) w.heap.size []:=World.ownsMap_made _ _ _ _
section
variable{w w':World}{b:Nat}{m:Row Value}
theorem dN.lt(h:dN w b m):b<w.heap.size:=World.ownsMap.lt h
theorem dN.block(h:dN w b m)(hb:w'.heap[b]?=w.heap[b]?):dN w' b m:=by obtain⟨es,clock,h1,h2⟩:=h;exact⟨es,clock,hb.trans h1,h2⟩
theorem dN.isMap(h:dN w b m): ∃es clock,w.heap[b]?=some (.map es clock):=by obtain⟨es,clock,h1,h2⟩:=h;exact⟨es,clock,h1⟩
theorem Im(m:Row Value)(k:List UInt8)(z:Value):(mapD m).atKey (.string k) (.held z)=.held ((aC m k).getD z):=by unfold mapD DataW.atKey aC;simp only[List.find?_map];have:((fun p:Lit×DataW Value=>p.1.sameKey (.string k))∘fun p:List UInt8×Value=>(Lit.string p.1,DataW.held p.2))=fun p=>p.1==k:=rfl;rw[this];cases m.find? fun p=>p.1==k<;>rfl
theorem Dv(m:Row Value)(k:List UInt8):has (mapD m) (.string k)=(aC m k).isSome:=by unfold aC;show(m.map fun p=>((Lit.string p.1,DataW.held p.2):Lit×DataW Value)).any (fun p=>p.1.sameKey (.string k))=_;rw[List.any_map];have:((fun p:Lit×DataW Value=>p.1.sameKey (.string k))∘fun p:List UInt8×Value=>(Lit.string p.1,DataW.held p.2))=fun p=>p.1==k:=rfl;rw[this,Option.isSome_map,Bool.eq_iff_iff,List.find?_isSome,List.any_eq_true]
theorem Du(x:List UInt8×Value): ∀m:Row Value,DataW.insert (.string x.1,.held x.2) (m.map fun p=>((.string p.1,.held p.2):Lit×DataW Value))=(fQ x m).map fun p=>(.string p.1,.held p.2)
 |[]=>rfl
 |y::r=>by
  simp only[fQ,List.map_cons,DataW.insert];by_cases hb:bytesBefore x.1 y.1=true;·rw[if_pos hb,if_pos (show Lit.before (.string x.1) (.string y.1)=true from hb)];rfl
  ·rw[if_neg hb,if_neg (show¬Lit.before (.string x.1) (.string y.1)=true from hb),Du x r];rfl
theorem MF(m:Row Value)(k:List UInt8)(v:Value):(mapD m).put (.string k) (.held v)=mapD (aL k v m):=by unfold mapD DataW.put aL;simp only;rw[List.filter_map];exact congrArg DataW.map (Du (k,v) _)
theorem dN.look(h:dN w b m)(k:List UInt8)(hk:k.length≤maxLen)(t e:TypeId)(ht:Tryz.prog.underlying t=some (.map 9 e))(z:Value)(hz:(zeroValue e).run Tryz.prog w=.ok z w):(Instr.lookup t (.map (some b)) (.string ⟨k.toArray⟩) false).run Tryz.prog w=.ok ((aC m k).getD z) w:=by obtain⟨v,ps,hr,hv⟩:=World.ownsMap.lookup h qD ht hz (zd:=.held z) (zp:=[]) rfl (gQ k hk);rw[Im]at hv;rw[hr];simp only[raw,Option.some.injEq,Prod.mk.injEq,DataW.held.injEq]at hv;rw[hv.1]
theorem dN.put(h:dN w b m)(hn:m.length<maxLen)(k:List UInt8)(hk:k.length≤maxLen)(t e:TypeId)(ht:Tryz.prog.underlying t=some (.map 9 e))(v:Value): ∃w',(Instr.mapUpdate t (.map (some b)) (.string ⟨k.toArray⟩) v).run Tryz.prog w=.ok () w'∧dN w' b (aL k v m)∧w.grownBy w' (some b):=by obtain⟨w',hr,r1,r2⟩:=World.ownsMap.update h qD ht hn (gQ k hk) (val:=v) (d:=.held v) (ps:=[]) rfl;rw[MF]at r1;exact⟨w',hr,dN.of r1,r2⟩
end
theorem aX{ops:Array Oper}{rest:List Oper}{o:Oper}{a:Act}{Q:Exit→Act→World→Prop}{w:World}(hg:o.guard=none)(m x v:Operand)(t e:TypeId)(hop:o.op=Op.mapUpdate t m x v)(ht:Tryz.prog.underlying t=some (.map 9 e))(b:Nat)(M:Row Value)(hm:a.eval m=.map (some b))(hown:dN w b M)(hn:M.length<maxLen)(k:List UInt8)(hx:a.eval x=.string ⟨k.toArray⟩)(hk:k.length≤maxLen)(u:Value)(hv:a.eval v=u)(h: ∀w',dN w' b (aL k u M)→w.grownBy w' (some b)→wpList Tryz.prog ops Q rest (a.put o.dst undef) w'):wpList Tryz.prog ops Q (o::rest) a w:=by refine wpList_plain hg fun K hK=>?_;obtain⟨w',hr,h1,h2⟩:=hown.put hn k hk t e ht u;unfold Oper.wp;simp[execOp,hop,hm,hx,hv,hr,Result.andThen];exact hK _ _ (h w' h1 h2)
/-!### frames -/
structure ah(F:Nat→Prop)(w w':World):Prop where
 os:w'.os=w.os
 tape:w'.tape=w.tape
 output:w'.output=w.output
 size:w.heap.size≤w'.heap.size
 block: ∀k,k<w.heap.size→ ¬F k→w'.heap[k]?=w.heap[k]?
section
variable{F G:Nat→Prop}{a w w' c:World}
theorem ah.refl(F:Nat→Prop)(w:World):ah F w w:=⟨rfl,rfl,rfl,Nat.le_refl _,fun _ _ _=>rfl⟩
theorem ah.trans(h:ah F a w)(k:ah G w c)(hG: ∀b,b<a.heap.size→G b→F b):ah F a c:=⟨k.os.trans h.os,k.tape.trans h.tape,k.output.trans h.output,Nat.le_trans h.size k.size,fun i hi hn=>(k.block i (Nat.lt_of_lt_of_le hi h.size) (fun hg=>hn (hG i hi hg))).trans (h.block i hi hn)⟩
theorem ah.mono(h:ah G w w')(hG: ∀b,b<w.heap.size→G b→F b):ah F w w':=⟨h.os,h.tape,h.output,h.size,fun k hk hn=>h.block k hk (fun hg=>hn (hG k hk hg))⟩
theorem ah.of_below(h:Below w.heap.size w w'):ah F w w':=⟨h.os,h.tape,h.output,h.size,fun k hk _=>h.block k hk⟩
theorem ah.bV{r:Option Nat}(h:w.grownBy w' r)(hr: ∀k,r=some k→F k):ah F w w':=⟨h.os,h.tape,h.output,h.size,fun k hk hn=>h.block k hk (fun e=>hn (hr k e.symm))⟩
theorem ah.below{B:Nat}(h:ah F w w')(hB:B≤w.heap.size)(hF: ∀k,k<B→ ¬F k):Below B w w':=⟨h.os,h.tape,h.output,h.size,fun k hk=>h.block k (by omega) (hF k hk)⟩
theorem ah.alloc(h:ah F a w)(o:Obj):ah F a (w.alloc o):=h.trans (G:=fun _=>False) (ah.of_below ((Below.refl _ _).alloc (Nat.le_refl _) o)) (fun _ _ h=>h.elim)
theorem ah.drewN(h:ah F a w)(n:Nat):ah F a (w.drewN n):=⟨h.os,h.tape,h.output,h.size,h.block⟩
theorem ah.setCell(h:ah F a w){p:Addr}(hp:p.block<a.heap.size→F p.block)(u:Value):ah F a (w.setCell p u):=⟨h.os,h.tape,h.output,by simpa[World.setCell]using h.size,fun k hk hn=>(Below.heap_setCell w p u k (fun e=>hn (by subst e;exact hp hk))).trans (h.block k hk hn)⟩
theorem ah.cell(h:ah F w w'){p:Addr}(hp:p.block<w.heap.size)(hn: ¬F p.block):w'.cell? p=w.cell? p:=World.cell?_of_block (w:=w) (h.block p.block hp hn)
end
theorem ae{w:World}{b o:Nat}{cs:Array Value}{t:TypeId}{fr:Nat×Nat}{u:Value}(h:w.heap[b]?=some (.cells cs t fr)):(w.setCell ⟨b,o,none⟩ u).heap[b]?=some (.cells (cs.setIfInBounds o u) t fr):=by rw[setCell_eq_setRow w b o cs t fr u h];exact setRow_heap w b cs _ t fr h
theorem aD{w:World}{b:Nat}{o:Obj}(h:w.heap[b]?=some o):b<w.heap.size:=(Array.getElem?_eq_some_iff.1 h).1
/-!### ranging -/
def oF(w:World)(b r:Nat)(m:Row Value)(todo:List UInt8→Bool)(cnt:Nat):Prop:= ∃n left,w.ranges Tryz.prog 9 raw b r n (mapD m) left cnt∧ ∀k,left (.string k)=todo k
theorem oF.left_eq{w:World}{b r:Nat}{m:Row Value}{todo:List UInt8→Bool}{cnt:Nat}(h:oF w b r m todo cnt):w.rangeLeft b r=cnt:=by obtain⟨n,left,h1,_⟩:=h;exact h1.left_eq
theorem oF.lt{w:World}{b r:Nat}{m:Row Value}{todo:List UInt8→Bool}{cnt:Nat}(h:oF w b r m todo cnt):r<w.heap.size:=by obtain⟨n,left,h1,_⟩:=h;exact h1.lt
theorem oF.up{w w':World}{b r:Nat}{m:Row Value}{todo:List UInt8→Bool}{cnt:Nat}(h:oF w b r m todo cnt)(hb:Below w.heap.size w w'):oF w' b r m todo cnt:=by obtain⟨n,left,h1,h2⟩:=h;exact⟨n,left,h1.kept (row:=none) ⟨hb.os,hb.tape,hb.output,hb.size,fun i hi _=>hb.block i hi⟩ (by simp) (by simp),h2⟩
theorem AQ{m:Row Value}{k:List UInt8}{v:Value}(h:(mapD m).atKey (.string k) .nil=.held v):aC m k=some v:=by unfold mapD DataW.atKey at h;unfold aC;simp only[List.find?_map]at h;have e:((fun p:Lit×DataW Value=>p.1.sameKey (.string k))∘fun p:List UInt8×Value=>(Lit.string p.1,DataW.held p.2))=fun p=>p.1==k:=rfl;rw[e]at h;cases hf:m.find? fun p=>p.1==k with|none=>rw[hf]at h;cases h|some p=>rw[hf]at h;simp only[Option.map_some]at h;injection h with h;rw[←h];rfl
theorem nD(w:World){ops:Array Oper}{rest:List Oper}{o:Oper}{a:Act}{Q:Exit→Act→World→Prop}(hg:o.guard=none)(mm:Operand)(t e:TypeId)(hop:o.op=Op.range t mm)(ht:Tryz.prog.underlying t=some (.map 9 e))(b:Nat)(m:Row Value)(hm:a.eval mm=.map (some b))(hown:dN w b m)(hK: ∀w',oF w' b w.heap.size m (fun k=>(aC m k).isSome) m.length→w.grownBy w' none→w'.heap.size=w.heap.size+1→wpList Tryz.prog ops Q rest (a.put o.dst (.pointer (some ⟨w.heap.size,0,none⟩))) w'):wpList Tryz.prog ops Q (o::rest) a w:=by
 refine wpList_range_own w hg mm t hop 9 e qD ht raw b m.length (mapD m) hm hown ?_;intro w' h1 h2 h3;refine hK w' ⟨m.length,_,?_,fun k=>Dv m k⟩ h2 h3;have e:Maps.size (mapD m)=m.length:=by simp[mapD,Maps.size]
 rw[e]at h1;exact h1
theorem pW(w:World){ops:Array Oper}{rest:List Oper}{o:Oper}{a:Act}{Q:Exit→Act→World→Prop}(hg:o.guard=none)(it:Operand)(hop:o.op=Op.next it false)(b r:Nat)(m:Row Value)(todo:List UInt8→Bool)(cnt:Nat)(hit:a.eval it=.pointer (some ⟨r,0,none⟩))(h:oF w b r m todo cnt)(hDone:(∀k,todo k=false)→wpList Tryz.prog ops Q rest (a.put o.dst (.tuple #[.bool false])) w)(hMore: ∀(k:List UInt8)(v:Value)(w':World)(cnt':Nat),todo k=true→aC m k=some v→k.length≤maxLen→oF w' b r m (fun x=>todo x&&!(x==k)) cnt'→cnt'<cnt→w.grownBy w' (some r)→w'.heap.size=w.heap.size→(Instr.entry (.pointer (some ⟨r,0,none⟩))).run Tryz.prog w'=.ok (.tuple #[.string ⟨k.toArray⟩,v]) w'→wpList Tryz.prog ops Q rest (a.put o.dst (.tuple #[.bool true,.string ⟨k.toArray⟩,v])) w'):wpList Tryz.prog ops Q (o::rest) a w:=by
 obtain⟨n,left,h1,h2⟩:=h;have hinv: ∀key kl,keyOf Tryz.prog 9 key=some kl→ ∃x:List UInt8,key=.string ⟨x.toArray⟩∧kl=.string x∧x.length≤maxLen:=fun key kl hk=>by obtain⟨x,h1,h2,h3⟩:=Maps.keyOf_str Tryz.underlying9 hk;exact⟨x,h1,h2,h3⟩
 refine wpList_next_ranges w hg it hop 9 qD raw (fun x:List UInt8=>.string ⟨x.toArray⟩) id (fun key kl hk=>by obtain⟨x,hx,_⟩:=hinv key kl hk;exact⟨x,hx⟩) (fun v y _=>⟨v,rfl⟩) b r n (mapD m) left cnt hit h1 (fun _ hl=>hDone fun k=>by rw[←h2];exact hl _) ?_;intro x c kl y w' cnt' hkey hlk hv hat hrg hlt hgr hsz hen;obtain⟨x',hx',rfl,hxl⟩:=hinv _ _ hkey;obtain rfl:x=x':=by simpa using hx'
 have hy:y=(.held c,[]):=by have:=hv;simp only[raw,id,Option.some.injEq]at this;exact this.symm
 subst hy;exact hMore x c w' cnt' (by rw[←h2];exact hlk) (AQ (hat .nil)) hxl ⟨n,_,hrg,fun k=>by show(left (.string k)&&!(k==x))=_;rw[h2]⟩ hlt hgr hsz hen
section
variable{P:Program}
theorem ma(w:World)(dT sT ty elem:TypeId)(size g o dLen dCap:Nat)(a:Addr)(sLen sCap:Nat)(cur:Array Value)(t:TypeId)(cs:List Value)(m:Nat)(hu:P.underlying dT=some (.slice elem))(hs:(P.info? elem).map (·.size)=some size)(hg:w.heap[g]?=some (.cells cur t (0,0)))(hm:m=Nat.min sLen dLen)(hn:cs.length=m*size)(hsrc: ∀j v,cs[j]?=some v→w.cell? (a.add j)=some v)(hfit:o+cs.length≤cur.size)(h1: ∀v∈cs,v.oneCell'=true):(Builtin.copy_ #[dT,sT] ty #[.slice (some ⟨g,o,none⟩) dLen dCap,.slice (some a) sLen sCap]).run P w=.ok (goInt m) (w.setRow g (cur.toList.take o++cs++cur.toList.drop (o+cs.length)).toArray):=by
 have hl:=run_loadCells_list (P:=P) w a cs hsrc;have hst:=run_storeCells_at P g o t cs 0 cur w hg (by simpa using hfit) h1;rw[hn]at hl;cases hq:P.info? elem with
  |none=>simp[hq]at hs
  |some i=>
   have hi:i.size=size:=by simpa[hq]using hs
   simp[Builtin.copy_,run_underlying hu,Builtin.lenOf,Builtin.firstCells,sizeOf,typeInfo,hq,hi,←hm,hl,hst]
structure lq(w w':World)(g o:Nat)(cur:Array Value)(t:TypeId)(cs:List Value):Prop where
 row:w'.heap[g]?=some (.cells (cur.toList.take o++cs++cur.toList.drop (o+cs.length)).toArray t (0,0))
 size:w'.heap.size=w.heap.size
 grown:w.grownBy w' (some g)
theorem dY(w:World)(g o:Nat)(cur:Array Value)(t:TypeId)(cs:List Value)(hg:w.heap[g]?=some (.cells cur t (0,0))):lq w (w.setRow g (cur.toList.take o++cs++cur.toList.drop (o+cs.length)).toArray) g o cur t cs:=⟨setRow_heap w g cur _ t (0,0) hg,by simp[World.setRow],⟨rfl,rfl,rfl,by simp[World.setRow],fun k _ hk=>setRow_other w g k _ (fun e=>hk (by rw[e]))⟩⟩
theorem jb{w:World}{ops:Array Oper}{rest:List Oper}{o:Oper}{a:Act}{Q:Exit→Act→World→Prop}(hgd:o.guard=none)(d s:Operand)(dT sT:TypeId)(ho:o.op=.call {callee:=.builtin .copy,args:= #[d,s],argTypes:= #[dT,sT]})(elem:TypeId)(size:Nat)(hu:P.underlying dT=some (.slice elem))(hsz:(P.info? elem).map (·.size)=some size)(g off dLen dCap:Nat)(ad:Addr)(sLen sCap:Nat)(hd:a.eval d=.slice (some ⟨g,off,none⟩) dLen dCap)(hs:a.eval s=.slice (some ad) sLen sCap)(cur:Array Value)(t:TypeId)(hg:w.heap[g]?=some (.cells cur t (0,0)))(cs:List Value)(m:Nat)(hm:m=Nat.min sLen dLen)(hn:cs.length=m*size)(hsrc: ∀j v,cs[j]?=some v→w.cell? (ad.add j)=some v)(hfit:off+cs.length≤cur.size)(h1: ∀v∈cs,v.oneCell'=true)(h: ∀w',lq w w' g off cur t cs→wpList P ops Q rest (a.put o.dst (goInt m)) w'):wpList P ops Q (o::rest) a w:=by refine wpList_plain hgd fun K hK=>?_;have hrun:=ma (P:=P) w dT sT o.type elem size g off dLen dCap ad sLen sCap cur t cs m hu hsz hg hm hn hsrc hfit h1;unfold Oper.wp;simp[execOp,ho,resolve,invoke,builtin,hd,hs,hrun,Result.andThen];have:=dY w g off cur t cs hg;refine hK _ _ (h _ ?_);simpa using this
theorem kP{ops:Array Oper}{o:Oper}{a:Act}{w:World}{K:Act→World→Prop}{Q:Exit→Act→World→Prop}{E:Prop}(hgd:o.guard=none)(d s:Operand)(dT sT:TypeId)(ho:o.op=.call {callee:=.builtin .copy,args:= #[d,s],argTypes:= #[dT,sT]})(elem:TypeId)(size:Nat)(hu:P.underlying dT=some (.slice elem))(hsz:(P.info? elem).map (·.size)=some size)(g off dLen dCap:Nat)(ad:Addr)(sLen sCap:Nat)(hd:a.eval d=.slice (some ⟨g,off,none⟩) dLen dCap)(hs:a.eval s=.slice (some ad) sLen sCap)(cur:Array Value)(t:TypeId)(hg:w.heap[g]?=some (.cells cur t (0,0)))(cs:List Value)(m:Nat)(hm:m=Nat.min sLen dLen)(hn:cs.length=m*size)(hsrc: ∀j v,cs[j]?=some v→w.cell? (ad.add j)=some v)(hfit:off+cs.length≤cur.size)(h1: ∀v∈cs,v.oneCell'=true)(h: ∀w',lq w w' g off cur t cs→K (a.put o.dst (goInt m)) w'):if Region.wanted o (yielded ops a.tmps)=true then Oper.wp P o a w K Q else E:=by
 have hw:Region.wanted o (yielded ops a.tmps)=true:=by simp[Region.wanted,hgd]
 rw[if_pos hw];have hrun:=ma (P:=P) w dT sT o.type elem size g off dLen dCap ad sLen sCap cur t cs m hu hsz hg hm hn hsrc hfit h1;unfold Oper.wp;simp[execOp,ho,resolve,invoke,builtin,hd,hs,hrun,Result.andThen];have:=dY w g off cur t cs hg;refine h _ ?_;simpa using this
end
def lv(e:TypeId)(size base:Nat)(w:World)(v:Value)(n i:Nat)(xs ys:List Value)(r:Ending)(w':World):Prop:= ∃v',r=.returned v'∧w'.ownsRow base e size v' (n+1) (xs.take (i*size)++ys++xs.drop (i*size))∧w.grownBy w' v.ownBlock∧(v'.ownBlock=v.ownBlock∨ ∃k,v'.ownBlock=some k∧w.heap.size≤k)
theorem take_at{α:Type}(l xs:List α)(n m:Nat)(h:l.take n=xs)(hm:m≤n):l.take m=xs.take m:=by rw[←h,List.take_take,Nat.min_eq_left hm]
theorem wR{α:Type}(cur xs ys:List α)(a s n:Nat)(hx:cur.take n=xs)(hxl:xs.length=n)(ha:a≤n)(hy:ys.length=s)(hc:n+s≤cur.length):((((cur.take (a+s)++xs.drop a++cur.drop (a+s+(xs.drop a).length)).take a)++ys++(cur.take (a+s)++xs.drop a++cur.drop (a+s+(xs.drop a).length)).drop (a+ys.length)).take (n+s))=xs.take a++ys++xs.drop a:=by
 have e1:(cur.take (a+s)++xs.drop a++cur.drop (a+s+(xs.drop a).length)).take a=xs.take a:=by rw[List.append_assoc,List.take_append_of_le_length (by simp;omega),List.take_take,Nat.min_eq_left (by omega),take_at cur xs n a hx ha]
 have e2:(cur.take (a+s)++xs.drop a++cur.drop (a+s+(xs.drop a).length)).drop (a+ys.length)=xs.drop a++cur.drop (a+s+(xs.drop a).length):=by rw[hy,List.append_assoc];exact List.drop_left' (by simp;omega)
 rw[e1,e2,List.append_assoc,List.append_assoc,←List.append_assoc,←List.append_assoc];rw[List.take_left' (by simp;omega)];simp
theorem uw{α:Type}(row xs ys:List α)(a s n:Nat)(hx:row.take a=xs.take a)(hxl:xs.length=n)(ha:a≤n)(hy:ys.length=s)(hc:n+s≤row.length):((((row.take a++ys++row.drop (a+ys.length)).take (a+s))++xs.drop a++(row.take a++ys++row.drop (a+ys.length)).drop (a+s+(xs.drop a).length)).take (n+s))=xs.take a++ys++xs.drop a:=by
 have e1:(row.take a++ys++row.drop (a+ys.length)).take (a+s)=xs.take a++ys:=by rw[List.take_left' (by simp;omega),hx]
 rw[e1,List.take_left' (by simp;omega)]
theorem mi:(Tryz.prog.info? 153).map (fun i=>(i.zero,i.size,i.bytes))=some (some (.agg #[.int .i64 0,.int .i64 0]),2,16):=by kernel_rfl
end Go.Proofs.YtladegonienapaaGreatDoor
