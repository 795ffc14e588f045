/-
  Layer 7: Decode.
-/
import Derived.Test.YtladegonienapaaGreatDoorUHdRgs
set_option maxRecDepth 100000
set_option maxHeartbeats 16000000
namespace Go.Proofs.YtladegonienapaaGreatDoor
open Go.RowKit Go.Maps Go.Sort
def gp(w:World)(B:Nat)(l:List UInt8)(e:Ending)(w':World):Prop:=(match qj l with|.ok s r=> ∃A n c,e=.returned (.tuple #[.string ⟨s.toArray⟩,.slice A n c,.int .i64 0])∧fA w B A n c r|.dV=>e=.returned (.tuple #[.string ⟨#[]⟩,.slice none 0 0,.int .i64 3])|.form=>e=.returned (.tuple #[.string ⟨#[]⟩,.slice none 0 0,.int .i64 2]))∧ ∃q,w'=w.drewN q
theorem Co(w:World)(B:Nat)(A:Option Addr)(n k:Nat)(l:List UInt8)(h:fA w B A n k l)(hn:n≤1000000000):Calls Tryz.prog 135 #[.slice A n k] w (gp w B l):=by
 have HB:=qH h;have hlen:=h.len;have hcap:=h.cap;have hmax:=h.max;unfold maxLen at hmax;have EU:=qS (∀q,qj l=.dV→gp w B l (.returned (.tuple #[.string ⟨#[]⟩,.slice none 0 0,.int .i64 3])) (w.drewN q)) (fun q h1=>by unfold gp;rw[h1];exact⟨rfl,q,rfl⟩);have XY:=qS (∀q,qj l=.form→gp w B l (.returned (.tuple #[.string ⟨#[]⟩,.slice none 0 0,.int .i64 2])) (w.drewN q)) (fun q h1=>by unfold gp;rw[h1];exact⟨rfl,q,rfl⟩);have mQ:=qS (∀q s r A n c,qj l=.ok s r→fA w B A n c r→gp w B l (.returned (.tuple #[.string ⟨s.toArray⟩,.slice A n c,.int .i64 0])) (w.drewN q)) (fun q s r A n c h1 h2=>by unfold gp;rw[h1];exact⟨⟨_,_,_,rfl,h2⟩,q,rfl⟩);clear h;cases l with
  |nil=>simp only[List.length_nil]at hlen;subst hlen;have HF:=qH (EU.o 0 rfl);go_enter Tryz.func135,Tryz.ntmps135;go_wp2;go_ret3;exact HF.o
  |cons c t=>
   simp only[List.length_cons]at hlen;obtain⟨b,off,rfl,hb,hc⟩:=HB.o.cell (by omega);have hc0:w.cell? ⟨b,off,none⟩=some (.int .u8 c.toNat):=hc 0 (by simp);have hR:qj (c::t)=if t.length<c.toNat then .dV else if af (t.take c.toNat)then .ok (t.take c.toNat) (t.drop c.toNat)else .form:=rfl;have hx256:=c.toNat_lt;generalize c.toNat=x at*;have hn1:1≤n:=by omega
   by_cases h1:t.length<x
   ·rw[if_pos h1]at hR;have HF:=qH (EU.o 0 hR);have t1:(n:Int)-1<x:=by omega
    clear hR hc hlen;go_enter Tryz.func135,Tryz.ntmps135;go_wp2;go_ret3;exact HF.o
   ·rw[if_neg h1]at hR;have t1: ¬(n:Int)-1<x:=by omega
    by_cases hk1:k=1
    ·obtain rfl:x=0:=by omega
     obtain rfl:n=1:=by omega
     subst hk1;have HF:=qS (gp w B (c::t) (.returned (.tuple #[.string ⟨#[]⟩,.slice none 0 0,.int .i64 2])) w) (XY.o 0 (by rw[hR];rfl));have hst:=(fA.nil w B (some ⟨b,off,none⟩) 0 (Nat.zero_le _)).str (P:=Tryz.prog) 93 5 9 Tryz.underlying93 Tryz.underlying5 Tryz.underlying9;have BI:=qH (iF w []);have hn0:af []=false:=by decide
     rw[hn0]at BI;clear hR hc hlen;go_enter Tryz.func135,Tryz.ntmps135;go_wp2_with fail;with_reducible refine BI.o.mono ?_
     rintro r w1⟨rfl,rfl⟩;go_wp2;go_ret3;exact HF.o
    ·have hcut:=HB.o.cut 1 x (by omega);have hd1:((c::t).drop 1).take x=t.take x:=rfl;rw[hd1]at hcut;have hst:=hcut.str (P:=Tryz.prog) 93 5 9 Tryz.underlying93 Tryz.underlying5 Tryz.underlying9;have BI:=qH (iF w (t.take x));have htl:=HB.o.tail (1+x) (by omega);have hd2:(c::t).drop (1+x)=t.drop x:=by rw[Nat.add_comm];rfl
     rw[hd2]at htl;have HT:=qH htl;have hxl:x≤t.length:=by omega
     clear hcut hd1 hd2 htl hc;cases hnm:af (t.take x)
     ·rw[hnm]at BI hR;have HF:=qS (gp w B (c::t) (.returned (.tuple #[.string ⟨#[]⟩,.slice none 0 0,.int .i64 2])) w) (XY.o 0 hR);clear hR hnm hlen;generalize t.take x=s at*;go_enter Tryz.func135,Tryz.ntmps135;go_wp2_with fail;with_reducible refine BI.o.mono ?_
      rintro r w1⟨rfl,rfl⟩;go_wp2;go_ret3;exact HF.o
     ·rw[hnm]at BI hR;simp only[if_true]at hR;have HR:=qH hR;clear hR hnm hlen;generalize t.take x=s at*;generalize t.drop x=r0 at*;go_enter Tryz.func135,Tryz.ntmps135;go_wp2_with fail;with_reducible refine BI.o.mono ?_
      rintro r w1⟨rfl,rfl⟩;have e1:((1+x:Nat):Int)=1+(x:Int):=by omega
      rcases Classical.em (k=1+x)with hk|hk;all_goals
       first|rw[if_pos hk,hk]at HT|rw[if_neg hk]at HT
       go_wp2;go_quiet(fail);go_wp2;go_ret3;exact mQ.o _ _ _ _ _ _ HR.o HT.o
open Go.MapKept
theorem Dn(es:Array MapEntry)(x:MapEntry)(f:MapEntry→MapEntry):(es.push x).modify es.size f=es.push (f x):=by
 apply Array.ext;·simp
 ·intro i h1 h2;rw[Array.getElem_modify];simp only[Array.size_modify,Array.size_push]at h1;by_cases hi:es.size=i;·subst hi;simp
  ·rw[if_neg hi,Array.getElem_push_lt (by omega),Array.getElem_push_lt (by omega)]
theorem find_born{es:Array MapEntry}(hn:(es.toList.map (·.born)).Nodup){j:Nat}(hj:j<es.size):es.findIdx? (fun e=>(e.born:Int)==((es[j]).born:Int))=some j:=by rw[Array.findIdx?_eq_some_iff_getElem];refine⟨hj,by simp,fun i hi=>?_⟩;have:=(List.pairwise_iff_getElem.1 hn) i j (by simp;omega) (by simpa using hj) hi;simp only[List.getElem_map,Array.getElem_toList]at this;simp;omega
theorem FP(es:Array MapEntry)(j:Nat)(f g:MapEntry→MapEntry):(es.modify j f).modify j g=es.modify j (g∘f):=by
 apply Array.ext;·simp
 ·intro i h1 h2;simp only[Array.getElem_modify];split<;>rfl
theorem dN.entry{w:World}{b:Nat}{m:Row Value}(h:dN w b m)(hn:m.length<maxLen)(k:List UInt8)(hk:k.length≤maxLen)(t e:TypeId)(ht:Tryz.prog.underlying t=some (.map 9 e))(z:Value)(hz:(zeroValue e).run Tryz.prog w=.ok z w)(v:Value): ∃x st W1 W2,(Instr.mapEntry t (.map (some b)) (.string ⟨k.toArray⟩)).run Tryz.prog w=.ok (.tuple #[x,.int .i64 st]) W1∧(Instr.entryStore t (.map (some b)) (.int .i64 st) v).run Tryz.prog W1=.ok () W2∧dN W2 b (aL k v m)∧w.grownBy W2 (some b):=by
 obtain⟨W2,hr,r1,r2⟩:=h.put hn k hk t e ht v;obtain⟨es,clock,hb,F,hs,hD⟩:=h;have hlt:b<w.heap.size:=(Array.getElem?_eq_some_iff.1 hb).1;rcases qD.find w (gQ k hk) es.toList F.keys with⟨h1,h2⟩|⟨j,e0,h1,h2,h3⟩
 ·have Qp:(Instr.mapUpdate t (.map (some b)) (.string ⟨k.toArray⟩) v).run Tryz.prog w=.ok () {w with heap:=w.heap.setIfInBounds b (.map (es.push ⟨.string ⟨k.toArray⟩,v,clock⟩) (clock+1))}:=by simp[Instr.mapUpdate,run_underlying ht,MapKept.run_getObj_map hb,qD.check w false (gQ k hk),h1,MapKept.run_setObj_map _ hb,Result.andThen]
  rw[hr]at Qp;injection Qp with _ Qp;refine⟨z,clock,{w with heap:=w.heap.setIfInBounds b (.map (es.push ⟨.string ⟨k.toArray⟩,z,clock⟩) (clock+1))},W2,?_,?_,r1,r2⟩;·simp[Instr.mapEntry,run_underlying ht,MapKept.run_getObj_map hb,qD.check w false (gQ k hk),h1,hz,MapKept.run_setObj_map _ hb,Result.andThen,goInt]
  ·have hb1:({w with heap:=w.heap.setIfInBounds b (.map (es.push ⟨.string ⟨k.toArray⟩,z,clock⟩) (clock+1))}:World).heap[b]?=some (.map (es.push ⟨.string ⟨k.toArray⟩,z,clock⟩) (clock+1)):=(heap_set hb).1;have hst:=stamped_push F.stamped (key:=.string ⟨k.toArray⟩) (val:=z) h2;have hf:=find_born hst.2.1 (j:=es.size) (by simp);simp only[Array.getElem_push_eq]at hf;simp only[Instr.entryStore,Sem.run_bind,MapKept.run_getObj_map hb1,Result.andThen_ok,asInt,asIntOf,Sem.run_pure,hf,MapKept.run_setObj_map _ hb1];rw[Qp,Dn];simp[Array.setIfInBounds_setIfInBounds]
 ·have hj:es[j]?=some e0:=by simpa using h2
  have hjl:j<es.size:=(Array.getElem?_eq_some_iff.1 hj).1;have Yr:es[j]=e0:=(Array.getElem?_eq_some_iff.1 hj).2;have hks:=fun(W:World)=>qD.stays W (gQ k hk);have Qp:(Instr.mapUpdate t (.map (some b)) (.string ⟨k.toArray⟩) v).run Tryz.prog w=.ok () {w with heap:=w.heap.setIfInBounds b (.map (es.modify j fun e=>{e with key:=.string ⟨k.toArray⟩,val:=v}) clock)}:=by simp[Instr.mapUpdate,run_underlying ht,MapKept.run_getObj_map hb,qD.check w false (gQ k hk),h1,hj,h3,hks,MapKept.run_setObj_map _ hb,Result.andThen]
  rw[hr]at Qp;injection Qp with _ Qp;refine⟨e0.val,(es[j]).born,{w with heap:=w.heap.setIfInBounds b (.map (es.modify j fun e=>{e with key:=.string ⟨k.toArray⟩}) clock)},W2,?_,?_,r1,r2⟩;·simp[Instr.mapEntry,run_underlying ht,MapKept.run_getObj_map hb,qD.check w false (gQ k hk),h1,hj,Yr,h3,hks,MapKept.run_setObj_map _ hb,Result.andThen,goInt]
  ·have hb1:({w with heap:=w.heap.setIfInBounds b (.map (es.modify j fun e=>{e with key:=.string ⟨k.toArray⟩}) clock)}:World).heap[b]?=some (.map (es.modify j fun e=>{e with key:=.string ⟨k.toArray⟩}) clock):=(heap_set hb).1;have hbn:((es.modify j fun e=>{e with key:=.string ⟨k.toArray⟩}).toList.map (·.born)).Nodup:=by
    have h0:=F.stamped.2.1;have:(es.modify j fun e=>{e with key:=.string ⟨k.toArray⟩}).toList.map (·.born)=es.toList.map (·.born):=by
     apply List.ext_getElem;·simp
     ·intro i h1 h2;simp only[List.getElem_map,Array.getElem_toList,Array.getElem_modify];split<;>rfl
    rw[this];exact h0
   have hf:=find_born hbn (j:=j) (by simpa using hjl);simp only[Array.getElem_modify,if_true]at hf;simp only[Instr.entryStore,Sem.run_bind,MapKept.run_getObj_map hb1,Result.andThen_ok,asInt,asIntOf,Sem.run_pure,hf,MapKept.run_setObj_map _ hb1];rw[Qp,FP];simp[Array.setIfInBounds_setIfInBounds,Function.comp_def]
theorem src_ok(w:World)(B:Nat)(A:Option Addr)(n k:Nat)(l:List UInt8)(h:fA w B A n k l)(hn:n≤1000000000){s r:List UInt8}(hR:qj l=.ok s r):Calls Tryz.prog 135 #[.slice A n k] w fun e w'=> ∃A' n' c',e=.returned (.tuple #[.string ⟨s.toArray⟩,.slice A' n' c',.int .i64 0])∧fA w' B A' n' c' r∧Below w.heap.size w w':=(Co w B A n k l h hn).mono fun e w' hp=>by unfold gp at hp;rw[hR]at hp;obtain⟨⟨A',n',c',he,hb⟩,q,rfl⟩:=hp;exact⟨A',n',c',he,hb.drewN q,below_drewN (Below.refl _ _) q⟩
theorem PE(w:World)(B:Nat)(A:Option Addr)(n k:Nat)(l:List UInt8)(h:fA w B A n k l)(hn:n≤1000000000)(er:Int)(hR:(qj l=.dV∧er=3)∨(qj l=.form∧er=2)):Calls Tryz.prog 135 #[.slice A n k] w fun e w'=>e=.returned (.tuple #[.string ⟨#[]⟩,.slice none 0 0,.int .i64 er])∧Below w.heap.size w w':=(Co w B A n k l h hn).mono fun e w' hp=>by unfold gp at hp;rcases hR with⟨hR,rfl⟩|⟨hR,rfl⟩<;>rw[hR]at hp<;>obtain⟨he,q,rfl⟩:=hp<;>exact⟨he,below_drewN (Below.refl _ _) q⟩
theorem S9(w:World)(B:Nat)(A:Option Addr)(n k:Nat)(l:List UInt8)(h:fA w B A n k l)(hB:B≤w.heap.size)(hn:n≤1000000000){rs:Rg}{r:List UInt8}(hR:fD l=.ok rs r):Calls Tryz.prog 136 #[.slice A n k] w fun e w'=> ∃v A' n' c',e=.returned (.tuple #[v,.slice A' n' c',.int .i64 0])∧Oe w' w.heap.size v rs∧fA w' B A' n' c' r∧Below w.heap.size w w':=(CU w B A n k l h hB hn).mono fun e w' hp=>by unfold j5 at hp;rw[hR]at hp;obtain⟨⟨v,A',n',c',he,ho,hb⟩,hbw⟩:=hp;exact⟨v,A',n',c',he,ho,hb,hbw⟩
theorem PO(w:World)(B:Nat)(A:Option Addr)(n k:Nat)(l:List UInt8)(h:fA w B A n k l)(hB:B≤w.heap.size)(hn:n≤1000000000)(er:Int)(hR:(fD l=.dV∧er=3)∨(fD l=.form∧er=2)):Calls Tryz.prog 136 #[.slice A n k] w fun e w'=>e=.returned (.tuple #[.slice none 0 0,.slice none 0 0,.int .i64 er])∧Below w.heap.size w w':=(CU w B A n k l h hB hn).mono fun e w' hp=>by unfold j5 at hp;rcases hR with⟨hR,rfl⟩|⟨hR,rfl⟩<;>rw[hR]at hp<;>exact hp
theorem bQ.entry{w W2:World}{G:Nat→Prop}{bs bh base:Nat}{m:eB}{V:List UInt8→Value}(h:bQ w G bs bh m V){v:Value}{s:List UInt8}{rs:Rg}(ho:Oe w base v rs)(hbase: ∀b,v.ownBlock=some b→ ¬G b)(hs:bytesBefore (fE m) s=true)(hn:af s=true)(hr:RgOk rs)(hne:rs≠[])(hm:dN W2 bh (aL s v (m.map fun p=>(p.1,V p.1))))(hg:w.grownBy W2 (some bh)):bQ W2 (fun b=>G b∨v.ownBlock=some b) bs bh (m++[(s,rs)]) (fun x=>if x=s then v else V x):=by
 have hup:=Ex h.ok hs;have hns: ∀p∈m,p.1≠s:=fun p hp e=>by have:=hup p hp;rw[e,az]at this;cases this
 obtain⟨es,cl,hmap⟩:=h.map.isMap;have pY: ∀b,b<w.heap.size→b≠bh→W2.heap[b]?=w.heap[b]?:=fun b hb hne=>hg.block b hb (fun e=>hne (by injection e));have hbs:bs≠bh:=jF h.blk hmap;have hvb: ∀b,v.ownBlock=some b→W2.heap[b]?=w.heap[b]?∧b<w.heap.size∧ ∃cs,w.heap[b]?=some (.cells cs 153 (0,0)):=fun b hb=>by
  obtain⟨cs,hc⟩: ∃cs,w.heap[b]?=some (.cells cs 153 (0,0)):=by
   rcases ho.2 with⟨e,_⟩|⟨g,cap,cur,e,_,hg',_⟩;·rw[e]at hb;cases hb
   ·rw[e]at hb;injection hb with hb;subst hb;exact⟨_,hg'⟩
  have hlt:=(World.ownsRow.lt ho b hb).2;exact⟨pY b hlt (jF hc hmap),hlt,cs,hc⟩
 have Ku: ∀p∈m,∀b,(V p.1).ownBlock=some b→b≠bh:=fun p hp b hb=>by
  obtain⟨cs,hc⟩: ∃cs,w.heap[b]?=some (.cells cs 153 (0,0)):=by
   rcases(h.own p hp).2 with⟨e,_⟩|⟨g,cap,cur,e,_,hg',_⟩;·rw[e]at hb;cases hb
   ·rw[e]at hb;injection hb with hb;subst hb;exact⟨_,hg'⟩
  exact jF hc hmap
 have hsome: ∀p∈m,∃g,(V p.1).ownBlock=some g:=fun p hp=>by
  rcases(h.own p hp).2 with⟨e,hl⟩|⟨g,cap,cur,e,_⟩;·exact absurd (List.length_eq_zero_iff.1 hl) (h.ok.each p hp).2.2
  ·exact⟨g,by rw[e];rfl⟩
 refine⟨(pY bs (h.lt bs h.gs) hbs).trans h.blk,?_,?_,?_,.inl h.gs,.inl h.gm,?_,?_,?_,h.ok.snoc hs hn hr hne⟩
 ·rw[zq s v (m.map fun p=>(p.1,V p.1)) (fun p hp=>by obtain⟨q,hq,rfl⟩:=List.mem_map.1 hp;exact hup q hq)]at hm;rw[List.map_append,List.map_singleton];have e1:m.map (fun p=>(p.1,if p.1=s then v else V p.1))=m.map fun p=>(p.1,V p.1):=List.map_congr_left fun p hp=>by rw[if_neg (hns p hp)]
  rw[e1];simpa using hm
 ·intro p hp;rcases List.mem_append.1 hp with hp|hp;·simp only[if_neg (hns p hp)];exact(h.own p hp).keep fun b hb=>pY b (h.lt b (h.foot p hp b hb)) (Ku p hp b hb)
  ·simp only[List.mem_singleton]at hp;subst hp;simp only[if_true];have ho0:dX w v rs:=⟨ho.1,by
    rcases ho.2 with h'|⟨g,cap,cur,e,_,hg',hr'⟩;·exact .inl h'
    ·exact .inr ⟨g,cap,cur,e,Nat.zero_le _,hg',hr'⟩⟩;exact ho0.keep fun b hb=>(hvb b hb).1
 ·intro p hp q hq hpq;rcases List.mem_append.1 hp with hp|hp<;>rcases List.mem_append.1 hq with hq|hq;·simp only[if_neg (hns p hp),if_neg (hns q hq)];exact fun e1=>h.apart p hp q hq hpq e1
  ·simp only[List.mem_singleton]at hq;subst hq;simp only[if_neg (hns p hp),if_true];intro e1;obtain⟨g,hg'⟩:=hsome p hp;exact hbase g (e1▸hg') (h.foot p hp g hg')
  ·simp only[List.mem_singleton]at hp;subst hp;simp only[if_neg (hns q hq),if_true];intro e1;obtain⟨g,hg'⟩:=hsome q hq;exact hbase g (e1.trans hg') (h.foot q hq g hg')
  ·simp only[List.mem_singleton]at hp hq;subst hp hq;exact absurd rfl hpq
 ·intro p hp b hb;rcases List.mem_append.1 hp with hp|hp;·simp only[if_neg (hns p hp)]at hb;exact .inl (h.foot p hp b hb)
  ·simp only[List.mem_singleton]at hp;subst hp;simp only[if_true]at hb;exact .inr hb
 ·intro b hb;rcases hb with hb|hb;·exact Nat.lt_of_lt_of_le (h.lt b hb) hg.size
  ·exact Nat.lt_of_lt_of_le (hvb b hb).2.1 hg.size
 ·intro b hb;by_cases e1:b=bs;·exact .inl e1
  by_cases e2:b=bh;·exact .inr (.inl e2)
  right;right;rcases hb with hb|hb
  ·rcases h.typ b hb with h'|h'|⟨cs,hc⟩;·exact absurd h' e1
   ·exact absurd h' e2
   ·exact⟨cs,(pY b (h.lt b hb) e2).trans hc⟩
  ·obtain⟨h1,_,cs,hc⟩:=hvb b hb;exact⟨cs,h1.trans hc⟩
theorem Bp: ∀a b:List UInt8,Op.bytesLess a b=bytesBefore a b:=fun a=>by induction a with|nil=>intro b;cases b<;>simp[Op.bytesLess,bytesBefore]|cons x a ih=>intro b;cases b with|nil=>simp[Op.bytesLess,bytesBefore]|cons y b=>simp only[Op.bytesLess,bytesBefore,ih b]
def uX(w:World)(R:oN eB)(e:Ending)(w':World):Prop:=(match R with|.ok m _=> ∃bs bh G V,e=.returned (.tuple #[.pointer (some ⟨bs,0,none⟩),.int .i64 0])∧bQ w' G bs bh m V∧ ∀b,G b→w.heap.size≤b|.dV=>e=.returned (.tuple #[.pointer none,.int .i64 3])|.form=>e=.returned (.tuple #[.pointer none,.int .i64 2]))∧Below w.heap.size w w'
def TP:oN eB→oN eB|.ok m r=>if r=[]then .ok m []else .form|.dV=>.dV|.form=>.form
def Ou(w:World)(bs bh N M:Nat)(R:oN eB)(v0 v7 v21:Value)(wr:World):Prop:= ∃(k:Nat)(A:Option Addr)(n c:Nat)(cur:List UInt8)(m:eB)(G:Nat→Prop)(V:List UInt8→Value),v21=.int .i64 (k:Int)∧k≤N∧v0=.slice A n c∧fA wr w.heap.size A n c cur∧v7=.string ⟨(fE m).toArray⟩∧m.length=k∧bQ wr G bs bh m V∧(∀b,G b→w.heap.size≤b)∧m.length+cur.length≤M∧TP (nI (N-k) m cur)=R∧Below w.heap.size w wr
theorem rH{w w':World}{R:oN eB}{er:Int}(h:(R=.dV∧er=3)∨(R=.form∧er=2))(hb:Below w.heap.size w w'):uX w R (.returned (.tuple #[.pointer none,.int .i64 er])) w':=by rcases h with⟨rfl,rfl⟩|⟨rfl,rfl⟩<;>exact⟨rfl,hb⟩
theorem M9(w:World)(A:Option Addr)(n k:Nat)(l:List UInt8)(h:fA w w.heap.size A n k l)(hn:n≤1000000000):Calls Tryz.prog 86 #[.slice A n k] w (uX w (rV l)):=by
 have HB:=qH h;have hlen:=h.len;clear h;rcases jO (lN l)with⟨N,r1,hR⟩|⟨er,hR⟩
 ·have HRR:=qS (rV l=TP (nI N [] r1)) (by unfold rV;rw[hR];show(match nI N [] r1 with|.dV=>_|.form=>_|.ok m r=>_)=_;cases nI N [] r1<;>rfl);have hN:=(kT hR).1;have hrl:=rC hR;have HNR:=qH hR;clear hR;generalize rV l=R at*;go_enter Tryz.func86,Tryz.ntmps86;go_wp2_with fail;with_reducible refine(vR w w.heap.size A n k l HB.o hn HNR.o).mono ?_
  rintro r w1⟨A1,n1,c1,rfl,hb1,hB1⟩;have HY1:=qH hb1;have HB1:=qH hB1;clear hb1 hB1;go_wp2_with fail;with_reducible refine(qI w1).mono ?_
  rintro r w2⟨bs,bh,rfl,hh2,hbs,Yu,hB2⟩;have HY2:=qH (HY1.o.below (hB2.mono HB1.o.size));have HB2:=qH (HB1.o.trans (hB2.mono HB1.o.size));have hs1:=HB1.o.size;have HST:=qS (Ou w bs bh N l.length R (.slice A1 n1 c1) (.string ⟨#[]⟩) (.int .i64 0) w2) (⟨0,A1,n1,c1,r1,[],_,_,rfl,Nat.zero_le _,rfl,HY2.o,rfl,rfl,hh2,(fun b hb=>by rcases hb with rfl|rfl<;>omega),by simp;omega,HRR.o.symm,HB2.o⟩);clear hh2 hbs Yu hB2 HY1 HY2 HB1 HRR;go_wp2;go_loopw[0,7,21](fun v0 v7 v21 wr=>Ou w bs bh N l.length R v0 v7 v21 wr)(fun _ _ v21 _=>N-(intOf v21).toNat);case atStart=>exact HST.o
  case round=>
   obtain⟨j,A2,n2,c2,cur,m,G,V,rfl,hj,rfl,hb2,rfl,hl2,hh2,hG2,hm2,hR2,hB3⟩:=hrel;have gK:=qH hb2;have HH:=qH hh2;have HG:=qH hG2;have HB3:=qH hB3;have HL2:=qH hl2;have hn2:=hb2.len;have hsz:=hB3.size;have Zp:m.length<maxLen:=by unfold maxLen;omega
   clear hb2 hh2 hG2 hB3 hl2 HST;by_cases Zd:j<N
   ·have t1:(j:Int)<N:=by omega
    obtain⟨f,hf⟩: ∃f,N-j=f+1:=⟨N-j-1,by omega⟩;have Hm:=qS (N-(j+1)=f) (by omega);rw[hf]at hR2;simp only[nI]at hR2;rcases jO (qj cur)with⟨s,l1,hg⟩|⟨er,hg⟩
    ·rw[hg]at hR2;simp only at hR2;obtain⟨hnm,k1,hk0,hk1,VQ⟩:=PG hg;have hl1:l1.length<cur.length:=by rw[VQ,List.length_drop];omega
     have hs24:s.length≤24:=by unfold af at hnm;simp at hnm;omega
     have HR2:=qH hR2;have UH:=qH hg;have BI:=qH hnm;clear hR2 hf hg VQ hnm hk0 hk1;go_wp2_with fail;with_reducible refine(src_ok wr w.heap.size A2 n2 c2 cur gK.o (by omega) UH.o).mono ?_
     rintro r w3⟨A3,n3,c3,rfl,hb3,hB4⟩;have Lj:=qH hb3;have hn3:=hb3.len;have Sw:=qH (HH.o.up hB4);have jP:=qH (HB3.o.trans (hB4.mono hsz));clear hb3 hB4 HH gK HB3;cases hbb:bytesBefore (fE m) s
     ·rw[hbb]at HR2;have HF:=qS (uX w R (.returned (.tuple #[.pointer none,.int .i64 2])) w3) (rH (.inr ⟨HR2.o.symm,rfl⟩) jP.o);have hcase:(Op.bytesLess s (fE m)=false∧(s==fE m)=true)∨(Op.bytesLess s (fE m)=true∧(s==fE m)=false):=by
       rw[Bp];by_cases he:s=fE m;·left;rw[he];exact⟨az _,by simp⟩
       ·right;rcases jv he with h'|h';·exact⟨h',by simpa using he⟩
        ·rw[h']at hbb;cases hbb
      clear hbb;rcases hcase with⟨t2,t3⟩|⟨t2,t3⟩;all_goals go_wp2;go_ret2;exact HF.o
     ·rw[hbb]at HR2;simp only[if_true]at HR2;have t2:Op.bytesLess s (fE m)=false:=by rw[Bp];cases h':bytesBefore s (fE m)with|false=>rfl|true=>have:=fq hbb h';rw[az]at this;cases this
      have t3:(s==fE m)=false:=by
       have:s≠fE m:=fun e=>by rw[e,az]at hbb;cases hbb
       simpa using this
      have yt:=qH hbb;clear hbb;rcases jO (fD l1)with⟨rs,l2,hr⟩|⟨er,hr⟩
      ·rw[hr]at HR2;simp only at HR2;obtain⟨hro,VI,hrl2,_⟩:=JR hr;have HRO:=qH hro;have HRN:=qH VI;have HRR:=qH hr;clear hr hro VI;go_wp2_with fail;with_reducible refine(S9 w3 w.heap.size A3 n3 c3 l1 Lj.o jP.o.size (by omega) HRR.o).mono ?_
       rintro r w5⟨v5,A5,n5,c5,rfl,ho5,hb5,Kz⟩;obtain⟨A6,k6,hv6⟩:=ownsRow_form ho5;subst hv6;have UX:=qH hb5;have lI:=qH ho5;have hn5:=hb5.len;have UF:=qH (Sw.o.up Kz);have HVG:=qS (∀b,(Value.slice A6 rs.length k6).ownBlock=some b→ ¬G b) (fun b hb hg=>by have:=(World.ownsRow.lt ho5 b hb).1;have:=Sw.o.lt b hg;omega);have pV:=qH (jP.o.trans (Kz.mono jP.o.size));have HV5:=qS (∀b,(Value.slice A6 rs.length k6).ownBlock=some b→w.heap.size≤b) (fun b hb=>by have:=(World.ownsRow.lt ho5 b hb).1;have:=jP.o.size;omega);obtain⟨x7,st7,W1,W2,hme,hes,hm7,hg7⟩:=UF.o.map.entry (by rw[List.length_map];exact Zp) s (by unfold maxLen;omega) 148 151 Tryz.underlying148 _ (Hz w5) (.slice A6 rs.length k6);have HH7:=qH (UF.o.entry lI.o HVG.o yt.o BI.o HRO.o HRN.o hm7 hg7);have hlt5:=UF.o.lt bh UF.o.gm;have kE:=qS (Below w.heap.size w W2) (Below.grown pV.o hg7 pV.o.size (fun k' hk'=>by injection hk' with hk';have:=HG.o bh UF.o.gm;omega));have aax:=qS (fA W2 w.heap.size A5 n5 c5 l2) (UX.o.keep fun p hp=>World.cell?_of_block (w:=w5) (hg7.block p.block (by have:=pV.o.size;omega) (fun e=>by injection e with e;have:=HG.o bh UF.o.gm;omega)));have hc0:=UF.o.cell;have HR7:=qS (Ou w bs bh N l.length R (.slice A5 n5 c5) (.string ⟨s.toArray⟩) (.int .i64 ((j+1:Nat):Int)) W2) (⟨j+1,A5,n5,c5,l2,m++[(s,rs)],_,_,rfl,Zd,rfl,aax.o,by rw[ow],by rw[List.length_append,HL2.o];rfl,HH7.o,(fun b hb=>hb.elim (HG.o b) (HV5.o b)),by simp;omega,by rw[Hm.o];exact HR2.o,kE.o⟩);clear ho5 hb5 Kz hm7 hg7 hn5;go_wp2;go_roundw;case rel=>exact HR7.o
       case measure=>simp[intOf];omega
      ·have HR3:=qS (R=(if er=3 then .dV else .form)) (by rw[←HR2.o];rcases hr with⟨hr,rfl⟩|⟨hr,rfl⟩<;>rw[hr]<;>rfl);have HF:=qS (∀W,Below w3.heap.size w3 W→uX w R (.returned (.tuple #[.pointer none,.int .i64 er])) W) (fun W hW=>rH (by
        rcases hr with⟨_,rfl⟩|⟨_,rfl⟩;·exact .inl ⟨HR3.o,rfl⟩
        ·exact .inr ⟨HR3.o,rfl⟩) (jP.o.trans (hW.mono jP.o.size)));have t4:(er !=0)=true:=zI hr;have HRR:=qH hr;clear hr HR2;go_wp2_with fail;with_reducible refine(PO w3 w.heap.size A3 n3 c3 l1 Lj.o jP.o.size (by omega) er HRR.o).mono ?_
       rintro r w5⟨rfl,hb5⟩;have Hm:=qH (HF.o w5 hb5);clear hb5;go_wp2;go_ret2;exact Hm.o
    ·have HR3:=qS (R=(if er=3 then .dV else .form)) (by rw[←hR2];rcases hg with⟨hg,rfl⟩|⟨hg,rfl⟩<;>rw[hg]<;>rfl);have HF:=qS (∀W,Below wr.heap.size wr W→uX w R (.returned (.tuple #[.pointer none,.int .i64 er])) W) (fun W hW=>rH (by
      rcases hg with⟨_,rfl⟩|⟨_,rfl⟩;·exact .inl ⟨HR3.o,rfl⟩
      ·exact .inr ⟨HR3.o,rfl⟩) (HB3.o.trans (hW.mono hsz)));have t4:(er !=0)=true:=zI hg;have UH:=qH hg;clear hg hR2 hf;go_wp2_with fail;with_reducible refine(PE wr w.heap.size A2 n2 c2 cur gK.o (by omega) er UH.o).mono ?_
     rintro r w4⟨rfl,hb4⟩;have Hm:=qH (HF.o w4 hb4);clear hb4;go_wp2;go_ret2;exact Hm.o
   ·have Vd:j=N:=by omega
    rw[Vd,Nat.sub_self]at hR2;simp only[nI,TP]at hR2;have t1: ¬(j:Int)<N:=by omega
    by_cases hc0:cur=[]
    ·rw[if_pos hc0]at hR2;have t2: ¬(0:Int)<n2:=by rw[←hn2,hc0];simp
     have HF:=qS (uX w R (.returned (.tuple #[.pointer (some ⟨bs,0,none⟩),.int .i64 0])) wr) (by rw[←hR2];exact⟨⟨bs,bh,G,V,rfl,HH.o,HG.o⟩,HB3.o⟩);clear hR2 Vd hc0 hn2;go_wp2;go_ret2;exact HF.o
    ·rw[if_neg hc0]at hR2;have t2:(0:Int)<n2:=by have:=List.length_pos_iff.2 hc0;omega
     have HF:=qS (uX w R (.returned (.tuple #[.pointer none,.int .i64 2])) wr) (rH (.inr ⟨hR2.symm,rfl⟩) HB3.o);clear hR2 Vd hc0 hn2;go_wp2;go_ret2;exact HF.o
 ·have nu:=qH hR;go_enter Tryz.func86,Tryz.ntmps86;go_wp2_with fail;with_reducible refine(rA w w.heap.size A n k l HB.o hn er nu.o).mono ?_
  rintro r w1⟨rfl,hb1⟩;have HF:=qS (uX w (rV l) (.returned (.tuple #[.pointer none,.int .i64 er])) w1) (rH (by
   unfold rV;rcases hR with⟨hR,rfl⟩|⟨hR,rfl⟩<;>rw[hR];·exact .inl ⟨rfl,rfl⟩
   ·exact .inr ⟨rfl,rfl⟩) hb1);have t0:(er !=0)=true:=zI hR;clear hR hb1;go_wp2;go_ret2;exact HF.o
end Go.Proofs.YtladegonienapaaGreatDoor
