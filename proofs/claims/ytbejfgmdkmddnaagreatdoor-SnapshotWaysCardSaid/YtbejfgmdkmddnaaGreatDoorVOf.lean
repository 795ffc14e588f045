/-
  Layer 8: Of.
-/
import Derived.Test.YtbejfgmdkmddnaaGreatDoorVOfRgt
import Derived.Test.YtbejfgmdkmddnaaGreatDoorVClkDec2
set_option maxRecDepth 100000
set_option maxHeartbeats 16000000
namespace Go.Proofs.YtbejfgmdkmddnaaGreatDoor
open Go.RowKit Go.Maps Go.Sort
def gT(w:World)(B:Nat)(l:List UInt8)(e:Ending)(w':World):Prop:=(match qZ l with|.ok s r=> ∃A n c,e=.returned (.tuple #[.string ⟨s.toArray⟩,.slice A n c,.int .i64 0])∧bU w B A n c r|.bz=>e=.returned (.tuple #[.string ⟨#[]⟩,.slice none 0 0,.int .i64 3])|.form=>e=.returned (.tuple #[.string ⟨#[]⟩,.slice none 0 0,.int .i64 2]))∧ ∃q,w'=w.drewN q
theorem D8(w:World)(B:Nat)(A:Option Addr)(n k:Nat)(l:List UInt8)(h:bU w B A n k l)(hn:n≤1000000000):Calls Tryz.prog 120 #[.slice A n k] w (gT w B l):=by
 have HB:=qH h;have hlen:=h.len;have hcap:=h.cap;have hmax:=h.max;unfold maxLen at hmax;have zF:=qS (∀q,qZ l=.bz→gT w B l (.returned (.tuple #[.string ⟨#[]⟩,.slice none 0 0,.int .i64 3])) (w.drewN q)) (fun q h1=>by unfold gT;rw[h1];exact⟨rfl,q,rfl⟩);have QK:=qS (∀q,qZ l=.form→gT w B l (.returned (.tuple #[.string ⟨#[]⟩,.slice none 0 0,.int .i64 2])) (w.drewN q)) (fun q h1=>by unfold gT;rw[h1];exact⟨rfl,q,rfl⟩);have jU:=qS (∀q s r A n c,qZ l=.ok s r→bU w B A n c r→gT w B l (.returned (.tuple #[.string ⟨s.toArray⟩,.slice A n c,.int .i64 0])) (w.drewN q)) (fun q s r A n c h1 h2=>by unfold gT;rw[h1];exact⟨⟨_,_,_,rfl,h2⟩,q,rfl⟩);clear h;cases l with
  |nil=>simp only[List.length_nil]at hlen;subst hlen;have HF:=qH (zF.o 0 rfl);go_enter Tryz.func120,Tryz.ntmps120;go_wp2;go_ret3;exact HF.o
  |cons c t=>
   simp only[List.length_cons]at hlen;obtain⟨b,off,rfl,hb,hc⟩:=HB.o.cell (by omega);have hc0:w.cell? ⟨b,off,none⟩=some (.int .u8 c.toNat):=hc 0 (by simp);have hR:qZ (c::t)=if t.length<c.toNat then .bz else if ag (t.take c.toNat)then .ok (t.take c.toNat) (t.drop c.toNat)else .form:=rfl;have hx256:=c.toNat_lt;generalize c.toNat=x at*;have hn1:1≤n:=by omega
   by_cases h1:t.length<x
   ·rw[if_pos h1]at hR;have HF:=qH (zF.o 0 hR);have t1:(n:Int)-1<x:=by omega
    clear hR hc hlen;go_enter Tryz.func120,Tryz.ntmps120;go_wp2;go_ret3;exact HF.o
   ·rw[if_neg h1]at hR;have t1: ¬(n:Int)-1<x:=by omega
    by_cases hk1:k=1
    ·obtain rfl:x=0:=by omega
     obtain rfl:n=1:=by omega
     subst hk1;have HF:=qS (gT w B (c::t) (.returned (.tuple #[.string ⟨#[]⟩,.slice none 0 0,.int .i64 2])) w) (QK.o 0 (by rw[hR];rfl));have hst:=(bU.nil w B (some ⟨b,off,none⟩) 0 (Nat.zero_le _)).str (P:=Tryz.prog) 32 5 9 Tryz.underlying32 Tryz.underlying5 Tryz.underlying9;have BP:=qH (jN w []);have hn0:ag []=false:=by decide
     rw[hn0]at BP;clear hR hc hlen;go_enter Tryz.func120,Tryz.ntmps120;go_wp2_with fail;with_reducible refine BP.o.mono ?_
     rintro r w1⟨rfl,rfl⟩;go_wp2;go_ret3;exact HF.o
    ·have hcut:=HB.o.cut 1 x (by omega);have hd1:((c::t).drop 1).take x=t.take x:=rfl;rw[hd1]at hcut;have hst:=hcut.str (P:=Tryz.prog) 32 5 9 Tryz.underlying32 Tryz.underlying5 Tryz.underlying9;have BP:=qH (jN w (t.take x));have htl:=HB.o.tail (1+x) (by omega);have hd2:(c::t).drop (1+x)=t.drop x:=by rw[Nat.add_comm];rfl
     rw[hd2]at htl;have HT:=qH htl;have hxl:x≤t.length:=by omega
     clear hcut hd1 hd2 htl hc;cases hnm:ag (t.take x)
     ·rw[hnm]at BP hR;have HF:=qS (gT w B (c::t) (.returned (.tuple #[.string ⟨#[]⟩,.slice none 0 0,.int .i64 2])) w) (QK.o 0 hR);clear hR hnm hlen;generalize t.take x=s at*;go_enter Tryz.func120,Tryz.ntmps120;go_wp2_with fail;with_reducible refine BP.o.mono ?_
      rintro r w1⟨rfl,rfl⟩;go_wp2;go_ret3;exact HF.o
     ·rw[hnm]at BP hR;simp only[if_true]at hR;have HR:=qH hR;clear hR hnm hlen;generalize t.take x=s at*;generalize t.drop x=r0 at*;go_enter Tryz.func120,Tryz.ntmps120;go_wp2_with fail;with_reducible refine BP.o.mono ?_
      rintro r w1⟨rfl,rfl⟩;have e1:((1+x:Nat):Int)=1+(x:Int):=by omega
      rcases Classical.em (k=1+x)with hk|hk;all_goals
       first|rw[if_pos hk,hk]at HT|rw[if_neg hk]at HT
       go_wp2;go_quiet(fail);go_wp2;go_ret3;exact jU.o _ _ _ _ _ _ HR.o HT.o
open Go.MapKept
theorem EU(es:Array MapEntry)(x:MapEntry)(f:MapEntry→MapEntry):(es.push x).modify es.size f=es.push (f x):=by
 apply Array.ext;·simp
 ·intro i h1 h2;rw[Array.getElem_modify];simp only[Array.size_modify,Array.size_push]at h1;by_cases hi:es.size=i;·subst hi;simp
  ·rw[if_neg hi,Array.getElem_push_lt (by omega),Array.getElem_push_lt (by omega)]
theorem find_born{es:Array MapEntry}(hn:(es.toList.map (·.born)).Nodup){j:Nat}(hj:j<es.size):es.findIdx? (fun e=>(e.born:Int)==((es[j]).born:Int))=some j:=by rw[Array.findIdx?_eq_some_iff_getElem];refine⟨hj,by simp,fun i hi=>?_⟩;have:=(List.pairwise_iff_getElem.1 hn) i j (by simp;omega) (by simpa using hj) hi;simp only[List.getElem_map,Array.getElem_toList]at this;simp;omega
theorem Ik(es:Array MapEntry)(j:Nat)(f g:MapEntry→MapEntry):(es.modify j f).modify j g=es.modify j (g∘f):=by
 apply Array.ext;·simp
 ·intro i h1 h2;simp only[Array.getElem_modify];split<;>rfl
theorem gH.entry{w:World}{b:Nat}{m:Row Value}(h:gH w b m)(hn:m.length<maxLen)(k:List UInt8)(hk:k.length≤maxLen)(t e:TypeId)(ht:Tryz.prog.underlying t=some (.map 9 e))(z:Value)(hz:(zeroValue e).run Tryz.prog w=.ok z w)(v:Value): ∃x st W1 W2,(Instr.mapEntry t (.map (some b)) (.string ⟨k.toArray⟩)).run Tryz.prog w=.ok (.tuple #[x,.int .i64 st]) W1∧(Instr.entryStore t (.map (some b)) (.int .i64 st) v).run Tryz.prog W1=.ok () W2∧gH W2 b (bL k v m)∧w.grownBy W2 (some b):=by
 obtain⟨W2,hr,r1,r2⟩:=h.put hn k hk t e ht v;obtain⟨es,clock,hb,F,hs,hD⟩:=h;have hlt:b<w.heap.size:=(Array.getElem?_eq_some_iff.1 hb).1;rcases tJ.find w (je k hk) es.toList F.keys with⟨h1,h2⟩|⟨j,e0,h1,h2,h3⟩
 ·have Sm:(Instr.mapUpdate t (.map (some b)) (.string ⟨k.toArray⟩) v).run Tryz.prog w=.ok () {w with heap:=w.heap.setIfInBounds b (.map (es.push ⟨.string ⟨k.toArray⟩,v,clock⟩) (clock+1))}:=by simp[Instr.mapUpdate,run_underlying ht,MapKept.run_getObj_map hb,tJ.check w false (je k hk),h1,MapKept.run_setObj_map _ hb,Result.andThen]
  rw[hr]at Sm;injection Sm with _ Sm;refine⟨z,clock,{w with heap:=w.heap.setIfInBounds b (.map (es.push ⟨.string ⟨k.toArray⟩,z,clock⟩) (clock+1))},W2,?_,?_,r1,r2⟩;·simp[Instr.mapEntry,run_underlying ht,MapKept.run_getObj_map hb,tJ.check w false (je k hk),h1,hz,MapKept.run_setObj_map _ hb,Result.andThen,goInt]
  ·have hb1:({w with heap:=w.heap.setIfInBounds b (.map (es.push ⟨.string ⟨k.toArray⟩,z,clock⟩) (clock+1))}:World).heap[b]?=some (.map (es.push ⟨.string ⟨k.toArray⟩,z,clock⟩) (clock+1)):=(heap_set hb).1;have hst:=stamped_push F.stamped (key:=.string ⟨k.toArray⟩) (val:=z) h2;have hf:=find_born hst.2.1 (j:=es.size) (by simp);simp only[Array.getElem_push_eq]at hf;simp only[Instr.entryStore,Sem.run_bind,MapKept.run_getObj_map hb1,Result.andThen_ok,asInt,asIntOf,Sem.run_pure,hf,MapKept.run_setObj_map _ hb1];rw[Sm,EU];simp[Array.setIfInBounds_setIfInBounds]
 ·have hj:es[j]?=some e0:=by simpa using h2
  have hjl:j<es.size:=(Array.getElem?_eq_some_iff.1 hj).1;have hje:es[j]=e0:=(Array.getElem?_eq_some_iff.1 hj).2;have hks:=fun(W:World)=>tJ.stays W (je k hk);have Sm:(Instr.mapUpdate t (.map (some b)) (.string ⟨k.toArray⟩) v).run Tryz.prog w=.ok () {w with heap:=w.heap.setIfInBounds b (.map (es.modify j fun e=>{e with key:=.string ⟨k.toArray⟩,val:=v}) clock)}:=by simp[Instr.mapUpdate,run_underlying ht,MapKept.run_getObj_map hb,tJ.check w false (je k hk),h1,hj,h3,hks,MapKept.run_setObj_map _ hb,Result.andThen]
  rw[hr]at Sm;injection Sm with _ Sm;refine⟨e0.val,(es[j]).born,{w with heap:=w.heap.setIfInBounds b (.map (es.modify j fun e=>{e with key:=.string ⟨k.toArray⟩}) clock)},W2,?_,?_,r1,r2⟩;·simp[Instr.mapEntry,run_underlying ht,MapKept.run_getObj_map hb,tJ.check w false (je k hk),h1,hj,hje,h3,hks,MapKept.run_setObj_map _ hb,Result.andThen,goInt]
  ·have hb1:({w with heap:=w.heap.setIfInBounds b (.map (es.modify j fun e=>{e with key:=.string ⟨k.toArray⟩}) clock)}:World).heap[b]?=some (.map (es.modify j fun e=>{e with key:=.string ⟨k.toArray⟩}) clock):=(heap_set hb).1;have hbn:((es.modify j fun e=>{e with key:=.string ⟨k.toArray⟩}).toList.map (·.born)).Nodup:=by
    have h0:=F.stamped.2.1;have:(es.modify j fun e=>{e with key:=.string ⟨k.toArray⟩}).toList.map (·.born)=es.toList.map (·.born):=by
     apply List.ext_getElem;·simp
     ·intro i h1 h2;simp only[List.getElem_map,Array.getElem_toList,Array.getElem_modify];split<;>rfl
    rw[this];exact h0
   have hf:=find_born hbn (j:=j) (by simpa using hjl);simp only[Array.getElem_modify,if_true]at hf;simp only[Instr.entryStore,Sem.run_bind,MapKept.run_getObj_map hb1,Result.andThen_ok,asInt,asIntOf,Sem.run_pure,hf,MapKept.run_setObj_map _ hb1];rw[Sm,Ik];simp[Array.setIfInBounds_setIfInBounds,Function.comp_def]
theorem src_ok(w:World)(B:Nat)(A:Option Addr)(n k:Nat)(l:List UInt8)(h:bU w B A n k l)(hn:n≤1000000000){s r:List UInt8}(hR:qZ l=.ok s r):Calls Tryz.prog 120 #[.slice A n k] w fun e w'=> ∃A' n' c',e=.returned (.tuple #[.string ⟨s.toArray⟩,.slice A' n' c',.int .i64 0])∧bU w' B A' n' c' r∧Below w.heap.size w w':=(D8 w B A n k l h hn).mono fun e w' hp=>by unfold gT at hp;rw[hR]at hp;obtain⟨⟨A',n',c',he,hb⟩,q,rfl⟩:=hp;exact⟨A',n',c',he,hb.drewN q,below_drewN (Below.refl _ _) q⟩
theorem Rz(w:World)(B:Nat)(A:Option Addr)(n k:Nat)(l:List UInt8)(h:bU w B A n k l)(hn:n≤1000000000)(er:Int)(hR:(qZ l=.bz∧er=3)∨(qZ l=.form∧er=2)):Calls Tryz.prog 120 #[.slice A n k] w fun e w'=>e=.returned (.tuple #[.string ⟨#[]⟩,.slice none 0 0,.int .i64 er])∧Below w.heap.size w w':=(D8 w B A n k l h hn).mono fun e w' hp=>by unfold gT at hp;rcases hR with⟨hR,rfl⟩|⟨hR,rfl⟩<;>rw[hR]at hp<;>obtain⟨he,q,rfl⟩:=hp<;>exact⟨he,below_drewN (Below.refl _ _) q⟩
theorem Vb(w:World)(B:Nat)(A:Option Addr)(n k:Nat)(l:List UInt8)(h:bU w B A n k l)(hB:B≤w.heap.size)(hn:n≤1000000000){rs:Rg}{r:List UInt8}(hR:fZ l=.ok rs r):Calls Tryz.prog 121 #[.slice A n k] w fun e w'=> ∃v A' n' c',e=.returned (.tuple #[v,.slice A' n' c',.int .i64 0])∧Qh w' w.heap.size v rs∧bU w' B A' n' c' r∧Below w.heap.size w w':=(Ey w B A n k l h hB hn).mono fun e w' hp=>by unfold lG at hp;rw[hR]at hp;obtain⟨⟨v,A',n',c',he,ho,hb⟩,hbw⟩:=hp;exact⟨v,A',n',c',he,ho,hb,hbw⟩
theorem RJ(w:World)(B:Nat)(A:Option Addr)(n k:Nat)(l:List UInt8)(h:bU w B A n k l)(hB:B≤w.heap.size)(hn:n≤1000000000)(er:Int)(hR:(fZ l=.bz∧er=3)∨(fZ l=.form∧er=2)):Calls Tryz.prog 121 #[.slice A n k] w fun e w'=>e=.returned (.tuple #[.slice none 0 0,.slice none 0 0,.int .i64 er])∧Below w.heap.size w w':=(Ey w B A n k l h hB hn).mono fun e w' hp=>by unfold lG at hp;rcases hR with⟨hR,rfl⟩|⟨hR,rfl⟩<;>rw[hR]at hp<;>exact hp
theorem cO.entry{w W2:World}{G:Nat→Prop}{bs bh base:Nat}{m:eZ}{V:List UInt8→Value}(h:cO w G bs bh m V){v:Value}{s:List UInt8}{rs:Rg}(ho:Qh w base v rs)(hbase: ∀b,v.ownBlock=some b→ ¬G b)(hs:bytesBefore (gq m) s=true)(hn:ag s=true)(hr:RgOk rs)(hne:rs≠[])(hm:gH W2 bh (bL s v (m.map fun p=>(p.1,V p.1))))(hg:w.grownBy W2 (some bh)):cO W2 (fun b=>G b∨v.ownBlock=some b) bs bh (m++[(s,rs)]) (fun x=>if x=s then v else V x):=by
 have hup:=Gh h.ok hs;have hns: ∀p∈m,p.1≠s:=fun p hp e=>by have:=hup p hp;rw[e,aF]at this;cases this
 obtain⟨es,cl,hmap⟩:=h.map.isMap;have J8: ∀b,b<w.heap.size→b≠bh→W2.heap[b]?=w.heap[b]?:=fun b hb hne=>hg.block b hb (fun e=>hne (by injection e));have hbs:bs≠bh:=jY h.blk hmap;have hvb: ∀b,v.ownBlock=some b→W2.heap[b]?=w.heap[b]?∧b<w.heap.size∧ ∃cs,w.heap[b]?=some (.cells cs 173 (0,0)):=fun b hb=>by
  obtain⟨cs,hc⟩: ∃cs,w.heap[b]?=some (.cells cs 173 (0,0)):=by
   rcases ho.2 with⟨e,_⟩|⟨g,cap,cur,e,_,hg',_⟩;·rw[e]at hb;cases hb
   ·rw[e]at hb;injection hb with hb;subst hb;exact⟨_,hg'⟩
  have hlt:=(World.ownsRow.lt ho b hb).2;exact⟨J8 b hlt (jY hc hmap),hlt,cs,hc⟩
 have Sq: ∀p∈m,∀b,(V p.1).ownBlock=some b→b≠bh:=fun p hp b hb=>by
  obtain⟨cs,hc⟩: ∃cs,w.heap[b]?=some (.cells cs 173 (0,0)):=by
   rcases(h.own p hp).2 with⟨e,_⟩|⟨g,cap,cur,e,_,hg',_⟩;·rw[e]at hb;cases hb
   ·rw[e]at hb;injection hb with hb;subst hb;exact⟨_,hg'⟩
  exact jY hc hmap
 have hsome: ∀p∈m,∃g,(V p.1).ownBlock=some g:=fun p hp=>by
  rcases(h.own p hp).2 with⟨e,hl⟩|⟨g,cap,cur,e,_⟩;·exact absurd (List.length_eq_zero_iff.1 hl) (h.ok.each p hp).2.2
  ·exact⟨g,by rw[e];rfl⟩
 refine⟨(J8 bs (h.lt bs h.gs) hbs).trans h.blk,?_,?_,?_,.inl h.gs,.inl h.gm,?_,?_,?_,h.ok.snoc hs hn hr hne⟩
 ·rw[Bb s v (m.map fun p=>(p.1,V p.1)) (fun p hp=>by obtain⟨q,hq,rfl⟩:=List.mem_map.1 hp;exact hup q hq)]at hm;rw[List.map_append,List.map_singleton];have e1:m.map (fun p=>(p.1,if p.1=s then v else V p.1))=m.map fun p=>(p.1,V p.1):=List.map_congr_left fun p hp=>by rw[if_neg (hns p hp)]
  rw[e1];simpa using hm
 ·intro p hp;rcases List.mem_append.1 hp with hp|hp;·simp only[if_neg (hns p hp)];exact(h.own p hp).keep fun b hb=>J8 b (h.lt b (h.foot p hp b hb)) (Sq p hp b hb)
  ·simp only[List.mem_singleton]at hp;subst hp;simp only[if_true];have ho0:eY w v rs:=⟨ho.1,by
    rcases ho.2 with h'|⟨g,cap,cur,e,_,hg',hr'⟩;·exact .inl h'
    ·exact .inr ⟨g,cap,cur,e,Nat.zero_le _,hg',hr'⟩⟩;exact ho0.keep fun b hb=>(hvb b hb).1
 ·intro p hp q hq hpq;rcases List.mem_append.1 hp with hp|hp<;>rcases List.mem_append.1 hq with hq|hq;·simp only[if_neg (hns p hp),if_neg (hns q hq)];exact fun e1=>h.apart p hp q hq hpq e1
  ·simp only[List.mem_singleton]at hq;subst hq;simp only[if_neg (hns p hp),if_true];intro e1;obtain⟨g,hg'⟩:=hsome p hp;exact hbase g (e1▸hg') (h.foot p hp g hg')
  ·simp only[List.mem_singleton]at hp;subst hp;simp only[if_neg (hns q hq),if_true];intro e1;obtain⟨g,hg'⟩:=hsome q hq;exact hbase g (e1.trans hg') (h.foot q hq g hg')
  ·simp only[List.mem_singleton]at hp hq;subst hp hq;exact absurd rfl hpq
 ·intro p hp b hb;rcases List.mem_append.1 hp with hp|hp;·simp only[if_neg (hns p hp)]at hb;exact .inl (h.foot p hp b hb)
  ·simp only[List.mem_singleton]at hp;subst hp;simp only[if_true]at hb;exact .inr hb
 ·intro b hb;rcases hb with hb|hb;·exact Nat.lt_of_lt_of_le (h.lt b hb) hg.size
  ·exact Nat.lt_of_lt_of_le (hvb b hb).2.1 hg.size
 ·intro b hb;by_cases e1:b=bs;·exact .inl e1
  by_cases e2:b=bh;·exact .inr (.inl e2)
  right;right;rcases hb with hb|hb
  ·rcases h.typ b hb with h'|h'|⟨cs,hc⟩;·exact absurd h' e1
   ·exact absurd h' e2
   ·exact⟨cs,(J8 b (h.lt b hb) e2).trans hc⟩
  ·obtain⟨h1,_,cs,hc⟩:=hvb b hb;exact⟨cs,h1.trans hc⟩
theorem CV: ∀a b:List UInt8,Op.bytesLess a b=bytesBefore a b:=fun a=>by induction a with|nil=>intro b;cases b<;>simp[Op.bytesLess,bytesBefore]|cons x a ih=>intro b;cases b with|nil=>simp[Op.bytesLess,bytesBefore]|cons y b=>simp only[Op.bytesLess,bytesBefore,ih b]
def wV(w:World)(R:oJ eZ)(e:Ending)(w':World):Prop:=(match R with|.ok m _=> ∃bs bh G V,e=.returned (.tuple #[.pointer (some ⟨bs,0,none⟩),.int .i64 0])∧cO w' G bs bh m V∧ ∀b,G b→w.heap.size≤b|.bz=>e=.returned (.tuple #[.pointer none,.int .i64 3])|.form=>e=.returned (.tuple #[.pointer none,.int .i64 2]))∧Below w.heap.size w w'
def VD:oJ eZ→oJ eZ|.ok m r=>if r=[]then .ok m []else .form|.bz=>.bz|.form=>.form
def Qs(w:World)(bs bh N M:Nat)(R:oJ eZ)(v0 v7 v21:Value)(wr:World):Prop:= ∃(k:Nat)(A:Option Addr)(n c:Nat)(cur:List UInt8)(m:eZ)(G:Nat→Prop)(V:List UInt8→Value),v21=.int .i64 (k:Int)∧k≤N∧v0=.slice A n c∧bU wr w.heap.size A n c cur∧v7=.string ⟨(gq m).toArray⟩∧m.length=k∧cO wr G bs bh m V∧(∀b,G b→w.heap.size≤b)∧m.length+cur.length≤M∧VD (oU (N-k) m cur)=R∧Below w.heap.size w wr
theorem tO{w w':World}{R:oJ eZ}{er:Int}(h:(R=.bz∧er=3)∨(R=.form∧er=2))(hb:Below w.heap.size w w'):wV w R (.returned (.tuple #[.pointer none,.int .i64 er])) w':=by rcases h with⟨rfl,rfl⟩|⟨rfl,rfl⟩<;>exact⟨rfl,hb⟩
theorem Pk(w:World)(A:Option Addr)(n k:Nat)(l:List UInt8)(h:bU w w.heap.size A n k l)(hn:n≤1000000000):Calls Tryz.prog 59 #[.slice A n k] w (wV w (uf l)):=by
 have HB:=qH h;have hlen:=h.len;clear h;rcases kI (jM l)with⟨N,r1,hR⟩|⟨er,hR⟩
 ·have HRR:=qS (uf l=VD (oU N [] r1)) (by unfold uf;rw[hR];show(match oU N [] r1 with|.bz=>_|.form=>_|.ok m r=>_)=_;cases oU N [] r1<;>rfl);have hN:=(kz hR).1;have hrl:=tF hR;have HNR:=qH hR;clear hR;generalize uf l=R at*;go_enter Tryz.func59,Tryz.ntmps59;go_wp2_with fail;with_reducible refine(xA w w.heap.size A n k l HB.o hn HNR.o).mono ?_
  rintro r w1⟨A1,n1,c1,rfl,hb1,hB1⟩;have HY1:=qH hb1;have HB1:=qH hB1;clear hb1 hB1;go_wp2_with fail;with_reducible refine(rM w1).mono ?_
  rintro r w2⟨bs,bh,rfl,hh2,hbs,hbh,hB2⟩;have Rh:=qH (HY1.o.below (hB2.mono HB1.o.size));have HB2:=qH (HB1.o.trans (hB2.mono HB1.o.size));have hs1:=HB1.o.size;have HST:=qS (Qs w bs bh N l.length R (.slice A1 n1 c1) (.string ⟨#[]⟩) (.int .i64 0) w2) (⟨0,A1,n1,c1,r1,[],_,_,rfl,Nat.zero_le _,rfl,Rh.o,rfl,rfl,hh2,(fun b hb=>by rcases hb with rfl|rfl<;>omega),by simp;omega,HRR.o.symm,HB2.o⟩);clear hh2 hbs hbh hB2 HY1 Rh HB1 HRR;go_wp2;go_loopw[0,7,21](fun v0 v7 v21 wr=>Qs w bs bh N l.length R v0 v7 v21 wr)(fun _ _ v21 _=>N-(intOf v21).toNat);case atStart=>exact HST.o
  case round=>
   obtain⟨j,A2,n2,c2,cur,m,G,V,rfl,hj,rfl,hb2,rfl,hl2,hh2,hG2,hm2,hR2,hB3⟩:=hrel;have gJ:=qH hb2;have HH:=qH hh2;have HG:=qH hG2;have HB3:=qH hB3;have HL2:=qH hl2;have hn2:=hb2.len;have hsz:=hB3.size;have aaC:m.length<maxLen:=by unfold maxLen;omega
   clear hb2 hh2 hG2 hB3 hl2 HST;by_cases hjN:j<N
   ·have t1:(j:Int)<N:=by omega
    obtain⟨f,hf⟩: ∃f,N-j=f+1:=⟨N-j-1,by omega⟩;have Nn:=qS (N-(j+1)=f) (by omega);rw[hf]at hR2;simp only[oU]at hR2;rcases kI (qZ cur)with⟨s,l1,hg⟩|⟨er,hg⟩
    ·rw[hg]at hR2;simp only at hR2;obtain⟨hnm,k1,hk0,hk1,X8⟩:=RA hg;have hl1:l1.length<cur.length:=by rw[X8,List.length_drop];omega
     have hs24:s.length≤24:=by unfold ag at hnm;simp at hnm;omega
     have HR2:=qH hR2;have WC:=qH hg;have BP:=qH hnm;clear hR2 hf hg X8 hnm hk0 hk1;go_wp2_with fail;with_reducible refine(src_ok wr w.heap.size A2 n2 c2 cur gJ.o (by omega) WC.o).mono ?_
     rintro r w3⟨A3,n3,c3,rfl,hb3,hB4⟩;have Nr:=qH hb3;have hn3:=hb3.len;have HH3:=qH (HH.o.up hB4);have fM:=qH (HB3.o.trans (hB4.mono hsz));clear hb3 hB4 HH gJ HB3;cases hbb:bytesBefore (gq m) s
     ·rw[hbb]at HR2;have HF:=qS (wV w R (.returned (.tuple #[.pointer none,.int .i64 2])) w3) (tO (.inr ⟨HR2.o.symm,rfl⟩) fM.o);have hcase:(Op.bytesLess s (gq m)=false∧(s==gq m)=true)∨(Op.bytesLess s (gq m)=true∧(s==gq m)=false):=by
       rw[CV];by_cases he:s=gq m;·left;rw[he];exact⟨aF _,by simp⟩
       ·right;rcases jQ he with h'|h';·exact⟨h',by simpa using he⟩
        ·rw[h']at hbb;cases hbb
      clear hbb;rcases hcase with⟨t2,t3⟩|⟨t2,t3⟩;all_goals go_wp2;go_ret2;exact HF.o
     ·rw[hbb]at HR2;simp only[if_true]at HR2;have t2:Op.bytesLess s (gq m)=false:=by rw[CV];cases h':bytesBefore s (gq m)with|false=>rfl|true=>have:=gQ hbb h';rw[aF]at this;cases this
      have t3:(s==gq m)=false:=by
       have:s≠gq m:=fun e=>by rw[e,aF]at hbb;cases hbb
       simpa using this
      have zB:=qH hbb;clear hbb;rcases kI (fZ l1)with⟨rs,l2,hr⟩|⟨er,hr⟩
      ·rw[hr]at HR2;simp only at HR2;obtain⟨hro,XY,hrl2,_⟩:=LB hr;have Zd:=qH hro;have HRN:=qH XY;have HRR:=qH hr;clear hr hro XY;go_wp2_with fail;with_reducible refine(Vb w3 w.heap.size A3 n3 c3 l1 Nr.o fM.o.size (by omega) HRR.o).mono ?_
       rintro r w5⟨v5,A5,n5,c5,rfl,ho5,hb5,Mx⟩;obtain⟨A6,k6,hv6⟩:=ownsRow_form ho5;subst hv6;have WO:=qH hb5;have j5:=qH ho5;have hn5:=hb5.len;have WB:=qH (HH3.o.up Mx);have Xl:=qS (∀b,(Value.slice A6 rs.length k6).ownBlock=some b→ ¬G b) (fun b hb hg=>by have:=(World.ownsRow.lt ho5 b hb).1;have:=HH3.o.lt b hg;omega);have qE:=qH (fM.o.trans (Mx.mono fM.o.size));have HV5:=qS (∀b,(Value.slice A6 rs.length k6).ownBlock=some b→w.heap.size≤b) (fun b hb=>by have:=(World.ownsRow.lt ho5 b hb).1;have:=fM.o.size;omega);obtain⟨x7,st7,W1,W2,hme,hes,hm7,hg7⟩:=WB.o.map.entry (by rw[List.length_map];exact aaC) s (by unfold maxLen;omega) 137 171 Tryz.underlying137 _ (JO w5) (.slice A6 rs.length k6);have HH7:=qH (WB.o.entry j5.o Xl.o zB.o BP.o Zd.o HRN.o hm7 hg7);have hlt5:=WB.o.lt bh WB.o.gm;have iW:=qS (Below w.heap.size w W2) (Below.grown qE.o hg7 qE.o.size (fun k' hk'=>by injection hk' with hk';have:=HG.o bh WB.o.gm;omega));have abh:=qS (bU W2 w.heap.size A5 n5 c5 l2) (WO.o.keep fun p hp=>World.cell?_of_block (w:=w5) (hg7.block p.block (by have:=qE.o.size;omega) (fun e=>by injection e with e;have:=HG.o bh WB.o.gm;omega)));have hc0:=WB.o.cell;have HR7:=qS (Qs w bs bh N l.length R (.slice A5 n5 c5) (.string ⟨s.toArray⟩) (.int .i64 ((j+1:Nat):Int)) W2) (⟨j+1,A5,n5,c5,l2,m++[(s,rs)],_,_,rfl,hjN,rfl,abh.o,by rw[pW],by rw[List.length_append,HL2.o];rfl,HH7.o,(fun b hb=>hb.elim (HG.o b) (HV5.o b)),by simp;omega,by rw[Nn.o];exact HR2.o,iW.o⟩);clear ho5 hb5 Mx hm7 hg7 hn5;go_wp2;go_roundw;case rel=>exact HR7.o
       case measure=>simp[intOf];omega
      ·have HR3:=qS (R=(if er=3 then .bz else .form)) (by rw[←HR2.o];rcases hr with⟨hr,rfl⟩|⟨hr,rfl⟩<;>rw[hr]<;>rfl);have HF:=qS (∀W,Below w3.heap.size w3 W→wV w R (.returned (.tuple #[.pointer none,.int .i64 er])) W) (fun W hW=>tO (by
        rcases hr with⟨_,rfl⟩|⟨_,rfl⟩;·exact .inl ⟨HR3.o,rfl⟩
        ·exact .inr ⟨HR3.o,rfl⟩) (fM.o.trans (hW.mono fM.o.size)));have t4:(er !=0)=true:=Bz hr;have HRR:=qH hr;clear hr HR2;go_wp2_with fail;with_reducible refine(RJ w3 w.heap.size A3 n3 c3 l1 Nr.o fM.o.size (by omega) er HRR.o).mono ?_
       rintro r w5⟨rfl,hb5⟩;have Nn:=qH (HF.o w5 hb5);clear hb5;go_wp2;go_ret2;exact Nn.o
    ·have HR3:=qS (R=(if er=3 then .bz else .form)) (by rw[←hR2];rcases hg with⟨hg,rfl⟩|⟨hg,rfl⟩<;>rw[hg]<;>rfl);have HF:=qS (∀W,Below wr.heap.size wr W→wV w R (.returned (.tuple #[.pointer none,.int .i64 er])) W) (fun W hW=>tO (by
      rcases hg with⟨_,rfl⟩|⟨_,rfl⟩;·exact .inl ⟨HR3.o,rfl⟩
      ·exact .inr ⟨HR3.o,rfl⟩) (HB3.o.trans (hW.mono hsz)));have t4:(er !=0)=true:=Bz hg;have WC:=qH hg;clear hg hR2 hf;go_wp2_with fail;with_reducible refine(Rz wr w.heap.size A2 n2 c2 cur gJ.o (by omega) er WC.o).mono ?_
     rintro r w4⟨rfl,hb4⟩;have Nn:=qH (HF.o w4 hb4);clear hb4;go_wp2;go_ret2;exact Nn.o
   ·have Xb:j=N:=by omega
    rw[Xb,Nat.sub_self]at hR2;simp only[oU,VD]at hR2;have t1: ¬(j:Int)<N:=by omega
    by_cases hc0:cur=[]
    ·rw[if_pos hc0]at hR2;have t2: ¬(0:Int)<n2:=by rw[←hn2,hc0];simp
     have HF:=qS (wV w R (.returned (.tuple #[.pointer (some ⟨bs,0,none⟩),.int .i64 0])) wr) (by rw[←hR2];exact⟨⟨bs,bh,G,V,rfl,HH.o,HG.o⟩,HB3.o⟩);clear hR2 Xb hc0 hn2;go_wp2;go_ret2;exact HF.o
    ·rw[if_neg hc0]at hR2;have t2:(0:Int)<n2:=by have:=List.length_pos_iff.2 hc0;omega
     have HF:=qS (wV w R (.returned (.tuple #[.pointer none,.int .i64 2])) wr) (tO (.inr ⟨hR2.symm,rfl⟩) HB3.o);clear hR2 Xb hc0 hn2;go_wp2;go_ret2;exact HF.o
 ·have nI:=qH hR;go_enter Tryz.func59,Tryz.ntmps59;go_wp2_with fail;with_reducible refine(tC w w.heap.size A n k l HB.o hn er nI.o).mono ?_
  rintro r w1⟨rfl,hb1⟩;have HF:=qS (wV w (uf l) (.returned (.tuple #[.pointer none,.int .i64 er])) w1) (tO (by
   unfold uf;rcases hR with⟨hR,rfl⟩|⟨hR,rfl⟩<;>rw[hR];·exact .inl ⟨rfl,rfl⟩
   ·exact .inr ⟨rfl,rfl⟩) hb1);have t0:(er !=0)=true:=Bz hR;clear hR hb1;go_wp2;go_ret2;exact HF.o
open Go.Shelf
structure mq(a b:Int)(lc lh:List UInt8)(gs:List (List UInt8))(ts ls:List Ev)(c:aZ)(m:eZ):Prop where
 dc:ze lc=some c
 dh: ∃r,uf lh=.ok m r
 sl:c.aa=a
 id:c.idle=b
 gone:zC gs
 right:gD gs m ts ls
theorem yt{gone:List (List UInt8)}{had:eZ}{taken late:List Ev}(h:gD gone had taken late)(i:Nat)(hi:i+1<taken.length):gU (taken[i]'(by omega)) taken[i+1]:=by
 have h1:=h.taken (i+1) hi;unfold uB at h1;simp only[Bool.and_eq_true,Bool.or_eq_true,decide_eq_true_eq]at h1;have h2:=h1.1.2;rcases h2 with h2|h2;·omega
 ·have e1:taken.getD (i+1-1) taken[i+1]=taken[i]:=by rw[List.getD_eq_getElem?_getD,Nat.add_sub_cancel,List.getElem?_eq_getElem (by omega)];rfl
  rw[e1]at h2;exact pQ.1 (F6.2 (by simpa using h2))
theorem Ex{gone:List (List UInt8)}{had:eZ}{taken late:List Ev}(h:gD gone had taken late)(i:Nat): ∀(d:Nat)(hd:i+d+1<taken.length),gU (taken[i]'(by omega)) taken[i+d+1]|0,hd=>yt h i hd|d+1,hd=>(Ex h i d (by omega)).trans (yt h (i+d+1) (by omega))
theorem Cm{gone:List (List UInt8)}{had:eZ}{taken late:List Ev}(h:gD gone had taken late):dL taken:=by refine List.pairwise_iff_getElem.2 fun i j hi hj hij hlt=>?_;obtain⟨d,rfl⟩: ∃d,j=i+d+1:=⟨j-i-1,by omega⟩;exact gU.irrefl _ ((Ex h i d hj).trans hlt)
theorem Lt{gone:List (List UInt8)}{had:eZ}{taken late:List Ev}(h:gD gone had taken late): ∀e,e∈taken∨e∈late→bA e=true:=fun e he=>by
 rcases he with he|he;·obtain⟨i,hi,rfl⟩:=List.getElem_of_mem he;have h1:=h.taken i hi;unfold uB at h1;simp only[Bool.and_eq_true]at h1;exact h1.1.1.1.1.1
 ·obtain⟨i,hi,rfl⟩:=List.getElem_of_mem he;have h1:=h.late i hi;unfold J4 at h1;simp only[Bool.and_eq_true]at h1;exact h1.1.1
theorem gD.congr{gone Ps:List (List UInt8)}{had:eZ}{taken late:List Ev}(h:gD gone had taken late)(hg: ∀p,p∈gone↔p∈Ps):gD Ps had taken late:=by
 have e: ∀p,decide (p∈Ps)=decide (p∈gone):=fun p=>decide_eq_decide.2 (hg p).symm;refine⟨h.len,fun k hk=>?_,fun k hk=>?_⟩;·have:=h.taken k hk;unfold uB iC at this⊢;rw[e];exact this
 ·have:=h.late k hk;unfold J4 iC at this⊢;rw[e];exact this
structure Tj(N:Nat)(lc lh:List UInt8):Prop where
 src: ∀c,ze lc=some c→c.src.length≤N
 had: ∀m r,uf lh=.ok m r→m.length≤N∧ ∀p∈m,p.2.length≤N
theorem FM{m:eZ}{N:Nat}(h: ∀p∈m,p.2.length≤N)(s:List UInt8):(aM m s).length≤N:=by unfold aM;cases hg:bO m s with|none=>simp|some v=>exact h _ (gP hg)
theorem Oo{a b:Int}{lc lh:List UInt8}{gs:List (List UInt8)}{ts ls:List Ev}{c:aZ}{m:eZ}{N:Nat}(h:mq a b lc lh gs ts ls c m)(hb:Tj N lc lh)(ht:ts.length≤N)(hl:ls.length≤N):dR N ⟨c,m,ts,ls,gs⟩:=by obtain⟨r,hr⟩:=h.dh;have h2:=hb.had m r hr;exact⟨Cm h.right,Lt h.right,hb.src c h.dc,h2.1,FM h2.2,ht,hl⟩
def lK(w:World)(N:Nat)(a b:Int)(lc lh:List UInt8)(gs:List (List UInt8))(ts ls:List Ev)(e:Ending)(w':World):Prop:=RowKit.Below w.heap.size w w'∧((∃c m bi F,mq a b lc lh gs ts ls c m∧e=.returned (.tuple #[.pointer (some ⟨bi,0,none⟩),.int .i64 0])∧aU w' F bi N ⟨c,m,ts,ls,gs⟩∧ ∀b,F b→w.heap.size≤b)∨ ∃er:Int,e=.returned (.tuple #[.pointer none,.int .i64 er])∧(er=2∨(er=3∧uf lh=.bz))∧ ∀c m,¬mq a b lc lh gs ts ls c m)
theorem l9{w w':World}{N:Nat}{a b:Int}{lc lh:List UInt8}{gs:List (List UInt8)}{ts ls:List Ev}(hb:RowKit.Below w.heap.size w w'){er:Int}(he:er=2∨(er=3∧uf lh=.bz))(hn: ∀c m,¬mq a b lc lh gs ts ls c m):lK w N a b lc lh gs ts ls (.returned (.tuple #[.pointer none,.int .i64 er])) w':=⟨hb,.inr ⟨er,rfl,he,hn⟩⟩
structure Oc(bi:Nat)(c0 s0 l0 g0:Value)(T:TypeId)(ts ls:List Ev)(w7 W:World)(x2 x3:Value)(pt pl:Option Value):Prop where
 lt:bi<w7.heap.size
 blk:W.heap[bi]?=some (.cells #[c0,s0,x2,x3,l0,g0] T (0,0))
 keep:ak (fun b=>b=bi) w7 W
 tk: ∀v,pt=some v→aP W w7.heap.size v ts
 le: ∀v,pl=some v→aP W w7.heap.size v ls
 ap: ∀v u,pt=some v→pl=some u→ ∀b,v.ownBlock=some b→u.ownBlock≠some b
section
variable{bi:Nat}{c0 s0 l0 g0:Value}{T:TypeId}{ts ls:List Ev}{w7 W V:World}{x2 x3 v:Value}{pt pl:Option Value}
theorem Oc.up(h:Oc bi c0 s0 l0 g0 T ts ls w7 W x2 x3 pt pl)(hb:RowKit.Below W.heap.size W V):Oc bi c0 s0 l0 g0 T ts ls w7 V x2 x3 pt pl:=⟨h.lt,(hb.block _ (aA h.blk)).trans h.blk,h.keep.trans (ak.of_below hb) (fun _ _ h=>h),fun v hv=>ownsRow_below (h.tk v hv) hb (Nat.le_refl _),fun v hv=>ownsRow_below (h.le v hv) hb (Nat.le_refl _),h.ap⟩
theorem Oc.PQ(h:Oc bi c0 s0 l0 g0 T ts ls w7 W x2 x3 none pl)(ho:aP V W.heap.size v ts)(hb:RowKit.Below W.heap.size W V):Oc bi c0 s0 l0 g0 T ts ls w7 V x2 x3 (some v) pl:=by
 have h':=h.up hb;refine⟨h'.lt,h'.blk,h'.keep,fun u hu=>?_,h'.le,fun u z hu hz b hb1 hb2=>?_⟩;·injection hu with hu;subst hu;exact aP.gB ho h.keep.size
 ·injection hu with hu;subst hu;have h1:=(World.ownsRow.lt ho b hb1).1;have h2:=(World.ownsRow.lt (h.le z hz) b hb2).2;omega
theorem Oc.PR(h:Oc bi c0 s0 l0 g0 T ts ls w7 W x2 x3 pt none)(ho:aP V W.heap.size v ls)(hb:RowKit.Below W.heap.size W V):Oc bi c0 s0 l0 g0 T ts ls w7 V x2 x3 pt (some v):=by
 have h':=h.up hb;refine⟨h'.lt,h'.blk,h'.keep,h'.tk,fun u hu=>?_,fun u z hu hz b hb1 hb2=>?_⟩;·injection hu with hu;subst hu;exact aP.gB ho h.keep.size
 ·injection hz with hz;subst hz;have h1:=(World.ownsRow.lt ho b hb2).1;have h2:=(World.ownsRow.lt (h.tk u hu) b hb1).2;omega
theorem Oc.set(h:Oc bi c0 s0 l0 g0 T ts ls w7 W x2 x3 pt pl)(o:Nat)(u:Value)(y2 y3:Value)(he:(#[c0,s0,x2,x3,l0,g0]:Array Value).setIfInBounds o u= #[c0,s0,y2,y3,l0,g0]):Oc bi c0 s0 l0 g0 T ts ls w7 (W.setCell ⟨bi,o,none⟩ u) y2 y3 pt pl:=by have hk: ∀b,b≠bi→(W.setCell ⟨bi,o,none⟩ u).heap[b]?=W.heap[b]?:=fun b hb=>Below.heap_setCell _ ⟨bi,o,none⟩ _ _ hb;have hrow: ∀{l:List Ev}{z:Value},aP W w7.heap.size z l→aP (W.setCell ⟨bi,o,none⟩ u) w7.heap.size z l:=fun ho=>ho.keep fun b hb=>hk b (by have:=(World.ownsRow.lt ho b hb).1;have:=h.lt;omega);refine⟨h.lt,by rw[af h.blk,he],h.keep.setCell (p:=⟨bi,o,none⟩) (fun _=>rfl) u,fun v hv=>hrow (h.tk v hv),fun v hv=>hrow (h.le v hv),h.ap⟩
theorem Oc.cells(h:Oc bi c0 s0 l0 g0 T ts ls w7 W x2 x3 pt pl):W.cell? ⟨bi,2,none⟩=some x2∧W.cell? ⟨bi,3,none⟩=some x3∧W.frozen? ⟨bi,2,none⟩=false∧W.frozen? ⟨bi,3,none⟩=false:=⟨(cell_of_row W bi 2 _ _ (0,0) h.blk).trans rfl,(cell_of_row W bi 3 _ _ (0,0) h.blk).trans rfl,frozen_of_row W bi 2 _ _ h.blk,frozen_of_row W bi 3 _ _ h.blk⟩
theorem Oc.set2(h:Oc bi c0 s0 l0 g0 T ts ls w7 W x2 x3 pt pl)(u:Value):Oc bi c0 s0 l0 g0 T ts ls w7 (W.setCell ⟨bi,2,none⟩ u) u x3 pt pl:=h.set 2 u u x3 (by simp)
theorem Oc.set3(h:Oc bi c0 s0 l0 g0 T ts ls w7 W x2 x3 pt pl)(u:Value):Oc bi c0 s0 l0 g0 T ts ls w7 (W.setCell ⟨bi,3,none⟩ u) x2 u pt pl:=h.set 3 u x2 u (by simp)
end
structure Ux(w w7:World)(bi:Nat)(A:uy)(c:aZ)(m:eZ)(gs:List (List UInt8))(ls:List Ev):Prop where
 au:aH w7 A.bc A.bm c
 had:cO w7 A.G A.bs A.bh m A.V
 bu:fP w7 A.bl ls.length (ls.map bB)
 gone:fQ w7 A.bg gs.length gs
 ml:A.bm≠A.bl
 mg:A.bm≠A.bg
 lg:A.bl≠A.bg
 gm: ¬A.G A.bm
 gl: ¬A.G A.bl
 gg: ¬A.G A.bg
 ib:bi<w7.heap.size
 hi:w.heap.size≤bi∧w.heap.size≤A.bc∧w.heap.size≤A.bm∧(∀b,A.G b→w.heap.size≤b)∧w.heap.size≤A.bl∧w.heap.size≤A.bg
 ni:bi≠A.bc∧bi≠A.bm∧ ¬A.G bi∧bi≠A.bl∧bi≠A.bg
 sz:w.heap.size≤w7.heap.size
theorem Vi{w w7 W:World}{bi N:Nat}{A:uy}{a b:Int}{lc lh:List UInt8}{c:aZ}{m:eZ}{gs:List (List UInt8)}{ts ls:List Ev}{vt vl:Value}{T:TypeId}(hT:T=84)(h:Ux w w7 bi A c m gs ls)(hp:mq a b lc lh gs ts ls c m)(hbd:Tj N lc lh)(ht:ts.length≤N)(hl:ls.length≤N)(hg:gs.length≤N)(ho:Oc bi (.pointer (some ⟨A.bc,0,none⟩)) (.pointer (some ⟨A.bs,0,none⟩)) (.map (some A.bl)) (.map (some A.bg)) T ts ls w7 W vt vl (some vt) (some vl)): ∃F,aU W F bi N ⟨c,m,ts,ls,gs⟩∧ ∀b,F b→w.heap.size≤b:=by
 subst hT;obtain⟨n1,n2,n3,n4,n5⟩:=h.ni;obtain⟨k1,k2,k3,k4,k5,k6⟩:=h.hi;have hk: ∀b,b<w7.heap.size→b≠bi→W.heap[b]?=w7.heap[b]?:=fun b hb hne=>ho.keep.block b hb hne;have hs:=ho.keep.size;have hot:=ho.tk vt rfl;have hol:=ho.le vl rfl;refine⟨fun b=>w.heap.size≤b∧b<W.heap.size,⟨{A with vt:=vt,vl:=vl,nl:=ls.length,ng:=gs.length},?_,Oo hp hbd ht hl,hl,hg,?_,fun b hb=>hb.2⟩,fun b hb=>hb.1⟩;·exact⟨ho.blk,h.au.keep (hk _ h.au.lt (Ne.symm n1)) (hk _ h.au.map.lt (Ne.symm n2)),h.had.keep hs (fun b hb=>hk b (h.had.lt b hb) (fun e=>n3 (e▸hb))),aP.low hot,aP.low hol,h.bu.block (hk _ h.bu.lt (Ne.symm n4)),h.gone.block (hk _ h.gone.lt (Ne.symm n5)),h.ml,h.mg,h.lg,h.gm,h.gl,h.gg,fun b hb=>ho.ap vt vl rfl rfl b hb⟩
 ·intro b hb;rcases hb with hb|hb|hb|hb|hb|hb|hb|hb;·have:=h.ib;exact⟨by omega,by omega⟩
  ·have hb':b=A.bc:=hb;have:=h.au.lt;exact⟨by omega,by omega⟩
  ·have hb':b=A.bm:=hb;have:=h.au.map.lt;exact⟨by omega,by omega⟩
  ·have:=h.had.lt b hb;exact⟨k4 b hb,by omega⟩
  ·have:=World.ownsRow.lt hot b hb;have:=h.sz;exact⟨by omega,by omega⟩
  ·have:=World.ownsRow.lt hol b hb;have:=h.sz;exact⟨by omega,by omega⟩
  ·have hb':b=A.bl:=hb;have:=h.bu.lt;exact⟨by omega,by omega⟩
  ·have hb':b=A.bg:=hb;have:=h.gone.lt;exact⟨by omega,by omega⟩
structure YS(w:World)(N:Nat)(Ac Ah At Al Ag:Option Addr)(nc kc nh kh nt kt nl kl ng kg:Nat)(lc lh:List UInt8)(ts ls:List Ev)(gs:List (List UInt8)):Prop where
 au:bU w w.heap.size Ac nc kc lc
 had:bU w w.heap.size Ah nh kh lh
 tk:fV w w.heap.size At nt kt ts
 le:fV w w.heap.size Al nl kl ls
 gn:Strs w w.heap.size Ag ng kg gs
 hnc:nc≤100000
 hnh:nh≤1000000000
 hnt:nt≤N
 hnl:nl≤N
 Bq:ng≤N
 hN:N≤100000
 st: ∀e∈ts,e.small
 sl: ∀e∈ls,e.small
 max:bf w
 errs:dV w
 tab:Lib.TabBelow Tryz.prog w.heap.size w "internal/strconv.uint64pow10" .u64 Lib.pow10Tab
 bd:Tj N lc lh
def KM(w w5:World)(bg:Nat)(gs:List (List UInt8))(i:Value)(wr:World):Prop:= ∃k:Nat,i=.int .i64 k∧k≤gs.length∧(∀j(h:j<gs.length),j<k→ag gs[j]=true∧(0<j→bytesBefore (gs[j-1]'(by omega)) gs[j]=true))∧fQ wr bg k (gs.take k)∧ak (fun b=>b=bg) w5 wr∧RowKit.Below w.heap.size w wr
def Uy(bi:Nat)(c0 s0 l0 g0:Value)(ts ls:List Ev)(w7 W:World):Prop:= ∃vt vl,Oc bi c0 s0 l0 g0 84 ts ls w7 W vt vl (some vt) (some vl)
theorem yD{bi:Nat}{c0 s0 l0 g0:Value}{ts ls:List Ev}{w7 W:World}{vt vl:Value}(h:Oc bi c0 s0 l0 g0 84 ts ls w7 W vt vl (some vt) (some vl)):Uy bi c0 s0 l0 g0 ts ls w7 W:=⟨vt,vl,h⟩
theorem Vj(w:World)(N:Nat)(Ac Ah At Al Ag:Option Addr)(nc kc nh kh nt kt nl kl ng kg:Nat)(a b:Int)(lc lh:List UInt8)(ts ls:List Ev)(gs:List (List UInt8))(h:YS w N Ac Ah At Al Ag nc kc nh kh nt kt nl kl ng kg lc lh ts ls gs):Calls Tryz.prog 25 #[fq a b (.slice Ac nc kc) (.slice Ah nh kh) (.slice At nt kt) (.slice Al nl kl) (.slice Ag ng kg)] w (lK w N a b lc lh gs ts ls):=by
 have HI:=qH h;have hnc:=h.hnc;have hnt:=h.hnt;have hnl:=h.hnl;have Bq:=h.Bq;have hN:=h.hN;have hlt:=h.tk.len;have hll:=h.le.len;have hlg:=h.gn.len;have hlc:=h.au.len;clear h;have HB1:=qS (RowKit.Below w.heap.size w (w.alloc (aW a b (.slice Ac nc kc) (.slice Ah nh kh) (.slice At nt kt) (.slice Al nl kl) (.slice Ag ng kg)))) ((Below.refl _ _).alloc (Nat.le_refl _) _);have BN:=qS ((w.alloc (aW a b (.slice Ac nc kc) (.slice Ah nh kh) (.slice At nt kt) (.slice Al nl kl) (.slice Ag ng kg))).heap[w.heap.size]?=_) (heap_alloc_new w _);have hs1:(w.alloc (aW a b (.slice Ac nc kc) (.slice Ah nh kh) (.slice At nt kt) (.slice Al nl kl) (.slice Ag ng kg))).heap.size=w.heap.size+1:=by simp
 go_enter Tryz.func25,Tryz.ntmps25;go_upto_region 1 with fail;generalize w.alloc (aW a b (.slice Ac nc kc) (.slice Ah nh kh) (.slice At nt kt) (.slice Al nl kl) (.slice Ag ng kg))=w1 at*;have Dv:=qH (fun(W:World)(hW:W.heap[w.heap.size]?=some (aW a b (.slice Ac nc kc) (.slice Ah nh kh) (.slice At nt kt) (.slice Al nl kl) (.slice Ag ng kg)))=>bM hW);obtain⟨z0,z1,z2,z3,z4,z5,z6,_⟩:=Dv.o w1 BN.o;have HC:=qH (MO w1 Ac nc kc lc ((HI.o.au.below HB1.o).more HB1.o.size) hnc (HI.o.max.up HB1.o) (HI.o.errs.up HB1.o) (fe HI.o.tab HB1.o));go_wp2_with fail;clear z0 z1 z2 z3 z4 z5 z6;with_reducible refine HC.o.mono ?_
 clear HC;rintro r w2⟨hcase,hb2⟩;have HB2:=qH (HB1.o.trans (hb2.mono HB1.o.size));have Af:=qH ((hb2.block _ (by omega)).trans BN.o);have hs2:=hb2.size;cases Xd:ze lc with
  |none=>rw[Xd]at hcase;simp only at hcase;subst hcase;have HF:=qS (∀q,lK w N a b lc lh gs ts ls (.returned (.tuple #[.pointer none,.int .i64 2])) (w2.drewN q)) (fun q=>l9 (below_drewN HB2.o q) (.inl rfl) fun c m h=>by have:=h.dc;rw[Xd]at this;cases this);clear Xd;go_wp2;go_ret2;exact HF.o 0
  |some c=>
   rw[Xd]at hcase;obtain⟨bc,bm,rfl,hck,hbc,uC⟩:=hcase;have UM:=qH Xd;have Rn:=qH hck;have hbc2:=hck.lt;have hbm2:=hck.map.lt;clear hck Xd hb2;obtain⟨z0,z1,z2,z3,z4,z5,z6,_⟩:=Dv.o w2 Af.o;have HD:=qH (Pk w2 Ah nh kh lh ((HI.o.had.below HB2.o).more HB2.o.size) (by have:=HI.o.hnh;omega));go_wp2_with fail;clear z0 z1 z2 z3 z4 z5 z6;with_reducible refine HD.o.mono ?_
   clear HD;rintro r w3⟨hcase,hb3⟩;have HB3:=qH (HB2.o.trans (hb3.mono HB2.o.size));have Ri:=qH ((hb3.block _ (by omega)).trans Af.o);have Z8:=qH (Rn.o.up hb3);have hs3:=hb3.size;clear Rn hb3;cases Re:uf lh with
    |bz=>rw[Re]at hcase;simp only at hcase;subst hcase;have HF:=qS (lK w N a b lc lh gs ts ls (.returned (.tuple #[.pointer none,.int .i64 3])) w3) (l9 HB3.o (.inr ⟨rfl,Re⟩) fun c m h=>by obtain⟨r,hr⟩:=h.dh;rw[Re]at hr;cases hr);clear Re;go_wp2;go_ret2;exact HF.o
    |form=>rw[Re]at hcase;simp only at hcase;subst hcase;have HF:=qS (lK w N a b lc lh gs ts ls (.returned (.tuple #[.pointer none,.int .i64 2])) w3) (l9 HB3.o (.inl rfl) fun c m h=>by obtain⟨r,hr⟩:=h.dh;rw[Re]at hr;cases hr);clear Re;go_wp2;go_ret2;exact HF.o
    |ok m rr=>
     rw[Re]at hcase;obtain⟨bs,bh,G,V,rfl,hhd,hG⟩:=hcase;have HDH:=qH Re;have zA:=qH hhd;have HG:=qH hG;clear hhd hG Re;have HF:=qS ((∀c' m',mq a b lc lh gs ts ls c' m'→c'=c∧m'=m)) (fun c' m' h=>by obtain⟨r,hr⟩:=h.dh;rw[HDH.o]at hr;injection hr with hr _;have:=h.dc;rw[UM.o]at this;injection this with this;exact⟨this.symm,hr.symm⟩);go_wp2_with fail;with_reducible refine(rJ w3 0 0).mono ?_
     rintro r w4⟨bi,F,rfl,⟨A,hM,_,hnl0,hng0,hfo,Xh⟩,hb4,hFs⟩;have HM:=qH hM;have Z7:=qH (Z8.o.up hb4);have ZL:=qH (zA.o.up hb4);have Nu:=qH ((hb4.block _ (by omega)).trans Ri.o);have fM:=qH (HB3.o.trans (hb4.mono HB3.o.size));have hs4:=hb4.size;have hbi3:=hFs _ (hfo _ (.inl rfl));have hbl3:=hFs _ (hfo _ (.inr (.inr (.inr (.inr (.inr (.inr (.inl rfl))))))));have hbg3:=hFs _ (hfo _ (.inr (.inr (.inr (.inr (.inr (.inr (.inr rfl))))))));have hbi4:=aA hM.blk;have hil:=hM.il;have hig:=hM.ig;have Ur:=zA.o.lt;obtain⟨c0,c1,_,_,c4,c5,_,_,_⟩:=hM.cells;have f0:=frozen_of_row w4 bi 0 _ _ hM.blk;have f1:=frozen_of_row w4 bi 1 _ _ hM.blk;obtain⟨Bt,ct,wR,_⟩:=hM.taken.form;obtain⟨Bl,cl,hvl,_⟩:=hM.late.form;clear hM hfo Xh hFs hb4 Z8 zA;have e1:=af (o:=1) (u:=.pointer (some ⟨bs,0,none⟩)) (af (o:=0) (u:=.pointer (some ⟨bc,0,none⟩)) HM.o.blk);simp only[List.setIfInBounds_toArray,List.set_cons_zero,List.set_cons_succ]at e1;have qD:=qH e1;have xM:=qS (∀k,k≠bi→((w4.setCell ⟨bi,0,none⟩ (.pointer (some ⟨bc,0,none⟩))).setCell ⟨bi,1,none⟩ (.pointer (some ⟨bs,0,none⟩))).heap[k]?=w4.heap[k]?) (fun k hk=>(Below.heap_setCell _ _ _ _ hk).trans (Below.heap_setCell _ _ _ _ hk));have qE:=qS (RowKit.Below w.heap.size w ((w4.setCell ⟨bi,0,none⟩ (.pointer (some ⟨bc,0,none⟩))).setCell ⟨bi,1,none⟩ (.pointer (some ⟨bs,0,none⟩)))) ((fM.o.setCell (p:=⟨bi,0,none⟩) (by show w.heap.size≤bi;omega) _).setCell (p:=⟨bi,1,none⟩) (by show w.heap.size≤bi;omega) _);have hs5:((w4.setCell ⟨bi,0,none⟩ (.pointer (some ⟨bc,0,none⟩))).setCell ⟨bi,1,none⟩ (.pointer (some ⟨bs,0,none⟩))).heap.size=w4.heap.size:=by simp[World.setCell]
     clear e1;go_upto_region 9 with fail;generalize(w4.setCell ⟨bi,0,none⟩ (.pointer (some ⟨bc,0,none⟩))).setCell ⟨bi,1,none⟩ (.pointer (some ⟨bs,0,none⟩))=w5 at*;have HX5:=qH ((xM.o w.heap.size (by omega)).trans Nu.o);have HSG:=qS (fQ w5 A.bg A.ng []) (HM.o.gone.block (xM.o _ (Ne.symm hig)));have rV:=qS (fP w5 A.bl A.nl []) (HM.o.bu.block (xM.o _ (Ne.symm hil)));have hbl5:A.bl<w5.heap.size:=rV.o.lt;have hbg5:A.bg<w5.heap.size:=HSG.o.lt;have Z6:=qH (Z7.o.keep (xM.o _ (by omega)) (xM.o _ (by omega)));have ZK:=qH (ZL.o.keep (by omega) (fun k hk=>xM.o k (by have:=Ur k hk;omega)));have Um:A.nl=0:=by omega
     have Un:A.ng=0:=by omega
     rw[Um]at rV;rw[Un]at HSG;have Su:A.bl≠A.bg:=HM.o.lg;have hGG:=HG.o;clear c0 c1 c4 c5 f0 f1 Z7 ZL Nu fM hnl0 hng0 Um Un;have jF:=qS (KM w w5 A.bg gs (.int .i64 0) w5) (⟨0,rfl,Nat.zero_le _,fun j _ h=>absurd h (Nat.not_lt_zero _),HSG.o,ak.refl _ _,qE.o⟩);obtain⟨z0,z1,z2,z3,z4,z5,z6,_⟩:=Dv.o w5 HX5.o;go_wp2;clear z0 z1 z2 z3 z4 z5 z6;go_loopw[42](fun i wr=>KM w w5 A.bg gs i wr)(fun i _=>ng-(intOf i).toNat);case atStart=>exact jF.o
     case round=>
      obtain⟨k,rfl,hk,hgo,hset,hkp,hbel⟩:=hrel;have KZ:=qH hgo;have Dr:=qH hset;have oN:=qH hkp;have Aq:=qH hbel;have zW:=hkp.size;have HXR:=qH ((hkp.block w.heap.size (by omega) (by omega)).trans HX5.o);have HIR:=qH ((hkp.block bi (by omega) hig).trans qD.o);clear hgo hset hkp hbel jF;obtain⟨z0,z1,z2,z3,z4,z5,z6,_⟩:=Dv.o wr HXR.o;by_cases hkn:k<ng
      ·have hkl:k<gs.length:=by omega
       obtain⟨eb,eo,hAg,hb,hc⟩:=HI.o.gn.at_ k hkl;have hc':=(Aq.o.cell (p:=⟨eb,eo+k,none⟩) hb).trans hc;have jG:=qS (0<k→wr.cell? ⟨eb,eo+(k-1),none⟩=some (.string ⟨(gs.getD (k-1) []).toArray⟩)) (fun h0=>by obtain⟨b',off',e',hb',hc'⟩:=HI.o.gn.at_ (k-1) (by omega);have e2:=hAg.symm.trans e';injection e2 with e2;injection e2 with e1 e2;subst e1 e2;rw[Aq.o.cell (p:=⟨eb,eo+(k-1),none⟩) hb,hc'];simp[List.getD,List.getElem?_eq_getElem (show k-1<gs.length by omega)]);have aa5:=qS (ag gs[k]=false→ ¬zC gs) (fun h hg=>Bool.noConfusion (h.symm.trans (hg.name k hkl)));have aa4:=qS (0<k→Op.bytesLess (gs.getD (k-1) []) gs[k]=false→ ¬zC gs) (fun h0 h hg=>by
        have h2:=hg.up k hkl h0;have e1:gs.getD (k-1) []=gs[k-1]:=by simp[List.getD,List.getElem?_eq_getElem (show k-1<gs.length by omega)]
        rw[CV,e1]at h;exact Bool.noConfusion (h.symm.trans h2));have qJ:=qS (ag gs[k]=true→(0<k→Op.bytesLess (gs.getD (k-1) []) gs[k]=true)→ ∀j(h:j<gs.length),j<k+1→ag gs[j]=true∧(0<j→bytesBefore (gs[j-1]'(by omega)) gs[j]=true)) (fun h1 h2 j hj hjk=>by
        by_cases e:j=k
        ·subst e;refine⟨h1,fun h0=>?_⟩;have h3:=h2 h0;have e1:gs.getD (j-1) []=gs[j-1]:=by simp[List.getD,List.getElem?_eq_getElem (show j-1<gs.length by omega)]
         rw[CV,e1]at h3;exact h3
        ·exact KZ.o j hj (by omega));have Nl:=qS (∀q,q∈gs[k]::gs.take k↔q∈gs.take (k+1)) (fun q=>by rw[List.take_add_one,List.getElem?_eq_getElem hkl,Option.toList_some];simp only[List.mem_cons,List.mem_append,List.not_mem_nil,or_false];exact Or.comm);generalize gs.getD (k-1) []=q at*;generalize gs[k]=t at*;have t1:(k:Int)<ng:=by omega
       rw[hAg]at z6;rw[hAg];clear hc;go_wp2_with fail;refine(jN wr t).mono ?_;rintro e w6⟨rfl,rfl⟩;cases hnm:ag t;·have HBAD:=qS (lK w N a b lc lh gs ts ls (.returned (.tuple #[.pointer none,.int .i64 2])) wr) (l9 Aq.o (.inl rfl) fun c m h=>aa5.o hnm h.gone);clear hnm;go_wp2;go_ret2;exact HBAD.o
       have htl:t.length≤24:=by unfold ag at hnm;simp at hnm;omega
       obtain⟨w9,hr9,hs9,hg9⟩:=Dr.o.put (by unfold maxLen;omega) t (by unfold maxLen;omega);have i5:wr.cell? ⟨bi,5,none⟩=some (.map (some A.bg)):=(cell_of_row wr bi 5 _ _ (0,0) HIR.o).trans rfl;have Zw:=qS ((0<k→Op.bytesLess q t=true)→KM w w5 A.bg gs (.int .i64 ((k+1:Nat):Int)) w9) (fun h0=>⟨k+1,rfl,by omega,qJ.o hnm h0,hs9.congr Nl.o,oN.o.trans (ak.eF (F:=fun b=>b=A.bg) hg9 (fun k' h=>by injection h with h;exact h.symm)) (fun _ _ h=>h),Aq.o.grown hg9 Aq.o.size (fun k' h=>by injection h with h;omega)⟩);clear hs9 hg9 hnm;by_cases k0:k=0
       ·have HR:=qS (KM w w5 A.bg gs (.int .i64 1) w9) (by have h9:=Zw.o (fun h=>by omega);rw[k0]at h9;exact h9);have d1: ¬(0<k):=by omega
        have d2: ¬((0:Int)<(k:Int)):=by omega
        clear jG;go_wp2;go_roundw;case rel=>exact HR.o
        case measure=>simp[intOf];omega
       ·have hc1:=jG.o (by omega);have k1:(0:Int)<k:=by omega
        have k2:0<k:=by omega
        have ek:(k:Int)-1=((k-1:Nat):Int):=by omega
        cases hbl:Op.bytesLess q t;·have HBAD:=qS (lK w N a b lc lh gs ts ls (.returned (.tuple #[.pointer none,.int .i64 2])) wr) (l9 Aq.o (.inl rfl) fun c m h=>aa4.o (by omega) hbl h.gone);go_wp2;go_ret2;exact HBAD.o
        ·have HR:=qH (Zw.o (fun h=>hbl));go_wp2;go_roundw;case rel=>exact HR.o
         case measure=>simp[intOf];omega
      ·have hkk:k=gs.length:=by omega
       have t1: ¬(k:Int)<ng:=by omega
       have JA:=qS (zC gs) (⟨fun j hj=>(KZ.o j hj (by omega)).1,fun j hj h0=>(KZ.o j hj (by omega)).2 h0⟩);have We:=qS (fQ wr A.bg gs.length gs) (by have:=Dr.o;rw[hkk,List.take_length]at this;exact this);have WL:=qH (Z6.o.keep (oN.o.block _ (by omega) (by omega)) (oN.o.block _ (by omega) (by omega)));have ZJ:=qH (ZK.o.keep oN.o.size (fun k hk=>oN.o.block k (by have:=Ur k hk;omega) (by have:=Ur k hk;omega)));have Wd:=qH (rV.o.block (oN.o.block A.bl hbl5 Su));have Qw:=qH (Az wr Ac nc kc c WL.o.ok (by rw[(MN UM.o).2.1];exact(HI.o.au.below Aq.o).more Aq.o.size) (by omega) (HI.o.max.up Aq.o));clear Dr KZ Z6 ZK rV;go_wp2_with fail;clear z0 z1 z2 z3 z4 z5 z6;with_reducible refine Qw.o.mono ?_
       rintro r w6⟨rfl,hb6⟩;have hs6:=hb6.size;have dY:=qH (Aq.o.trans (hb6.mono Aq.o.size));have HX6:=qH ((hb6.block _ (by omega)).trans HXR.o);have Wz:=qH ((hb6.block _ (by omega)).trans HIR.o);have TU:=qH (WL.o.up hb6);have QI:=qH (ZJ.o.up hb6);have Y7:=qH (Wd.o.block (hb6.block _ Wd.o.lt));have Tw:=qH (We.o.block (hb6.block _ We.o.lt));clear hb6 Qw WL ZJ Wd We HXR HIR;obtain⟨z0,z1,z2,z3,z4,z5,z6,_⟩:=Dv.o w6 HX6.o;by_cases hsl:c.aa=a;case neg=>have HBAD:=qS (∀q,lK w N a b lc lh gs ts ls (.returned (.tuple #[.pointer none,.int .i64 2])) (w6.drewN q)) (fun q=>l9 (below_drewN dY.o q) (.inl rfl) fun c' m' h=>by obtain⟨e1,_⟩:=HF.o c' m' h;exact hsl (e1▸h.sl));go_wp2;go_ret2;exact HBAD.o 0
       by_cases hid:c.idle=b;case neg=>have HBAD:=qS (∀q,lK w N a b lc lh gs ts ls (.returned (.tuple #[.pointer none,.int .i64 2])) (w6.drewN q)) (fun q=>l9 (below_drewN dY.o q) (.inl rfl) fun c' m' h=>by obtain⟨e1,_⟩:=HF.o c' m' h;exact hid (e1▸h.id));subst hsl;go_wp2;go_ret2;exact HBAD.o 0
       subst hsl hid;have hHG:=QI.o;have qU:=qH (Lu w6 w.heap.size bi {A with bc:=bc,bm:=bm,bs:=bs,bh:=bh,G:=G,V:=V} gs.length gs m At Al Ac Ah Ag nt kt nl kl nc kc nh kh ng kg ts ls c.aa c.idle {blk:=Wz.o,hs:=QI.o,rows:=fun s=>Nat.le_trans (FM (HI.o.bd.had m rr HDH.o).2 s) (by omega),bu:=Y7.o,gs:=Tw.o,max:=HI.o.max.up dY.o,tk:=HI.o.tk.below dY.o,le:=HI.o.le.below dY.o,hnt:=by omega,hnl:=by omega,st:=HI.o.st,sl:=HI.o.sl,hib:=hil,hgb:=Ne.symm Su,Kc:=HI.o.max.lt,hB:=by show w.heap.size≤A.bl;omega});have hcr: ∀(args:Array Value)(W:World),(callFunc 61 args).run Tryz.prog W=.ok (.enter 61 args) W:=fun args W=>by kernel_rfl
       clear hHG;go_wp2_with fail;clear z0 z1 z2 z3 z4 z5 z6;with_reducible refine qU.o.mono ?_
       rintro r w7⟨hg7,hcase⟩;have iW:=qS (RowKit.Below w.heap.size w w7) (dY.o.grown hg7 dY.o.size (fun k h=>by injection h with h;have h':A.bl=k:=h;omega));rcases hcase with⟨rfl,hright,hsl7⟩|⟨rfl,hright⟩;rotate_left;·have HBAD:=qS (lK w N c.aa c.idle lc lh gs ts ls (.returned (.tuple #[.pointer none,.int .i64 2])) w7) (l9 iW.o (.inl rfl) fun c' m' h=>by obtain⟨_,e2⟩:=HF.o c' m' h;exact hright (e2▸h.right));go_wp2;go_ret2;exact HBAD.o
       have hk7: ∀k,k<w6.heap.size→k≠A.bl→w7.heap[k]?=w6.heap[k]?:=fun k hk hne=>hg7.block k hk (fun e=>by injection e with e;exact hne e);have hs7:=hg7.size;have Du:=qS (mq c.aa c.idle lc lh gs ts ls c m) (⟨UM.o,⟨rr,HDH.o⟩,rfl,rfl,JA.o,hright⟩);have HOM:=qS (Ux w w7 bi {A with bc:=bc,bm:=bm,bs:=bs,bh:=bh,G:=G,V:=V} c m gs ls) ({au:=TU.o.keep (hk7 _ TU.o.lt (by show bc≠A.bl;omega)) (hk7 _ TU.o.map.lt (by show bm≠A.bl;omega)),had:=QI.o.keep hs7 (fun k hk=>hk7 k (QI.o.lt k hk) (by have:=Ur k hk;omega)),bu:=hsl7,gone:=Tw.o.block (hk7 _ Tw.o.lt (Ne.symm Su)),ml:=by show bm≠A.bl;omega,mg:=by show bm≠A.bg;omega,lg:=Su,gm:=fun h=>by have:=hGG bm h;omega,gl:=fun h=>by have:=Ur A.bl h;omega,gg:=fun h=>by have:=Ur A.bg h;omega,ib:=by omega,hi:=⟨by omega,by show w.heap.size≤bc;omega,by show w.heap.size≤bm;omega,fun k hk=>by have:=hGG k hk;omega,by show w.heap.size≤A.bl;omega,by show w.heap.size≤A.bg;omega⟩,ni:=⟨by show bi≠bc;omega,by show bi≠bm;omega,fun h=>by have:=Ur bi h;omega,hil,hig⟩,sz:=by omega});have YX:=qH ((hk7 w.heap.size (by omega) (by omega)).trans HX6.o);have HI7:=qH ((hk7 bi (by omega) hil).trans Wz.o);have jm:=qS (Oc bi (.pointer (some ⟨bc,0,none⟩)) (.pointer (some ⟨bs,0,none⟩)) (.map (some A.bl)) (.map (some A.bg)) 84 ts ls w7 w7.drew A.vt A.vl none none) (Oc.up ⟨by omega,HI7.o,ak.refl _ _,(fun v hv=>by cases hv),(fun v hv=>by cases hv),(fun v u hv=>by cases hv)⟩ (below_drewN (Below.refl _ _) 1));have jo:=qS (∀W,Uy bi (.pointer (some ⟨bc,0,none⟩)) (.pointer (some ⟨bs,0,none⟩)) (.map (some A.bl)) (.map (some A.bg)) ts ls w7 W→lK w N c.aa c.idle lc lh gs ts ls (.returned (.tuple #[.pointer (some ⟨bi,0,none⟩),.int .i64 0])) W) (fun W⟨vt,vl,ho⟩=>by obtain⟨F,hF,hF2⟩:=Vi (A:={A with bc:=bc,bm:=bm,bs:=bs,bh:=bh,G:=G,V:=V}) rfl HOM.o Du.o HI.o.bd (by omega) (by omega) (by omega) ho;exact⟨iW.o.trans (ho.keep.below iW.o.size (fun k hk e=>by omega)),.inl ⟨c,m,bi,F,Du.o,rfl,hF,hF2⟩⟩);have bS:=qH (fun(W:World)(x2 x3:Value)(pt pl:Option Value)(ho:Oc bi (.pointer (some ⟨bc,0,none⟩)) (.pointer (some ⟨bs,0,none⟩)) (.map (some A.bl)) (.map (some A.bg)) 84 ts ls w7 W x2 x3 pt pl)=>(show W.cell? ⟨w.heap.size,4,none⟩=some (.slice At nt kt)∧W.cell? ⟨w.heap.size,5,none⟩=some (.slice Al nl kl)from by obtain⟨_,_,_,_,z4,z5,_⟩:=Dv.o W ((ho.keep.block w.heap.size (by omega) (by omega)).trans YX.o);exact⟨z4,z5⟩));have HCT:=qH (fun(W:World)(x2 x3:Value)(pt pl:Option Value)(ho:Oc bi (.pointer (some ⟨bc,0,none⟩)) (.pointer (some ⟨bs,0,none⟩)) (.map (some A.bl)) (.map (some A.bg)) 84 ts ls w7 W x2 x3 pt pl)=>(show Calls Tryz.prog 54 #[.slice At nt kt] W (gF W ts)from kH W At nt kt ts (by have hb:=iW.o.trans (ho.keep.below iW.o.size (fun k hk e=>by omega));exact az.more (HI.o.tk.below hb) hb.size) (by omega)));have Dz:=qH (fun(W:World)(x2 x3:Value)(pt pl:Option Value)(ho:Oc bi (.pointer (some ⟨bc,0,none⟩)) (.pointer (some ⟨bs,0,none⟩)) (.map (some A.bl)) (.map (some A.bg)) 84 ts ls w7 W x2 x3 pt pl)=>(show Calls Tryz.prog 54 #[.slice Al nl kl] W (gF W ls)from kH W Al nl kl ls (by have hb:=iW.o.trans (ho.keep.below iW.o.size (fun k hk e=>by omega));exact az.more (HI.o.le.below hb) hb.size) (by omega)));have hS:=bS.o _ _ _ _ _ jm.o;obtain⟨c2,c3,f2,f3⟩:=jm.o.cells;clear hg7 hk7 hsl7 hright qU Wz HX6 TU QI Y7 Tw HOM hs5 hs6 hcr hlt hll hlg;go_wp2;go_region_held3(fun W=>W.cell? ⟨w.heap.size,4,none⟩=some (.slice At nt kt)∧W.cell? ⟨w.heap.size,5,none⟩=some (.slice Al nl kl))(first|with_reducible assumption|with_reducible exact bS.o _ _ _ _ _ jm.o|with_reducible exact bS.o _ _ _ _ _ (jm.o.set2 _)|with_reducible exact bS.o _ _ _ _ _ (jm.o.set3 _)|with_reducible exact bS.o _ _ _ _ _ ((jm.o.set2 _).set3 _)|with_reducible exact bS.o _ _ _ _ _ ((jm.o.set3 _).set2 _))(first|(go_at_call 54;first|((with_reducible refine(HCT.o _ _ _ _ _ jm.o).mono ?_);rintro r wa⟨v,rfl,ot,fK⟩;obtain⟨A1,k1,rfl⟩:=ownsRow_form ot;have dW:=qH (Oc.PQ jm.o ot fK);clear jm ot fK hS c2 c3 f2 f3;have jm:=dW;clear dW;have hS:=bS.o _ _ _ _ _ jm.o;obtain⟨c2,c3,f2,f3⟩:=jm.o.cells)|((with_reducible refine(HCT.o _ _ _ _ _ (jm.o.set2 _)).mono ?_);rintro r wa⟨v,rfl,ot,fK⟩;obtain⟨A1,k1,rfl⟩:=ownsRow_form ot;have dW:=qH (Oc.PQ (jm.o.set2 _) ot fK);clear jm ot fK hS c2 c3 f2 f3;have jm:=dW;clear dW;have hS:=bS.o _ _ _ _ _ jm.o;obtain⟨c2,c3,f2,f3⟩:=jm.o.cells)|((with_reducible refine(HCT.o _ _ _ _ _ (jm.o.set3 _)).mono ?_);rintro r wa⟨v,rfl,ot,fK⟩;obtain⟨A1,k1,rfl⟩:=ownsRow_form ot;have dW:=qH (Oc.PQ (jm.o.set3 _) ot fK);clear jm ot fK hS c2 c3 f2 f3;have jm:=dW;clear dW;have hS:=bS.o _ _ _ _ _ jm.o;obtain⟨c2,c3,f2,f3⟩:=jm.o.cells)|((with_reducible refine(Dz.o _ _ _ _ _ jm.o).mono ?_);rintro r wa⟨v,rfl,ot,fK⟩;obtain⟨A1,k1,rfl⟩:=ownsRow_form ot;have dW:=qH (Oc.PR jm.o ot fK);clear jm ot fK hS c2 c3 f2 f3;have jm:=dW;clear dW;have hS:=bS.o _ _ _ _ _ jm.o;obtain⟨c2,c3,f2,f3⟩:=jm.o.cells)|((with_reducible refine(Dz.o _ _ _ _ _ (jm.o.set2 _)).mono ?_);rintro r wa⟨v,rfl,ot,fK⟩;obtain⟨A1,k1,rfl⟩:=ownsRow_form ot;have dW:=qH (Oc.PR (jm.o.set2 _) ot fK);clear jm ot fK hS c2 c3 f2 f3;have jm:=dW;clear dW;have hS:=bS.o _ _ _ _ _ jm.o;obtain⟨c2,c3,f2,f3⟩:=jm.o.cells)|((with_reducible refine(Dz.o _ _ _ _ _ (jm.o.set3 _)).mono ?_);rintro r wa⟨v,rfl,ot,fK⟩;obtain⟨A1,k1,rfl⟩:=ownsRow_form ot;have dW:=qH (Oc.PR (jm.o.set3 _) ot fK);clear jm ot fK hS c2 c3 f2 f3;have jm:=dW;clear dW;have hS:=bS.o _ _ _ _ _ jm.o;obtain⟨c2,c3,f2,f3⟩:=jm.o.cells)));all_goals go_wp2;go_ret2;first|exact jo.o _ (yD jm.o)|exact jo.o _ (yD ((jm.o.set2 _).set3 _))|exact jo.o _ (yD ((jm.o.set3 _).set2 _))|exact jo.o _ (yD (jm.o.set3 _))|exact jo.o _ (yD (jm.o.set2 _))
end Go.Proofs.YtbejfgmdkmddnaaGreatDoor
