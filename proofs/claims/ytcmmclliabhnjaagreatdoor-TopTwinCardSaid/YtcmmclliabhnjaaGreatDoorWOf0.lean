/-
  Layer 8: what Of asks, what it answers, and the memory that it makes.
-/
import Derived.Test.YtcmmclliabhnjaaGreatDoorWHdNum
import Derived.Test.YtcmmclliabhnjaaGreatDoorWEvMay
import Derived.Test.YtcmmclliabhnjaaGreatDoorWMapL
import Derived.Test.YtcmmclliabhnjaaGreatDoorWHdRgs
import Derived.Test.YtcmmclliabhnjaaGreatDoorWPtClk
import Derived.Test.YtcmmclliabhnjaaGreatDoorWItk
import Derived.WalkLawsBesides
import Derived.Test.YtcmmclliabhnjaaGreatDoorWOfRgt
import Derived.Test.YtcmmclliabhnjaaGreatDoorWClkDec2
import Derived.Test.YtcmmclliabhnjaaGreatDoorWGrPlain
set_option maxRecDepth 100000
set_option maxHeartbeats 16000000
namespace Go.Proofs.YtcmmclliabhnjaaGreatDoor
open Go.RowKit Go.Maps Go.Sort
def SrcRPost(w:World)(B:Nat)(l:List UInt8)(e:Ending)(w':World):Prop:=(match srcR l with|.ok s r=> ∃A n c,e=.returned (.tuple #[.string ⟨s.toArray⟩,.slice A n c,.int .i64 0])∧Byt w B A n c r|.torn=>e=.returned (.tuple #[.string ⟨#[]⟩,.slice none 0 0,.int .i64 3])|.form=>e=.returned (.tuple #[.string ⟨#[]⟩,.slice none 0 0,.int .i64 2]))∧ ∃q,w'=w.drewN q
theorem srcb_any(w:World)(B:Nat)(A:Option Addr)(n k:Nat)(l:List UInt8)(h:Byt w B A n k l)(hn:n≤1000000000):Calls Tryz.prog 165 #[.slice A n k] w (SrcRPost w B l):=by
 have HB:=qH h;have hlen:=h.len;have hcap:=h.cap;have hmax:=h.max;unfold maxLen at hmax;have HTN:=qH (show∀q,srcR l=.torn→SrcRPost w B l (.returned (.tuple #[.string ⟨#[]⟩,.slice none 0 0,.int .i64 3])) (w.drewN q)from fun q h1=>by unfold SrcRPost;rw[h1];exact⟨rfl,q,rfl⟩);have HFM:=qH (show∀q,srcR l=.form→SrcRPost w B l (.returned (.tuple #[.string ⟨#[]⟩,.slice none 0 0,.int .i64 2])) (w.drewN q)from fun q h1=>by unfold SrcRPost;rw[h1];exact⟨rfl,q,rfl⟩);have HOK:=qH (show∀q s r A n c,srcR l=.ok s r→Byt w B A n c r→SrcRPost w B l (.returned (.tuple #[.string ⟨s.toArray⟩,.slice A n c,.int .i64 0])) (w.drewN q)from fun q s r A n c h1 h2=>by unfold SrcRPost;rw[h1];exact⟨⟨_,_,_,rfl,h2⟩,q,rfl⟩);clear h;cases l with
  |nil=>simp only[List.length_nil]at hlen;subst hlen;have HF:=qH (HTN.out 0 rfl);go_enter Tryz.func165,Tryz.ntmps165;go_wp2;go_ret3;exact HF.out
  |cons c t=>
   simp only[List.length_cons]at hlen;obtain⟨b,off,rfl,hb,hc⟩:=HB.out.cell (by omega);have hc0:w.cell? ⟨b,off,none⟩=some (.int .u8 c.toNat):=hc 0 (by simp);have hR:srcR (c::t)=if t.length<c.toNat then .torn else if nameB (t.take c.toNat)then .ok (t.take c.toNat) (t.drop c.toNat)else .form:=rfl;have hx256:=c.toNat_lt;generalize c.toNat=x at*;have hn1:1≤n:=by omega
   by_cases h1:t.length<x
   ·rw[if_pos h1]at hR;have HF:=qH (HTN.out 0 hR);have t1:(n:Int)-1<x:=by omega
    clear hR hc hlen;go_enter Tryz.func165,Tryz.ntmps165;go_wp2;go_ret3;exact HF.out
   ·rw[if_neg h1]at hR;have t1: ¬(n:Int)-1<x:=by omega
    by_cases hk1:k=1
    ·obtain rfl:x=0:=by omega
     obtain rfl:n=1:=by omega
     subst hk1;have HF:=qH (show SrcRPost w B (c::t) (.returned (.tuple #[.string ⟨#[]⟩,.slice none 0 0,.int .i64 2])) w from HFM.out 0 (by rw[hR];rfl));have hst:=(Byt.nil w B (some ⟨b,off,none⟩) 0 (Nat.zero_le _)).str (P:=Tryz.prog) 22 5 9 Tryz.underlying22 Tryz.underlying5 Tryz.underlying9;have HNM:=qH (name_all w []);have hn0:nameB []=false:=by decide
     rw[hn0]at HNM;clear hR hc hlen;go_enter Tryz.func165,Tryz.ntmps165;go_wp2_with fail;with_reducible refine HNM.out.mono ?_
     rintro r w1⟨rfl,rfl⟩;go_wp2;go_ret3;exact HF.out
    ·have hcut:=HB.out.cut 1 x (by omega);have hd1:((c::t).drop 1).take x=t.take x:=rfl;rw[hd1]at hcut;have hst:=hcut.str (P:=Tryz.prog) 22 5 9 Tryz.underlying22 Tryz.underlying5 Tryz.underlying9;have HNM:=qH (name_all w (t.take x));have htl:=HB.out.tail (1+x) (by omega);have hd2:(c::t).drop (1+x)=t.drop x:=by rw[Nat.add_comm];rfl
     rw[hd2]at htl;have HT:=qH htl;have hxl:x≤t.length:=by omega
     clear hcut hd1 hd2 htl hc;cases hnm:nameB (t.take x)
     ·rw[hnm]at HNM hR;have HF:=qH (show SrcRPost w B (c::t) (.returned (.tuple #[.string ⟨#[]⟩,.slice none 0 0,.int .i64 2])) w from HFM.out 0 hR);clear hR hnm hlen;generalize t.take x=s at*;go_enter Tryz.func165,Tryz.ntmps165;go_wp2_with fail;with_reducible refine HNM.out.mono ?_
      rintro r w1⟨rfl,rfl⟩;go_wp2;go_ret3;exact HF.out
     ·rw[hnm]at HNM hR;simp only[if_true]at hR;have HR:=qH hR;clear hR hnm hlen;generalize t.take x=s at*;generalize t.drop x=r0 at*;go_enter Tryz.func165,Tryz.ntmps165;go_wp2_with fail;with_reducible refine HNM.out.mono ?_
      rintro r w1⟨rfl,rfl⟩;have e1:((1+x:Nat):Int)=1+(x:Int):=by omega
      rcases Classical.em (k=1+x)with hk|hk;all_goals
       first|rw[if_pos hk,hk]at HT|rw[if_neg hk]at HT
       go_wp2;go_quiet(fail);go_wp2;go_ret3;exact HOK.out _ _ _ _ _ _ HR.out HT.out
open Go.MapKept
theorem modify_push(es:Array MapEntry)(x:MapEntry)(f:MapEntry→MapEntry):(es.push x).modify es.size f=es.push (f x):=by
 apply Array.ext;·simp
 ·intro i h1 h2;rw[Array.getElem_modify];simp only[Array.size_modify,Array.size_push]at h1;by_cases hi:es.size=i;·subst hi;simp
  ·rw[if_neg hi,Array.getElem_push_lt (by omega),Array.getElem_push_lt (by omega)]
theorem find_born{es:Array MapEntry}(hn:(es.toList.map (·.born)).Nodup){j:Nat}(hj:j<es.size):es.findIdx? (fun e=>(e.born:Int)==((es[j]).born:Int))=some j:=by rw[Array.findIdx?_eq_some_iff_getElem];refine⟨hj,by simp,fun i hi=>?_⟩;have:=(List.pairwise_iff_getElem.1 hn) i j (by simp;omega) (by simpa using hj) hi;simp only[List.getElem_map,Array.getElem_toList]at this;simp;omega
theorem modify_two(es:Array MapEntry)(j:Nat)(f g:MapEntry→MapEntry):(es.modify j f).modify j g=es.modify j (g∘f):=by
 apply Array.ext;·simp
 ·intro i h1 h2;simp only[Array.getElem_modify];split<;>rfl
theorem MapS.entry{w:World}{b:Nat}{m:Row Value}(h:MapS w b m)(hn:m.length<maxLen)(k:List UInt8)(hk:k.length≤maxLen)(t e:TypeId)(ht:Tryz.prog.underlying t=some (.map 9 e))(z:Value)(hz:(zeroValue e).run Tryz.prog w=.ok z w)(v:Value): ∃x st W1 W2,(Instr.mapEntry t (.map (some b)) (.string ⟨k.toArray⟩)).run Tryz.prog w=.ok (.tuple #[x,.int .i64 st]) W1∧(Instr.entryStore t (.map (some b)) (.int .i64 st) v).run Tryz.prog W1=.ok () W2∧MapS W2 b (putB k v m)∧w.grownBy W2 (some b):=by
 obtain⟨W2,hr,r1,r2⟩:=h.put hn k hk t e ht v;obtain⟨es,clock,hb,F,hs,hD⟩:=h;have hlt:b<w.heap.size:=(Array.getElem?_eq_some_iff.1 hb).1;rcases keyS.find w (key_str k hk) es.toList F.keys with⟨h1,h2⟩|⟨j,e0,h1,h2,h3⟩
 ·have hru:(Instr.mapUpdate t (.map (some b)) (.string ⟨k.toArray⟩) v).run Tryz.prog w=.ok () {w with heap:=w.heap.setIfInBounds b (.map (es.push ⟨.string ⟨k.toArray⟩,v,clock⟩) (clock+1))}:=by simp[Instr.mapUpdate,run_underlying ht,MapKept.run_getObj_map hb,keyS.check w false (key_str k hk),h1,MapKept.run_setObj_map _ hb,Result.andThen]
  rw[hr]at hru;injection hru with _ hru;refine⟨z,clock,{w with heap:=w.heap.setIfInBounds b (.map (es.push ⟨.string ⟨k.toArray⟩,z,clock⟩) (clock+1))},W2,?_,?_,r1,r2⟩;·simp[Instr.mapEntry,run_underlying ht,MapKept.run_getObj_map hb,keyS.check w false (key_str k hk),h1,hz,MapKept.run_setObj_map _ hb,Result.andThen,goInt]
  ·have hb1:({w with heap:=w.heap.setIfInBounds b (.map (es.push ⟨.string ⟨k.toArray⟩,z,clock⟩) (clock+1))}:World).heap[b]?=some (.map (es.push ⟨.string ⟨k.toArray⟩,z,clock⟩) (clock+1)):=(heap_set hb).1;have hst:=stamped_push F.stamped (key:=.string ⟨k.toArray⟩) (val:=z) h2;have hf:=find_born hst.2.1 (j:=es.size) (by simp);simp only[Array.getElem_push_eq]at hf;simp only[Instr.entryStore,Sem.run_bind,MapKept.run_getObj_map hb1,Result.andThen_ok,asInt,asIntOf,Sem.run_pure,hf,MapKept.run_setObj_map _ hb1];rw[hru,modify_push];simp[Array.setIfInBounds_setIfInBounds]
 ·have hj:es[j]?=some e0:=by simpa using h2
  have hjl:j<es.size:=(Array.getElem?_eq_some_iff.1 hj).1;have hje:es[j]=e0:=(Array.getElem?_eq_some_iff.1 hj).2;have hks:=fun(W:World)=>keyS.stays W (key_str k hk);have hru:(Instr.mapUpdate t (.map (some b)) (.string ⟨k.toArray⟩) v).run Tryz.prog w=.ok () {w with heap:=w.heap.setIfInBounds b (.map (es.modify j fun e=>{e with key:=.string ⟨k.toArray⟩,val:=v}) clock)}:=by simp[Instr.mapUpdate,run_underlying ht,MapKept.run_getObj_map hb,keyS.check w false (key_str k hk),h1,hj,h3,hks,MapKept.run_setObj_map _ hb,Result.andThen]
  rw[hr]at hru;injection hru with _ hru;refine⟨e0.val,(es[j]).born,{w with heap:=w.heap.setIfInBounds b (.map (es.modify j fun e=>{e with key:=.string ⟨k.toArray⟩}) clock)},W2,?_,?_,r1,r2⟩;·simp[Instr.mapEntry,run_underlying ht,MapKept.run_getObj_map hb,keyS.check w false (key_str k hk),h1,hj,hje,h3,hks,MapKept.run_setObj_map _ hb,Result.andThen,goInt]
  ·have hb1:({w with heap:=w.heap.setIfInBounds b (.map (es.modify j fun e=>{e with key:=.string ⟨k.toArray⟩}) clock)}:World).heap[b]?=some (.map (es.modify j fun e=>{e with key:=.string ⟨k.toArray⟩}) clock):=(heap_set hb).1;have hbn:((es.modify j fun e=>{e with key:=.string ⟨k.toArray⟩}).toList.map (·.born)).Nodup:=by
    have h0:=F.stamped.2.1;have:(es.modify j fun e=>{e with key:=.string ⟨k.toArray⟩}).toList.map (·.born)=es.toList.map (·.born):=by
     apply List.ext_getElem;·simp
     ·intro i h1 h2;simp only[List.getElem_map,Array.getElem_toList,Array.getElem_modify];split<;>rfl
    rw[this];exact h0
   have hf:=find_born hbn (j:=j) (by simpa using hjl);simp only[Array.getElem_modify,if_true]at hf;simp only[Instr.entryStore,Sem.run_bind,MapKept.run_getObj_map hb1,Result.andThen_ok,asInt,asIntOf,Sem.run_pure,hf,MapKept.run_setObj_map _ hb1];rw[hru,modify_two];simp[Array.setIfInBounds_setIfInBounds,Function.comp_def]
theorem src_ok(w:World)(B:Nat)(A:Option Addr)(n k:Nat)(l:List UInt8)(h:Byt w B A n k l)(hn:n≤1000000000){s r:List UInt8}(hR:srcR l=.ok s r):Calls Tryz.prog 165 #[.slice A n k] w fun e w'=> ∃A' n' c',e=.returned (.tuple #[.string ⟨s.toArray⟩,.slice A' n' c',.int .i64 0])∧Byt w' B A' n' c' r∧Below w.heap.size w w':=(srcb_any w B A n k l h hn).mono fun e w' hp=>by unfold SrcRPost at hp;rw[hR]at hp;obtain⟨⟨A',n',c',he,hb⟩,q,rfl⟩:=hp;exact⟨A',n',c',he,hb.drewN q,below_drewN (Below.refl _ _) q⟩
theorem src_bad(w:World)(B:Nat)(A:Option Addr)(n k:Nat)(l:List UInt8)(h:Byt w B A n k l)(hn:n≤1000000000)(er:Int)(hR:(srcR l=.torn∧er=3)∨(srcR l=.form∧er=2)):Calls Tryz.prog 165 #[.slice A n k] w fun e w'=>e=.returned (.tuple #[.string ⟨#[]⟩,.slice none 0 0,.int .i64 er])∧Below w.heap.size w w':=(srcb_any w B A n k l h hn).mono fun e w' hp=>by unfold SrcRPost at hp;rcases hR with⟨hR,rfl⟩|⟨hR,rfl⟩<;>rw[hR]at hp<;>obtain⟨he,q,rfl⟩:=hp<;>exact⟨he,below_drewN (Below.refl _ _) q⟩
theorem rgs_ok(w:World)(B:Nat)(A:Option Addr)(n k:Nat)(l:List UInt8)(h:Byt w B A n k l)(hB:B≤w.heap.size)(hn:n≤1000000000){rs:Rg}{r:List UInt8}(hR:rangeR l=.ok rs r):Calls Tryz.prog 166 #[.slice A n k] w fun e w'=> ∃v A' n' c',e=.returned (.tuple #[v,.slice A' n' c',.int .i64 0])∧RowR w' w.heap.size v rs∧Byt w' B A' n' c' r∧Below w.heap.size w w':=(rgsb_any w B A n k l h hB hn).mono fun e w' hp=>by unfold RgsOut at hp;rw[hR]at hp;obtain⟨⟨v,A',n',c',he,ho,hb⟩,hbw⟩:=hp;exact⟨v,A',n',c',he,ho,hb,hbw⟩
theorem rgs_bad(w:World)(B:Nat)(A:Option Addr)(n k:Nat)(l:List UInt8)(h:Byt w B A n k l)(hB:B≤w.heap.size)(hn:n≤1000000000)(er:Int)(hR:(rangeR l=.torn∧er=3)∨(rangeR l=.form∧er=2)):Calls Tryz.prog 166 #[.slice A n k] w fun e w'=>e=.returned (.tuple #[.slice none 0 0,.slice none 0 0,.int .i64 er])∧Below w.heap.size w w':=(rgsb_any w B A n k l h hB hn).mono fun e w' hp=>by unfold RgsOut at hp;rcases hR with⟨hR,rfl⟩|⟨hR,rfl⟩<;>rw[hR]at hp<;>exact hp
theorem HadAt.entry{w W2:World}{G:Nat→Prop}{bs bh base:Nat}{m:Had}{V:List UInt8→Value}(h:HadAt w G bs bh m V){v:Value}{s:List UInt8}{rs:Rg}(ho:RowR w base v rs)(hbase: ∀b,v.ownBlock=some b→ ¬G b)(hs:bytesBefore (aheadH m) s=true)(hn:nameB s=true)(hr:RgOk rs)(hne:rs≠[])(hm:MapS W2 bh (putB s v (m.map fun p=>(p.1,V p.1))))(hg:w.grownBy W2 (some bh)):HadAt W2 (fun b=>G b∨v.ownBlock=some b) bs bh (m++[(s,rs)]) (fun x=>if x=s then v else V x):=by
 have hup:=ahead_up h.ok hs;have hns: ∀p∈m,p.1≠s:=fun p hp e=>by have:=hup p hp;rw[e,bb_irrefl]at this;cases this
 obtain⟨es,cl,hmap⟩:=h.map.isMap;have keepG: ∀b,b<w.heap.size→b≠bh→W2.heap[b]?=w.heap[b]?:=fun b hb hne=>hg.block b hb (fun e=>hne (by injection e));have hbs:bs≠bh:=ne_map h.blk hmap;have hvb: ∀b,v.ownBlock=some b→W2.heap[b]?=w.heap[b]?∧b<w.heap.size∧ ∃cs,w.heap[b]?=some (.cells cs 173 (0,0)):=fun b hb=>by
  obtain⟨cs,hc⟩: ∃cs,w.heap[b]?=some (.cells cs 173 (0,0)):=by
   rcases ho.2 with⟨e,_⟩|⟨g,cap,cur,e,_,hg',_⟩;·rw[e]at hb;cases hb
   ·rw[e]at hb;injection hb with hb;subst hb;exact⟨_,hg'⟩
  have hlt:=(World.ownsRow.lt ho b hb).2;exact⟨keepG b hlt (ne_map hc hmap),hlt,cs,hc⟩
 have hob: ∀p∈m,∀b,(V p.1).ownBlock=some b→b≠bh:=fun p hp b hb=>by
  obtain⟨cs,hc⟩: ∃cs,w.heap[b]?=some (.cells cs 173 (0,0)):=by
   rcases(h.own p hp).2 with⟨e,_⟩|⟨g,cap,cur,e,_,hg',_⟩;·rw[e]at hb;cases hb
   ·rw[e]at hb;injection hb with hb;subst hb;exact⟨_,hg'⟩
  exact ne_map hc hmap
 have hsome: ∀p∈m,∃g,(V p.1).ownBlock=some g:=fun p hp=>by
  rcases(h.own p hp).2 with⟨e,hl⟩|⟨g,cap,cur,e,_⟩;·exact absurd (List.length_eq_zero_iff.1 hl) (h.ok.each p hp).2.2
  ·exact⟨g,by rw[e];rfl⟩
 refine⟨(keepG bs (h.lt bs h.gs) hbs).trans h.blk,?_,?_,?_,.inl h.gs,.inl h.gm,?_,?_,?_,h.ok.snoc hs hn hr hne⟩
 ·rw[putB_last s v (m.map fun p=>(p.1,V p.1)) (fun p hp=>by obtain⟨q,hq,rfl⟩:=List.mem_map.1 hp;exact hup q hq)]at hm;rw[List.map_append,List.map_singleton];have e1:m.map (fun p=>(p.1,if p.1=s then v else V p.1))=m.map fun p=>(p.1,V p.1):=List.map_congr_left fun p hp=>by rw[if_neg (hns p hp)]
  rw[e1];simpa using hm
 ·intro p hp;rcases List.mem_append.1 hp with hp|hp;·simp only[if_neg (hns p hp)];exact(h.own p hp).keep fun b hb=>keepG b (h.lt b (h.foot p hp b hb)) (hob p hp b hb)
  ·simp only[List.mem_singleton]at hp;subst hp;simp only[if_true];have ho0:OwnR w v rs:=⟨ho.1,by
    rcases ho.2 with h'|⟨g,cap,cur,e,_,hg',hr'⟩;·exact .inl h'
    ·exact .inr ⟨g,cap,cur,e,Nat.zero_le _,hg',hr'⟩⟩;exact ho0.keep fun b hb=>(hvb b hb).1
 ·intro p hp q hq hpq;rcases List.mem_append.1 hp with hp|hp<;>rcases List.mem_append.1 hq with hq|hq;·simp only[if_neg (hns p hp),if_neg (hns q hq)];exact fun e1=>h.apart p hp q hq hpq e1
  ·simp only[List.mem_singleton]at hq;subst hq;simp only[if_neg (hns p hp),if_true];intro e1;obtain⟨g,hg'⟩:=hsome p hp;exact hbase g (e1▸hg') (h.foot p hp g hg')
  ·simp only[List.mem_singleton]at hp;subst hp;simp only[if_neg (hns q hq),if_true];intro e1;obtain⟨g,hg'⟩:=hsome q hq;exact hbase g (e1.trans hg') (h.foot q hq g hg')
  ·simp only[List.mem_singleton]at hp hq;subst hp hq;exact absurd rfl hpq
 ·intro p hp b hb;rcases List.mem_append.1 hp with hp|hp;·simp only[if_neg (hns p hp)]at hb;exact .inl (h.foot p hp b hb)
  ·simp only[List.mem_singleton]at hp;subst hp;simp only[if_true]at hb;exact .inr hb
 ·intro b hb;rcases hb with hb|hb;·exact Nat.lt_of_lt_of_le (h.lt b hb) hg.size
  ·exact Nat.lt_of_lt_of_le (hvb b hb).2.1 hg.size
 ·intro b hb;by_cases e1:b=bs;·exact .inl e1
  by_cases e2:b=bh;·exact .inr (.inl e2)
  right;right;rcases hb with hb|hb
  ·rcases h.typ b hb with h'|h'|⟨cs,hc⟩;·exact absurd h' e1
   ·exact absurd h' e2
   ·exact⟨cs,(keepG b (h.lt b hb) e2).trans hc⟩
  ·obtain⟨h1,_,cs,hc⟩:=hvb b hb;exact⟨cs,h1.trans hc⟩
theorem bl_bbH: ∀a b:List UInt8,Op.bytesLess a b=bytesBefore a b:=fun a=>by induction a with|nil=>intro b;cases b<;>simp[Op.bytesLess,bytesBefore]|cons x a ih=>intro b;cases b with|nil=>simp[Op.bytesLess,bytesBefore]|cons y b=>simp only[Op.bytesLess,bytesBefore,ih b]
def HdOut(w:World)(R:DecR Had)(e:Ending)(w':World):Prop:=(match R with|.ok m _=> ∃bs bh G V,e=.returned (.tuple #[.pointer (some ⟨bs,0,none⟩),.int .i64 0])∧HadAt w' G bs bh m V∧ ∀b,G b→w.heap.size≤b|.torn=>e=.returned (.tuple #[.pointer none,.int .i64 3])|.form=>e=.returned (.tuple #[.pointer none,.int .i64 2]))∧Below w.heap.size w w'
def endH:DecR Had→DecR Had|.ok m r=>if r=[]then .ok m []else .form|.torn=>.torn|.form=>.form
def HdRel(w:World)(bs bh N M:Nat)(R:DecR Had)(v0 v7 v21:Value)(wr:World):Prop:= ∃(k:Nat)(A:Option Addr)(n c:Nat)(cur:List UInt8)(m:Had)(G:Nat→Prop)(V:List UInt8→Value),v21=.int .i64 (k:Int)∧k≤N∧v0=.slice A n c∧Byt wr w.heap.size A n c cur∧v7=.string ⟨(aheadH m).toArray⟩∧m.length=k∧HadAt wr G bs bh m V∧(∀b,G b→w.heap.size≤b)∧m.length+cur.length≤M∧endH (srcsA (N-k) m cur)=R∧Below w.heap.size w wr
theorem hd_fail{w w':World}{R:DecR Had}{er:Int}(h:(R=.torn∧er=3)∨(R=.form∧er=2))(hb:Below w.heap.size w w'):HdOut w R (.returned (.tuple #[.pointer none,.int .i64 er])) w':=by rcases h with⟨rfl,rfl⟩|⟨rfl,rfl⟩<;>exact⟨rfl,hb⟩
theorem hdec_any(w:World)(A:Option Addr)(n k:Nat)(l:List UInt8)(h:Byt w w.heap.size A n k l)(hn:n≤1000000000):Calls Tryz.prog 102 #[.slice A n k] w (HdOut w (decH l)):=by
 have HB:=qH h;have hlen:=h.len;clear h;rcases bad_cases (numR l)with⟨N,r1,hR⟩|⟨er,hR⟩
 ·have HRR:=qH (show decH l=endH (srcsA N [] r1)from by unfold decH;rw[hR];show(match srcsA N [] r1 with|.torn=>_|.form=>_|.ok m r=>_)=_;cases srcsA N [] r1<;>rfl);have hN:=(numR_ok hR).1;have hrl:=numR_len hR;have HNR:=qH hR;clear hR;generalize decH l=R at*;go_enter Tryz.func102,Tryz.ntmps102;go_wp2_with fail;with_reducible refine(numb_ok w w.heap.size A n k l HB.out hn HNR.out).mono ?_
  rintro r w1⟨A1,n1,c1,rfl,hb1,hB1⟩;have HY1:=qH hb1;have HB1:=qH hB1;clear hb1 hB1;go_wp2_with fail;with_reducible refine(hadnew_any w1).mono ?_
  rintro r w2⟨bs,bh,rfl,hh2,hbs,hbh,hB2⟩;have HY2:=qH (HY1.out.below (hB2.mono HB1.out.size));have HB2:=qH (HB1.out.trans (hB2.mono HB1.out.size));have hs1:=HB1.out.size;have HST:=qH (show HdRel w bs bh N l.length R (.slice A1 n1 c1) (.string ⟨#[]⟩) (.int .i64 0) w2 from⟨0,A1,n1,c1,r1,[],_,_,rfl,Nat.zero_le _,rfl,HY2.out,rfl,rfl,hh2,(fun b hb=>by rcases hb with rfl|rfl<;>omega),by simp;omega,HRR.out.symm,HB2.out⟩);clear hh2 hbs hbh hB2 HY1 HY2 HB1 HRR;go_wp2;go_loopw[0,7,21](fun v0 v7 v21 wr=>HdRel w bs bh N l.length R v0 v7 v21 wr)(fun _ _ v21 _=>N-(intOf v21).toNat);case atStart=>exact HST.out
  case round=>
   obtain⟨j,A2,n2,c2,cur,m,G,V,rfl,hj,rfl,hb2,rfl,hl2,hh2,hG2,hm2,hR2,hB3⟩:=hrel;have HBY:=qH hb2;have HH:=qH hh2;have HG:=qH hG2;have HB3:=qH hB3;have HL2:=qH hl2;have hn2:=hb2.len;have hsz:=hB3.size;have hbhm:m.length<maxLen:=by unfold maxLen;omega
   clear hb2 hh2 hG2 hB3 hl2 HST;by_cases hjN:j<N
   ·have t1:(j:Int)<N:=by omega
    obtain⟨f,hf⟩: ∃f,N-j=f+1:=⟨N-j-1,by omega⟩;have HFF:=qH (show N-(j+1)=f from by omega);rw[hf]at hR2;simp only[srcsA]at hR2;rcases bad_cases (srcR cur)with⟨s,l1,hg⟩|⟨er,hg⟩
    ·rw[hg]at hR2;simp only at hR2;obtain⟨hnm,k1,hk0,hk1,hl1d⟩:=srcR_ok hg;have hl1:l1.length<cur.length:=by rw[hl1d,List.length_drop];omega
     have hs24:s.length≤24:=by unfold nameB at hnm;simp at hnm;omega
     have HR2:=qH hR2;have HGG:=qH hg;have HNM:=qH hnm;clear hR2 hf hg hl1d hnm hk0 hk1;go_wp2_with fail;with_reducible refine(src_ok wr w.heap.size A2 n2 c2 cur HBY.out (by omega) HGG.out).mono ?_
     rintro r w3⟨A3,n3,c3,rfl,hb3,hB4⟩;have HBY3:=qH hb3;have hn3:=hb3.len;have HH3:=qH (HH.out.up hB4);have HB4:=qH (HB3.out.trans (hB4.mono hsz));clear hb3 hB4 HH HBY HB3;cases hbb:bytesBefore (aheadH m) s
     ·rw[hbb]at HR2;have HF:=qH (show HdOut w R (.returned (.tuple #[.pointer none,.int .i64 2])) w3 from hd_fail (.inr ⟨HR2.out.symm,rfl⟩) HB4.out);have hcase:(Op.bytesLess s (aheadH m)=false∧(s==aheadH m)=true)∨(Op.bytesLess s (aheadH m)=true∧(s==aheadH m)=false):=by
       rw[bl_bbH];by_cases he:s=aheadH m;·left;rw[he];exact⟨bb_irrefl _,by simp⟩
       ·right;rcases bb_total he with h'|h';·exact⟨h',by simpa using he⟩
        ·rw[h']at hbb;cases hbb
      clear hbb;rcases hcase with⟨t2,t3⟩|⟨t2,t3⟩;all_goals go_wp2;go_ret2;exact HF.out
     ·rw[hbb]at HR2;simp only[if_true]at HR2;have t2:Op.bytesLess s (aheadH m)=false:=by rw[bl_bbH];cases h':bytesBefore s (aheadH m)with|false=>rfl|true=>have:=bb_trans hbb h';rw[bb_irrefl]at this;cases this
      have t3:(s==aheadH m)=false:=by
       have:s≠aheadH m:=fun e=>by rw[e,bb_irrefl]at hbb;cases hbb
       simpa using this
      have HBB:=qH hbb;clear hbb;rcases bad_cases (rangeR l1)with⟨rs,l2,hr⟩|⟨er,hr⟩
      ·rw[hr]at HR2;simp only at HR2;obtain⟨hro,hrne,hrl2,_⟩:=rangeR_ok hr;have HRO:=qH hro;have HRN:=qH hrne;have HRR:=qH hr;clear hr hro hrne;go_wp2_with fail;with_reducible refine(rgs_ok w3 w.heap.size A3 n3 c3 l1 HBY3.out HB4.out.size (by omega) HRR.out).mono ?_
       rintro r w5⟨v5,A5,n5,c5,rfl,ho5,hb5,hB5⟩;obtain⟨A6,k6,hv6⟩:=ownsRow_form ho5;subst hv6;have HBY5:=qH hb5;have HO5:=qH ho5;have hn5:=hb5.len;have HH5:=qH (HH3.out.up hB5);have HVG:=qH (show∀b,(Value.slice A6 rs.length k6).ownBlock=some b→ ¬G b from fun b hb hg=>by have:=(World.ownsRow.lt ho5 b hb).1;have:=HH3.out.lt b hg;omega);have HB5:=qH (HB4.out.trans (hB5.mono HB4.out.size));have HV5:=qH (show∀b,(Value.slice A6 rs.length k6).ownBlock=some b→w.heap.size≤b from fun b hb=>by have:=(World.ownsRow.lt ho5 b hb).1;have:=HB4.out.size;omega);obtain⟨x7,st7,W1,W2,hme,hes,hm7,hg7⟩:=HH5.out.map.entry (by rw[List.length_map];exact hbhm) s (by unfold maxLen;omega) 163 166 Tryz.underlying163 _ (zeroRgs w5) (.slice A6 rs.length k6);have HH7:=qH (HH5.out.entry HO5.out HVG.out HBB.out HNM.out HRO.out HRN.out hm7 hg7);have hlt5:=HH5.out.lt bh HH5.out.gm;have HB7:=qH (show Below w.heap.size w W2 from Below.grown HB5.out hg7 HB5.out.size (fun k' hk'=>by injection hk' with hk';have:=HG.out bh HH5.out.gm;omega));have HBY7:=qH (show Byt W2 w.heap.size A5 n5 c5 l2 from HBY5.out.keep fun p hp=>World.cell?_of_block (w:=w5) (hg7.block p.block (by have:=HB5.out.size;omega) (fun e=>by injection e with e;have:=HG.out bh HH5.out.gm;omega)));have hc0:=HH5.out.cell;have HR7:=qH (show HdRel w bs bh N l.length R (.slice A5 n5 c5) (.string ⟨s.toArray⟩) (.int .i64 ((j+1:Nat):Int)) W2 from⟨j+1,A5,n5,c5,l2,m++[(s,rs)],_,_,rfl,hjN,rfl,HBY7.out,by rw[aheadH_snoc],by rw[List.length_append,HL2.out];rfl,HH7.out,(fun b hb=>hb.elim (HG.out b) (HV5.out b)),by simp;omega,by rw[HFF.out];exact HR2.out,HB7.out⟩);clear ho5 hb5 hB5 hm7 hg7 hn5;go_wp2;go_roundw;case rel=>exact HR7.out
       case measure=>simp[intOf];omega
      ·have HR3:=qH (show R=(if er=3 then .torn else .form)from by rw[←HR2.out];rcases hr with⟨hr,rfl⟩|⟨hr,rfl⟩<;>rw[hr]<;>rfl);have HF:=qH (show∀W,Below w3.heap.size w3 W→HdOut w R (.returned (.tuple #[.pointer none,.int .i64 er])) W from fun W hW=>hd_fail (by
        rcases hr with⟨_,rfl⟩|⟨_,rfl⟩;·exact .inl ⟨HR3.out,rfl⟩
        ·exact .inr ⟨HR3.out,rfl⟩) (HB4.out.trans (hW.mono HB4.out.size)));have t4:(er !=0)=true:=er_ne hr;have HRR:=qH hr;clear hr HR2;go_wp2_with fail;with_reducible refine(rgs_bad w3 w.heap.size A3 n3 c3 l1 HBY3.out HB4.out.size (by omega) er HRR.out).mono ?_
       rintro r w5⟨rfl,hb5⟩;have HFF:=qH (HF.out w5 hb5);clear hb5;go_wp2;go_ret2;exact HFF.out
    ·have HR3:=qH (show R=(if er=3 then .torn else .form)from by rw[←hR2];rcases hg with⟨hg,rfl⟩|⟨hg,rfl⟩<;>rw[hg]<;>rfl);have HF:=qH (show∀W,Below wr.heap.size wr W→HdOut w R (.returned (.tuple #[.pointer none,.int .i64 er])) W from fun W hW=>hd_fail (by
      rcases hg with⟨_,rfl⟩|⟨_,rfl⟩;·exact .inl ⟨HR3.out,rfl⟩
      ·exact .inr ⟨HR3.out,rfl⟩) (HB3.out.trans (hW.mono hsz)));have t4:(er !=0)=true:=er_ne hg;have HGG:=qH hg;clear hg hR2 hf;go_wp2_with fail;with_reducible refine(src_bad wr w.heap.size A2 n2 c2 cur HBY.out (by omega) er HGG.out).mono ?_
     rintro r w4⟨rfl,hb4⟩;have HFF:=qH (HF.out w4 hb4);clear hb4;go_wp2;go_ret2;exact HFF.out
   ·have hjE:j=N:=by omega
    rw[hjE,Nat.sub_self]at hR2;simp only[srcsA,endH]at hR2;have t1: ¬(j:Int)<N:=by omega
    by_cases hc0:cur=[]
    ·rw[if_pos hc0]at hR2;have t2: ¬(0:Int)<n2:=by rw[←hn2,hc0];simp
     have HF:=qH (show HdOut w R (.returned (.tuple #[.pointer (some ⟨bs,0,none⟩),.int .i64 0])) wr from by rw[←hR2];exact⟨⟨bs,bh,G,V,rfl,HH.out,HG.out⟩,HB3.out⟩);clear hR2 hjE hc0 hn2;go_wp2;go_ret2;exact HF.out
    ·rw[if_neg hc0]at hR2;have t2:(0:Int)<n2:=by have:=List.length_pos_iff.2 hc0;omega
     have HF:=qH (show HdOut w R (.returned (.tuple #[.pointer none,.int .i64 2])) wr from hd_fail (.inr ⟨hR2.symm,rfl⟩) HB3.out);clear hR2 hjE hc0 hn2;go_wp2;go_ret2;exact HF.out
 ·have HRB:=qH hR;go_enter Tryz.func102,Tryz.ntmps102;go_wp2_with fail;with_reducible refine(numb_bad w w.heap.size A n k l HB.out hn er HRB.out).mono ?_
  rintro r w1⟨rfl,hb1⟩;have HF:=qH (show HdOut w (decH l) (.returned (.tuple #[.pointer none,.int .i64 er])) w1 from hd_fail (by
   unfold decH;rcases hR with⟨hR,rfl⟩|⟨hR,rfl⟩<;>rw[hR];·exact .inl ⟨rfl,rfl⟩
   ·exact .inr ⟨rfl,rfl⟩) hb1);have t0:(er !=0)=true:=er_ne hR;clear hR hb1;go_wp2;go_ret2;exact HF.out
open Go.Shelf
structure PartsOk(a b:Int)(lc lh:List UInt8)(gs:List (List UInt8))(ts ls:List Ev)(c:Clk)(m:Had):Prop where
 dc:decC lc=some c
 dh: ∃r,decH lh=.ok m r
 sl:c.slack=a
 id:c.idle=b
 gone:GoneOk gs
 right:RightOk gs m ts ls
theorem right_next{gone:List (List UInt8)}{had:Had}{taken late:List Ev}(h:RightOk gone had taken late)(i:Nat)(hi:i+1<taken.length):LtE (taken[i]'(by omega)) taken[i+1]:=by
 have h1:=h.taken (i+1) hi;unfold tkB at h1;simp only[Bool.and_eq_true,Bool.or_eq_true,decide_eq_true_eq]at h1;have h2:=h1.1.2;rcases h2 with h2|h2;·omega
 ·have e1:taken.getD (i+1-1) taken[i+1]=taken[i]:=by rw[List.getD_eq_getElem?_getD,Nat.add_sub_cancel,List.getElem?_eq_getElem (by omega)];rfl
  rw[e1]at h2;exact cmpE_pos.1 (cmpE_one.2 (by simpa using h2))
theorem right_up{gone:List (List UInt8)}{had:Had}{taken late:List Ev}(h:RightOk gone had taken late)(i:Nat): ∀(d:Nat)(hd:i+d+1<taken.length),LtE (taken[i]'(by omega)) taken[i+d+1]|0,hd=>right_next h i hd|d+1,hd=>(right_up h i d (by omega)).trans (right_next h (i+d+1) (by omega))
theorem right_sorted{gone:List (List UInt8)}{had:Had}{taken late:List Ev}(h:RightOk gone had taken late):SortedE taken:=by refine List.pairwise_iff_getElem.2 fun i j hi hj hij hlt=>?_;obtain⟨d,rfl⟩: ∃d,j=i+d+1:=⟨j-i-1,by omega⟩;exact LtE.irrefl _ ((right_up h i d hj).trans hlt)
theorem right_may{gone:List (List UInt8)}{had:Had}{taken late:List Ev}(h:RightOk gone had taken late): ∀e,e∈taken∨e∈late→mayB e=true:=fun e he=>by
 rcases he with he|he;·obtain⟨i,hi,rfl⟩:=List.getElem_of_mem he;have h1:=h.taken i hi;unfold tkB at h1;simp only[Bool.and_eq_true]at h1;exact h1.1.1.1.1.1
 ·obtain⟨i,hi,rfl⟩:=List.getElem_of_mem he;have h1:=h.late i hi;unfold ltB at h1;simp only[Bool.and_eq_true]at h1;exact h1.1.1
theorem RightOk.congr{gone gone':List (List UInt8)}{had:Had}{taken late:List Ev}(h:RightOk gone had taken late)(hg: ∀p,p∈gone↔p∈gone'):RightOk gone' had taken late:=by
 have e: ∀p,decide (p∈gone')=decide (p∈gone):=fun p=>decide_eq_decide.2 (hg p).symm;refine⟨h.len,fun k hk=>?_,fun k hk=>?_⟩;·have:=h.taken k hk;unfold tkB staysB at this⊢;rw[e];exact this
 ·have:=h.late k hk;unfold ltB staysB at this⊢;rw[e];exact this
structure PtBd(N:Nat)(lc lh:List UInt8):Prop where
 src: ∀c,decC lc=some c→c.src.length≤N
 had: ∀m r,decH lh=.ok m r→m.length≤N∧ ∀p∈m,p.2.length≤N
theorem had_rows{m:Had}{N:Nat}(h: ∀p∈m,p.2.length≤N)(s:List UInt8):(hadRow m s).length≤N:=by unfold hadRow;cases hg:getB m s with|none=>simp|some v=>exact h _ (getB_mem hg)
theorem parts_ok{a b:Int}{lc lh:List UInt8}{gs:List (List UInt8)}{ts ls:List Ev}{c:Clk}{m:Had}{N:Nat}(h:PartsOk a b lc lh gs ts ls c m)(hb:PtBd N lc lh)(ht:ts.length≤N)(hl:ls.length≤N):ItkOk N ⟨c,m,ts,ls,gs⟩:=by obtain⟨r,hr⟩:=h.dh;have h2:=hb.had m r hr;exact⟨right_sorted h.right,right_may h.right,hb.src c h.dc,h2.1,had_rows h2.2,ht,hl⟩
def OfPost(w:World)(N:Nat)(a b:Int)(lc lh:List UInt8)(gs:List (List UInt8))(ts ls:List Ev)(e:Ending)(w':World):Prop:=RowKit.Below w.heap.size w w'∧((∃c m bi F,PartsOk a b lc lh gs ts ls c m∧e=.returned (.tuple #[.pointer (some ⟨bi,0,none⟩),.int .i64 0])∧ItkAt w' F bi N ⟨c,m,ts,ls,gs⟩∧ ∀b,F b→w.heap.size≤b)∨ ∃er:Int,e=.returned (.tuple #[.pointer none,.int .i64 er])∧(er=2∨(er=3∧decH lh=.torn))∧ ∀c m,¬PartsOk a b lc lh gs ts ls c m)
theorem of_fail{w w':World}{N:Nat}{a b:Int}{lc lh:List UInt8}{gs:List (List UInt8)}{ts ls:List Ev}(hb:RowKit.Below w.heap.size w w'){er:Int}(he:er=2∨(er=3∧decH lh=.torn))(hn: ∀c m,¬PartsOk a b lc lh gs ts ls c m):OfPost w N a b lc lh gs ts ls (.returned (.tuple #[.pointer none,.int .i64 er])) w':=⟨hb,.inr ⟨er,rfl,he,hn⟩⟩
structure Oc(bi:Nat)(c0 s0 l0 g0:Value)(T:TypeId)(ts ls:List Ev)(w7 W:World)(x2 x3:Value)(pt pl:Option Value):Prop where
 lt:bi<w7.heap.size
 blk:W.heap[bi]?=some (.cells #[c0,s0,x2,x3,l0,g0] T (0,0))
 keep:Keep (fun b=>b=bi) w7 W
 tk: ∀v,pt=some v→OwnE W w7.heap.size v ts
 le: ∀v,pl=some v→OwnE W w7.heap.size v ls
 ap: ∀v u,pt=some v→pl=some u→ ∀b,v.ownBlock=some b→u.ownBlock≠some b
section
variable{bi:Nat}{c0 s0 l0 g0:Value}{T:TypeId}{ts ls:List Ev}{w7 W V:World}{x2 x3 v:Value}{pt pl:Option Value}
theorem Oc.up(h:Oc bi c0 s0 l0 g0 T ts ls w7 W x2 x3 pt pl)(hb:RowKit.Below W.heap.size W V):Oc bi c0 s0 l0 g0 T ts ls w7 V x2 x3 pt pl:=⟨h.lt,(hb.block _ (heap_lt h.blk)).trans h.blk,h.keep.trans (Keep.of_below hb) (fun _ _ h=>h),fun v hv=>ownsRow_below (h.tk v hv) hb (Nat.le_refl _),fun v hv=>ownsRow_below (h.le v hv) hb (Nat.le_refl _),h.ap⟩
theorem Oc.callT(h:Oc bi c0 s0 l0 g0 T ts ls w7 W x2 x3 none pl)(ho:OwnE V W.heap.size v ts)(hb:RowKit.Below W.heap.size W V):Oc bi c0 s0 l0 g0 T ts ls w7 V x2 x3 (some v) pl:=by
 have h':=h.up hb;refine⟨h'.lt,h'.blk,h'.keep,fun u hu=>?_,h'.le,fun u z hu hz b hb1 hb2=>?_⟩;·injection hu with hu;subst hu;exact OwnE.base_le ho h.keep.size
 ·injection hu with hu;subst hu;have h1:=(World.ownsRow.lt ho b hb1).1;have h2:=(World.ownsRow.lt (h.le z hz) b hb2).2;omega
theorem Oc.callL(h:Oc bi c0 s0 l0 g0 T ts ls w7 W x2 x3 pt none)(ho:OwnE V W.heap.size v ls)(hb:RowKit.Below W.heap.size W V):Oc bi c0 s0 l0 g0 T ts ls w7 V x2 x3 pt (some v):=by
 have h':=h.up hb;refine⟨h'.lt,h'.blk,h'.keep,h'.tk,fun u hu=>?_,fun u z hu hz b hb1 hb2=>?_⟩;·injection hu with hu;subst hu;exact OwnE.base_le ho h.keep.size
 ·injection hz with hz;subst hz;have h1:=(World.ownsRow.lt ho b hb2).1;have h2:=(World.ownsRow.lt (h.tk u hu) b hb1).2;omega
theorem Oc.set(h:Oc bi c0 s0 l0 g0 T ts ls w7 W x2 x3 pt pl)(o:Nat)(u:Value)(y2 y3:Value)(he:(#[c0,s0,x2,x3,l0,g0]:Array Value).setIfInBounds o u= #[c0,s0,y2,y3,l0,g0]):Oc bi c0 s0 l0 g0 T ts ls w7 (W.setCell ⟨bi,o,none⟩ u) y2 y3 pt pl:=by have hk: ∀b,b≠bi→(W.setCell ⟨bi,o,none⟩ u).heap[b]?=W.heap[b]?:=fun b hb=>Below.heap_setCell _ ⟨bi,o,none⟩ _ _ hb;have hrow: ∀{l:List Ev}{z:Value},OwnE W w7.heap.size z l→OwnE (W.setCell ⟨bi,o,none⟩ u) w7.heap.size z l:=fun ho=>ho.keep fun b hb=>hk b (by have:=(World.ownsRow.lt ho b hb).1;have:=h.lt;omega);refine⟨h.lt,by rw[heap_set_row h.blk,he],h.keep.setCell (p:=⟨bi,o,none⟩) (fun _=>rfl) u,fun v hv=>hrow (h.tk v hv),fun v hv=>hrow (h.le v hv),h.ap⟩
theorem Oc.cells(h:Oc bi c0 s0 l0 g0 T ts ls w7 W x2 x3 pt pl):W.cell? ⟨bi,2,none⟩=some x2∧W.cell? ⟨bi,3,none⟩=some x3∧W.frozen? ⟨bi,2,none⟩=false∧W.frozen? ⟨bi,3,none⟩=false:=⟨(cell_of_row W bi 2 _ _ (0,0) h.blk).trans rfl,(cell_of_row W bi 3 _ _ (0,0) h.blk).trans rfl,frozen_of_row W bi 2 _ _ h.blk,frozen_of_row W bi 3 _ _ h.blk⟩
theorem Oc.set2(h:Oc bi c0 s0 l0 g0 T ts ls w7 W x2 x3 pt pl)(u:Value):Oc bi c0 s0 l0 g0 T ts ls w7 (W.setCell ⟨bi,2,none⟩ u) u x3 pt pl:=h.set 2 u u x3 (by simp)
theorem Oc.set3(h:Oc bi c0 s0 l0 g0 T ts ls w7 W x2 x3 pt pl)(u:Value):Oc bi c0 s0 l0 g0 T ts ls w7 (W.setCell ⟨bi,3,none⟩ u) x2 u pt pl:=h.set 3 u x2 u (by simp)
end
structure OfMem(w w7:World)(bi:Nat)(A:ItkA)(c:Clk)(m:Had)(gs:List (List UInt8))(ls:List Ev):Prop where
 clk:ClockAt w7 A.bc A.bm c
 had:HadAt w7 A.G A.bs A.bh m A.V
 lates:SetI w7 A.bl ls.length (ls.map idOf)
 gone:SetB w7 A.bg gs.length gs
 ml:A.bm≠A.bl
 mg:A.bm≠A.bg
 lg:A.bl≠A.bg
 gm: ¬A.G A.bm
 gl: ¬A.G A.bl
 gg: ¬A.G A.bg
 ib:bi<w7.heap.size
 hi:w.heap.size≤bi∧w.heap.size≤A.bc∧w.heap.size≤A.bm∧(∀b,A.G b→w.heap.size≤b)∧w.heap.size≤A.bl∧w.heap.size≤A.bg
 ni:bi≠A.bc∧bi≠A.bm∧ ¬A.G bi∧bi≠A.bl∧bi≠A.bg
 sz:w.heap.size≤w7.heap.size
theorem of_mem{w w7 W:World}{bi N:Nat}{A:ItkA}{a b:Int}{lc lh:List UInt8}{c:Clk}{m:Had}{gs:List (List UInt8)}{ts ls:List Ev}{vt vl:Value}{T:TypeId}(hT:T=119)(h:OfMem w w7 bi A c m gs ls)(hp:PartsOk a b lc lh gs ts ls c m)(hbd:PtBd N lc lh)(ht:ts.length≤N)(hl:ls.length≤N)(hg:gs.length≤N)(ho:Oc bi (.pointer (some ⟨A.bc,0,none⟩)) (.pointer (some ⟨A.bs,0,none⟩)) (.map (some A.bl)) (.map (some A.bg)) T ts ls w7 W vt vl (some vt) (some vl)): ∃F,ItkAt W F bi N ⟨c,m,ts,ls,gs⟩∧ ∀b,F b→w.heap.size≤b:=by
 subst hT;obtain⟨n1,n2,n3,n4,n5⟩:=h.ni;obtain⟨k1,k2,k3,k4,k5,k6⟩:=h.hi;have hk: ∀b,b<w7.heap.size→b≠bi→W.heap[b]?=w7.heap[b]?:=fun b hb hne=>ho.keep.block b hb hne;have hs:=ho.keep.size;have hot:=ho.tk vt rfl;have hol:=ho.le vl rfl;refine⟨fun b=>w.heap.size≤b∧b<W.heap.size,⟨{A with vt:=vt,vl:=vl,nl:=ls.length,ng:=gs.length},?_,parts_ok hp hbd ht hl,hl,hg,?_,fun b hb=>hb.2⟩,fun b hb=>hb.1⟩;·exact⟨ho.blk,h.clk.keep (hk _ h.clk.lt (Ne.symm n1)) (hk _ h.clk.map.lt (Ne.symm n2)),h.had.keep hs (fun b hb=>hk b (h.had.lt b hb) (fun e=>n3 (e▸hb))),OwnE.low hot,OwnE.low hol,h.lates.block (hk _ h.lates.lt (Ne.symm n4)),h.gone.block (hk _ h.gone.lt (Ne.symm n5)),h.ml,h.mg,h.lg,h.gm,h.gl,h.gg,fun b hb=>ho.ap vt vl rfl rfl b hb⟩
 ·intro b hb;rcases hb with hb|hb|hb|hb|hb|hb|hb|hb;·have:=h.ib;exact⟨by omega,by omega⟩
  ·have hb':b=A.bc:=hb;have:=h.clk.lt;exact⟨by omega,by omega⟩
  ·have hb':b=A.bm:=hb;have:=h.clk.map.lt;exact⟨by omega,by omega⟩
  ·have:=h.had.lt b hb;exact⟨k4 b hb,by omega⟩
  ·have:=World.ownsRow.lt hot b hb;have:=h.sz;exact⟨by omega,by omega⟩
  ·have:=World.ownsRow.lt hol b hb;have:=h.sz;exact⟨by omega,by omega⟩
  ·have hb':b=A.bl:=hb;have:=h.lates.lt;exact⟨by omega,by omega⟩
  ·have hb':b=A.bg:=hb;have:=h.gone.lt;exact⟨by omega,by omega⟩
end Go.Proofs.YtcmmclliabhnjaaGreatDoor
