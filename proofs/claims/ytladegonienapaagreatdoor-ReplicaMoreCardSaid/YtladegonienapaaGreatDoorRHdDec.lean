/-
  Layer 7: Decode.
-/
import Derived.Test.YtladegonienapaaGreatDoorRHdRgs
set_option maxRecDepth 100000
set_option maxHeartbeats 16000000
namespace Go.Proofs.YtladegonienapaaGreatDoor
open Go.RowKit Go.Maps Go.Sort
def eu(w:World)(B:Nat)(l:List UInt8)(e:Ending)(w':World):Prop:=(match mG l with|.ok s r=> ∃A n c,e=.returned (.tuple #[.string ⟨s.toArray⟩,.slice A n c,.int .i64 0])∧dP w B A n c r|.cO=>e=.returned (.tuple #[.string ⟨#[]⟩,.slice none 0 0,.int .i64 3])|.form=>e=.returned (.tuple #[.string ⟨#[]⟩,.slice none 0 0,.int .i64 2]))∧ ∃q,w'=w.drewN q
theorem x9(w:World)(B:Nat)(A:Option Addr)(n k:Nat)(l:List UInt8)(h:dP w B A n k l)(hn:n≤1000000000):Calls Tryz.prog 135 #[.slice A n k] w (eu w B l):=by
 have HB:=qH h;have hlen:=h.len;have hcap:=h.cap;have hmax:=h.max;unfold maxLen at hmax;have zZ:=qS (∀q,mG l=.cO→eu w B l (.returned (.tuple #[.string ⟨#[]⟩,.slice none 0 0,.int .i64 3])) (w.drewN q)) (fun q h1=>by unfold eu;rw[h1];exact⟨rfl,q,rfl⟩);have LB:=qS (∀q,mG l=.form→eu w B l (.returned (.tuple #[.string ⟨#[]⟩,.slice none 0 0,.int .i64 2])) (w.drewN q)) (fun q h1=>by unfold eu;rw[h1];exact⟨rfl,q,rfl⟩);have uJ:=qS (∀q s r A n c,mG l=.ok s r→dP w B A n c r→eu w B l (.returned (.tuple #[.string ⟨s.toArray⟩,.slice A n c,.int .i64 0])) (w.drewN q)) (fun q s r A n c h1 h2=>by unfold eu;rw[h1];exact⟨⟨_,_,_,rfl,h2⟩,q,rfl⟩);clear h;cases l with
  |nil=>simp only[List.length_nil]at hlen;subst hlen;have HF:=qH (zZ.o 0 rfl);go_enter Tryz.func135,Tryz.ntmps135;go_wp2;go_ret3;exact HF.o
  |cons c t=>
   simp only[List.length_cons]at hlen;obtain⟨b,off,rfl,hb,hc⟩:=HB.o.cell (by omega);have hc0:w.cell? ⟨b,off,none⟩=some (.int .u8 c.toNat):=hc 0 (by simp);have hR:mG (c::t)=if t.length<c.toNat then .cO else if ae (t.take c.toNat)then .ok (t.take c.toNat) (t.drop c.toNat)else .form:=rfl;have hx256:=c.toNat_lt;generalize c.toNat=x at*;have hn1:1≤n:=by omega
   by_cases h1:t.length<x
   ·rw[if_pos h1]at hR;have HF:=qH (zZ.o 0 hR);have t1:(n:Int)-1<x:=by omega
    clear hR hc hlen;go_enter Tryz.func135,Tryz.ntmps135;go_wp2;go_ret3;exact HF.o
   ·rw[if_neg h1]at hR;have t1: ¬(n:Int)-1<x:=by omega
    by_cases hk1:k=1
    ·obtain rfl:x=0:=by omega
     obtain rfl:n=1:=by omega
     subst hk1;have HF:=qS (eu w B (c::t) (.returned (.tuple #[.string ⟨#[]⟩,.slice none 0 0,.int .i64 2])) w) (LB.o 0 (by rw[hR];rfl));have hst:=(dP.nil w B (some ⟨b,off,none⟩) 0 (Nat.zero_le _)).str (P:=Tryz.prog) 93 5 9 Tryz.underlying93 Tryz.underlying5 Tryz.underlying9;have zS:=qH (fF w []);have hn0:ae []=false:=by decide
     rw[hn0]at zS;clear hR hc hlen;go_enter Tryz.func135,Tryz.ntmps135;go_wp2_with fail;with_reducible refine zS.o.mono ?_
     rintro r w1⟨rfl,rfl⟩;go_wp2;go_ret3;exact HF.o
    ·have hcut:=HB.o.cut 1 x (by omega);have hd1:((c::t).drop 1).take x=t.take x:=rfl;rw[hd1]at hcut;have hst:=hcut.str (P:=Tryz.prog) 93 5 9 Tryz.underlying93 Tryz.underlying5 Tryz.underlying9;have zS:=qH (fF w (t.take x));have htl:=HB.o.tail (1+x) (by omega);have hd2:(c::t).drop (1+x)=t.drop x:=by rw[Nat.add_comm];rfl
     rw[hd2]at htl;have HT:=qH htl;have hxl:x≤t.length:=by omega
     clear hcut hd1 hd2 htl hc;cases hnm:ae (t.take x)
     ·rw[hnm]at zS hR;have HF:=qS (eu w B (c::t) (.returned (.tuple #[.string ⟨#[]⟩,.slice none 0 0,.int .i64 2])) w) (LB.o 0 hR);clear hR hnm hlen;generalize t.take x=s at*;go_enter Tryz.func135,Tryz.ntmps135;go_wp2_with fail;with_reducible refine zS.o.mono ?_
      rintro r w1⟨rfl,rfl⟩;go_wp2;go_ret3;exact HF.o
     ·rw[hnm]at zS hR;simp only[if_true]at hR;have HR:=qH hR;clear hR hnm hlen;generalize t.take x=s at*;generalize t.drop x=r0 at*;go_enter Tryz.func135,Tryz.ntmps135;go_wp2_with fail;with_reducible refine zS.o.mono ?_
      rintro r w1⟨rfl,rfl⟩;have e1:((1+x:Nat):Int)=1+(x:Int):=by omega
      rcases Classical.em (k=1+x)with hk|hk;all_goals
       first|rw[if_pos hk,hk]at HT|rw[if_neg hk]at HT
       go_wp2;go_quiet(fail);go_wp2;go_ret3;exact uJ.o _ _ _ _ _ _ HR.o HT.o
open Go.MapKept
theorem yM(es:Array MapEntry)(x:MapEntry)(f:MapEntry→MapEntry):(es.push x).modify es.size f=es.push (f x):=by
 apply Array.ext;·simp
 ·intro i h1 h2;rw[Array.getElem_modify];simp only[Array.size_modify,Array.size_push]at h1;by_cases hi:es.size=i;·subst hi;simp
  ·rw[if_neg hi,Array.getElem_push_lt (by omega),Array.getElem_push_lt (by omega)]
theorem find_born{es:Array MapEntry}(hn:(es.toList.map (·.born)).Nodup){j:Nat}(hj:j<es.size):es.findIdx? (fun e=>(e.born:Int)==((es[j]).born:Int))=some j:=by rw[Array.findIdx?_eq_some_iff_getElem];refine⟨hj,by simp,fun i hi=>?_⟩;have:=(List.pairwise_iff_getElem.1 hn) i j (by simp;omega) (by simpa using hj) hi;simp only[List.getElem_map,Array.getElem_toList]at this;simp;omega
theorem AQ(es:Array MapEntry)(j:Nat)(f g:MapEntry→MapEntry):(es.modify j f).modify j g=es.modify j (g∘f):=by
 apply Array.ext;·simp
 ·intro i h1 h2;simp only[Array.getElem_modify];split<;>rfl
theorem bW.entry{w:World}{b:Nat}{m:Row Value}(h:bW w b m)(hn:m.length<maxLen)(k:List UInt8)(hk:k.length≤maxLen)(t e:TypeId)(ht:Tryz.prog.underlying t=some (.map 9 e))(z:Value)(hz:(zeroValue e).run Tryz.prog w=.ok z w)(v:Value): ∃x st W1 W2,(Instr.mapEntry t (.map (some b)) (.string ⟨k.toArray⟩)).run Tryz.prog w=.ok (.tuple #[x,.int .i64 st]) W1∧(Instr.entryStore t (.map (some b)) (.int .i64 st) v).run Tryz.prog W1=.ok () W2∧bW W2 b (aR k v m)∧w.grownBy W2 (some b):=by
 obtain⟨W2,hr,r1,r2⟩:=h.put hn k hk t e ht v;obtain⟨es,clock,hb,F,hs,hD⟩:=h;have hlt:b<w.heap.size:=(Array.getElem?_eq_some_iff.1 hb).1;rcases mX.find w (eY k hk) es.toList F.keys with⟨h1,h2⟩|⟨j,e0,h1,h2,h3⟩
 ·have JH:(Instr.mapUpdate t (.map (some b)) (.string ⟨k.toArray⟩) v).run Tryz.prog w=.ok () {w with heap:=w.heap.setIfInBounds b (.map (es.push ⟨.string ⟨k.toArray⟩,v,clock⟩) (clock+1))}:=by simp[Instr.mapUpdate,run_underlying ht,MapKept.run_getObj_map hb,mX.check w false (eY k hk),h1,MapKept.run_setObj_map _ hb,Result.andThen]
  rw[hr]at JH;injection JH with _ JH;refine⟨z,clock,{w with heap:=w.heap.setIfInBounds b (.map (es.push ⟨.string ⟨k.toArray⟩,z,clock⟩) (clock+1))},W2,?_,?_,r1,r2⟩;·simp[Instr.mapEntry,run_underlying ht,MapKept.run_getObj_map hb,mX.check w false (eY k hk),h1,hz,MapKept.run_setObj_map _ hb,Result.andThen,goInt]
  ·have hb1:({w with heap:=w.heap.setIfInBounds b (.map (es.push ⟨.string ⟨k.toArray⟩,z,clock⟩) (clock+1))}:World).heap[b]?=some (.map (es.push ⟨.string ⟨k.toArray⟩,z,clock⟩) (clock+1)):=(heap_set hb).1;have hst:=stamped_push F.stamped (key:=.string ⟨k.toArray⟩) (val:=z) h2;have hf:=find_born hst.2.1 (j:=es.size) (by simp);simp only[Array.getElem_push_eq]at hf;simp only[Instr.entryStore,Sem.run_bind,MapKept.run_getObj_map hb1,Result.andThen_ok,asInt,asIntOf,Sem.run_pure,hf,MapKept.run_setObj_map _ hb1];rw[JH,yM];simp[Array.setIfInBounds_setIfInBounds]
 ·have hj:es[j]?=some e0:=by simpa using h2
  have hjl:j<es.size:=(Array.getElem?_eq_some_iff.1 hj).1;have Wn:es[j]=e0:=(Array.getElem?_eq_some_iff.1 hj).2;have hks:=fun(W:World)=>mX.stays W (eY k hk);have JH:(Instr.mapUpdate t (.map (some b)) (.string ⟨k.toArray⟩) v).run Tryz.prog w=.ok () {w with heap:=w.heap.setIfInBounds b (.map (es.modify j fun e=>{e with key:=.string ⟨k.toArray⟩,val:=v}) clock)}:=by simp[Instr.mapUpdate,run_underlying ht,MapKept.run_getObj_map hb,mX.check w false (eY k hk),h1,hj,h3,hks,MapKept.run_setObj_map _ hb,Result.andThen]
  rw[hr]at JH;injection JH with _ JH;refine⟨e0.val,(es[j]).born,{w with heap:=w.heap.setIfInBounds b (.map (es.modify j fun e=>{e with key:=.string ⟨k.toArray⟩}) clock)},W2,?_,?_,r1,r2⟩;·simp[Instr.mapEntry,run_underlying ht,MapKept.run_getObj_map hb,mX.check w false (eY k hk),h1,hj,Wn,h3,hks,MapKept.run_setObj_map _ hb,Result.andThen,goInt]
  ·have hb1:({w with heap:=w.heap.setIfInBounds b (.map (es.modify j fun e=>{e with key:=.string ⟨k.toArray⟩}) clock)}:World).heap[b]?=some (.map (es.modify j fun e=>{e with key:=.string ⟨k.toArray⟩}) clock):=(heap_set hb).1;have hbn:((es.modify j fun e=>{e with key:=.string ⟨k.toArray⟩}).toList.map (·.born)).Nodup:=by
    have h0:=F.stamped.2.1;have:(es.modify j fun e=>{e with key:=.string ⟨k.toArray⟩}).toList.map (·.born)=es.toList.map (·.born):=by
     apply List.ext_getElem;·simp
     ·intro i h1 h2;simp only[List.getElem_map,Array.getElem_toList,Array.getElem_modify];split<;>rfl
    rw[this];exact h0
   have hf:=find_born hbn (j:=j) (by simpa using hjl);simp only[Array.getElem_modify,if_true]at hf;simp only[Instr.entryStore,Sem.run_bind,MapKept.run_getObj_map hb1,Result.andThen_ok,asInt,asIntOf,Sem.run_pure,hf,MapKept.run_setObj_map _ hb1];rw[JH,AQ];simp[Array.setIfInBounds_setIfInBounds,Function.comp_def]
theorem src_ok(w:World)(B:Nat)(A:Option Addr)(n k:Nat)(l:List UInt8)(h:dP w B A n k l)(hn:n≤1000000000){s r:List UInt8}(hR:mG l=.ok s r):Calls Tryz.prog 135 #[.slice A n k] w fun e w'=> ∃A' n' c',e=.returned (.tuple #[.string ⟨s.toArray⟩,.slice A' n' c',.int .i64 0])∧dP w' B A' n' c' r∧Below w.heap.size w w':=(x9 w B A n k l h hn).mono fun e w' hp=>by unfold eu at hp;rw[hR]at hp;obtain⟨⟨A',n',c',he,hb⟩,q,rfl⟩:=hp;exact⟨A',n',c',he,hb.drewN q,below_drewN (Below.refl _ _) q⟩
theorem Jg(w:World)(B:Nat)(A:Option Addr)(n k:Nat)(l:List UInt8)(h:dP w B A n k l)(hn:n≤1000000000)(er:Int)(hR:(mG l=.cO∧er=3)∨(mG l=.form∧er=2)):Calls Tryz.prog 135 #[.slice A n k] w fun e w'=>e=.returned (.tuple #[.string ⟨#[]⟩,.slice none 0 0,.int .i64 er])∧Below w.heap.size w w':=(x9 w B A n k l h hn).mono fun e w' hp=>by unfold eu at hp;rcases hR with⟨hR,rfl⟩|⟨hR,rfl⟩<;>rw[hR]at hp<;>obtain⟨he,q,rfl⟩:=hp<;>exact⟨he,below_drewN (Below.refl _ _) q⟩
theorem LY(w:World)(B:Nat)(A:Option Addr)(n k:Nat)(l:List UInt8)(h:dP w B A n k l)(hB:B≤w.heap.size)(hn:n≤1000000000){rs:Rg}{r:List UInt8}(hR:dM l=.ok rs r):Calls Tryz.prog 136 #[.slice A n k] w fun e w'=> ∃v A' n' c',e=.returned (.tuple #[v,.slice A' n' c',.int .i64 0])∧Ie w' w.heap.size v rs∧dP w' B A' n' c' r∧Below w.heap.size w w':=(yu w B A n k l h hB hn).mono fun e w' hp=>by unfold iJ at hp;rw[hR]at hp;obtain⟨⟨v,A',n',c',he,ho,hb⟩,hbw⟩:=hp;exact⟨v,A',n',c',he,ho,hb,hbw⟩
theorem Jm(w:World)(B:Nat)(A:Option Addr)(n k:Nat)(l:List UInt8)(h:dP w B A n k l)(hB:B≤w.heap.size)(hn:n≤1000000000)(er:Int)(hR:(dM l=.cO∧er=3)∨(dM l=.form∧er=2)):Calls Tryz.prog 136 #[.slice A n k] w fun e w'=>e=.returned (.tuple #[.slice none 0 0,.slice none 0 0,.int .i64 er])∧Below w.heap.size w w':=(yu w B A n k l h hB hn).mono fun e w' hp=>by unfold iJ at hp;rcases hR with⟨hR,rfl⟩|⟨hR,rfl⟩<;>rw[hR]at hp<;>exact hp
theorem aX.entry{w W2:World}{G:Nat→Prop}{bs bh base:Nat}{m:dV}{V:List UInt8→Value}(h:aX w G bs bh m V){v:Value}{s:List UInt8}{rs:Rg}(ho:Ie w base v rs)(hbase: ∀b,v.ownBlock=some b→ ¬G b)(hs:bytesBefore (dN m) s=true)(hn:ae s=true)(hr:RgOk rs)(hne:rs≠[])(hm:bW W2 bh (aR s v (m.map fun p=>(p.1,V p.1))))(hg:w.grownBy W2 (some bh)):aX W2 (fun b=>G b∨v.ownBlock=some b) bs bh (m++[(s,rs)]) (fun x=>if x=s then v else V x):=by
 have hup:=zI h.ok hs;have hns: ∀p∈m,p.1≠s:=fun p hp e=>by have:=hup p hp;rw[e,aV]at this;cases this
 obtain⟨es,cl,hmap⟩:=h.map.isMap;have nY: ∀b,b<w.heap.size→b≠bh→W2.heap[b]?=w.heap[b]?:=fun b hb hne=>hg.block b hb (fun e=>hne (by injection e));have hbs:bs≠bh:=gK h.blk hmap;have hvb: ∀b,v.ownBlock=some b→W2.heap[b]?=w.heap[b]?∧b<w.heap.size∧ ∃cs,w.heap[b]?=some (.cells cs 153 (0,0)):=fun b hb=>by
  obtain⟨cs,hc⟩: ∃cs,w.heap[b]?=some (.cells cs 153 (0,0)):=by
   rcases ho.2 with⟨e,_⟩|⟨g,cap,cur,e,_,hg',_⟩;·rw[e]at hb;cases hb
   ·rw[e]at hb;injection hb with hb;subst hb;exact⟨_,hg'⟩
  have hlt:=(World.ownsRow.lt ho b hb).2;exact⟨nY b hlt (gK hc hmap),hlt,cs,hc⟩
 have Ol: ∀p∈m,∀b,(V p.1).ownBlock=some b→b≠bh:=fun p hp b hb=>by
  obtain⟨cs,hc⟩: ∃cs,w.heap[b]?=some (.cells cs 153 (0,0)):=by
   rcases(h.own p hp).2 with⟨e,_⟩|⟨g,cap,cur,e,_,hg',_⟩;·rw[e]at hb;cases hb
   ·rw[e]at hb;injection hb with hb;subst hb;exact⟨_,hg'⟩
  exact gK hc hmap
 have hsome: ∀p∈m,∃g,(V p.1).ownBlock=some g:=fun p hp=>by
  rcases(h.own p hp).2 with⟨e,hl⟩|⟨g,cap,cur,e,_⟩;·exact absurd (List.length_eq_zero_iff.1 hl) (h.ok.each p hp).2.2
  ·exact⟨g,by rw[e];rfl⟩
 refine⟨(nY bs (h.lt bs h.gs) hbs).trans h.blk,?_,?_,?_,.inl h.gs,.inl h.gm,?_,?_,?_,h.ok.snoc hs hn hr hne⟩
 ·rw[ve s v (m.map fun p=>(p.1,V p.1)) (fun p hp=>by obtain⟨q,hq,rfl⟩:=List.mem_map.1 hp;exact hup q hq)]at hm;rw[List.map_append,List.map_singleton];have e1:m.map (fun p=>(p.1,if p.1=s then v else V p.1))=m.map fun p=>(p.1,V p.1):=List.map_congr_left fun p hp=>by rw[if_neg (hns p hp)]
  rw[e1];simpa using hm
 ·intro p hp;rcases List.mem_append.1 hp with hp|hp;·simp only[if_neg (hns p hp)];exact(h.own p hp).keep fun b hb=>nY b (h.lt b (h.foot p hp b hb)) (Ol p hp b hb)
  ·simp only[List.mem_singleton]at hp;subst hp;simp only[if_true];have ho0:cZ w v rs:=⟨ho.1,by
    rcases ho.2 with h'|⟨g,cap,cur,e,_,hg',hr'⟩;·exact .inl h'
    ·exact .inr ⟨g,cap,cur,e,Nat.zero_le _,hg',hr'⟩⟩;exact ho0.keep fun b hb=>(hvb b hb).1
 ·intro p hp q hq hpq;rcases List.mem_append.1 hp with hp|hp<;>rcases List.mem_append.1 hq with hq|hq;·simp only[if_neg (hns p hp),if_neg (hns q hq)];exact fun e1=>h.apart p hp q hq hpq e1
  ·simp only[List.mem_singleton]at hq;subst hq;simp only[if_neg (hns p hp),if_true];intro e1;obtain⟨g,hg'⟩:=hsome p hp;exact hbase g (e1▸hg') (h.foot p hp g hg')
  ·simp only[List.mem_singleton]at hp;subst hp;simp only[if_neg (hns q hq),if_true];intro e1;obtain⟨g,hg'⟩:=hsome q hq;exact hbase g (e1.trans hg') (h.foot q hq g hg')
  ·simp only[List.mem_singleton]at hp hq;subst hp hq;exact absurd rfl hpq
 ·intro p hp b hb;rcases List.mem_append.1 hp with hp|hp;·simp only[if_neg (hns p hp)]at hb;exact .inl (h.foot p hp b hb)
  ·simp only[List.mem_singleton]at hp;subst hp;simp only[if_true]at hb;exact .inr hb
 ·intro b hb;rcases hb with hb|hb;·exact Nat.lt_of_lt_of_le (h.lt b hb) hg.size
  ·exact Nat.lt_of_lt_of_le (hvb b hb).2.1 hg.size
 ·intro b hb;by_cases e1:b=bs;·exact .inl e1
  by_cases e2:b=bh;·exact .inr (.inl e2)
  right;right;rcases hb with hb|hb
  ·rcases h.typ b hb with h'|h'|⟨cs,hc⟩;·exact absurd h' e1
   ·exact absurd h' e2
   ·exact⟨cs,(nY b (h.lt b hb) e2).trans hc⟩
  ·obtain⟨h1,_,cs,hc⟩:=hvb b hb;exact⟨cs,h1.trans hc⟩
theorem xh: ∀a b:List UInt8,Op.bytesLess a b=bytesBefore a b:=fun a=>by induction a with|nil=>intro b;cases b<;>simp[Op.bytesLess,bytesBefore]|cons x a ih=>intro b;cases b with|nil=>simp[Op.bytesLess,bytesBefore]|cons y b=>simp only[Op.bytesLess,bytesBefore,ih b]
def qO(w:World)(R:lK dV)(e:Ending)(w':World):Prop:=(match R with|.ok m _=> ∃bs bh G V,e=.returned (.tuple #[.pointer (some ⟨bs,0,none⟩),.int .i64 0])∧aX w' G bs bh m V∧ ∀b,G b→w.heap.size≤b|.cO=>e=.returned (.tuple #[.pointer none,.int .i64 3])|.form=>e=.returned (.tuple #[.pointer none,.int .i64 2]))∧Below w.heap.size w w'
def ME:lK dV→lK dV|.ok m r=>if r=[]then .ok m []else .form|.cO=>.cO|.form=>.form
def Ip(w:World)(bs bh N M:Nat)(R:lK dV)(v0 v7 v21:Value)(wr:World):Prop:= ∃(k:Nat)(A:Option Addr)(n c:Nat)(cur:List UInt8)(m:dV)(G:Nat→Prop)(V:List UInt8→Value),v21=.int .i64 (k:Int)∧k≤N∧v0=.slice A n c∧dP wr w.heap.size A n c cur∧v7=.string ⟨(dN m).toArray⟩∧m.length=k∧aX wr G bs bh m V∧(∀b,G b→w.heap.size≤b)∧m.length+cur.length≤M∧ME (kH (N-k) m cur)=R∧Below w.heap.size w wr
theorem oq{w w':World}{R:lK dV}{er:Int}(h:(R=.cO∧er=3)∨(R=.form∧er=2))(hb:Below w.heap.size w w'):qO w R (.returned (.tuple #[.pointer none,.int .i64 er])) w':=by rcases h with⟨rfl,rfl⟩|⟨rfl,rfl⟩<;>exact⟨rfl,hb⟩
theorem Gx(w:World)(A:Option Addr)(n k:Nat)(l:List UInt8)(h:dP w w.heap.size A n k l)(hn:n≤1000000000):Calls Tryz.prog 86 #[.slice A n k] w (qO w (oF l)):=by
 have HB:=qH h;have hlen:=h.len;clear h;rcases gY (jC l)with⟨N,r1,hR⟩|⟨er,hR⟩
 ·have HRR:=qS (oF l=ME (kH N [] r1)) (by unfold oF;rw[hR];show(match kH N [] r1 with|.cO=>_|.form=>_|.ok m r=>_)=_;cases kH N [] r1<;>rfl);have hN:=(iZ hR).1;have hrl:=nT hR;have M5:=qH hR;clear hR;generalize oF l=R at*;go_enter Tryz.func86,Tryz.ntmps86;go_wp2_with fail;with_reducible refine(qW w w.heap.size A n k l HB.o hn M5.o).mono ?_
  rintro r w1⟨A1,n1,c1,rfl,hb1,hB1⟩;have U2:=qH hb1;have HB1:=qH hB1;clear hb1 hB1;go_wp2_with fail;with_reducible refine(mZ w1).mono ?_
  rintro r w2⟨bs,bh,rfl,hh2,hbs,Ry,hB2⟩;have U1:=qH (U2.o.below (hB2.mono HB1.o.size));have HB2:=qH (HB1.o.trans (hB2.mono HB1.o.size));have hs1:=HB1.o.size;have HST:=qS (Ip w bs bh N l.length R (.slice A1 n1 c1) (.string ⟨#[]⟩) (.int .i64 0) w2) (⟨0,A1,n1,c1,r1,[],_,_,rfl,Nat.zero_le _,rfl,U1.o,rfl,rfl,hh2,(fun b hb=>by rcases hb with rfl|rfl<;>omega),by simp;omega,HRR.o.symm,HB2.o⟩);clear hh2 hbs Ry hB2 U2 U1 HB1 HRR;go_wp2;go_loopw[0,7,21](fun v0 v7 v21 wr=>Ip w bs bh N l.length R v0 v7 v21 wr)(fun _ _ v21 _=>N-(intOf v21).toNat);case atStart=>exact HST.o
  case round=>
   obtain⟨j,A2,n2,c2,cur,m,G,V,rfl,hj,rfl,hb2,rfl,hl2,hh2,hG2,hm2,hR2,hB3⟩:=hrel;have fe:=qH hb2;have HH:=qH hh2;have HG:=qH hG2;have HB3:=qH hB3;have HL2:=qH hl2;have hn2:=hb2.len;have hsz:=hB3.size;have Rx:m.length<maxLen:=by unfold maxLen;omega
   clear hb2 hh2 hG2 hB3 hl2 HST;by_cases Rm:j<N
   ·have t1:(j:Int)<N:=by omega
    obtain⟨f,hf⟩: ∃f,N-j=f+1:=⟨N-j-1,by omega⟩;have BZ:=qS (N-(j+1)=f) (by omega);rw[hf]at hR2;simp only[kH]at hR2;rcases gY (mG cur)with⟨s,l1,hg⟩|⟨er,hg⟩
    ·rw[hg]at hR2;simp only at hR2;obtain⟨hnm,k1,hk0,hk1,Oq⟩:=Jh hg;have hl1:l1.length<cur.length:=by rw[Oq,List.length_drop];omega
     have hs24:s.length≤24:=by unfold ae at hnm;simp at hnm;omega
     have HR2:=qH hR2;have Nh:=qH hg;have zS:=qH hnm;clear hR2 hf hg Oq hnm hk0 hk1;go_wp2_with fail;with_reducible refine(src_ok wr w.heap.size A2 n2 c2 cur fe.o (by omega) Nh.o).mono ?_
     rintro r w3⟨A3,n3,c3,rfl,hb3,hB4⟩;have E8:=qH hb3;have hn3:=hb3.len;have Qg:=qH (HH.o.up hB4);have fA:=qH (HB3.o.trans (hB4.mono hsz));clear hb3 hB4 HH fe HB3;cases hbb:bytesBefore (dN m) s
     ·rw[hbb]at HR2;have HF:=qS (qO w R (.returned (.tuple #[.pointer none,.int .i64 2])) w3) (oq (.inr ⟨HR2.o.symm,rfl⟩) fA.o);have hcase:(Op.bytesLess s (dN m)=false∧(s==dN m)=true)∨(Op.bytesLess s (dN m)=true∧(s==dN m)=false):=by
       rw[xh];by_cases he:s=dN m;·left;rw[he];exact⟨aV _,by simp⟩
       ·right;rcases lu he with h'|h';·exact⟨h',by simpa using he⟩
        ·rw[h']at hbb;cases hbb
      clear hbb;rcases hcase with⟨t2,t3⟩|⟨t2,t3⟩;all_goals go_wp2;go_ret2;exact HF.o
     ·rw[hbb]at HR2;simp only[if_true]at HR2;have t2:Op.bytesLess s (dN m)=false:=by rw[xh];cases h':bytesBefore s (dN m)with|false=>rfl|true=>have:=iI hbb h';rw[aV]at this;cases this
      have t3:(s==dN m)=false:=by
       have:s≠dN m:=fun e=>by rw[e,aV]at hbb;cases hbb
       simpa using this
      have IM:=qH hbb;clear hbb;rcases gY (dM l1)with⟨rs,l2,hr⟩|⟨er,hr⟩
      ·rw[hr]at HR2;simp only at HR2;obtain⟨hro,Oi,hrl2,_⟩:=DW hr;have Xk:=qH hro;have Py:=qH Oi;have HRR:=qH hr;clear hr hro Oi;go_wp2_with fail;with_reducible refine(LY w3 w.heap.size A3 n3 c3 l1 E8.o fA.o.size (by omega) HRR.o).mono ?_
       rintro r w5⟨v5,A5,n5,c5,rfl,ho5,hb5,Ew⟩;obtain⟨A6,k6,hv6⟩:=ownsRow_form ho5;subst hv6;have Nr:=qH hb5;have ko:=qH ho5;have hn5:=hb5.len;have Nf:=qH (Qg.o.up Ew);have WY:=qS (∀b,(Value.slice A6 rs.length k6).ownBlock=some b→ ¬G b) (fun b hb hg=>by have:=(World.ownsRow.lt ho5 b hb).1;have:=Qg.o.lt b hg;omega);have jJ:=qH (fA.o.trans (Ew.mono fA.o.size));have HV5:=qS (∀b,(Value.slice A6 rs.length k6).ownBlock=some b→w.heap.size≤b) (fun b hb=>by have:=(World.ownsRow.lt ho5 b hb).1;have:=fA.o.size;omega);obtain⟨x7,st7,W1,W2,hme,hes,hm7,hg7⟩:=Nf.o.map.entry (by rw[List.length_map];exact Rx) s (by unfold maxLen;omega) 148 151 Tryz.underlying148 _ (Ck w5) (.slice A6 rs.length k6);have XR:=qH (Nf.o.entry ko.o WY.o IM.o zS.o Xk.o Py.o hm7 hg7);have hlt5:=Nf.o.lt bh Nf.o.gm;have nH:=qS (Below w.heap.size w W2) (Below.grown jJ.o hg7 jJ.o.size (fun k' hk'=>by injection hk' with hk';have:=HG.o bh Nf.o.gm;omega));have TD:=qS (dP W2 w.heap.size A5 n5 c5 l2) (Nr.o.keep fun p hp=>World.cell?_of_block (w:=w5) (hg7.block p.block (by have:=jJ.o.size;omega) (fun e=>by injection e with e;have:=HG.o bh Nf.o.gm;omega)));have hc0:=Nf.o.cell;have Iw:=qS (Ip w bs bh N l.length R (.slice A5 n5 c5) (.string ⟨s.toArray⟩) (.int .i64 ((j+1:Nat):Int)) W2) (⟨j+1,A5,n5,c5,l2,m++[(s,rs)],_,_,rfl,Rm,rfl,TD.o,by rw[lv],by rw[List.length_append,HL2.o];rfl,XR.o,(fun b hb=>hb.elim (HG.o b) (HV5.o b)),by simp;omega,by rw[BZ.o];exact HR2.o,nH.o⟩);clear ho5 hb5 Ew hm7 hg7 hn5;go_wp2;go_roundw;case rel=>exact Iw.o
       case measure=>simp[intOf];omega
      ·have HR3:=qS (R=(if er=3 then .cO else .form)) (by rw[←HR2.o];rcases hr with⟨hr,rfl⟩|⟨hr,rfl⟩<;>rw[hr]<;>rfl);have HF:=qS (∀W,Below w3.heap.size w3 W→qO w R (.returned (.tuple #[.pointer none,.int .i64 er])) W) (fun W hW=>oq (by
        rcases hr with⟨_,rfl⟩|⟨_,rfl⟩;·exact .inl ⟨HR3.o,rfl⟩
        ·exact .inr ⟨HR3.o,rfl⟩) (fA.o.trans (hW.mono fA.o.size)));have t4:(er !=0)=true:=vK hr;have HRR:=qH hr;clear hr HR2;go_wp2_with fail;with_reducible refine(Jm w3 w.heap.size A3 n3 c3 l1 E8.o fA.o.size (by omega) er HRR.o).mono ?_
       rintro r w5⟨rfl,hb5⟩;have BZ:=qH (HF.o w5 hb5);clear hb5;go_wp2;go_ret2;exact BZ.o
    ·have HR3:=qS (R=(if er=3 then .cO else .form)) (by rw[←hR2];rcases hg with⟨hg,rfl⟩|⟨hg,rfl⟩<;>rw[hg]<;>rfl);have HF:=qS (∀W,Below wr.heap.size wr W→qO w R (.returned (.tuple #[.pointer none,.int .i64 er])) W) (fun W hW=>oq (by
      rcases hg with⟨_,rfl⟩|⟨_,rfl⟩;·exact .inl ⟨HR3.o,rfl⟩
      ·exact .inr ⟨HR3.o,rfl⟩) (HB3.o.trans (hW.mono hsz)));have t4:(er !=0)=true:=vK hg;have Nh:=qH hg;clear hg hR2 hf;go_wp2_with fail;with_reducible refine(Jg wr w.heap.size A2 n2 c2 cur fe.o (by omega) er Nh.o).mono ?_
     rintro r w4⟨rfl,hb4⟩;have BZ:=qH (HF.o w4 hb4);clear hb4;go_wp2;go_ret2;exact BZ.o
   ·have NG:j=N:=by omega
    rw[NG,Nat.sub_self]at hR2;simp only[kH,ME]at hR2;have t1: ¬(j:Int)<N:=by omega
    by_cases hc0:cur=[]
    ·rw[if_pos hc0]at hR2;have t2: ¬(0:Int)<n2:=by rw[←hn2,hc0];simp
     have HF:=qS (qO w R (.returned (.tuple #[.pointer (some ⟨bs,0,none⟩),.int .i64 0])) wr) (by rw[←hR2];exact⟨⟨bs,bh,G,V,rfl,HH.o,HG.o⟩,HB3.o⟩);clear hR2 NG hc0 hn2;go_wp2;go_ret2;exact HF.o
    ·rw[if_neg hc0]at hR2;have t2:(0:Int)<n2:=by have:=List.length_pos_iff.2 hc0;omega
     have HF:=qS (qO w R (.returned (.tuple #[.pointer none,.int .i64 2])) wr) (oq (.inr ⟨hR2.symm,rfl⟩) HB3.o);clear hR2 NG hc0 hn2;go_wp2;go_ret2;exact HF.o
 ·have kv:=qH hR;go_enter Tryz.func86,Tryz.ntmps86;go_wp2_with fail;with_reducible refine(nS w w.heap.size A n k l HB.o hn er kv.o).mono ?_
  rintro r w1⟨rfl,hb1⟩;have HF:=qS (qO w (oF l) (.returned (.tuple #[.pointer none,.int .i64 er])) w1) (oq (by
   unfold oF;rcases hR with⟨hR,rfl⟩|⟨hR,rfl⟩<;>rw[hR];·exact .inl ⟨rfl,rfl⟩
   ·exact .inr ⟨rfl,rfl⟩) hb1);have t0:(er !=0)=true:=vK hR;clear hR hb1;go_wp2;go_ret2;exact HF.o
end Go.Proofs.YtladegonienapaaGreatDoor
