/-
  Layer 7: place, Has.
  Layer 7: the set in memory; Has, New.
  Layer 7: what a put leaves in memory.
-/
import Derived.Test.YtladegonienapaaGreatDoorREvListing
set_option maxRecDepth 100000
set_option maxHeartbeats 16000000
namespace Go.Proofs.YtladegonienapaaGreatDoor
open Go.RowKit Go.Maps Go.Sort
def rgCells(rs:Rg):List Value:=rs.flatMap fun r=>[.int .i64 r.1,.int .i64 r.2]
theorem kJ(rs:Rg):(rgCells rs).length=rs.length*2:=by induction rs with|nil=>rfl|cons r rs ih=>simp only[rgCells,List.flatMap_cons,List.length_append,List.length_cons]at*;rw[ih];simp;omega
theorem cu(r:Int×Int)(rs:Rg):rgCells (r::rs)=.int .i64 r.1::.int .i64 r.2::rgCells rs:=rfl
theorem aK(a b:Rg):rgCells (a++b)=rgCells a++rgCells b:=by simp[rgCells]
theorem iX: ∀(rs:Rg)(k:Nat)(hk:k<rs.length),(rgCells rs)[k*2]?=some (.int .i64 rs[k].1)∧(rgCells rs)[k*2+1]?=some (.int .i64 rs[k].2)|r::rs,0,_=>⟨rfl,rfl⟩|r::rs,k+1,hk=>by have:=iX rs k (by simpa using hk);rw[cu];rw[show(k+1)*2=k*2+1+1 by omega];simpa using this
theorem bZ: ∀(rs:Rg)(k:Nat)(hk:k<rs.length)(t:Int),(rgCells rs).set (k*2+1) (.int .i64 t)=rgCells (rs.set k (rs[k].1,t))|r::rs,0,_,t=>rfl|r::rs,k+1,hk,t=>by have:=bZ rs k (by simpa using hk) t;rw[cu,show(k+1)*2+1=k*2+1+1+1 by omega];simp only[List.set_cons_succ,cu,List.getElem_cons_succ];rw[this]
theorem dA: ∀(rs:Rg)(k:Nat)(hk:k<rs.length)(t:Int),(rgCells rs).set (k*2) (.int .i64 t)=rgCells (rs.set k (t,rs[k].2))|r::rs,0,_,t=>rfl|r::rs,k+1,hk,t=>by have:=dA rs k (by simpa using hk) t;rw[cu,show(k+1)*2=k*2+1+1 by omega];simp only[List.set_cons_succ,cu,List.getElem_cons_succ];rw[this]
theorem fD(rs:Rg)(k:Nat):(rgCells rs).take (k*2)=rgCells (rs.take k):=by induction rs generalizing k with|nil=>simp[rgCells]|cons r rs ih=>cases k with|zero=>simp[rgCells]|succ k=>rw[cu,show(k+1)*2=k*2+1+1 by omega];simp only[List.take_succ_cons,cu,ih k]
theorem fE(rs:Rg)(k:Nat):(rgCells rs).drop (k*2)=rgCells (rs.drop k):=by induction rs generalizing k with|nil=>simp[rgCells]|cons r rs ih=>cases k with|zero=>simp|succ k=>rw[cu,show(k+1)*2=k*2+1+1 by omega];simp only[List.drop_succ_cons,ih k]
theorem bO(rs:Rg): ∀u∈rgCells rs,u.oneCell'=true:=by intro u hu;simp only[rgCells,List.mem_flatMap]at hu;obtain⟨r,_,hr⟩:=hu;simp at hr;rcases hr with rfl|rfl<;>rfl
def cZ(w:World)(v:Value)(rs:Rg):Prop:=w.ownsRow 0 153 2 v rs.length (rgCells rs)
theorem cZ.cell{w:World}{rs:Rg}{g cap n:Nat}(h:cZ w (.slice (some ⟨g,0,none⟩) n cap) rs)(k:Nat)(hk:k<rs.length):w.cell? ⟨g,k*2,none⟩=some (.int .i64 rs[k].1)∧w.cell? ⟨g,k*2+1,none⟩=some (.int .i64 rs[k].2)∧w.frozen? ⟨g,k*2,none⟩=false∧w.frozen? ⟨g,k*2+1,none⟩=false:=by
 have hn:n=rs.length:=by
  rcases h.2 with⟨h',_⟩|⟨_,_,_,h',_⟩;·cases h'
  ·injection h'
 subst hn;have hg:=iX rs k hk;refine⟨?_,?_,World.ownsRow.frozenAt h _,World.ownsRow.frozenAt h _⟩;·rw[World.ownsRow.cellAt h (k*2) (by omega)];exact hg.1
 ·rw[World.ownsRow.cellAt h (k*2+1) (by omega)];exact hg.2
theorem cZ.keep{w w':World}{v:Value}{rs:Rg}(h:cZ w v rs)(hb: ∀b,v.ownBlock=some b→w'.heap[b]?=w.heap[b]?):cZ w' v rs:=by
 refine⟨h.1,?_⟩;rcases h.2 with h'|⟨g,cap,cur,rfl,hb',hg,hr⟩;·exact .inl h'
 ·exact .inr ⟨g,cap,cur,rfl,hb',(hb g rfl).trans hg,hr⟩
theorem cZ.up{w w':World}{v:Value}{rs:Rg}(h:cZ w v rs)(hb:Below w.heap.size w w'):cZ w' v rs:=h.keep fun b e=>hb.block b (World.ownsRow.lt h b e).2
theorem AA(w:World)(b1 b2 g n cap:Nat)(x:Int)(k:Nat)(hk:k<n)(t:Int)(hc1:w.cell? ⟨b1,0,none⟩=some (.slice (some ⟨g,0,none⟩) n cap))(hc2:w.cell? ⟨b2,0,none⟩=some (.int .i64 x))(ht:w.cell? ⟨g,k*2+1,none⟩=some (.int .i64 t)):Calls Tryz.prog 201 (#[.int .i64 k]++ #[.pointer (some ⟨b1,0,none⟩),.pointer (some ⟨b2,0,none⟩)]) w (Says (decide (x<t)) w):=by
 show Calls Tryz.prog 201 #[.int .i64 k,.pointer (some ⟨b1,0,none⟩),.pointer (some ⟨b2,0,none⟩)] w (Says (decide (x<t)) w);have hk':(k:Int)<n:=by omega
 go_enter Tryz.func201,Tryz.ntmps201;go_wp2;go_quiet(fail);go_wp2;go_ret;exact⟨rfl,below_drewN (Below.refl _ _) _⟩
def EN(rs:Rg)(n:Int)(w:World)(e:Ending)(w':World):Prop:=e=.returned (.int .i64 (dF rs n))∧Below w.heap.size w w'
theorem vo(w:World)(v:Value)(rs:Rg)(hown:cZ w v rs)(ok:RgOk rs)(hlen:rs.length≤1000000)(n:Int):Calls Tryz.prog 144 #[v,.int .i64 n] w (EN rs n w):=by
 have HO:=qH hown;have HK:=qH ok;obtain⟨A,c,rfl⟩:=ownsRow_form hown;have hmax:c≤maxLen:=by
  rcases hown.2 with⟨e,_⟩|⟨_,_,_,e,_,_,_,h,_⟩;·injection e with _ _ e;subst e;unfold maxLen;omega
  ·injection e with _ _ e;subst e;exact h
 clear hown ok;go_enter Tryz.func144,Tryz.ntmps144;go_wp2_with fail;have bQ:Below w.heap.size w ((w.alloc (.cells #[.slice A rs.length c] 151)).alloc (.cells #[.int .i64 n] 3)):=((Below.refl _ _).alloc (Nat.le_refl _) _).alloc (by simp) _;have zY:((w.alloc (.cells #[.slice A rs.length c] 151)).alloc (.cells #[.int .i64 n] 3)).cell? ⟨w.heap.size,0,none⟩=some (.slice A rs.length c):=by rw[World.cell?_alloc_lt _ _ _ (by simp)];exact cell_of_row _ w.heap.size 0 _ _ (0,0) (heap_alloc_new w _)
 have hA1:((w.alloc (.cells #[.slice A rs.length c] 151)).alloc (.cells #[.int .i64 n] 3)).cell? ⟨w.heap.size+1,0,none⟩=some (.int .i64 n):=by simp
 have hsz:((w.alloc (.cells #[.slice A rs.length c] 151)).alloc (.cells #[.int .i64 n] 3)).heap.size=w.heap.size+2:=by simp
 generalize(w.alloc (.cells #[.slice A rs.length c] 151)).alloc (.cells #[.int .i64 n] 3)=w1 at*;have Fj:=qH (HO.o.up bQ);have Q0:=qH zY;have HA1:=qH hA1;clear zY hA1;refine(mJ w1 201 #[.pointer (some ⟨w.heap.size,0,none⟩),.pointer (some ⟨w.heap.size+1,0,none⟩)] rs.length (fun i=>decide (n<(rs.getD i (0,0)).2)) (by omega) (fun _ _=>by kernel_rfl) ?_ ?_).mono ?_
 ·intro w2 i hb2 hi;have hg: ∃g,A=some ⟨g,0,none⟩:=by
   rcases HO.o.2 with⟨e,h0⟩|⟨g,_,_,e,_⟩;·omega
   ·exact⟨g,by injection e⟩
  obtain⟨g,rfl⟩:=hg;have hc:=((Fj.o.up hb2).cell i hi).2.1;have e:rs.getD i (0,0)=rs[i]:=by simp[List.getD,List.getElem?_eq_getElem hi]
  simp only[e];exact AA w2 _ _ g rs.length c n i hi _ ((hb2.cell (p:=⟨w.heap.size,0,none⟩) (by simp only;omega)).trans Q0.o) ((hb2.cell (p:=⟨w.heap.size+1,0,none⟩) (by simp only;omega)).trans HA1.o) hc
 ·intro i j hij hj hp;have:=Jo HK.o i j hij hj;simp only[List.getD,List.getElem?_eq_getElem hj,List.getElem?_eq_getElem (show i<rs.length by omega),Option.getD_some,decide_eq_true_eq]at*;omega
 ·rintro e w2⟨k,rfl,hkl,h1,h2,hb2⟩;have HP:=qH (Az (rs:=rs) (n:=n) k hkl (fun i hi hlt=>by have:=h1 i hlt;simp only[List.getD,List.getElem?_eq_getElem hi,Option.getD_some,decide_eq_false_iff_not]at this;omega) (fun i hi hge=>by have:=h2 i hge hi;simpa only[List.getD,List.getElem?_eq_getElem hi,Option.getD_some,decide_eq_true_eq]using this));have HB:=qH (bQ.trans (hb2.mono (by omega)));clear h1 h2 hb2;go_wp2;go_ret;exact⟨by rw[←HP.o];rfl,HB.o⟩
abbrev setObj(bm:Nat):Obj:=.cells #[.map (some bm)] 150
structure aX(w:World)(G:Nat→Prop)(bs bm:Nat)(m:dV)(V:List UInt8→Value):Prop where
 blk:w.heap[bs]?=some (setObj bm)
 map:bW w bm (m.map fun p=>(p.1,V p.1))
 own: ∀p∈m,cZ w (V p.1) p.2
 apart: ∀p∈m,∀q∈m,p.1≠q.1→(V p.1).ownBlock≠(V q.1).ownBlock
 gs:G bs
 gm:G bm
 foot: ∀p∈m,∀b,(V p.1).ownBlock=some b→G b
 lt: ∀b,G b→b<w.heap.size
 typ: ∀b,G b→b=bs∨b=bm∨ ∃cs,w.heap[b]?=some (.cells cs 153 (0,0))
 ok:bV m
section
variable{w w':World}{G:Nat→Prop}{bs bm:Nat}{m:dV}{V:List UInt8→Value}
theorem aX.keep(h:aX w G bs bm m V)(hsz:w.heap.size≤w'.heap.size)(hk: ∀b,G b→w'.heap[b]?=w.heap[b]?):aX w' G bs bm m V:=⟨(hk _ h.gs).trans h.blk,h.map.block (hk _ h.gm),fun p hp=>(h.own p hp).keep fun b hb=>hk b (h.foot p hp b hb),h.apart,h.gs,h.gm,h.foot,fun b hb=>Nat.lt_of_lt_of_le (h.lt b hb) hsz,fun b hb=>(h.typ b hb).imp id fun h'=>h'.imp id fun⟨cs,hc⟩=>⟨cs,(hk b hb).trans hc⟩,h.ok⟩
theorem aX.up(h:aX w G bs bm m V)(hb:Below w.heap.size w w'):aX w' G bs bm m V:=h.keep hb.size fun b hg=>hb.block b (h.lt b hg)
theorem aX.cell(h:aX w G bs bm m V):w.cell? ⟨bs,0,none⟩=some (.map (some bm)):=cell_of_row w bs 0 _ _ (0,0) h.blk
theorem Ck(w:World):(zeroValue 151).run Tryz.prog w=.ok (.slice none 0 0) w:=by kernel_rfl
theorem aX.look(h:aX w G bs bm m V)(s:List UInt8)(hs:s.length≤1000000000): ∃v,(Instr.lookup 148 (.map (some bm)) (.string ⟨s.toArray⟩) false).run Tryz.prog w=.ok v w∧cZ w v (aC m s)∧(aA m s=none→v=.slice none 0 0)∧(∀rs,aA m s=some rs→v=V s):=by
 refine⟨_,h.map.look s (by unfold maxLen;omega) _ _ Tryz.underlying148 _ (Ck w),?_⟩;have e:(aA (m.map fun p=>(p.1,V p.1)) s)=(aA m s).map fun _=>V s:=by unfold aA;rw[List.find?_map];have:((fun p:List UInt8×Value=>p.1==s)∘fun p:List UInt8×Rg=>(p.1,V p.1))=fun p=>p.1==s:=rfl;rw[this];cases hf:m.find? fun p=>p.1==s with|none=>rfl|some p=>have:=List.find?_some hf;simp at this;simp[this]
 rw[e];cases hg:aA m s with|none=>refine⟨?_,fun _=>rfl,(fun _ h=>by cases h)⟩;unfold aC;rw[hg];exact World.ownsRow_nil w 0 _ 2|some rs=>refine⟨?_,(fun h=>by cases h),fun _ _=>rfl⟩;unfold aC;rw[hg];exact h.own _ (ah hg)
end
theorem qY(w:World)(G:Nat→Prop)(bs bm:Nat)(m:dV)(V:List UInt8→Value)(h:aX w G bs bm m V)(s:List UInt8)(hs:s.length≤1000000000)(hlen:(aC m s).length≤1000000)(n:Int):Calls Tryz.prog 93 #[.pointer (some ⟨bs,0,none⟩),.string ⟨s.toArray⟩,.int .i64 n] w (Says (hadB m s n) w):=by
 have HB:=qH (CK (h.ok.row s) n);have uJ:=qH (h.ok.row s);have hc:=h.cell;have Qe:=qS (hadB m s n=bS (aC m s) n) (rfl);obtain⟨v,hl,hown,_,_⟩:=h.look s hs;generalize aC m s=rs at*;obtain⟨A,c,rfl⟩:=ownsRow_form hown;have HO:=qH hown;have hpl:=FX rs n;clear h hown;go_enter Tryz.func93,Tryz.ntmps93;go_wp2_with fail;refine(vo w _ rs HO.o uJ.o hlen n).mono ?_;rintro e w1⟨rfl,hb1⟩;have Fj:=qH (HO.o.up hb1);clear hl hc;by_cases hlt:dF rs n<rs.length
 ·have hA: ∃g,A=some ⟨g,0,none⟩:=by
   rcases HO.o.2 with⟨e,h0⟩|⟨g,_,_,e,_⟩;·omega
   ·exact⟨g,by injection e⟩
  obtain⟨g,rfl⟩:=hA;have hcc:=(Fj.o.cell (dF rs n) hlt).1;have HX:=qS (hadB m s n=decide (rs[dF rs n].1≤n)) (by rw[Qe.o,HB.o];simp[hlt]);generalize rs[dF rs n].1=x at*;generalize dF rs n=k at*;have ht:(k:Int)<rs.length:=by omega
  go_wp2;go_ret;exact⟨aa HX.o.symm,hb1⟩
 ·have HX:=qS (hadB m s n=false) (by rw[Qe.o,HB.o];simp[hlt]);generalize dF rs n=k at*;have ht: ¬(k:Int)<rs.length:=by omega
  go_wp2;go_ret;exact⟨aa HX.o.symm,hb1⟩
def BP(w:World)(e:Ending)(w':World):Prop:= ∃bs bm,e=.returned (.pointer (some ⟨bs,0,none⟩))∧aX w' (fun b=>b=bs∨b=bm) bs bm [] (fun _=>.slice none 0 0)∧w.heap.size≤bs∧w.heap.size≤bm∧Below w.heap.size w w'
theorem mZ(w:World):Calls Tryz.prog 78 #[] w (BP w):=by
 have hmm:= @run_makeMap Tryz.prog;go_enter Tryz.func78,Tryz.ntmps78;go_wp2;go_ret;have hb:Below w.heap.size w ((w.alloc (.map #[] 0)).alloc (setObj w.heap.size)):=((Below.refl _ _).alloc (Nat.le_refl _) _).alloc (by simp) _;refine⟨w.heap.size+1,w.heap.size,rfl,⟨?_,(bW.made w).block (Below.heap_alloc _ _ _ (by simp)),fun p hp=>by simp at hp,fun p hp=>by simp at hp,.inl rfl,.inr rfl,fun p hp=>by simp at hp,fun b hb=>?_,fun b hb=>?_,bV.nil⟩,by omega,Nat.le_refl _,hb⟩;·have:=heap_alloc_new (w.alloc (.map #[] 0)) (setObj w.heap.size);simpa using this
 ·simp;rcases hb with rfl|rfl<;>omega
 ·rcases hb with rfl|rfl;·exact .inl rfl
  ·exact .inr (.inl rfl)
theorem cZ.typ{w:World}{v:Value}{rs:Rg}(h:cZ w v rs){b:Nat}(hb:v.ownBlock=some b): ∃cs,w.heap[b]?=some (.cells cs 153 (0,0)):=by
 rcases h.2 with⟨rfl,_⟩|⟨g,cap,cur,rfl,_,hg,_⟩;·cases hb
 ·injection hb with hb;subst hb;exact⟨cur,hg⟩
theorem vH{α β:Type}(f:List UInt8×α→β)(x:List UInt8×α): ∀m:Row α,(fM x m).map (fun p=>(p.1,f p))=fM (x.1,f x) (m.map fun p=>(p.1,f p))
 |[]=>rfl
 |z::r=>by
  simp only[fM,List.map_cons];split;·rfl
  ·simp only[List.map_cons,vH f x r]
theorem D7(m:dV)(s:List UInt8)(rs:Rg)(V:List UInt8→Value)(v:Value):(aR s rs m).map (fun p=>(p.1,(fun k=>if k=s then v else V k) p.1))=aR s v (m.map fun p=>(p.1,V p.1)):=by
 unfold aR;rw[vH (fun p=>(fun k=>if k=s then v else V k) p.1)];simp only[if_true];congr 1;induction m with
  |nil=>rfl
  |cons p r ih=>
   by_cases e:p.1=s;·simp[e];simpa using ih
   ·simp[e];simpa using ih
theorem aX.stored{w1 w2 w3:World}{G:Nat→Prop}{bs bm:Nat}{m:dV}{V:List UInt8→Value}(h:aX w1 G bs bm m V)(s:List UInt8)(v v':Value)(rs':Rg)(hv0:aA m s=none→v=.slice none 0 0)(hv1: ∀rs,aA m s=some rs→v=V s)(hg:w1.grownBy w2 v.ownBlock)(hown:cZ w2 v' rs')(hb:v'.ownBlock=v.ownBlock∨ ∃k,v'.ownBlock=some k∧w1.heap.size≤k)(hne:v'.ownBlock≠none)(hm:bW w3 bm (aR s v' (m.map fun p=>(p.1,V p.1))))(hg3:w2.grownBy w3 (some bm))(hok:bV (aR s rs' m)):aX w3 (fun b=>(G b∧(v.ownBlock=some b→v'.ownBlock=some b))∨(w1.heap.size≤b∧b<w3.heap.size∧v'.ownBlock=some b)) bs bm (aR s rs' m) (fun k=>if k=s then v' else V k)∧ai G w1 w3:=by
 obtain⟨es,cl,hmap⟩:=h.map.isMap;have hrow: ∀b,v.ownBlock=some b→G b∧ ∃rs,(s,rs)∈m∧v=V s∧ ∃cs,w1.heap[b]?=some (.cells cs 153 (0,0)):=fun b hb=>by cases hgs:aA m s with|none=>rw[hv0 hgs]at hb;cases hb|some rs=>have e:=hv1 rs hgs;have hmem:=ah hgs;rw[e]at hb;exact⟨h.foot _ hmem b hb,rs,hmem,e,(h.own _ hmem).typ hb⟩
 have hmr:v.ownBlock≠some bm:=fun e=>by obtain⟨_,_,_,_,cs,hc⟩:=hrow bm e;rw[hmap]at hc;cases hc
 have qX:v.ownBlock≠some bs:=fun e=>by obtain⟨_,_,_,_,cs,hc⟩:=hrow bs e;rw[h.blk]at hc;injection hc with hc;injection hc with _ ht;exact absurd ht (by decide)
 have hms:bm≠bs:=fun e=>by subst e;rw[h.blk]at hmap;cases hmap
 have hm2:w2.heap[bm]?=some (.map es cl):=(hg.block bm (h.lt _ h.gm) (Ne.symm hmr)).trans hmap;have hs2:w1.heap.size≤w2.heap.size:=hg.size;have hs3:w2.heap.size≤w3.heap.size:=hg3.size;have oo: ∀b,b<w1.heap.size→some b≠v.ownBlock→b≠bm→w3.heap[b]?=w1.heap[b]?:=fun b hb h1 h2=>(hg3.block b (by omega) (fun e=>h2 (by injection e))).trans (hg.block b hb h1);have hown3:cZ w3 v' rs':=hown.keep fun b hb'=>by refine hg3.block b (World.ownsRow.lt hown b hb').2 fun e=>?_;injection e with e;subst e;obtain⟨cs,hc⟩:=hown.typ hb';rw[hm2]at hc;cases hc
 have hoth: ∀p∈m,p.1≠s→(V p.1).ownBlock≠v.ownBlock∨v.ownBlock=none:=fun p hp hps=>by cases hvb:v.ownBlock with|none=>exact .inr rfl|some b=>obtain⟨_,rs,hmem,e,_⟩:=hrow b hvb;left;rw[←hvb,e];exact h.apart p hp (s,rs) hmem hps
 have Es: ∀p∈m,p.1≠s→cZ w3 (V p.1) p.2:=fun p hp hps=>(h.own p hp).keep fun b hb'=>by
  refine oo b (World.ownsRow.lt (h.own p hp) b hb').2 (fun e=>?_) (fun e=>?_)
  ·rcases hoth p hp hps with h'|h';·exact h' (hb'.trans e)
   ·rw[h']at e;cases e
  ·subst e;obtain⟨cs,hc⟩:=(h.own p hp).typ hb';rw[hmap]at hc;cases hc
 have hap: ∀q∈m,q.1≠s→v'.ownBlock≠(V q.1).ownBlock:=fun q hq JI e=>by
  rcases hb with h'|⟨k,hk,hkl⟩
  ·rcases hoth q hq JI with h2|h2;·exact h2 (e.symm.trans h')
   ·exact hne (h'.trans h2)
  ·have:=(World.ownsRow.lt (h.own q hq) k (e.symm.trans hk)).2;omega
 refine⟨⟨?_,?_,?_,?_,.inl ⟨h.gs,fun e=>absurd e qX⟩,.inl ⟨h.gm,fun e=>absurd e hmr⟩,?_,?_,?_,hok⟩,?_⟩;·exact(oo bs (h.lt _ h.gs) (Ne.symm qX) (Ne.symm hms)).trans h.blk
 ·rw[D7];exact hm
 ·intro p hp;rcases aF.1 hp with rfl|⟨hp,hps⟩;·simpa using hown3
  ·simp only[hps,if_false];exact Es p hp hps
 ·intro p hp q hq hpq;rcases aF.1 hp with rfl|⟨hp,hps⟩<;>rcases aF.1 hq with rfl|⟨hq,JI⟩;·exact absurd rfl hpq
  ·simp only[if_true,JI,if_false];exact hap q hq JI
  ·simp only[if_true,hps,if_false];exact Ne.symm (hap p hp hps)
  ·simp only[hps,JI,if_false];exact h.apart p hp q hq hpq
 ·intro p hp b hb';rcases aF.1 hp with rfl|⟨hp,hps⟩
  ·simp only[if_true]at hb';rcases hb with h'|⟨k,hk,hkl⟩;·exact .inl ⟨(hrow b (h'.symm.trans hb')).1,fun _=>hb'⟩
   ·right;rw[hk]at hb';injection hb' with hb';subst hb';exact⟨hkl,(World.ownsRow.lt hown3 k hk).2,hk⟩
  ·simp only[hps,if_false]at hb';refine .inl ⟨h.foot p hp b hb',fun e=>?_⟩;rcases hoth p hp hps with h'|h';·exact absurd (hb'.trans e.symm) h'
   ·rw[h']at e;cases e
 ·rintro b(⟨hb',_⟩|⟨_,hb',_⟩);·have:=h.lt b hb';omega
  ·exact hb'
 ·rintro b(⟨hb',hbb⟩|⟨h1,h2,h3⟩)
  ·rcases h.typ b hb' with e|e|⟨cs,hc⟩;·exact .inl e
   ·exact .inr (.inl e)
   ·by_cases hbv:v.ownBlock=some b;·exact .inr (.inr (hown3.typ (hbb hbv)))
    ·exact .inr (.inr ⟨cs,(oo b (h.lt b hb') (Ne.symm hbv) (fun e=>by subst e;rw[hmap]at hc;cases hc)).trans hc⟩)
  ·exact .inr (.inr (hown3.typ h3))
 ·refine⟨hg3.os.trans hg.os,hg3.tape.trans hg.tape,hg3.output.trans hg.output,by omega,fun b hb' Ug=>oo b hb' (fun e=>Ug (hrow b e.symm).1) (fun e=>Ug (by rw[e];exact h.gm))⟩
end Go.Proofs.YtladegonienapaaGreatDoor
