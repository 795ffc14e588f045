/-
  Layer 7, the document's: Ranges.
-/
import Derived.Test.YtbejfgmdkmddnaaGreatDoorVRHad4
set_option maxRecDepth 100000
set_option maxHeartbeats 16000000
namespace Go.Proofs.YtbejfgmdkmddnaaGreatDoor
open Go.RowKit Go.Maps Go.Sort
def rgCells(rs:Rg):List Value:=rs.flatMap fun r=>[.int .i64 r.1,.int .i64 r.2]
theorem o8(rs:Rg):(rgCells rs).length=rs.length*2:=by induction rs with|nil=>rfl|cons r rs ih=>simp only[rgCells,List.flatMap_cons,List.length_append,List.length_cons]at*;rw[ih];simp;omega
theorem eQ(r:Int×Int)(rs:Rg):rgCells (r::rs)=.int .i64 r.1::.int .i64 r.2::rgCells rs:=rfl
theorem aV(a b:Rg):rgCells (a++b)=rgCells a++rgCells b:=by simp[rgCells]
theorem iQ: ∀(rs:Rg)(k:Nat)(hk:k<rs.length),(rgCells rs)[k*2]?=some (.int .i64 rs[k].1)∧(rgCells rs)[k*2+1]?=some (.int .i64 rs[k].2)|r::rs,0,_=>⟨rfl,rfl⟩|r::rs,k+1,hk=>by have:=iQ rs k (by simpa using hk);rw[eQ];rw[show(k+1)*2=k*2+1+1 by omega];simpa using this
theorem dZ: ∀(rs:Rg)(k:Nat)(hk:k<rs.length)(t:Int),(rgCells rs).set (k*2+1) (.int .i64 t)=rgCells (rs.set k (rs[k].1,t))|r::rs,0,_,t=>rfl|r::rs,k+1,hk,t=>by have:=dZ rs k (by simpa using hk) t;rw[eQ,show(k+1)*2+1=k*2+1+1+1 by omega];simp only[List.set_cons_succ,eQ,List.getElem_cons_succ];rw[this]
theorem fE: ∀(rs:Rg)(k:Nat)(hk:k<rs.length)(t:Int),(rgCells rs).set (k*2) (.int .i64 t)=rgCells (rs.set k (t,rs[k].2))|r::rs,0,_,t=>rfl|r::rs,k+1,hk,t=>by have:=fE rs k (by simpa using hk) t;rw[eQ,show(k+1)*2=k*2+1+1 by omega];simp only[List.set_cons_succ,eQ,List.getElem_cons_succ];rw[this]
theorem iZ(rs:Rg)(k:Nat):(rgCells rs).take (k*2)=rgCells (rs.take k):=by induction rs generalizing k with|nil=>simp[rgCells]|cons r rs ih=>cases k with|zero=>simp[rgCells]|succ k=>rw[eQ,show(k+1)*2=k*2+1+1 by omega];simp only[List.take_succ_cons,eQ,ih k]
theorem ja(rs:Rg)(k:Nat):(rgCells rs).drop (k*2)=rgCells (rs.drop k):=by induction rs generalizing k with|nil=>simp[rgCells]|cons r rs ih=>cases k with|zero=>simp|succ k=>rw[eQ,show(k+1)*2=k*2+1+1 by omega];simp only[List.drop_succ_cons,ih k]
theorem eB(rs:Rg): ∀u∈rgCells rs,u.oneCell'=true:=by intro u hu;simp only[rgCells,List.mem_flatMap]at hu;obtain⟨r,_,hr⟩:=hu;simp at hr;rcases hr with rfl|rfl<;>rfl
def eY(w:World)(v:Value)(rs:Rg):Prop:=w.ownsRow 0 173 2 v rs.length (rgCells rs)
theorem eY.cell{w:World}{rs:Rg}{g cap n:Nat}(h:eY w (.slice (some ⟨g,0,none⟩) n cap) rs)(k:Nat)(hk:k<rs.length):w.cell? ⟨g,k*2,none⟩=some (.int .i64 rs[k].1)∧w.cell? ⟨g,k*2+1,none⟩=some (.int .i64 rs[k].2)∧w.frozen? ⟨g,k*2,none⟩=false∧w.frozen? ⟨g,k*2+1,none⟩=false:=by
 have hn:n=rs.length:=by
  rcases h.2 with⟨h',_⟩|⟨_,_,_,h',_⟩;·cases h'
  ·injection h'
 subst hn;have hg:=iQ rs k hk;refine⟨?_,?_,World.ownsRow.frozenAt h _,World.ownsRow.frozenAt h _⟩;·rw[World.ownsRow.cellAt h (k*2) (by omega)];exact hg.1
 ·rw[World.ownsRow.cellAt h (k*2+1) (by omega)];exact hg.2
theorem eY.keep{w w':World}{v:Value}{rs:Rg}(h:eY w v rs)(hb: ∀b,v.ownBlock=some b→w'.heap[b]?=w.heap[b]?):eY w' v rs:=by
 refine⟨h.1,?_⟩;rcases h.2 with h'|⟨g,cap,cur,rfl,hb',hg,hr⟩;·exact .inl h'
 ·exact .inr ⟨g,cap,cur,rfl,hb',(hb g rfl).trans hg,hr⟩
theorem eY.up{w w':World}{v:Value}{rs:Rg}(h:eY w v rs)(hb:Below w.heap.size w w'):eY w' v rs:=h.keep fun b e=>hb.block b (World.ownsRow.lt h b e).2
theorem Ia(w:World)(b1 b2 g n cap:Nat)(x:Int)(k:Nat)(hk:k<n)(t:Int)(hc1:w.cell? ⟨b1,0,none⟩=some (.slice (some ⟨g,0,none⟩) n cap))(hc2:w.cell? ⟨b2,0,none⟩=some (.int .i64 x))(ht:w.cell? ⟨g,k*2+1,none⟩=some (.int .i64 t)):Calls Tryz.prog 188 (#[.int .i64 k]++ #[.pointer (some ⟨b1,0,none⟩),.pointer (some ⟨b2,0,none⟩)]) w (Says (decide (x<t)) w):=by
 show Calls Tryz.prog 188 #[.int .i64 k,.pointer (some ⟨b1,0,none⟩),.pointer (some ⟨b2,0,none⟩)] w (Says (decide (x<t)) w);have hk':(k:Int)<n:=by omega
 go_enter Tryz.func188,Tryz.ntmps188;go_wp2;go_quiet(fail);go_wp2;go_ret;exact⟨rfl,below_drewN (Below.refl _ _) _⟩
def M5(rs:Rg)(n:Int)(w:World)(e:Ending)(w':World):Prop:=e=.returned (.int .i64 (fJ rs n))∧Below w.heap.size w w'
theorem Bc(w:World)(v:Value)(rs:Rg)(hown:eY w v rs)(ok:RgOk rs)(hlen:rs.length≤1000000)(n:Int):Calls Tryz.prog 142 #[v,.int .i64 n] w (M5 rs n w):=by
 have HO:=qH hown;have HK:=qH ok;obtain⟨A,c,rfl⟩:=ownsRow_form hown;have hmax:c≤maxLen:=by
  rcases hown.2 with⟨e,_⟩|⟨_,_,_,e,_,_,_,h,_⟩;·injection e with _ _ e;subst e;unfold maxLen;omega
  ·injection e with _ _ e;subst e;exact h
 clear hown ok;go_enter Tryz.func142,Tryz.ntmps142;go_wp2_with fail;have bJ:Below w.heap.size w ((w.alloc (.cells #[.slice A rs.length c] 171)).alloc (.cells #[.int .i64 n] 3)):=((Below.refl _ _).alloc (Nat.le_refl _) _).alloc (by simp) _;have MB:((w.alloc (.cells #[.slice A rs.length c] 171)).alloc (.cells #[.int .i64 n] 3)).cell? ⟨w.heap.size,0,none⟩=some (.slice A rs.length c):=by rw[World.cell?_alloc_lt _ _ _ (by simp)];exact cell_of_row _ w.heap.size 0 _ _ (0,0) (heap_alloc_new w _)
 have hA1:((w.alloc (.cells #[.slice A rs.length c] 171)).alloc (.cells #[.int .i64 n] 3)).cell? ⟨w.heap.size+1,0,none⟩=some (.int .i64 n):=by simp
 have hsz:((w.alloc (.cells #[.slice A rs.length c] 171)).alloc (.cells #[.int .i64 n] 3)).heap.size=w.heap.size+2:=by simp
 generalize(w.alloc (.cells #[.slice A rs.length c] 171)).alloc (.cells #[.int .i64 n] 3)=w1 at*;have Ak:=qH (HO.o.up bJ);have WU:=qH MB;have HA1:=qH hA1;clear MB hA1;refine(ru w1 188 #[.pointer (some ⟨w.heap.size,0,none⟩),.pointer (some ⟨w.heap.size+1,0,none⟩)] rs.length (fun i=>decide (n<(rs.getD i (0,0)).2)) (by omega) (fun _ _=>by kernel_rfl) ?_ ?_).mono ?_
 ·intro w2 i hb2 hi;have hg: ∃g,A=some ⟨g,0,none⟩:=by
   rcases HO.o.2 with⟨e,h0⟩|⟨g,_,_,e,_⟩;·omega
   ·exact⟨g,by injection e⟩
  obtain⟨g,rfl⟩:=hg;have hc:=((Ak.o.up hb2).cell i hi).2.1;have e:rs.getD i (0,0)=rs[i]:=by simp[List.getD,List.getElem?_eq_getElem hi]
  simp only[e];exact Ia w2 _ _ g rs.length c n i hi _ ((hb2.cell (p:=⟨w.heap.size,0,none⟩) (by simp only;omega)).trans WU.o) ((hb2.cell (p:=⟨w.heap.size+1,0,none⟩) (by simp only;omega)).trans HA1.o) hc
 ·intro i j hij hj hp;have:=RN HK.o i j hij hj;simp only[List.getD,List.getElem?_eq_getElem hj,List.getElem?_eq_getElem (show i<rs.length by omega),Option.getD_some,decide_eq_true_eq]at*;omega
 ·rintro e w2⟨k,rfl,hkl,h1,h2,hb2⟩;have HP:=qH (H9 (rs:=rs) (n:=n) k hkl (fun i hi hlt=>by have:=h1 i hlt;simp only[List.getD,List.getElem?_eq_getElem hi,Option.getD_some,decide_eq_false_iff_not]at this;omega) (fun i hi hge=>by have:=h2 i hge hi;simpa only[List.getD,List.getElem?_eq_getElem hi,Option.getD_some,decide_eq_true_eq]using this));have HB:=qH (bJ.trans (hb2.mono (by omega)));clear h1 h2 hb2;go_wp2;go_ret;exact⟨by rw[←HP.o];rfl,HB.o⟩
abbrev setObj(bm:Nat):Obj:=.cells #[.map (some bm)] 139
structure cO(w:World)(G:Nat→Prop)(bs bm:Nat)(m:eZ)(V:List UInt8→Value):Prop where
 blk:w.heap[bs]?=some (setObj bm)
 map:gH w bm (m.map fun p=>(p.1,V p.1))
 own: ∀p∈m,eY w (V p.1) p.2
 apart: ∀p∈m,∀q∈m,p.1≠q.1→(V p.1).ownBlock≠(V q.1).ownBlock
 gs:G bs
 gm:G bm
 foot: ∀p∈m,∀b,(V p.1).ownBlock=some b→G b
 lt: ∀b,G b→b<w.heap.size
 typ: ∀b,G b→b=bs∨b=bm∨ ∃cs,w.heap[b]?=some (.cells cs 173 (0,0))
 ok:dJ m
section
variable{w w':World}{G:Nat→Prop}{bs bm:Nat}{m:eZ}{V:List UInt8→Value}
theorem cO.keep(h:cO w G bs bm m V)(hsz:w.heap.size≤w'.heap.size)(hk: ∀b,G b→w'.heap[b]?=w.heap[b]?):cO w' G bs bm m V:=⟨(hk _ h.gs).trans h.blk,h.map.block (hk _ h.gm),fun p hp=>(h.own p hp).keep fun b hb=>hk b (h.foot p hp b hb),h.apart,h.gs,h.gm,h.foot,fun b hb=>Nat.lt_of_lt_of_le (h.lt b hb) hsz,fun b hb=>(h.typ b hb).imp id fun h'=>h'.imp id fun⟨cs,hc⟩=>⟨cs,(hk b hb).trans hc⟩,h.ok⟩
theorem cO.up(h:cO w G bs bm m V)(hb:Below w.heap.size w w'):cO w' G bs bm m V:=h.keep hb.size fun b hg=>hb.block b (h.lt b hg)
theorem cO.cell(h:cO w G bs bm m V):w.cell? ⟨bs,0,none⟩=some (.map (some bm)):=cell_of_row w bs 0 _ _ (0,0) h.blk
theorem JO(w:World):(zeroValue 171).run Tryz.prog w=.ok (.slice none 0 0) w:=by kernel_rfl
theorem cO.look(h:cO w G bs bm m V)(s:List UInt8)(hs:s.length≤1000000000): ∃v,(Instr.lookup 137 (.map (some bm)) (.string ⟨s.toArray⟩) false).run Tryz.prog w=.ok v w∧eY w v (aM m s)∧(bO m s=none→v=.slice none 0 0)∧(∀rs,bO m s=some rs→v=V s):=by
 refine⟨_,h.map.look s (by unfold maxLen;omega) _ _ Tryz.underlying137 _ (JO w),?_⟩;have e:(bO (m.map fun p=>(p.1,V p.1)) s)=(bO m s).map fun _=>V s:=by unfold bO;rw[List.find?_map];have:((fun p:List UInt8×Value=>p.1==s)∘fun p:List UInt8×Rg=>(p.1,V p.1))=fun p=>p.1==s:=rfl;rw[this];cases hf:m.find? fun p=>p.1==s with|none=>rfl|some p=>have:=List.find?_some hf;simp at this;simp[this]
 rw[e];cases hg:bO m s with|none=>refine⟨?_,fun _=>rfl,(fun _ h=>by cases h)⟩;unfold aM;rw[hg];exact World.ownsRow_nil w 0 _ 2|some rs=>refine⟨?_,(fun h=>by cases h),fun _ _=>rfl⟩;unfold aM;rw[hg];exact h.own _ (gP hg)
end
theorem xC(w:World)(G:Nat→Prop)(bs bm:Nat)(m:eZ)(V:List UInt8→Value)(h:cO w G bs bm m V)(s:List UInt8)(hs:s.length≤1000000000)(hlen:(aM m s).length≤1000000)(n:Int):Calls Tryz.prog 82 #[.pointer (some ⟨bs,0,none⟩),.string ⟨s.toArray⟩,.int .i64 n] w (Says (hadB m s n) w):=by
 have HB:=qH (Ke (h.ok.row s) n);have jU:=qH (h.ok.row s);have hc:=h.cell;have ZM:=qS (hadB m s n=eD (aM m s) n) (rfl);obtain⟨v,hl,hown,_,_⟩:=h.look s hs;generalize aM m s=rs at*;obtain⟨A,c,rfl⟩:=ownsRow_form hown;have HO:=qH hown;have hpl:=Om rs n;clear h hown;go_enter Tryz.func82,Tryz.ntmps82;go_wp2_with fail;refine(Bc w _ rs HO.o jU.o hlen n).mono ?_;rintro e w1⟨rfl,hb1⟩;have Ak:=qH (HO.o.up hb1);clear hl hc;by_cases hlt:fJ rs n<rs.length
 ·have hA: ∃g,A=some ⟨g,0,none⟩:=by
   rcases HO.o.2 with⟨e,h0⟩|⟨g,_,_,e,_⟩;·omega
   ·exact⟨g,by injection e⟩
  obtain⟨g,rfl⟩:=hA;have hcc:=(Ak.o.cell (fJ rs n) hlt).1;have HX:=qS (hadB m s n=decide (rs[fJ rs n].1≤n)) (by rw[ZM.o,HB.o];simp[hlt]);generalize rs[fJ rs n].1=x at*;generalize fJ rs n=k at*;have ht:(k:Int)<rs.length:=by omega
  go_wp2;go_ret;exact⟨ae HX.o.symm,hb1⟩
 ·have HX:=qS (hadB m s n=false) (by rw[ZM.o,HB.o];simp[hlt]);generalize fJ rs n=k at*;have ht: ¬(k:Int)<rs.length:=by omega
  go_wp2;go_ret;exact⟨ae HX.o.symm,hb1⟩
def Jm(w:World)(e:Ending)(w':World):Prop:= ∃bs bm,e=.returned (.pointer (some ⟨bs,0,none⟩))∧cO w' (fun b=>b=bs∨b=bm) bs bm [] (fun _=>.slice none 0 0)∧w.heap.size≤bs∧w.heap.size≤bm∧Below w.heap.size w w'
theorem rM(w:World):Calls Tryz.prog 35 #[] w (Jm w):=by
 have hmm:= @run_makeMap Tryz.prog;go_enter Tryz.func35,Tryz.ntmps35;go_wp2;go_ret;have hb:Below w.heap.size w ((w.alloc (.map #[] 0)).alloc (setObj w.heap.size)):=((Below.refl _ _).alloc (Nat.le_refl _) _).alloc (by simp) _;refine⟨w.heap.size+1,w.heap.size,rfl,⟨?_,(gH.made w).block (Below.heap_alloc _ _ _ (by simp)),fun p hp=>by simp at hp,fun p hp=>by simp at hp,.inl rfl,.inr rfl,fun p hp=>by simp at hp,fun b hb=>?_,fun b hb=>?_,dJ.nil⟩,by omega,Nat.le_refl _,hb⟩;·have:=heap_alloc_new (w.alloc (.map #[] 0)) (setObj w.heap.size);simpa using this
 ·simp;rcases hb with rfl|rfl<;>omega
 ·rcases hb with rfl|rfl;·exact .inl rfl
  ·exact .inr (.inl rfl)
theorem eY.typ{w:World}{v:Value}{rs:Rg}(h:eY w v rs){b:Nat}(hb:v.ownBlock=some b): ∃cs,w.heap[b]?=some (.cells cs 173 (0,0)):=by
 rcases h.2 with⟨rfl,_⟩|⟨g,cap,cur,rfl,_,hg,_⟩;·cases hb
 ·injection hb with hb;subst hb;exact⟨cur,hg⟩
theorem uX{α β:Type}(f:List UInt8×α→β)(x:List UInt8×α): ∀m:Row α,(iD x m).map (fun p=>(p.1,f p))=iD (x.1,f x) (m.map fun p=>(p.1,f p))
 |[]=>rfl
 |z::r=>by
  simp only[iD,List.map_cons];split;·rfl
  ·simp only[List.map_cons,uX f x r]
theorem LD(m:eZ)(s:List UInt8)(rs:Rg)(V:List UInt8→Value)(v:Value):(bL s rs m).map (fun p=>(p.1,(fun k=>if k=s then v else V k) p.1))=bL s v (m.map fun p=>(p.1,V p.1)):=by
 unfold bL;rw[uX (fun p=>(fun k=>if k=s then v else V k) p.1)];simp only[if_true];congr 1;induction m with
  |nil=>rfl
  |cons p r ih=>
   by_cases e:p.1=s;·simp[e];simpa using ih
   ·simp[e];simpa using ih
theorem cO.stored{w1 w2 w3:World}{G:Nat→Prop}{bs bm:Nat}{m:eZ}{V:List UInt8→Value}(h:cO w1 G bs bm m V)(s:List UInt8)(v v':Value)(rs':Rg)(hv0:bO m s=none→v=.slice none 0 0)(hv1: ∀rs,bO m s=some rs→v=V s)(hg:w1.grownBy w2 v.ownBlock)(hown:eY w2 v' rs')(hb:v'.ownBlock=v.ownBlock∨ ∃k,v'.ownBlock=some k∧w1.heap.size≤k)(hne:v'.ownBlock≠none)(hm:gH w3 bm (bL s v' (m.map fun p=>(p.1,V p.1))))(hg3:w2.grownBy w3 (some bm))(hok:dJ (bL s rs' m)):cO w3 (fun b=>(G b∧(v.ownBlock=some b→v'.ownBlock=some b))∨(w1.heap.size≤b∧b<w3.heap.size∧v'.ownBlock=some b)) bs bm (bL s rs' m) (fun k=>if k=s then v' else V k)∧ak G w1 w3:=by
 obtain⟨es,cl,hmap⟩:=h.map.isMap;have hrow: ∀b,v.ownBlock=some b→G b∧ ∃rs,(s,rs)∈m∧v=V s∧ ∃cs,w1.heap[b]?=some (.cells cs 173 (0,0)):=fun b hb=>by cases hgs:bO m s with|none=>rw[hv0 hgs]at hb;cases hb|some rs=>have e:=hv1 rs hgs;have hmem:=gP hgs;rw[e]at hb;exact⟨h.foot _ hmem b hb,rs,hmem,e,(h.own _ hmem).typ hb⟩
 have hmr:v.ownBlock≠some bm:=fun e=>by obtain⟨_,_,_,_,cs,hc⟩:=hrow bm e;rw[hmap]at hc;cases hc
 have zW:v.ownBlock≠some bs:=fun e=>by obtain⟨_,_,_,_,cs,hc⟩:=hrow bs e;rw[h.blk]at hc;injection hc with hc;injection hc with _ ht;exact absurd ht (by decide)
 have hms:bm≠bs:=fun e=>by subst e;rw[h.blk]at hmap;cases hmap
 have hm2:w2.heap[bm]?=some (.map es cl):=(hg.block bm (h.lt _ h.gm) (Ne.symm hmr)).trans hmap;have hs2:w1.heap.size≤w2.heap.size:=hg.size;have hs3:w2.heap.size≤w3.heap.size:=hg3.size;have tN: ∀b,b<w1.heap.size→some b≠v.ownBlock→b≠bm→w3.heap[b]?=w1.heap[b]?:=fun b hb h1 h2=>(hg3.block b (by omega) (fun e=>h2 (by injection e))).trans (hg.block b hb h1);have hown3:eY w3 v' rs':=hown.keep fun b hb'=>by refine hg3.block b (World.ownsRow.lt hown b hb').2 fun e=>?_;injection e with e;subst e;obtain⟨cs,hc⟩:=hown.typ hb';rw[hm2]at hc;cases hc
 have hoth: ∀p∈m,p.1≠s→(V p.1).ownBlock≠v.ownBlock∨v.ownBlock=none:=fun p hp hps=>by cases hvb:v.ownBlock with|none=>exact .inr rfl|some b=>obtain⟨_,rs,hmem,e,_⟩:=hrow b hvb;left;rw[←hvb,e];exact h.apart p hp (s,rs) hmem hps
 have Ms: ∀p∈m,p.1≠s→eY w3 (V p.1) p.2:=fun p hp hps=>(h.own p hp).keep fun b hb'=>by
  refine tN b (World.ownsRow.lt (h.own p hp) b hb').2 (fun e=>?_) (fun e=>?_)
  ·rcases hoth p hp hps with h'|h';·exact h' (hb'.trans e)
   ·rw[h']at e;cases e
  ·subst e;obtain⟨cs,hc⟩:=(h.own p hp).typ hb';rw[hmap]at hc;cases hc
 have hap: ∀q∈m,q.1≠s→v'.ownBlock≠(V q.1).ownBlock:=fun q hq Mq e=>by
  rcases hb with h'|⟨k,hk,hkl⟩
  ·rcases hoth q hq Mq with h2|h2;·exact h2 (e.symm.trans h')
   ·exact hne (h'.trans h2)
  ·have:=(World.ownsRow.lt (h.own q hq) k (e.symm.trans hk)).2;omega
 refine⟨⟨?_,?_,?_,?_,.inl ⟨h.gs,fun e=>absurd e zW⟩,.inl ⟨h.gm,fun e=>absurd e hmr⟩,?_,?_,?_,hok⟩,?_⟩;·exact(tN bs (h.lt _ h.gs) (Ne.symm zW) (Ne.symm hms)).trans h.blk
 ·rw[LD];exact hm
 ·intro p hp;rcases jb.1 hp with rfl|⟨hp,hps⟩;·simpa using hown3
  ·simp only[hps,if_false];exact Ms p hp hps
 ·intro p hp q hq hpq;rcases jb.1 hp with rfl|⟨hp,hps⟩<;>rcases jb.1 hq with rfl|⟨hq,Mq⟩;·exact absurd rfl hpq
  ·simp only[if_true,Mq,if_false];exact hap q hq Mq
  ·simp only[if_true,hps,if_false];exact Ne.symm (hap p hp hps)
  ·simp only[hps,Mq,if_false];exact h.apart p hp q hq hpq
 ·intro p hp b hb';rcases jb.1 hp with rfl|⟨hp,hps⟩
  ·simp only[if_true]at hb';rcases hb with h'|⟨k,hk,hkl⟩;·exact .inl ⟨(hrow b (h'.symm.trans hb')).1,fun _=>hb'⟩
   ·right;rw[hk]at hb';injection hb' with hb';subst hb';exact⟨hkl,(World.ownsRow.lt hown3 k hk).2,hk⟩
  ·simp only[hps,if_false]at hb';refine .inl ⟨h.foot p hp b hb',fun e=>?_⟩;rcases hoth p hp hps with h'|h';·exact absurd (hb'.trans e.symm) h'
   ·rw[h']at e;cases e
 ·rintro b(⟨hb',_⟩|⟨_,hb',_⟩);·have:=h.lt b hb';omega
  ·exact hb'
 ·rintro b(⟨hb',hbb⟩|⟨h1,h2,h3⟩)
  ·rcases h.typ b hb' with e|e|⟨cs,hc⟩;·exact .inl e
   ·exact .inr (.inl e)
   ·by_cases hbv:v.ownBlock=some b;·exact .inr (.inr (hown3.typ (hbb hbv)))
    ·exact .inr (.inr ⟨cs,(tN b (h.lt b hb') (Ne.symm hbv) (fun e=>by subst e;rw[hmap]at hc;cases hc)).trans hc⟩)
  ·exact .inr (.inr (hown3.typ h3))
 ·refine⟨hg3.os.trans hg.os,hg3.tape.trans hg.tape,hg3.output.trans hg.output,by omega,fun b hb' hnG=>tN b hb' (fun e=>hnG (hrow b e.symm).1) (fun e=>hnG (by rw[e];exact h.gm))⟩
def xH(w:World)(n:Nat)(e:Ending)(w':World):Prop:=e=.returned (.string ⟨(aJ n).toArray⟩)∧Below w.heap.size w w'
theorem sU(n:Nat): ∀(_:n<4611686018427387904)(w:World),Calls Tryz.prog 125 #[.int .i64 n] w (xH w n):=by
 induction n using Nat.strongRecOn with
  |_ n ih=>
   intro hn w;by_cases hlo:n<128
   ·have HB:=qH (jK hlo);have kc:=conv1;have t1:(n:Int)<128:=by omega
    clear ih;go_enter Tryz.func125,Tryz.ntmps125;go_wp2;go_ret;refine⟨?_,(Below.refl _ _).alloc (Nat.le_refl _) _⟩;rw[HB.o];first|rfl|(simp;done)
   ·obtain⟨q,r,hq,hr,hqr,hr8⟩: ∃q r:Nat,q=n/128∧r=n%128∧q<n∧r<128:=⟨_,_,rfl,rfl,by omega,by omega⟩;have HB:=qS (aJ n=UInt8.ofNat (r+128)::aJ q) (by rw[ma hlo,hq,hr]);have HIH:=qS (∀W,Calls Tryz.prog 125 #[.int .i64 (q:Int)] W (xH W q)) (fun W=>ih q hqr (by omega) W);have t1: ¬(n:Int)<128:=by omega
    have HS:=qS (∀W:World,(W.alloc (.cells #[.int .u8 (128+(r:Int))] 5)).heap.size=W.heap.size+1) (fun W=>by simp);have hln:(aJ q).length≤9000000000000000000:=by have:=bH (n:=q) (by omega);omega
    have HLZ:=qS (¬9223372036854775807<1+(aJ q).length) (by omega);obtain⟨cc,hcc⟩: ∃cc,cc=UInt8.ofNat (128+(r:Int)).toNat:=⟨_,rfl⟩;have HF:=qS (∀W:World,Below w.heap.size w W→xH w n (.returned (.string (⟨#[cc]⟩++⟨(aJ q).toArray⟩))) W) (fun W hW=>⟨by have:=eH [cc] (aJ q);rw[HB.o];rw[show UInt8.ofNat (r+128)=cc by rw[hcc,show(128+(r:Int)).toNat=r+128 by omega]];exact congrArg (fun z=>Ending.returned (Value.string z)) this.symm,hW⟩);have nG:=qH hcc;have hb1:Below w.heap.size w (w.alloc (.cells #[.int .u8 (128+(r:Int))] 5)).drew:=((Below.refl _ _).alloc (Nat.le_refl _) _).drew;have uA:=qS (∀W,Below (w.alloc (.cells #[.int .u8 (128+(r:Int))] 5)).drew.heap.size (w.alloc (.cells #[.int .u8 (128+(r:Int))] 5)).drew W→Below w.heap.size w W) (fun W h=>hb1.trans (h.mono hb1.size));have zB:=qS (∀W,Below w.drew.heap.size w.drew W→Below w.heap.size w W) (fun W h=>(Below.refl w.heap.size w).drew.trans h);clear hcc hb1;have HW:=qS (∀w2:World,Below (w.alloc (.cells #[.int .u8 (128+(r:Int))] 5)).drew.heap.size (w.alloc (.cells #[.int .u8 (128+(r:Int))] 5)).drew w2→w2.cell? ⟨w.heap.size,0,none⟩=some (.int .u8 (128+(r:Int)))) (fun w2 h2=>(h2.cell (p:=⟨w.heap.size,0,none⟩) (by simp)).trans (cell_of_row _ w.heap.size 0 _ _ (0,0) (heap_alloc_new w _)));obtain⟨e1,e2,e5,e3,e4⟩:(n:Int).tmod 128=(r:Int)∧(n:Int).tdiv 128=(q:Int)∧IntKind.i64.wrap (q:Int)=(q:Int)∧IntKind.i64.wrap (128+(r:Int))=128+(r:Int)∧IntKind.u8.wrap (128+(r:Int))=128+(r:Int):=⟨by rw[hr];exact(Int.ofNat_tmod n 128).symm,by rw[hq];exact(Int.ofNat_tdiv n 128).symm,IntWalk.i64_in _ (by omega),IntWalk.i64_in _ (by omega),by simp[IntKind.wrap,IntKind.bits,IntKind.signed];omega⟩;clear ih hlo hq hr;go_enter Tryz.func125,Tryz.ntmps125;go_wp2;have kc:=PN w (128+(r:Int));rw[←nG.o]at kc;have hlz: ¬9223372036854775807<1+(aJ q).length:=HLZ.o;go_region_law((go_simp;go_at_call 125;(with_reducible refine(HIH.o _).mono ?_);rintro r9 w2⟨rfl,hb2⟩;have HB2:=qH hb2;(first|(have kc3:=PM _ _ _ (HW.o _ hb2);rw[←nG.o]at kc3)|(have kc4:=conv1 w2 (128+(r:Int));rw[←nG.o]at kc4));clear hb2));all_goals clear e1 e2 e3 e4 e5 hlz;go_wp2;go_ret;first|exact HF.o _ (uA.o _ HB2.o)|exact HF.o _ (zB.o _ HB2.o)|exact HF.o _ ((zB.o _ HB2.o).alloc (zB.o _ HB2.o).size _)
theorem PY:(Tryz.prog.info? 195).map (fun i=>(i.zero,i.size,i.bytes))=some (some (.agg #[.int .i64 0,.int .i64 0]),2,16):=by kernel_rfl
theorem Kv(a b:Int): ∀u∈[Value.int .i64 a,.int .i64 b],u.oneCell'=true:=by intro u hu;simp at hu;rcases hu with rfl|rfl<;>rfl
def xu(w:World)(base:Nat)(v:Value)(rs:Rg):Prop:=w.ownsRow base 195 2 v rs.length (rgCells rs)
def Tg(w:World)(rs:Rg)(e:Ending)(w':World):Prop:= ∃v,e=.returned v∧xu w' w.heap.size v rs∧Below w.heap.size w w'
def Jg(w:World)(l:List Int)(v i:Value)(wr:World):Prop:= ∃k:Nat,i=.int .i64 k∧k≤l.length∧xu wr w.heap.size v (Hu (l.take k))∧Below w.heap.size w wr
theorem Od(l:List Int)(n:Int):Hu (l++[n])=j6 (Hu l) n:=by unfold Hu;rw[List.foldl_append];rfl
theorem Ob(l:List Int)(k:Nat)(hk:k<l.length):Hu (l.take (k+1))=j6 (Hu (l.take k)) l[k]:=by rw[List.take_add_one,List.getElem?_eq_getElem hk,Option.toList_some,Od]
theorem Mc(out:Rg)(n:Int):(j6 out n).length≤out.length+1:=by
 rcases List.eq_nil_or_concat out with rfl|⟨i,l,rfl⟩;·simp[j6]
 ·rw[List.concat_eq_append];unfold j6;rw[List.getLast?_append,List.getLast?_singleton,Option.some_or];simp only;split<;>simp
theorem RI(l:List Int):(Hu l).length≤l.length:=by
 unfold Hu;have: ∀(l:List Int)(out:Rg),(l.foldl j6 out).length≤out.length+l.length:=fun l=>by induction l with|nil=>intro out;simp|cons n l ih=>intro out;have:=ih (j6 out n);have:=Mc out n;simp only[List.foldl_cons,List.length_cons];omega
 have:=this l [];simpa using this
theorem Ma(n:Int):j6 [] n=[(n,n+1)]:=rfl
theorem O3{out:Rg}{j:Nat}(hj:j=out.length)(h0:0<j)(n:Int):j6 out n=if(out[j-1]'(by omega)).2=n then out.set (j-1) ((out[j-1]'(by omega)).1,n+1)else out++[(n,n+1)]:=by
 rcases List.eq_nil_or_concat out with rfl|⟨i,l,rfl⟩;·simp at hj;omega
 ·simp only[List.concat_eq_append]at*;have hjl:j-1=i.length:=by rw[hj];simp
  unfold j6;rw[List.getLast?_append,List.getLast?_singleton,Option.some_or];simp only;have hg:(i++[l])[j-1]'(by simp;omega)=l:=by simp only[hjl];simp
  rw[hg];split;·rw[hjl];simp
  ·rfl
theorem En(w:World)(S:Nat→Prop)(v:Value)(l:List Int)(h:ku w S v l)(hn:l.length≤90000)(hb0: ∀n∈l,1≤n∧n≤1099511627776):Calls Tryz.prog 126 #[v] w (Tg w (Hu l)):=by
 have HH:=qH h;have HB0:=qH hb0;obtain⟨A,c,hv,_,_⟩:=h;subst hv;obtain⟨i0,hi,hz0,hz1,hz2⟩:=info_parts PY;have HI:=qH hi;have HZ0:=qH hz0;have HZ1:=qH hz1;have HZ2:=qH hz2;clear hi hz0 hz1 hz2 hb0;go_enter Tryz.func126,Tryz.ntmps126;go_wp2;go_loopw[3,4](fun v i wr=>Jg w l v i wr)(fun _ i _=>l.length-(intOf i).toNat);case atStart=>exact⟨0,rfl,Nat.zero_le _,World.ownsRow_lit w #[] 0 (Nat.le_refl _) (by simp[maxLen]) rfl,(Below.refl _ _).alloc (Nat.le_refl _) _⟩
 case round=>
  obtain⟨k,rfl,hk,hown,hbel⟩:=hrel;have hs0:=hbel.size;have hrl:=RI (l.take k);rw[List.length_take]at hrl;by_cases hkn:k<l.length
  ·obtain⟨b,off,rfl,hb,hc⟩:=HH.o.at_ k hkn;have hc':wr.cell? ⟨b,off+k,none⟩=some (.int .i64 l[k]):=(hbel.cell (p:=⟨b,off+k,none⟩) hb).trans hc;have dx:=qH (Ob l k hkn);have hyb:=HB0.o l[k] (List.getElem_mem hkn);have WN:=qH hc;generalize l[k]=y at*;generalize Hu (l.take k)=out at*;have hov:=hown;obtain⟨VV,Xe⟩: ∃VV,VV=u3:=⟨_,rfl⟩;rw[←Xe]at hov;have oo:=qS (∀(wq:World)v' w2,Below w.heap.size w wq→xu wq w.heap.size VV out→w2.ownsRow w.heap.size 195 2 v' (out.length+1) (rgCells out++[.int .i64 y,.int .i64 (y+1)])→(wq.alloc (.cells #[.int .i64 y,.int .i64 (y+1)] 195)).drew.grownBy w2 VV.ownBlock→Hu (l.take (k+1))=out++[(y,y+1)]→Jg w l v' (.int .i64 ((k+1:Nat):Int)) w2) (fun wq v' w2 hbq hoq ho2 hg2 he=>⟨k+1,rfl,by omega,by rw[he];unfold xu;rw[aV,List.length_append];exact ho2,Below.grown (hbq.alloc hbq.size _).drew hg2 (by have:=hbq.size;simp;omega) (fun k' hk'=>(World.ownsRow.lt hoq k' hk').1)⟩);have ZI:=qH Xe;have HO:=qH hown;clear hown hc hov;have t1:(k:Int)<l.length:=by omega
   have HCZ:=qS (∀(wq w2:World)(v:Value),Below w.heap.size w wq→xu wq w.heap.size v out→(wq.alloc (.cells #[.int .i64 y,.int .i64 (y+1)] 195)).drew.grownBy w2 v.ownBlock→w2.cell? ⟨b,off+k,none⟩=some (.int .i64 y)) (fun wq w2 v hq ho hg=>((Below.grown (hq.alloc hq.size _).drew hg (by have:=hq.size;simp;omega) (fun k' hk'=>(World.ownsRow.lt ho k' hk').1)).cell (p:=⟨b,off+k,none⟩) hb).trans WN.o);have ey:IntKind.i64.wrap (y+1)=y+1:=IntWalk.i64_in _ (by omega);by_cases h0:0<out.length
   ·obtain⟨g,cp,nH,_,hgl⟩:=World.ownsRow.form HO.o h0;have Yt:VV=.slice (some ⟨g,0,none⟩) out.length cp:=Xe.trans nH;subst nH;clear Xe;obtain⟨j,hj⟩: ∃j,j=out.length:=⟨_,rfl⟩;have hj0:0<j:=by omega
    have hjl:j-1<out.length:=by omega
    have HJ:=qH (O3 hj hj0 y);have y0:wr.cell? ⟨g,(j-1)*2+1,none⟩=some (.int .i64 (out[j-1]'hjl).2):=by rw[World.ownsRow.cellAt HO.o ((j-1)*2+1) (by omega)];exact(iQ out (j-1) hjl).2
    have y1:wr.frozen? ⟨g,(j-1)*2+1,none⟩=false:=World.ownsRow.frozenAt HO.o _;have HST:=qS (∀t,(rgCells out).set ((j-1)*2+1) (.int .i64 t)=rgCells (out.set (j-1) ((out[j-1]'hjl).1,t))) (fun t=>dZ out (j-1) hjl t);generalize out[j-1]'hjl=r at*;rw[Yt]at oo;have Ww:=qH hj;have hjk:j≤90000:=by omega
    rw[←hj]at HO oo⊢;clear hj h0 hjl Yt ZI;have ej:(j:Int)-1=((j-1:Nat):Int):=by omega
    have j1:((j-1:Nat):Int)<j:=by omega
    have wj:IntKind.i64.wrap ((j-1:Nat):Int)=((j-1:Nat):Int):=IntWalk.i64_in _ (by omega);have d0:decide (0<(j:Int))=true:=decide_eq_true (by omega);have d1:(0:Int)<(j:Int):=by omega
    have d0':decide (0<j)=true:=decide_eq_true hj0;by_cases Xa:r.2=y
    ·have hbe:(r.2==y)=true:=by simp[Xa]
     have HT:=qS (Hu (l.take (k+1))=out.set (j-1) (r.1,y+1)) (by rw[dx.o,HJ.o,if_pos Xa]);clear Xa HJ dx oo;go_wp2;go_quiet(fail);have hbq:Below w.heap.size w (wr.drewN nq):=below_drewN hbel nq;have Ng:=qS (xu (wr.drewN nq) w.heap.size (.slice (some ⟨g,0,none⟩) j cp) out) (HO.o);have hcq:(wr.drewN nq).cell? ⟨b,off+k,none⟩=some (.int .i64 y):=hc';have y0q:(wr.drewN nq).cell? ⟨g,(j-1)*2+1,none⟩=some (.int .i64 r.2):=y0;have XH:(wr.drewN nq).frozen? ⟨g,(j-1)*2+1,none⟩=false:=y1;clear hc' y0 y1 HO hbe d0 d1 d0';generalize wr.drewN nq=wq at*;go_wp2;go_still_tail 10,(by kernel_rfl);change wpList _ _ _ _ _ (wq.drewN 1);have hbq2:Below w.heap.size w (wq.drewN 1):=below_drewN hbq 1;have aa1:=qS (xu (wq.drewN 1) w.heap.size (.slice (some ⟨g,0,none⟩) j cp) out) (Ng.o);have y0z:(wq.drewN 1).cell? ⟨g,(j-1)*2+1,none⟩=some (.int .i64 r.2):=y0q;have y1z:(wq.drewN 1).frozen? ⟨g,(j-1)*2+1,none⟩=false:=XH;clear hcq y0q XH Ng;generalize wq.drewN 1=wz at*;have HR:=qS (Jg w l (.slice (some ⟨g,0,none⟩) j cp) (.int .i64 ((k+1:Nat):Int)) (wz.setCell ⟨g,(j-1)*2+1,none⟩ (.int .i64 (y+1)))) (⟨k+1,rfl,by omega,by rw[HT.o];have h9:=aa1.o;unfold xu at h9⊢;rw[Ww.o]at h9;have h8:=(World.ownsRow.stored h9 ((j-1)*2+1) (.int .i64 (y+1))).1;rw[HST.o]at h8;rw[List.length_set];rw[Ww.o]at h8⊢;exact h8,hbq2.setCell (by assumption) _⟩);clear ej j1 wj;go_wp2;go_roundw;case rel=>exact HR.o
     case measure=>simp[intOf];omega
    ·have hbe:(r.2==y)=false:=by simp[Xa]
     have HT:=qS (Hu (l.take (k+1))=out++[(y,y+1)]) (by rw[dx.o,HJ.o,if_neg Xa]);clear Xa HJ dx;go_wp2;go_quiet(fail);have hbq:Below w.heap.size w (wr.drewN nq):=below_drewN hbel nq;have Ng:=qS (xu (wr.drewN nq) w.heap.size (.slice (some ⟨g,0,none⟩) j cp) out) (HO.o);have hcq:(wr.drewN nq).cell? ⟨b,off+k,none⟩=some (.int .i64 y):=hc';clear hc' y0 y1 HO hbe d0 d1 d0' ej j1 wj;generalize wr.drewN nq=wq at*;go_wp2;have HNZ:=qS (az (wq.alloc (.cells #[.int .i64 y,.int .i64 (y+1)] 195)).drew (wq.heap.size+1) 2 (some ⟨wq.heap.size,0,none⟩) 1 1 [.int .i64 y,.int .i64 (y+1)]) (az.drewN (az.new (size:=2) (n:=1) wq #[.int .i64 y,.int .i64 (y+1)] _ (by unfold maxLen;omega) rfl) 1);have Zj:=qS ((wq.alloc (.cells #[.int .i64 y,.int .i64 (y+1)] 195)).drew.ownsRow w.heap.size 195 2 (.slice (some ⟨g,0,none⟩) j cp) out.length (rgCells out)) (World.ownsRow.alloc Ng.o _);have Sl:=hbq.size;go_region_held3(fun wx=>wx.cell? ⟨b,off+k,none⟩=some (.int .i64 y))(first|assumption|go_keep)(first|(refine aT rfl (.tmp 40) (.tmp 51) 193 rfl 195 i0 _ 2 16 Tryz.underlying193 HI.o HZ0.o HZ1.o HZ2.o rfl (by decide) w.heap.size (.slice (some ⟨g,0,none⟩) j cp) out.length (rgCells out) rfl Zj.o (wq.heap.size+1) _ _ _ [.int .i64 y,.int .i64 (y+1)] rfl HNZ.o (Kv _ _) (by unfold maxLen;omega) (by omega) (by have:=hbq.size;first|omega|(simp;done)|(simp;omega)) ?_;intro v' w2 hown2 hg2 _;have dW:=qH hown2;have HG2:=qH hg2;have hcz:=HCZ.o wq w2 _ hbq Ng.o hg2;clear hown2 hg2));have HR:=qH (by have h9:=oo.o;rw[Ww.o]at h9;have h8:=Ng.o;rw[Ww.o]at h8;exact h9 wq v' w2 hbq h8 dW.o HG2.o HT.o);clear hcq hcz;go_wp2;go_roundw;case rel=>exact HR.o
     case measure=>simp[intOf];omega
   ·have ho0:out=[]:=List.eq_nil_of_length_eq_zero (by omega);have HT:=qS (Hu (l.take (k+1))=out++[(y,y+1)]) (by rw[dx.o,ho0,Ma];rfl);obtain⟨B,cp,nH⟩:=ownsRow_form HO.o;have Yt:VV=.slice B out.length cp:=Xe.trans nH;subst nH;rw[Yt]at oo;have hol:out.length=0:=by rw[ho0];rfl
    rw[hol];rw[hol]at oo HO;clear Xe Yt ZI dx h0;have HL0:=qH hol;have Xt:=qH ho0;clear hol ho0;go_wp2;go_quiet(fail);have hbq:Below w.heap.size w (wr.drewN nq):=below_drewN hbel nq;have Ng:=qS (xu (wr.drewN nq) w.heap.size (.slice B 0 cp) out) (HO.o);have hcq:(wr.drewN nq).cell? ⟨b,off+k,none⟩=some (.int .i64 y):=hc';clear hc' HO;generalize wr.drewN nq=wq at*;go_wp2;have HNZ:=qS (az (wq.alloc (.cells #[.int .i64 y,.int .i64 (y+1)] 195)).drew (wq.heap.size+1) 2 (some ⟨wq.heap.size,0,none⟩) 1 1 [.int .i64 y,.int .i64 (y+1)]) (az.drewN (az.new (size:=2) (n:=1) wq #[.int .i64 y,.int .i64 (y+1)] _ (by unfold maxLen;omega) rfl) 1);have Zj:=qS ((wq.alloc (.cells #[.int .i64 y,.int .i64 (y+1)] 195)).drew.ownsRow w.heap.size 195 2 (.slice B 0 cp) out.length (rgCells out)) (World.ownsRow.alloc Ng.o _);have Sl:=hbq.size;go_region_held3(fun wx=>wx.cell? ⟨b,off+k,none⟩=some (.int .i64 y))(first|assumption|go_keep)(first|(refine aT rfl (.tmp 40) (.tmp 51) 193 rfl 195 i0 _ 2 16 Tryz.underlying193 HI.o HZ0.o HZ1.o HZ2.o rfl (by decide) w.heap.size (.slice B 0 cp) out.length (rgCells out) rfl Zj.o (wq.heap.size+1) _ _ _ [.int .i64 y,.int .i64 (y+1)] rfl HNZ.o (Kv _ _) (by unfold maxLen;omega) (by omega) (by have:=hbq.size;first|omega|(simp;done)|(simp;omega)) ?_;intro v' w2 hown2 hg2 _;have dW:=qH hown2;have HG2:=qH hg2;have hcz:=HCZ.o wq w2 _ hbq Ng.o hg2;clear hown2 hg2));have HR:=qH (by have h9:=oo.o;have h7:=dW.o;rw[HL0.o]at h7;exact h9 wq v' w2 hbq Ng.o h7 HG2.o HT.o);clear hcq hcz;go_wp2;go_roundw;case rel=>exact HR.o
    case measure=>simp[intOf];omega
  ·have t1: ¬(k:Int)<l.length:=by omega
   have HKK:=qS (l.take k=l) (List.take_of_length_le (by omega));obtain⟨B,cp,nH⟩:=ownsRow_form hown;subst nH;have HO:=qH hown;clear hown;go_wp2;go_ret;exact⟨_,rfl,by have:=HO.o;rw[HKK.o]at this;rw[HKK.o];exact this,hbel⟩
end Go.Proofs.YtbejfgmdkmddnaaGreatDoor
