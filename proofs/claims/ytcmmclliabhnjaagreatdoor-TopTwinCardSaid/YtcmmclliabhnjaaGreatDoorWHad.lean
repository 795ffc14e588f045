/-
  Layer 7: place, Has.
  Layer 7: the set in memory; Has, New.
  Layer 7: what a put leaves in memory.
-/
import Derived.Test.YtcmmclliabhnjaaGreatDoorWHadPlain
import Derived.Test.YtcmmclliabhnjaaGreatDoorWEvForget
import Derived.Test.YtcmmclliabhnjaaGreatDoorWEvMay
set_option maxRecDepth 100000
set_option maxHeartbeats 16000000
namespace Go.Proofs.YtcmmclliabhnjaaGreatDoor
open Go.RowKit Go.Maps Go.Sort
def rgCells(rs:Rg):List Value:=rs.flatMap fun r=>[.int .i64 r.1,.int .i64 r.2]
theorem rgCells_length(rs:Rg):(rgCells rs).length=rs.length*2:=by induction rs with|nil=>rfl|cons r rs ih=>simp only[rgCells,List.flatMap_cons,List.length_append,List.length_cons]at*;rw[ih];simp;omega
theorem rgCells_cons(r:Int×Int)(rs:Rg):rgCells (r::rs)=.int .i64 r.1::.int .i64 r.2::rgCells rs:=rfl
theorem rgCells_append(a b:Rg):rgCells (a++b)=rgCells a++rgCells b:=by simp[rgCells]
theorem rgCells_get: ∀(rs:Rg)(k:Nat)(hk:k<rs.length),(rgCells rs)[k*2]?=some (.int .i64 rs[k].1)∧(rgCells rs)[k*2+1]?=some (.int .i64 rs[k].2)|r::rs,0,_=>⟨rfl,rfl⟩|r::rs,k+1,hk=>by have:=rgCells_get rs k (by simpa using hk);rw[rgCells_cons];rw[show(k+1)*2=k*2+1+1 by omega];simpa using this
theorem rgCells_set1: ∀(rs:Rg)(k:Nat)(hk:k<rs.length)(t:Int),(rgCells rs).set (k*2+1) (.int .i64 t)=rgCells (rs.set k (rs[k].1,t))|r::rs,0,_,t=>rfl|r::rs,k+1,hk,t=>by have:=rgCells_set1 rs k (by simpa using hk) t;rw[rgCells_cons,show(k+1)*2+1=k*2+1+1+1 by omega];simp only[List.set_cons_succ,rgCells_cons,List.getElem_cons_succ];rw[this]
theorem rgCells_set0: ∀(rs:Rg)(k:Nat)(hk:k<rs.length)(t:Int),(rgCells rs).set (k*2) (.int .i64 t)=rgCells (rs.set k (t,rs[k].2))|r::rs,0,_,t=>rfl|r::rs,k+1,hk,t=>by have:=rgCells_set0 rs k (by simpa using hk) t;rw[rgCells_cons,show(k+1)*2=k*2+1+1 by omega];simp only[List.set_cons_succ,rgCells_cons,List.getElem_cons_succ];rw[this]
theorem rgCells_take(rs:Rg)(k:Nat):(rgCells rs).take (k*2)=rgCells (rs.take k):=by induction rs generalizing k with|nil=>simp[rgCells]|cons r rs ih=>cases k with|zero=>simp[rgCells]|succ k=>rw[rgCells_cons,show(k+1)*2=k*2+1+1 by omega];simp only[List.take_succ_cons,rgCells_cons,ih k]
theorem rgCells_drop(rs:Rg)(k:Nat):(rgCells rs).drop (k*2)=rgCells (rs.drop k):=by induction rs generalizing k with|nil=>simp[rgCells]|cons r rs ih=>cases k with|zero=>simp|succ k=>rw[rgCells_cons,show(k+1)*2=k*2+1+1 by omega];simp only[List.drop_succ_cons,ih k]
theorem rgCells_one(rs:Rg): ∀u∈rgCells rs,u.oneCell'=true:=by intro u hu;simp only[rgCells,List.mem_flatMap]at hu;obtain⟨r,_,hr⟩:=hu;simp at hr;rcases hr with rfl|rfl<;>rfl
def OwnR(w:World)(v:Value)(rs:Rg):Prop:=w.ownsRow 0 173 2 v rs.length (rgCells rs)
theorem OwnR.cell{w:World}{rs:Rg}{g cap n:Nat}(h:OwnR w (.slice (some ⟨g,0,none⟩) n cap) rs)(k:Nat)(hk:k<rs.length):w.cell? ⟨g,k*2,none⟩=some (.int .i64 rs[k].1)∧w.cell? ⟨g,k*2+1,none⟩=some (.int .i64 rs[k].2)∧w.frozen? ⟨g,k*2,none⟩=false∧w.frozen? ⟨g,k*2+1,none⟩=false:=by
 have hn:n=rs.length:=by
  rcases h.2 with⟨h',_⟩|⟨_,_,_,h',_⟩;·cases h'
  ·injection h'
 subst hn;have hg:=rgCells_get rs k hk;refine⟨?_,?_,World.ownsRow.frozenAt h _,World.ownsRow.frozenAt h _⟩;·rw[World.ownsRow.cellAt h (k*2) (by omega)];exact hg.1
 ·rw[World.ownsRow.cellAt h (k*2+1) (by omega)];exact hg.2
theorem OwnR.keep{w w':World}{v:Value}{rs:Rg}(h:OwnR w v rs)(hb: ∀b,v.ownBlock=some b→w'.heap[b]?=w.heap[b]?):OwnR w' v rs:=by
 refine⟨h.1,?_⟩;rcases h.2 with h'|⟨g,cap,cur,rfl,hb',hg,hr⟩;·exact .inl h'
 ·exact .inr ⟨g,cap,cur,rfl,hb',(hb g rfl).trans hg,hr⟩
theorem OwnR.up{w w':World}{v:Value}{rs:Rg}(h:OwnR w v rs)(hb:Below w.heap.size w w'):OwnR w' v rs:=h.keep fun b e=>hb.block b (World.ownsRow.lt h b e).2
theorem place1_any(w:World)(b1 b2 g n cap:Nat)(x:Int)(k:Nat)(hk:k<n)(t:Int)(hc1:w.cell? ⟨b1,0,none⟩=some (.slice (some ⟨g,0,none⟩) n cap))(hc2:w.cell? ⟨b2,0,none⟩=some (.int .i64 x))(ht:w.cell? ⟨g,k*2+1,none⟩=some (.int .i64 t)):Calls Tryz.prog 161 (#[.int .i64 k]++ #[.pointer (some ⟨b1,0,none⟩),.pointer (some ⟨b2,0,none⟩)]) w (Says (decide (x<t)) w):=by
 show Calls Tryz.prog 161 #[.int .i64 k,.pointer (some ⟨b1,0,none⟩),.pointer (some ⟨b2,0,none⟩)] w (Says (decide (x<t)) w);have hk':(k:Int)<n:=by omega
 go_enter Tryz.func161,Tryz.ntmps161;go_wp2;go_quiet(fail);go_wp2;go_ret;exact⟨rfl,below_drewN (Below.refl _ _) _⟩
def PlacePost(rs:Rg)(n:Int)(w:World)(e:Ending)(w':World):Prop:=e=.returned (.int .i64 (plc rs n))∧Below w.heap.size w w'
theorem place_any(w:World)(v:Value)(rs:Rg)(hown:OwnR w v rs)(ok:RgOk rs)(hlen:rs.length≤1000000)(n:Int):Calls Tryz.prog 100 #[v,.int .i64 n] w (PlacePost rs n w):=by
 have HO:=qH hown;have HK:=qH ok;obtain⟨A,c,rfl⟩:=ownsRow_form hown;have hmax:c≤maxLen:=by
  rcases hown.2 with⟨e,_⟩|⟨_,_,_,e,_,_,_,h,_⟩;·injection e with _ _ e;subst e;unfold maxLen;omega
  ·injection e with _ _ e;subst e;exact h
 clear hown ok;go_enter Tryz.func100,Tryz.ntmps100;go_wp2_with fail;have hbA:Below w.heap.size w ((w.alloc (.cells #[.slice A rs.length c] 166)).alloc (.cells #[.int .i64 n] 3)):=((Below.refl _ _).alloc (Nat.le_refl _) _).alloc (by simp) _;have hA0:((w.alloc (.cells #[.slice A rs.length c] 166)).alloc (.cells #[.int .i64 n] 3)).cell? ⟨w.heap.size,0,none⟩=some (.slice A rs.length c):=by rw[World.cell?_alloc_lt _ _ _ (by simp)];exact cell_of_row _ w.heap.size 0 _ _ (0,0) (heap_alloc_new w _)
 have hA1:((w.alloc (.cells #[.slice A rs.length c] 166)).alloc (.cells #[.int .i64 n] 3)).cell? ⟨w.heap.size+1,0,none⟩=some (.int .i64 n):=by simp
 have hsz:((w.alloc (.cells #[.slice A rs.length c] 166)).alloc (.cells #[.int .i64 n] 3)).heap.size=w.heap.size+2:=by simp
 generalize(w.alloc (.cells #[.slice A rs.length c] 166)).alloc (.cells #[.int .i64 n] 3)=w1 at*;have HO1:=qH (HO.out.up hbA);have HA0:=qH hA0;have HA1:=qH hA1;clear hA0 hA1;refine(search_any w1 161 #[.pointer (some ⟨w.heap.size,0,none⟩),.pointer (some ⟨w.heap.size+1,0,none⟩)] rs.length (fun i=>decide (n<(rs.getD i (0,0)).2)) (by omega) (fun _ _=>by kernel_rfl) ?_ ?_).mono ?_
 ·intro w2 i hb2 hi;have hg: ∃g,A=some ⟨g,0,none⟩:=by
   rcases HO.out.2 with⟨e,h0⟩|⟨g,_,_,e,_⟩;·omega
   ·exact⟨g,by injection e⟩
  obtain⟨g,rfl⟩:=hg;have hc:=((HO1.out.up hb2).cell i hi).2.1;have e:rs.getD i (0,0)=rs[i]:=by simp[List.getD,List.getElem?_eq_getElem hi]
  simp only[e];exact place1_any w2 _ _ g rs.length c n i hi _ ((hb2.cell (p:=⟨w.heap.size,0,none⟩) (by simp only;omega)).trans HA0.out) ((hb2.cell (p:=⟨w.heap.size+1,0,none⟩) (by simp only;omega)).trans HA1.out) hc
 ·intro i j hij hj hp;have:=rg_mono HK.out i j hij hj;simp only[List.getD,List.getElem?_eq_getElem hj,List.getElem?_eq_getElem (show i<rs.length by omega),Option.getD_some,decide_eq_true_eq]at*;omega
 ·rintro e w2⟨k,rfl,hkl,h1,h2,hb2⟩;have HP:=qH (plc_search (rs:=rs) (n:=n) k hkl (fun i hi hlt=>by have:=h1 i hlt;simp only[List.getD,List.getElem?_eq_getElem hi,Option.getD_some,decide_eq_false_iff_not]at this;omega) (fun i hi hge=>by have:=h2 i hge hi;simpa only[List.getD,List.getElem?_eq_getElem hi,Option.getD_some,decide_eq_true_eq]using this));have HB:=qH (hbA.trans (hb2.mono (by omega)));clear h1 h2 hb2;go_wp2;go_ret;exact⟨by rw[←HP.out];rfl,HB.out⟩
abbrev setObj(bm:Nat):Obj:=.cells #[.map (some bm)] 165
structure HadAt(w:World)(G:Nat→Prop)(bs bm:Nat)(m:Had)(V:List UInt8→Value):Prop where
 blk:w.heap[bs]?=some (setObj bm)
 map:MapS w bm (m.map fun p=>(p.1,V p.1))
 own: ∀p∈m,OwnR w (V p.1) p.2
 apart: ∀p∈m,∀q∈m,p.1≠q.1→(V p.1).ownBlock≠(V q.1).ownBlock
 gs:G bs
 gm:G bm
 foot: ∀p∈m,∀b,(V p.1).ownBlock=some b→G b
 lt: ∀b,G b→b<w.heap.size
 typ: ∀b,G b→b=bs∨b=bm∨ ∃cs,w.heap[b]?=some (.cells cs 173 (0,0))
 ok:HadOk m
section
variable{w w':World}{G:Nat→Prop}{bs bm:Nat}{m:Had}{V:List UInt8→Value}
theorem HadAt.keep(h:HadAt w G bs bm m V)(hsz:w.heap.size≤w'.heap.size)(hk: ∀b,G b→w'.heap[b]?=w.heap[b]?):HadAt w' G bs bm m V:=⟨(hk _ h.gs).trans h.blk,h.map.block (hk _ h.gm),fun p hp=>(h.own p hp).keep fun b hb=>hk b (h.foot p hp b hb),h.apart,h.gs,h.gm,h.foot,fun b hb=>Nat.lt_of_lt_of_le (h.lt b hb) hsz,fun b hb=>(h.typ b hb).imp id fun h'=>h'.imp id fun⟨cs,hc⟩=>⟨cs,(hk b hb).trans hc⟩,h.ok⟩
theorem HadAt.up(h:HadAt w G bs bm m V)(hb:Below w.heap.size w w'):HadAt w' G bs bm m V:=h.keep hb.size fun b hg=>hb.block b (h.lt b hg)
theorem HadAt.cell(h:HadAt w G bs bm m V):w.cell? ⟨bs,0,none⟩=some (.map (some bm)):=cell_of_row w bs 0 _ _ (0,0) h.blk
theorem zeroRgs(w:World):(zeroValue 166).run Tryz.prog w=.ok (.slice none 0 0) w:=by kernel_rfl
theorem HadAt.look(h:HadAt w G bs bm m V)(s:List UInt8)(hs:s.length≤1000000000): ∃v,(Instr.lookup 163 (.map (some bm)) (.string ⟨s.toArray⟩) false).run Tryz.prog w=.ok v w∧OwnR w v (hadRow m s)∧(getB m s=none→v=.slice none 0 0)∧(∀rs,getB m s=some rs→v=V s):=by
 refine⟨_,h.map.look s (by unfold maxLen;omega) _ _ Tryz.underlying163 _ (zeroRgs w),?_⟩;have e:(getB (m.map fun p=>(p.1,V p.1)) s)=(getB m s).map fun _=>V s:=by unfold getB;rw[List.find?_map];have:((fun p:List UInt8×Value=>p.1==s)∘fun p:List UInt8×Rg=>(p.1,V p.1))=fun p=>p.1==s:=rfl;rw[this];cases hf:m.find? fun p=>p.1==s with|none=>rfl|some p=>have:=List.find?_some hf;simp at this;simp[this]
 rw[e];cases hg:getB m s with|none=>refine⟨?_,fun _=>rfl,(fun _ h=>by cases h)⟩;unfold hadRow;rw[hg];exact World.ownsRow_nil w 0 _ 2|some rs=>refine⟨?_,(fun h=>by cases h),fun _ _=>rfl⟩;unfold hadRow;rw[hg];exact h.own _ (getB_mem hg)
end
theorem has_any(w:World)(G:Nat→Prop)(bs bm:Nat)(m:Had)(V:List UInt8→Value)(h:HadAt w G bs bm m V)(s:List UInt8)(hs:s.length≤1000000000)(hlen:(hadRow m s).length≤1000000)(n:Int):Calls Tryz.prog 48 #[.pointer (some ⟨bs,0,none⟩),.string ⟨s.toArray⟩,.int .i64 n] w (Says (hadB m s n) w):=by
 have HB:=qH (hasR_eq (h.ok.row s) n);have HOK:=qH (h.ok.row s);have hc:=h.cell;have HHB:=qH (show hadB m s n=hasR (hadRow m s) n from rfl);obtain⟨v,hl,hown,_,_⟩:=h.look s hs;generalize hadRow m s=rs at*;obtain⟨A,c,rfl⟩:=ownsRow_form hown;have HO:=qH hown;have hpl:=plc_le rs n;clear h hown;go_enter Tryz.func48,Tryz.ntmps48;go_wp2_with fail;refine(place_any w _ rs HO.out HOK.out hlen n).mono ?_;rintro e w1⟨rfl,hb1⟩;have HO1:=qH (HO.out.up hb1);clear hl hc;by_cases hlt:plc rs n<rs.length
 ·have hA: ∃g,A=some ⟨g,0,none⟩:=by
   rcases HO.out.2 with⟨e,h0⟩|⟨g,_,_,e,_⟩;·omega
   ·exact⟨g,by injection e⟩
  obtain⟨g,rfl⟩:=hA;have hcc:=(HO1.out.cell (plc rs n) hlt).1;have HX:=qH (show hadB m s n=decide (rs[plc rs n].1≤n)by rw[HHB.out,HB.out];simp[hlt]);generalize rs[plc rs n].1=x at*;generalize plc rs n=k at*;have ht:(k:Int)<rs.length:=by omega
  go_wp2;go_ret;exact⟨ret_bool HX.out.symm,hb1⟩
 ·have HX:=qH (show hadB m s n=false by rw[HHB.out,HB.out];simp[hlt]);generalize plc rs n=k at*;have ht: ¬(k:Int)<rs.length:=by omega
  go_wp2;go_ret;exact⟨ret_bool HX.out.symm,hb1⟩
def HadNewPost(w:World)(e:Ending)(w':World):Prop:= ∃bs bm,e=.returned (.pointer (some ⟨bs,0,none⟩))∧HadAt w' (fun b=>b=bs∨b=bm) bs bm [] (fun _=>.slice none 0 0)∧w.heap.size≤bs∧w.heap.size≤bm∧Below w.heap.size w w'
theorem hadnew_any(w:World):Calls Tryz.prog 59 #[] w (HadNewPost w):=by
 have hmm:= @run_makeMap Tryz.prog;go_enter Tryz.func59,Tryz.ntmps59;go_wp2;go_ret;have hb:Below w.heap.size w ((w.alloc (.map #[] 0)).alloc (setObj w.heap.size)):=((Below.refl _ _).alloc (Nat.le_refl _) _).alloc (by simp) _;refine⟨w.heap.size+1,w.heap.size,rfl,⟨?_,(MapS.made w).block (Below.heap_alloc _ _ _ (by simp)),fun p hp=>by simp at hp,fun p hp=>by simp at hp,.inl rfl,.inr rfl,fun p hp=>by simp at hp,fun b hb=>?_,fun b hb=>?_,HadOk.nil⟩,by omega,Nat.le_refl _,hb⟩;·have:=heap_alloc_new (w.alloc (.map #[] 0)) (setObj w.heap.size);simpa using this
 ·simp;rcases hb with rfl|rfl<;>omega
 ·rcases hb with rfl|rfl;·exact .inl rfl
  ·exact .inr (.inl rfl)
theorem OwnR.typ{w:World}{v:Value}{rs:Rg}(h:OwnR w v rs){b:Nat}(hb:v.ownBlock=some b): ∃cs,w.heap[b]?=some (.cells cs 173 (0,0)):=by
 rcases h.2 with⟨rfl,_⟩|⟨g,cap,cur,rfl,_,hg,_⟩;·cases hb
 ·injection hb with hb;subst hb;exact⟨cur,hg⟩
theorem insB_mapK{α β:Type}(f:List UInt8×α→β)(x:List UInt8×α): ∀m:Row α,(insB x m).map (fun p=>(p.1,f p))=insB (x.1,f x) (m.map fun p=>(p.1,f p))
 |[]=>rfl
 |z::r=>by
  simp only[insB,List.map_cons];split;·rfl
  ·simp only[List.map_cons,insB_mapK f x r]
theorem putB_mapV(m:Had)(s:List UInt8)(rs:Rg)(V:List UInt8→Value)(v:Value):(putB s rs m).map (fun p=>(p.1,(fun k=>if k=s then v else V k) p.1))=putB s v (m.map fun p=>(p.1,V p.1)):=by
 unfold putB;rw[insB_mapK (fun p=>(fun k=>if k=s then v else V k) p.1)];simp only[if_true];congr 1;induction m with
  |nil=>rfl
  |cons p r ih=>
   by_cases e:p.1=s;·simp[e];simpa using ih
   ·simp[e];simpa using ih
theorem HadAt.stored{w1 w2 w3:World}{G:Nat→Prop}{bs bm:Nat}{m:Had}{V:List UInt8→Value}(h:HadAt w1 G bs bm m V)(s:List UInt8)(v v':Value)(rs':Rg)(hv0:getB m s=none→v=.slice none 0 0)(hv1: ∀rs,getB m s=some rs→v=V s)(hg:w1.grownBy w2 v.ownBlock)(hown:OwnR w2 v' rs')(hb:v'.ownBlock=v.ownBlock∨ ∃k,v'.ownBlock=some k∧w1.heap.size≤k)(hne:v'.ownBlock≠none)(hm:MapS w3 bm (putB s v' (m.map fun p=>(p.1,V p.1))))(hg3:w2.grownBy w3 (some bm))(hok:HadOk (putB s rs' m)):HadAt w3 (fun b=>(G b∧(v.ownBlock=some b→v'.ownBlock=some b))∨(w1.heap.size≤b∧b<w3.heap.size∧v'.ownBlock=some b)) bs bm (putB s rs' m) (fun k=>if k=s then v' else V k)∧Keep G w1 w3:=by
 obtain⟨es,cl,hmap⟩:=h.map.isMap;have hrow: ∀b,v.ownBlock=some b→G b∧ ∃rs,(s,rs)∈m∧v=V s∧ ∃cs,w1.heap[b]?=some (.cells cs 173 (0,0)):=fun b hb=>by cases hgs:getB m s with|none=>rw[hv0 hgs]at hb;cases hb|some rs=>have e:=hv1 rs hgs;have hmem:=getB_mem hgs;rw[e]at hb;exact⟨h.foot _ hmem b hb,rs,hmem,e,(h.own _ hmem).typ hb⟩
 have hmr:v.ownBlock≠some bm:=fun e=>by obtain⟨_,_,_,_,cs,hc⟩:=hrow bm e;rw[hmap]at hc;cases hc
 have hsr:v.ownBlock≠some bs:=fun e=>by obtain⟨_,_,_,_,cs,hc⟩:=hrow bs e;rw[h.blk]at hc;injection hc with hc;injection hc with _ ht;exact absurd ht (by decide)
 have hms:bm≠bs:=fun e=>by subst e;rw[h.blk]at hmap;cases hmap
 have hm2:w2.heap[bm]?=some (.map es cl):=(hg.block bm (h.lt _ h.gm) (Ne.symm hmr)).trans hmap;have hs2:w1.heap.size≤w2.heap.size:=hg.size;have hs3:w2.heap.size≤w3.heap.size:=hg3.size;have hstay: ∀b,b<w1.heap.size→some b≠v.ownBlock→b≠bm→w3.heap[b]?=w1.heap[b]?:=fun b hb h1 h2=>(hg3.block b (by omega) (fun e=>h2 (by injection e))).trans (hg.block b hb h1);have hown3:OwnR w3 v' rs':=hown.keep fun b hb'=>by refine hg3.block b (World.ownsRow.lt hown b hb').2 fun e=>?_;injection e with e;subst e;obtain⟨cs,hc⟩:=hown.typ hb';rw[hm2]at hc;cases hc
 have hoth: ∀p∈m,p.1≠s→(V p.1).ownBlock≠v.ownBlock∨v.ownBlock=none:=fun p hp hps=>by cases hvb:v.ownBlock with|none=>exact .inr rfl|some b=>obtain⟨_,rs,hmem,e,_⟩:=hrow b hvb;left;rw[←hvb,e];exact h.apart p hp (s,rs) hmem hps
 have hotherOwn: ∀p∈m,p.1≠s→OwnR w3 (V p.1) p.2:=fun p hp hps=>(h.own p hp).keep fun b hb'=>by
  refine hstay b (World.ownsRow.lt (h.own p hp) b hb').2 (fun e=>?_) (fun e=>?_)
  ·rcases hoth p hp hps with h'|h';·exact h' (hb'.trans e)
   ·rw[h']at e;cases e
  ·subst e;obtain⟨cs,hc⟩:=(h.own p hp).typ hb';rw[hmap]at hc;cases hc
 have hap: ∀q∈m,q.1≠s→v'.ownBlock≠(V q.1).ownBlock:=fun q hq hqs e=>by
  rcases hb with h'|⟨k,hk,hkl⟩
  ·rcases hoth q hq hqs with h2|h2;·exact h2 (e.symm.trans h')
   ·exact hne (h'.trans h2)
  ·have:=(World.ownsRow.lt (h.own q hq) k (e.symm.trans hk)).2;omega
 refine⟨⟨?_,?_,?_,?_,.inl ⟨h.gs,fun e=>absurd e hsr⟩,.inl ⟨h.gm,fun e=>absurd e hmr⟩,?_,?_,?_,hok⟩,?_⟩;·exact(hstay bs (h.lt _ h.gs) (Ne.symm hsr) (Ne.symm hms)).trans h.blk
 ·rw[putB_mapV];exact hm
 ·intro p hp;rcases putB_mem.1 hp with rfl|⟨hp,hps⟩;·simpa using hown3
  ·simp only[hps,if_false];exact hotherOwn p hp hps
 ·intro p hp q hq hpq;rcases putB_mem.1 hp with rfl|⟨hp,hps⟩<;>rcases putB_mem.1 hq with rfl|⟨hq,hqs⟩;·exact absurd rfl hpq
  ·simp only[if_true,hqs,if_false];exact hap q hq hqs
  ·simp only[if_true,hps,if_false];exact Ne.symm (hap p hp hps)
  ·simp only[hps,hqs,if_false];exact h.apart p hp q hq hpq
 ·intro p hp b hb';rcases putB_mem.1 hp with rfl|⟨hp,hps⟩
  ·simp only[if_true]at hb';rcases hb with h'|⟨k,hk,hkl⟩;·exact .inl ⟨(hrow b (h'.symm.trans hb')).1,fun _=>hb'⟩
   ·right;rw[hk]at hb';injection hb' with hb';subst hb';exact⟨hkl,(World.ownsRow.lt hown3 k hk).2,hk⟩
  ·simp only[hps,if_false]at hb';refine .inl ⟨h.foot p hp b hb',fun e=>?_⟩;rcases hoth p hp hps with h'|h';·exact absurd (hb'.trans e.symm) h'
   ·rw[h']at e;cases e
 ·rintro b(⟨hb',_⟩|⟨_,hb',_⟩);·have:=h.lt b hb';omega
  ·exact hb'
 ·rintro b(⟨hb',hbb⟩|⟨h1,h2,h3⟩)
  ·rcases h.typ b hb' with e|e|⟨cs,hc⟩;·exact .inl e
   ·exact .inr (.inl e)
   ·by_cases hbv:v.ownBlock=some b;·exact .inr (.inr (hown3.typ (hbb hbv)))
    ·exact .inr (.inr ⟨cs,(hstay b (h.lt b hb') (Ne.symm hbv) (fun e=>by subst e;rw[hmap]at hc;cases hc)).trans hc⟩)
  ·exact .inr (.inr (hown3.typ h3))
 ·refine⟨hg3.os.trans hg.os,hg3.tape.trans hg.tape,hg3.output.trans hg.output,by omega,fun b hb' hnG=>hstay b hb' (fun e=>hnG (hrow b e.symm).1) (fun e=>hnG (by rw[e];exact h.gm))⟩
end Go.Proofs.YtcmmclliabhnjaaGreatDoor
