/-
  Layer 33: log: a journal of events.
-/
import Derived.Test.YtladegonienapaaGreatDoorRJl5
set_option maxRecDepth 100000
set_option maxHeartbeats 16000000
namespace Go.Proofs.YtladegonienapaaGreatDoor
open Go.RowKit Go.Maps Go.Sort Go.Shelf
theorem zy(w:World)(G:Nat→Prop)(bd:Nat)(d:Dk)(h:kC w G bd d):Calls Tryz.prog 112 #[.pointer (some ⟨bd,0,none⟩)] w (q9 w (d.files.map (·.1))):=by
 obtain⟨ho,bm,B,V,h⟩:=h;have wQ:=ho.num;have c0:=h.cells.1;obtain⟨row,hrw⟩: ∃row:Row Value,row=d.files.map fun p=>(p.1,.pointer (some ⟨B p.1,0,none⟩)):=⟨_,rfl⟩;have HD:=qS (w.ownsMap Tryz.prog 9 raw bm row.length (mapD row)) (by rw[hrw];exact h.map);have hds:Maps.size (mapD row)=d.files.length:=by rw[hrw];simp[mapD,Maps.size]
 have HRW:=qS (row.map (·.1)=d.files.map (·.1)) (by rw[hrw];simp);clear hrw;have P7:=qH (kQ h.up);have hnd:(d.files.map (·.1)).Nodup:=(List.pairwise_map.2 (h.up.imp fun{a b}h e=>by rw[e,aV]at h;cases h));have Kr:=qH hnd;clear h hnd ho;refine(callsIn_wide (n:=6)).1 ?_;have Rp:Fence.wide.fn 169:=trivial;have Ro:Fence.wide.fn 39:=trivial;refine callsIn_of_wp Tryz.func112 rfl trivial ?_ rfl;simp only[Tryz.ntmps112,List.size_toArray,List.length_cons,List.length_nil,Nat.reduceAdd,Nat.reduceSub,Array.replicate_succ,Array.replicate_zero,List.push_toArray,List.append_toArray,List.nil_append,List.cons_append];have IK:=qH hds;clear hds;gi_wp2_with fail;refine(Tryz.uC _ _).mono ?_;rintro e w2⟨rfl,rfl⟩;gi_wp2_with fail;refine(Tryz.iM bm row.length (mapD row) raw w HD.o (by rw[IK.o];unfold maxLen;omega) (by rw[IK.o];omega)).mono ?_;rintro e w3⟨v,ss,rfl,hS,hrow,hnil,hb3⟩;clear c0;gi_wp2_with fail;go_ret;rw[jL]at hS;rw[HRW.o]at hS;have hr:=iW (hS.nodup_iff.2 Kr.o) (fun x=>hS.mem_iff);have he:=eT hr P7.o;rw[he]at hrow;have hl:ss.length=(d.files.map (·.1)).length:=hS.length_eq;rw[hl]at hrow;refine⟨v,rfl,?_,((Below.refl _ _).alloc (Nat.le_refl _) _).trans (hb3.mono (by simp))⟩;refine⟨hrow.1,?_⟩;rcases hrow.2 with⟨e,hl⟩|⟨g,cap,cur,e,hb',hg,hrr⟩;·exact .inl ⟨e,hl⟩
 ·exact .inr ⟨g,cap,cur,e,by simp at hb';omega,hg,hrr⟩
def wu(w:World)(e:Ending)(w':World):Prop:= ∃bd G,e=.returned (.pointer (some ⟨bd,0,none⟩))∧kC w' G bd Dk.new∧(∀b,G b→w.heap.size≤b)∧Below w.heap.size w w'
theorem ED(w:World):Calls Tryz.prog 35 #[] w (wu w):=by
 have hmm:= @run_makeMap Tryz.prog;have HR:=qS (wu w (.returned (.pointer (some ⟨w.heap.size+1,0,none⟩))) ((w.alloc (.map #[] 0)).alloc (kY w.heap.size Dk.new))) (by
  have hb:Below w.heap.size w ((w.alloc (.map #[] 0)).alloc (kY w.heap.size Dk.new)):=((Below.refl _ _).alloc (Nat.le_refl _) _).alloc (by simp) _;refine⟨w.heap.size+1,fun b=>b=w.heap.size∨b=w.heap.size+1,rfl,⟨Dk.Md,w.heap.size,fun _=>0,fun _=>.slice none 0 0,?_⟩,fun b hb=>by omega,hb⟩;have hm:bW ((w.alloc (.map #[] 0)).alloc (kY w.heap.size Dk.new)) w.heap.size []:=(bW.made w).block (heap_alloc_old _ _ (by simp));have hd:((w.alloc (.map #[] 0)).alloc (kY w.heap.size Dk.new)).heap[w.heap.size+1]?=some (kY w.heap.size Dk.new):=by have:=heap_alloc_new (w.alloc (.map #[] 0)) (kY w.heap.size Dk.new);simpa using this
  exact⟨hd,hm,by simp[Dk.new],by simp[Dk.new],by simp[Dk.new],by simp[Dk.new],.inr rfl,.inl rfl,by simp[Dk.new],by simp[Dk.new],fun b hb=>by simp;omega,by simp[Dk.new,bM],by omega,by simp[Dk.new],by simp[Dk.new]⟩);go_enter Tryz.func35,Tryz.ntmps35;go_wp2;go_ret;exact HR.o
theorem ze(w:World)(G F:Nat→Prop)(bj bd:Nat)(j:Jl)(h:fo w G F bj bd j)(hf:j.dk.files=[])(hfl:j.files=0):Calls Tryz.prog 68 #[.pointer (some ⟨bj,0,none⟩)] w fun e w'=>e=.returned (.bool true)∧xP w G F bj bd j w':=by
 have hmm:= @run_makeMap Tryz.prog;have HI:=qH h;have hlt:=h.lt;obtain⟨ho,v,hj⟩:=h;obtain⟨c0,c1,c2,c3,c4,c5,c6⟩:=hj.cells;have UO:=hj.frozen 3;have hbj:=hj.lt _ hj.fj;have HDK:=qH hj.dk;have HJ:=qH hj;have HO:=qH ho;have hb1:Below w.heap.size w (w.alloc (.map #[] 0)):=(Below.refl _ _).alloc (Nat.le_refl _) _;have HB1:=qH hb1;have zS:=qS (Calls Tryz.prog 112 #[.pointer (some ⟨bd,0,none⟩)] (w.alloc (.map #[] 0)) (q9 (w.alloc (.map #[] 0)) [])) (by have:=zy (w.alloc (.map #[] 0)) G bd j.dk (hj.dk.up hb1);rw[hf]at this;exact this);clear ho hj c1 c2 c4 c5 c6 hb1 hlt;go_enter Tryz.func68,Tryz.ntmps68;go_wp2_with fail;with_reducible refine zS.o.mono ?_
 rintro r w2⟨vn,rfl,hrow,hb2⟩;obtain⟨An,cn,Qz⟩:=ownsRow_form hrow;have HB2:=qH (HB1.o.trans (hb2.mono HB1.o.size));have hm2:bW w2 w.heap.size []:=((bW.made w).block (hb2.block _ (by simp)));have hlen: ∀ty,(Builtin.len_ #[77] ty #[.map (some w.heap.size)]).run Tryz.prog w2=.ok (.int .i64 0) w2:=fun ty=>hm2.len 77 _ Tryz.underlying77 ty;have d3:w2.cell? ⟨bj,3,none⟩=some (.int .i64 j.files):=(HB2.o.cell (p:=⟨bj,3,none⟩) hbj).trans c3;have RX:w2.frozen? ⟨bj,3,none⟩=false:=(HB2.o.frozen (p:=⟨bj,3,none⟩) hbj).trans UO;subst Qz;have HR:=qS (xP w G F bj bd j (w2.setCell ⟨bj,3,none⟩ (.int .i64 0))) (by have h2:=HJ.o.up HB2.o;refine⟨G,F,⟨HO.o,v,h2.DF rfl rfl ?_⟩,fun _ h=>.inl h,fun _ h=>.inl h,(ai.of_below HB2.o).setCell (p:=⟨bj,3,none⟩) (fun _=>.inr HJ.o.fj) _⟩;rw[af h2.blk,hfl];simp[sD,hfl]);clear c0 c3 UO hrow hb2 hm2;go_wp2;go_loopw[16](fun i wr=>i=.int .i64 0∧wr=w2)(fun _ _=>0);case atStart=>exact⟨rfl,rfl⟩
 case round=>
  obtain⟨rfl,rfl⟩:=hrel;go_wp2;go_loopw[40](fun i wz=>i=.int .i64 0∧wz=wr)(fun _ _=>0);case atStart=>exact⟨rfl,rfl⟩
  case round=>obtain⟨rfl,rfl⟩:=hrel;go_wp2;go_ret;exact⟨rfl,HR.o⟩
def zN(w:World)(G:Nat→Prop)(bd:Nat)(j:Jl)(e:Ending)(w':World):Prop:= ∃bj G' F,e=.returned (.tuple #[.pointer (some ⟨bj,0,none⟩),.int .i64 0])∧fo w' G' F bj bd j∧(∀b,G' b→G b∨w.heap.size≤b)∧(∀b,F b→w.heap.size≤b)∧ai G w w'
theorem zb(w:World)(G:Nat→Prop)(bd:Nat)(d:Dk)(h:kC w G bd d)(hf:d.files=[])(hd:d.down=false)(s:List UInt8)(hs:ae s=true)(per:Nat)(hp:1≤per)(hp2:per≤4096):Calls Tryz.prog 36 #[.pointer (some ⟨bd,0,none⟩),.string ⟨s.toArray⟩,.int .i64 per] w (zN w G bd (Jl.new d s per)):=by
 have hnl:=(fU hs).2;have Xt:=qS (Calls Tryz.prog 66 #[.string ⟨s.toArray⟩] w fun e w'=>e=.returned (.bool true)∧w=w') (by have:=fF w s;rw[hs]at this;exact this);have Tx:=qS (Calls Tryz.prog 67 #[.pointer (some ⟨bd,0,none⟩)] w fun e w'=>e=.returned (.bool false)∧w=w') (by obtain⟨_,bm,B,V,h⟩:=h;have:=Bz w G bd bm d B V h;rw[hd]at this;exact this);have hlt:=h.lt;have hb1:Below w.heap.size w (w.alloc (sD bd (.slice none 0 0) (Jl.new d s per))):=(Below.refl _ _).alloc (Nat.le_refl _) _;have P8:=qS (fo (w.alloc (sD bd (.slice none 0 0) (Jl.new d s per))) G (·=w.heap.size) w.heap.size bd (Jl.new d s per)) (by
  refine⟨⟨hp,hp2,hnl,by simp[Jl.new],by simp[Jl.new],by simp[Jl.new],by simp[Jl.new]⟩,.slice none 0 0,⟨h.up hb1,heap_alloc_new w _,World.ownsRow_nil _ _ _ _,rfl,fun b hb=>(by cases hb),fun b hb hg=>?_,fun b hb=>?_⟩⟩;·have:=hlt b hg;subst hb;omega
  ·subst hb;simp);have HB1:=qH hb1;have HF:=qH (ze _ G (·=w.heap.size) w.heap.size bd (Jl.new d s per) P8.o hf rfl);have tY:=qH hlt;clear hb1 h hs hf hd hlt;go_enter Tryz.func36,Tryz.ntmps36;go_wp2_with fail;refine Xt.o.mono ?_;rintro r w0⟨rfl,rfl⟩;go_wp2_with fail;refine Tx.o.mono ?_;rintro r w0⟨rfl,rfl⟩;go_wp2_with fail;refine HF.o.mono ?_;rintro r w2⟨rfl,hd2⟩;obtain⟨G2,F2,⟨ho2,v2,hj2⟩,hG2,hF2,hk2⟩:=hd2;have hs1:=HB1.o.size;obtain⟨c0,c1,c2,c3,c4,c5,c6⟩:=hj2.cells;obtain⟨A2,cp2,hv2⟩:=ownsRow_form hj2.own;have Yn:=hj2.frozen 5;have HR:=qS (zN w G bd (Jl.new d s per) (.returned (.tuple #[.pointer (some ⟨w.heap.size,0,none⟩),.int .i64 0])) (w2.setCell ⟨w.heap.size,5,none⟩ (.int .i64 0))) (by
  refine⟨w.heap.size,G2,F2,rfl,⟨ho2,v2,hj2.DF rfl rfl ?_⟩,fun b hb=>?_,fun b hb=>?_,?_⟩;·rw[af hj2.blk];rfl
  ·rcases hG2 b hb with h|h;·exact .inl h
   ·right;omega
  ·rcases hF2 b hb with h|h;·omega
   ·omega
  ·refine((ai.of_below HB1.o).trans hk2 (fun b hb hg=>?_)).setCell (p:=⟨w.heap.size,5,none⟩) (fun hb=>?_) _
   ·rcases hg with h|h;·exact h
    ·omega
   ·exact absurd hb (by show¬w.heap.size<w.heap.size;omega));rw[hv2]at c4;have hne:(Jl.new d s per).es.length=0:=rfl;rw[hne]at c4;have hnf:(((Jl.new d s per).files:Nat):Int)=0:=rfl;rw[hnf]at c3;clear hj2 ho2 hG2 hF2 hk2 hv2 c0 c1 c2 c6 hne hnf;go_wp2;go_loopw[40](fun i wz=>i=.int .i64 0∧wz=w2)(fun _ _=>0);case atStart=>exact⟨rfl,rfl⟩
 case round=>obtain⟨rfl,rfl⟩:=hrel;go_wp2;go_ret2;exact HR.o
theorem Eh:(Tryz.prog.info? 3).map (fun i=>(i.zero,i.size,i.bytes))=some (some (.int .i64 0),1,8):=by kernel_rfl
def ku:Int→List (Option Ev)→List Int|_,[]=>[]|f,none::l=>ku (f+1) l|f,some _::l=>f::ku (f+1) l
def mQ(l:List (Option Ev)):List Ev:=l.filterMap id
theorem lN(x:Option Ev): ∀(l:List (Option Ev))(f:Int),ku f (l++[x])=ku f l++(if x.isSome then[f+l.length]else[])
 |[],f=>by cases x<;>simp[ku]
 |none::l,f=>by
  simp only[List.cons_append,ku,lN x l (f+1),List.length_cons];congr 1;split;·congr 1;omega
  ·rfl
 |some e::l,f=>by
  simp only[List.cons_append,ku,lN x l (f+1),List.length_cons];congr 2;split;·congr 1;omega
  ·rfl
theorem rR: ∀(l:List (Option Ev))(f:Int),(ku f l).length=(mQ l).length|[],_=>rfl|none::l,f=>by simp only[ku,rR l];rfl|some e::l,f=>by simp only[ku,List.length_cons,rR l];rfl
theorem uZ(l:List (Option Ev))(x:Option Ev):mQ (l++[x])=mQ l++x.toList:=by unfold mQ;rw[List.filterMap_append];cases x<;>rfl
theorem Jp(l:List (Option Ev)):(mQ l).length≤l.length:=List.length_filterMap_le _ _
def Gp(l:List Int):List Value:=l.map (Value.int .i64)
def EO(w:World)(base:Nat)(v:Value)(l:List Int):Prop:=w.ownsRow base 3 1 v l.length (Gp l)
theorem aI.mid{w:World}{B size n c:Nat}{A:Option Addr}{xs:List Value}(h:aI w B size A n c xs)(lo m:Nat)(hm:lo+m≤n):aI w B size (if c=lo then A else A.map (·.add (lo*size))) m (c-lo) ((xs.drop (lo*size)).take (m*size)):=(h.from_ lo (by omega)).upto m (by omega)
theorem kW: ∀(l:List (Option Ev))(m:Nat),(aN l).drop (m*9)=aN (l.drop m)|[],m=>by simp[aN]|x::l,0=>by simp|x::l,m+1=>by have h9:=jd x;have e1:aN (x::l)=ny x++aN l:=rfl;rw[e1,List.drop_succ_cons,←kW l m,show(m+1)*9=(ny x).length+m*9 by omega,List.drop_append];simp
theorem kU: ∀(l:List (Option Ev))(m:Nat),(aN l).take (m*9)=aN (l.take m)|[],m=>by simp[aN]|x::l,0=>by simp[aN]|x::l,m+1=>by have h9:=jd x;have e1:aN (x::l)=ny x++aN l:=rfl;have e2:aN ((x::l).take (m+1))=ny x++aN (l.take m):=rfl;rw[e1,e2,←kU l m,show(m+1)*9=(ny x).length+m*9 by omega,List.take_append,List.take_of_length_le (by omega),Nat.add_sub_cancel_left]
def Cg(w:World)(B:Nat)(A:Option Addr)(n c:Nat)(l:List (Option Ev)):Prop:=aI w B 9 A n c (aN l)
theorem Cg.len{w:World}{B n c:Nat}{A:Option Addr}{l:List (Option Ev)}(h:Cg w B A n c l):l.length=n:=by have:=aI.len h;rw[qQ]at this;omega
abbrev Dn(w:World)(b o:Nat)(x:Option Ev):Prop:=w.cell? ⟨b,o,none⟩=some (.string ⟨(bK x).src.toArray⟩)∧w.cell? ⟨b,o+1,none⟩=some (.int .i64 (bK x).num)∧w.cell? ⟨b,o+2,none⟩=some (.int .i64 (bK x).at_)∧w.cell? ⟨b,o+3,none⟩=some (.int .i64 (bK x).kind)∧w.cell? ⟨b,o+4,none⟩=some (.string ⟨(bK x).per.toArray⟩)∧w.cell? ⟨b,o+5,none⟩=some (.string ⟨(bK x).item.toArray⟩)∧w.cell? ⟨b,o+6,none⟩=some (.int .i64 (bK x).val)∧w.cell? ⟨b,o+7,none⟩=some (.string ⟨(bK x).text.toArray⟩)∧w.cell? ⟨b,o+8,none⟩=some (.bool x.isNone)
theorem Cg.at_{w:World}{B n c:Nat}{A:Option Addr}{l:List (Option Ev)}(h:Cg w B A n c l)(k:Nat)(hk:k<l.length): ∃b off,A=some ⟨b,off,none⟩∧b<B∧Dn w b (off+k*9) l[k]:=by
 have hl:=h.len;obtain⟨b,off,e,hb,hc⟩:=aI.cell h (by omega);have key: ∀j u,j<9→(ny l[k])[j]?=some u→w.cell? ⟨b,off+k*9+j,none⟩=some u:=fun j u hj hu=>by rw[Nat.add_assoc];exact hc _ u ((wW l k j hk hj).trans hu)
 rw[wX]at key;exact⟨b,off,e,hb,key 0 _ (by omega) rfl,key 1 _ (by omega) rfl,key 2 _ (by omega) rfl,key 3 _ (by omega) rfl,key 4 _ (by omega) rfl,key 5 _ (by omega) rfl,key 6 _ (by omega) rfl,key 7 _ (by omega) rfl,key 8 _ (by omega) rfl⟩
theorem Dn.below{w w':World}{b o B:Nat}{x:Option Ev}(h:Dn w b o x)(hb:Below B w w')(hB:b<B):Dn w' b o x:=by obtain⟨h0,h1,h2,h3,h4,h5,h6,h7,h8⟩:=h;have key: ∀(o:Nat)u,w.cell? ⟨b,o,none⟩=some u→w'.cell? ⟨b,o,none⟩=some u:=fun o u hu=>(hb.cell (p:=⟨b,o,none⟩) hB).trans hu;exact⟨key _ _ h0,key _ _ h1,key _ _ h2,key _ _ h3,key _ _ h4,key _ _ h5,key _ _ h6,key _ _ h7,key _ _ h8⟩
def Jl.qw(j:Jl)(a b:Int):Bool:=decide (a<0)||decide ((j.es.length:Int)<a)||decide (b<0)
def Jl.uY(j:Jl)(a b:Int):List (Option Ev):=(j.es.drop a.toNat).take (min b (j.es.length-a)).toNat
def xB(w:World)(evs:List Ev)(ats:List Int)(er:Int)(e:Ending)(w':World):Prop:= ∃v u,e=.returned (.tuple #[v,u,.int .i64 er])∧aU w' w.heap.size v evs∧EO w' w.heap.size u ats∧Below w.heap.size w w'
def xA(w:World)(f:Int)(l:List (Option Ev))(v u i:Value)(wr:World):Prop:= ∃k:Nat,i=.int .i64 k∧k≤l.length∧aU wr w.heap.size v (mQ (l.take k))∧EO wr w.heap.size u (ku f (l.take k))∧Below w.heap.size w wr
def fV(w:World)(j:Jl)(a b:Int)(e:Ending)(w':World):Prop:=xB w (if j.qw a b then[]else mQ (j.uY a b)) (if j.qw a b then[]else ku a (j.uY a b)) (if j.qw a b then 9 else 0) e w'
theorem AZ(w:World)(G F:Nat→Prop)(bj bd:Nat)(j:Jl)(h:fo w G F bj bd j)(a b:Int):Calls Tryz.prog 79 #[.pointer (some ⟨bj,0,none⟩),.int .i64 a,.int .i64 b] w (fV w j a b):=by
 obtain⟨ho,v,hj⟩:=h;have c4:=hj.cells.2.2.2.2.1;obtain⟨A,c,hv⟩:=ownsRow_form hj.own;have V8:=ho.num;have HO:=qS (Cg w w.heap.size A j.es.length c j.es) (by have:=hj.own;rw[hv]at this;exact aI.bz this);rw[hv]at c4;have HB:=qS (j.qw a b=(decide (a<0)||decide ((j.es.length:Int)<a)||decide (b<0))) (rfl);clear hj ho hv;have kv:=qS (j.qw a b=true→fV w j a b (.returned (.tuple #[.slice none 0 0,.slice none 0 0,.int .i64 9])) w) (fun h=>by unfold fV;rw[if_pos h,if_pos h,if_pos h];exact⟨_,_,rfl,World.ownsRow_nil _ _ _ _,World.ownsRow_nil _ _ _ _,Below.refl _ _⟩);generalize hn:j.es.length=n at*;have HN:=qH hn;by_cases h1:a<0;·have HR:=qH (kv.o (by rw[HB.o,decide_eq_true h1];rfl));go_enter Tryz.func79,Tryz.ntmps79;go_wp2;go_ret3;exact HR.o
 by_cases h2:(n:Int)<a;·have HR:=qH (kv.o (by rw[HB.o,decide_eq_true h2];simp));go_enter Tryz.func79,Tryz.ntmps79;go_wp2;go_ret3;exact HR.o
 by_cases h3:b<0;·have HR:=qH (kv.o (by rw[HB.o,decide_eq_true h3];simp));go_enter Tryz.func79,Tryz.ntmps79;go_wp2;go_ret3;exact HR.o
 have hbad:j.qw a b=false:=by rw[HB.o,decide_eq_false h1,decide_eq_false h2,decide_eq_false h3];rfl
 obtain⟨lo,rfl⟩:=Int.eq_ofNat_of_zero_le (show 0≤a by omega);obtain⟨m,hm⟩: ∃m:Nat,(m:Int)=min b ((n:Int)-lo):=⟨(min b ((n:Int)-lo)).toNat,by omega⟩;have hseg:j.uY lo b=(j.es.drop lo).take m:=by unfold Jl.uY;rw[hn,←hm];simp
 have HP:=qS (∀e w',xB w (mQ ((j.es.drop lo).take m)) (ku lo ((j.es.drop lo).take m)) 0 e w'→fV w j lo b e w') (fun e w' h=>by unfold fV;rw[hbad,hseg];exact h);have hlm:lo+m≤n:=by omega
 have Iu:=qS (((j.es.drop lo).take m).length=m) (by simp[hn];omega);have HC:=qS (Cg w w.heap.size (if c=lo then A else A.map (·.add (lo*9))) m (c-lo) ((j.es.drop lo).take m)) (by have:=aI.mid HO.o lo m hlm;unfold Cg;rw[←kU,←kW];exact this);have hcap:n≤c:=aI.cap HO.o;generalize(j.es.drop lo).take m=gJ at*;clear hbad hseg hn kv HB HO;have hm':=hm.symm;clear hm;go_enter Tryz.func79,Tryz.ntmps79;obtain⟨A',c',K3⟩: ∃A' c',(if c=lo then A else A.map (·.add (lo*9)))=A'∧c-lo=c':=⟨_,_,rfl,rfl⟩;rw[K3.1,K3.2]at HC;have HST:=qS (xA w lo gJ (.slice none 0 0) (.slice none 0 0) (.int .i64 ((0:Nat):Int)) w) (⟨0,rfl,Nat.zero_le _,World.ownsRow_nil _ _ _ _,World.ownsRow_nil _ _ _ _,Below.refl _ _⟩);by_cases hcl:c=lo;case' pos=>
  rw[if_pos hcl]at K3;have hc0:c-lo=0:=by omega
  have NY:=qH K3;clear K3;go_wp2;rw[show Value.slice A m 0=.slice A' m c' by rw[←NY.o.1,←NY.o.2,hc0]]
 case' neg=>rw[if_neg hcl]at K3;have NY:=qH K3;clear K3;go_wp2;rw[show Value.slice (Option.map (fun x=>x.add (lo*9)) A) m (c-lo)=.slice A' m c' by rw[←NY.o.1,←NY.o.2]]
 all_goals
  clear NY c4 hm' hcl hcap;go_loopw[9,10,47](fun v u i wr=>xA w lo gJ v u i wr)(fun _ _ i _=>m-(intOf i).toNat);case atStart=>exact HST.o
  case round=>
   obtain⟨k,rfl,hk,hov,hou,hbel⟩:=hrel;have HV:=qH hov;have HU:=qH hou;have xJ:=qH hbel;clear hov hou;have QC:k≤m:=by rw[←Iu.o];exact hk
   by_cases hkn:k<m
   ·have hkl:k<gJ.length:=by rw[Iu.o];exact hkn
    obtain⟨b',off,OZ,hb,hd⟩:=HC.o.at_ k hkl;obtain⟨e0,e1,e2,e3,e4,e5,e6,e7,e8⟩:=hd.below hbel hb;have fH:=qS (gJ.take (k+1)=gJ.take k++[gJ[k]]) (by rw[List.take_add_one,List.getElem?_eq_getElem hkl,Option.toList_some]);have bQ:Below w.heap.size w (wr.alloc (bT gJ[k])):=hbel.alloc hbel.size _;have I9:=qH bQ;have hlk:(gJ.take k).length=k:=by rw[List.length_take];omega
    have hle:=Jp (gJ.take k);have Sk:=qH (World.ownsRow.alloc HV.o (bT gJ[k]));have U9:=qH (World.ownsRow.alloc HU.o (bT gJ[k]));have hsA:(wr.alloc (bT gJ[k])).heap.size=wr.heap.size+1:=by simp
    have hin:=lJ.new wr gJ[k];subst OZ;have t1:(k:Int)<m:=by omega
    generalize gJ[k]=x at*;clear hd hb bQ;obtain⟨f0,f1,f2,f3,f4,f5,f6,f7,f8⟩:=hin;cases zX:x.isNone
    ·obtain⟨e,rfl⟩: ∃e,x=some e:=by cases x with|none=>simp at zX|some e=>exact⟨e,rfl⟩
     simp only[bK,Option.getD_some]at e0 e1 e2 e3 e4 e5 e6 e7 f0 f1 f2 f3 f4 f5 f6 f7;have ma:=qS (∀v' u' w3,aU w3 w.heap.size v' (mQ (gJ.take k)++[e])→EO w3 w.heap.size u' (ku lo (gJ.take k)++[(lo:Int)+k])→Below w.heap.size w w3→xA w lo gJ v' u' (.int .i64 ((k+1:Nat):Int)) w3) (fun v' u' w3 h1 h2 h3=>by
      refine⟨k+1,rfl,by omega,?_,?_,h3⟩;·rw[fH.o,uZ];exact h1
      ·rw[fH.o,lN,Option.isSome_some,if_pos rfl,hlk];exact h2);obtain⟨i0,hi,hz0,hz1,hz2⟩:=info_parts jX;have HI:=qH hi;have HZ0:=qH hz0;have HZ1:=qH hz1;have HZ2:=qH hz2;clear hi hz0 hz1 hz2 fH;obtain⟨j0,hi,hz0,hz1,hz2⟩:=info_parts Eh;have KI:=qH hi;have WO:=qH hz0;have WN:=qH hz1;have WM:=qH hz2;clear hi hz0 hz1 hz2;have Wd:=rR (gJ.take k) lo;simp only[Option.isNone_some]at e8 f8;go_wp2_with(at_builtin;refine aJ (P:=Tryz.prog) rfl (.tmp 55) (.tmp 58) 22 rfl 28 i0 _ 8 96 Tryz.underlying22 HI.o HZ0.o HZ1.o HZ2.o rfl (by decide) w.heap.size _ (mQ (gJ.take k)).length (au (mQ (gJ.take k))) rfl ?c1 (wr.heap.size+1+1) _ _ _ e.cells rfl ?c2 (cells_one e) ?c4 ?c5 ?c6 ?_);case c1=>exact World.ownsRow.alloc Sk.o _
     case c2=>have:=aI.new (size:=8) (n:=1) (wr.alloc (bT (some e))) #[.string ⟨e.src.toArray⟩,.int .i64 e.num,.int .i64 e.at_,.int .i64 e.kind,.string ⟨e.per.toArray⟩,.string ⟨e.item.toArray⟩,.int .i64 e.val,.string ⟨e.text.toArray⟩] 28 (by unfold maxLen;omega) rfl;rw[hsA]at this;exact this
     case c4=>unfold maxLen;omega
     case c5=>omega
     case c6=>have:=I9.o.size;first|omega|(simp;omega)
     intro v' w2 hown2 hg2 _;have Sl:=qS (aU w2 w.heap.size v' (mQ (gJ.take k)++[e])) (by unfold aU;rw[gG,List.length_append];exact hown2);have hbl2:Below w.heap.size w w2:=Below.grown (I9.o.alloc I9.o.size _) hg2 (by have:=I9.o.size;first|omega|(simp;omega)) (fun k' hk'=>(World.ownsRow.lt Sk.o k' hk').1);have HB2:=qH hbl2;have Sn:=qS (EO w2 w.heap.size u10 (ku lo (gJ.take k))) (World.ownsRow.kept (World.ownsRow.alloc U9.o _) hg2 (mo HU.o HV.o (by decide)));have hsz2:wr.heap.size+2≤w2.heap.size:=by have:=hg2.size;simp at this;omega
     clear hown2 hg2 hbl2 f0 f1 f2 f3 f4 f5 f6 f7 f8 e0 e1 e2 e3 e4 e5 e6 e7 e8;go_wp2_with(at_builtin;refine aJ (P:=Tryz.prog) rfl (.tmp 60) (.tmp 64) 55 rfl 3 j0 _ 1 8 Tryz.underlying55 KI.out WO.out WN.out WM.out rfl (by decide) w.heap.size _ (ku lo (gJ.take k)).length (Gp (ku lo (gJ.take k))) rfl ?c1 (w2.heap.size+1) _ _ _ [.int .i64 ((lo:Int)+k)] rfl ?c2 ?c3 ?c4 ?c5 ?c6 ?_);case c1=>exact World.ownsRow.alloc Sn.o _
     case c2=>exact aI.new (size:=1) (n:=1) w2 #[.int .i64 ((lo:Int)+k)] 3 (by unfold maxLen;omega) rfl
     case c3=>intro u hu;simp at hu;subst hu;rfl
     case c4=>unfold maxLen;omega
     case c5=>omega
     case c6=>have:=HB2.o.size;first|omega|(simp;omega)
     intro u' w3 hown3 hg3 _;have W9:=qS (EO w3 w.heap.size u' (ku lo (gJ.take k)++[(lo:Int)+k])) (by unfold EO Gp;rw[List.map_append,List.length_append,Wd];exact hown3);have Lg:=qS (aU w3 w.heap.size v' (mQ (gJ.take k)++[e])) (World.ownsRow.kept (World.ownsRow.alloc Sl.o _) hg3 (mo Sl.o Sn.o (by decide)));have HB3:=qS (Below w.heap.size w w3) (Below.grown (HB2.o.alloc HB2.o.size _) hg3 (by have:=HB2.o.size;first|omega|(simp;omega)) (fun k' hk'=>(World.ownsRow.lt Sn.o k' hk').1));have xE:=qH (ma.o v' u' w3 Lg.o W9.o HB3.o);clear hown3 hg3;go_wp2;go_roundw;case rel=>exact xE.o
     case measure=>simp[intOf];omega
    ·have hx:x=none:=by cases x with|none=>rfl|some e=>simp at zX
     rw[zX]at e8 f8;have xE:=qS (xA w lo gJ u9 u10 (.int .i64 ((k+1:Nat):Int)) (wr.alloc (bT x))) (by
      refine⟨k+1,rfl,by omega,?_,?_,I9.o⟩;·rw[fH.o,uZ,hx,Option.toList_none,List.append_nil,←hx];exact Sk.o
      ·rw[fH.o,lN,hx,Option.isSome_none,if_neg (by simp),List.append_nil,←hx];exact U9.o);subst hx;clear f0 f1 f2 f3 f4 f5 f6 f7;go_wp2;go_roundw;case rel=>exact xE.o
     case measure=>simp[intOf];omega
   ·have t1: ¬(k:Int)<m:=by omega
    have HR:=qS (fV w j lo b (.returned (.tuple #[u9,u10,.int .i64 0])) wr) (by have hv:=HV.o;have hu:=HU.o;rw[List.take_of_length_le (by rw[Iu.o];omega)]at hv hu;exact HP.o _ _ ⟨u9,u10,rfl,hv,hu,xJ.o⟩);clear hbel;go_wp2;go_ret3;exact HR.o
theorem jS{e:Ev}(h:aB e=true):e.small:=by have:=iD h;exact⟨by have:=this.src;omega,by have:=this.per;omega,by have:=this.item;omega,by have:=this.text;omega⟩
def vV(w:World)(ds:List Ev)(e:Ending)(w':World):Prop:= ∃(bd bj:Nat)(G F:Nat→Prop)(j:Jl),e=.returned (.pointer (some ⟨bj,0,none⟩))∧fo w' G F bj bd j∧(∀b,G b∨F b→w.heap.size≤b)∧RowKit.Below w.heap.size w w'∧j.es=ds.map some
def Ik(w:World)(ds:List Ev)(e:Ending)(w':World):Prop:= ∃(bd bj:Nat)(G F:Nat→Prop)(j:Jl),e=.returned (.pointer (some ⟨bj,0,none⟩))∧fo w' G F bj bd j∧(∀b,G b∨F b→w.heap.size≤b)∧RowKit.Below w.heap.size w w'∧j.es=ds.map some∧j.iQ
def zP(w:World)(per:Nat)(ds:List Ev)(e:Ending)(w':World):Prop:= ∃(bd bj:Nat)(G F:Nat→Prop)(j:Jl),e=.returned (.pointer (some ⟨bj,0,none⟩))∧fo w' G F bj bd j∧(∀b,G b∨F b→w.heap.size≤b)∧RowKit.Below w.heap.size w w'∧j.es=ds.map some∧j.iQ∧j=(Jl.new Dk.new [106] per).app ds
theorem Hr{j:Jl}{es:List Ev}(hf:j.iQ)(hl:j.es.length+es.length≤100)(ha:es.all aB=true):(j.app es).iQ∧j.oH es=j.es.length∧j.oI es=0∧(j.app es).es=j.es++es.map some:=by have hps:=Jl.iQ.puts es hf hl (fun e he=>(iD (List.all_eq_true.1 ha e he)).len);unfold Jl.app Jl.oH Jl.oI;simp only[hf.free,ne_eq,not_true_eq_false,if_false,ha,if_true];exact⟨hps.1,trivial,hps.2.1,hps.2.2.1⟩
theorem Ao(w:World)(A:Option Addr)(n c:Nat)(ds:List Ev)(h:eD w w.heap.size A n c ds)(hn:n≤40)(hal:ds.all aB=true)(per:Nat)(hp:1≤per)(hp2:per≤4096)(hmx:aM w):Calls Tryz.prog 11 #[.int .i64 per,.slice A n c] w (zP w per ds):=by
 have HH:=qH h;have dO:=qH hmx;have wQ:=hmx.lt;have HL:=qH h.len;have Ce:=qH hal;have xD:=qS (∀e∈ds,e.small) (fun e he=>jS (List.all_eq_true.1 hal e he));have IJ:=qS (∀W,RowKit.Below w.heap.size w W→eD W W.heap.size A n c ds) (fun W hW=>aI.more (aI.below h hW) hW.size);clear h hmx hal;go_enter Tryz.func11,Tryz.ntmps11;go_wp2_with fail;refine(ED w).mono ?_;rintro r w4⟨bd,G4,rfl,hd4,hG4,hb4⟩;have HD4:=qH hd4;have nE:=qH hG4;have fA:=qH hb4;have hs4:=hb4.size;clear hd4 hG4 hb4;go_wp2_with fail;refine(zb w4 G4 bd Dk.new HD4.o rfl rfl [106] (by decide) per hp hp2).mono ?_;rintro r w5⟨bj,G5,F5,rfl,hj5,Fe,OW,hk5⟩;have Vv:=qH hj5;have EU:=qS (∀b,G5 b∨F5 b→w.heap.size≤b) (fun b hb=>by
  rcases hb with hb|hb
  ·rcases Fe b hb with h|h;·exact nE.o b h
   ·omega
  ·have:=OW b hb;omega);have jJ:=qS (RowKit.Below w.heap.size w w5) (fA.o.trans (hk5.below hs4 (fun k hk hg=>by have:=nE.o k hg;omega)));have hs5:=jJ.o.size;obtain⟨j0,hj0⟩: ∃j0,j0=Jl.new Dk.new [106] per:=⟨_,rfl⟩;have XK:=qH hj0;rw[←hj0]at Vv;have hf0:j0.iQ:=by rw[hj0];exact Jl.GG [106] per (by simp) hp
 have he0:j0.es=[]:=by rw[hj0];rfl
 have hps:(j0.puts ds).iQ∧j0.gy ds=0∧(j0.puts ds).es=j0.es++ds.map some∧(j0.puts ds).name=j0.name∧(j0.puts ds).per=j0.per:=Jl.iQ.puts ds hf0 (by rw[he0,HL.o];simp;omega) (fun e he=>(iD (List.all_eq_true.1 Ce.o e he)).len);have vZ:=qS (j0.oH ds=0∧j0.oI ds=0∧(j0.app ds).es=ds.map some∧(j0.app ds).iQ) (by unfold Jl.app Jl.oH Jl.oI;simp only[hf0.free,ne_eq,not_true_eq_false,if_false,Ce.o,if_true];exact⟨by rw[he0];rfl,hps.2.1,by rw[hps.2.2.1,he0];rfl,hps.1⟩);have Cc:=qH (vF w5 G5 F5 bj bd j0 Vv.o A n c ds (IJ.o w5 jJ.o) (fun b off e h0 hg=>by obtain⟨b',off',e',hb',_⟩:=aI.cell HH.o h0;rw[e']at e;injection e with e;injection e with e;have:=EU.o b hg;omega) xD.o (by rw[he0,HL.o];simp;omega) (dO.o.up jJ.o) ⟨fun hg=>by have:=EU.o _ (.inl hg);omega,fun hg=>by have:=EU.o _ (.inr hg);omega⟩);rw[vZ.o.1,vZ.o.2.1]at Cc;clear hj5 Fe OW hk5 hj0 hf0 he0 hps;go_wp2_with fail;refine Cc.o.mono ?_;rintro r w6⟨rfl,G6,F6,hj6,OQ,OV,hk6⟩;have HR:=qS (zP w per ds (.returned (.pointer (some ⟨bj,0,none⟩))) w6) (by
  refine⟨bd,bj,G6,F6,_,rfl,hj6,fun b hb=>?_,jJ.o.trans (hk6.below hs5 (fun k hk hg=>by have:=EU.o k hg;omega)),vZ.o.2.2.1,vZ.o.2.2.2,by rw[XK.o]⟩;rcases hb with hb|hb
  ·rcases OQ b hb with h|h;·exact EU.o b (.inl h)
   ·omega
  ·rcases OV b hb with h|h;·exact EU.o b (.inr h)
   ·omega);clear hj6 OQ OV hk6 Cc;go_wp2;go_ret;exact HR.o
theorem rP(w:World)(A:Option Addr)(n c:Nat)(ds:List Ev)(h:eD w w.heap.size A n c ds)(hn:n≤40)(hal:ds.all aB=true)(per:Nat)(hp:1≤per)(hp2:per≤4096)(hmx:aM w):Calls Tryz.prog 11 #[.int .i64 per,.slice A n c] w (Ik w ds):=(Ao w A n c ds h hn hal per hp hp2 hmx).mono fun _ _⟨bd,bj,G,F,j,h1,h2,h3,h4,h5,h6,_⟩=>⟨bd,bj,G,F,j,h1,h2,h3,h4,h5,h6⟩
theorem jv(w:World)(A:Option Addr)(n c:Nat)(ds:List Ev)(h:eD w w.heap.size A n c ds)(hn:n≤40)(hal:ds.all aB=true)(per:Nat)(hp:1≤per)(hp2:per≤4096)(hmx:aM w):Calls Tryz.prog 11 #[.int .i64 per,.slice A n c] w (vV w ds):=(rP w A n c ds h hn hal per hp hp2 hmx).mono fun _ _⟨bd,bj,G,F,j,h1,h2,h3,h4,h5,_⟩=>⟨bd,bj,G,F,j,h1,h2,h3,h4,h5⟩
end Go.Proofs.YtladegonienapaaGreatDoor
