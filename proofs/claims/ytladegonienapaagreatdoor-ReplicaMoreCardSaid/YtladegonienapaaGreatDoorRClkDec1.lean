/-
  Layer 6: a line that is read (Decode$1): what it leaves.
-/
import Derived.StillTailTactics
import Derived.Test.YtladegonienapaaGreatDoorRPtClk
import Derived.Lib.AtoiErrMem
import Derived.Test.YtladegonienapaaGreatDoorREvLen
import Derived.Lib.AppendStr
import Derived.Lib.OthersKept
set_option maxRecDepth 100000
set_option maxHeartbeats 16000000
namespace Go.Proofs.YtladegonienapaaGreatDoor
open Go.RowKit Go.Maps Go.Sort
def sW(s:Int×Int):Value:=.agg #[.int .i64 s.1,.int .i64 s.2]
def bJ(m:Row (Int×Int)):Row Value:=m.map fun p=>(p.1,sW p.2)
abbrev xc(c:bq)(bm:Nat):Obj:=.cells #[.int .i64 c.ag,.int .i64 c.idle,.int .i64 c.now,.int .i64 c.mark,.map (some bm)] 156
structure ay(w:World)(bc bm:Nat)(c:bq):Prop where
 blk:w.heap[bc]?=some (xc c bm)
 map:bW w bm (bJ c.src)
 ok:fP c
structure Ch(w:World)(bc bm:Nat)(c:bq):Prop where
 c0:w.cell? ⟨bc,0,none⟩=some (.int .i64 c.ag)
 c1:w.cell? ⟨bc,1,none⟩=some (.int .i64 c.idle)
 c2:w.cell? ⟨bc,2,none⟩=some (.int .i64 c.now)
 c3:w.cell? ⟨bc,3,none⟩=some (.int .i64 c.mark)
 c4:w.cell? ⟨bc,4,none⟩=some (.map (some bm))
 f2:w.frozen? ⟨bc,2,none⟩=false
 f3:w.frozen? ⟨bc,3,none⟩=false
theorem ay.cells{w:World}{bc bm:Nat}{c:bq}(h:ay w bc bm c):Ch w bc bm c:=by have key: ∀o,w.cell? ⟨bc,o,none⟩=_:=fun o=>cell_of_row w bc o _ _ (0,0) h.blk;exact⟨(key 0).trans rfl,(key 1).trans rfl,(key 2).trans rfl,(key 3).trans rfl,(key 4).trans rfl,frozen_of_row w bc 2 _ _ h.blk,frozen_of_row w bc 3 _ _ h.blk⟩
theorem ay.keep{w w':World}{bc bm:Nat}{c:bq}(h:ay w bc bm c)(h1:w'.heap[bc]?=w.heap[bc]?)(h2:w'.heap[bm]?=w.heap[bm]?):ay w' bc bm c:=⟨h1.trans h.blk,h.map.block h2,h.ok⟩
theorem ay.lt{w:World}{bc bm:Nat}{c:bq}(h:ay w bc bm c):bc<w.heap.size:=ax h.blk
theorem ay.up{w w':World}{bc bm:Nat}{c:bq}(h:ay w bc bm c)(hb:Below w.heap.size w w'):ay w' bc bm c:=h.keep (hb.block _ h.lt) (hb.block _ h.map.lt)
theorem ay.ne{w:World}{bc bm:Nat}{c:bq}(h:ay w bc bm c):bc≠bm:=by rintro rfl;obtain⟨es,cl,h1⟩:=h.map.isMap;rw[h.blk]at h1;cases h1
theorem pR(w:World)(n:Int):Calls Tryz.prog 102 #[.int .i64 n] w fun e w'=>e=.returned (.int .i64 (ed n))∧w=w':=by go_enter Tryz.func102,Tryz.ntmps102;go_wp2;go_ret;exact⟨rfl,rfl⟩
theorem BK(w:World)(bc bm:Nat)(c:bq)(hc:ay w bc bm c)(a h:Int)(h1:0≤h∧h≤1099511627776):Calls Tryz.prog 194 #[.pointer (some ⟨bc,0,none⟩),.agg #[.int .i64 a,.int .i64 h]] w (Says (oJ c.idle c.now (a,h)) w):=by
 obtain⟨o1,o2,o3,o4,_,_⟩:=hc.ok;have hlt:=hc.lt;obtain⟨c0,c1,c2,c3,c4,f2,f3⟩:=hc.cells;have HA:=qS (oJ c.idle c.now (a,h)=(decide (c.idle=0)||decide (c.now-h≤c.idle))) (rfl);clear hc;generalize c.idle=idle at*;generalize c.now=now at*;generalize c.ag=ag at*;generalize c.mark=mark at*;by_cases h0:idle=0
 ·have b0:(idle==0)=true:=by simpa using h0
  have HB:=qS (oJ idle now (a,h)=true) (by rw[HA.o];simp[h0]);clear h0;go_enter Tryz.func194,Tryz.ntmps194;go_wp2;go_quiet(fail);go_wp2;go_ret;exact⟨aa HB.o.symm,below_drewN ((Below.refl _ _).alloc (Nat.le_refl _) _) _⟩
 ·have b0:(idle==0)=false:=by simpa using h0
  have HB:=qS (oJ idle now (a,h)=decide (now-h≤idle)) (by rw[HA.o];simp[h0]);clear h0;go_enter Tryz.func194,Tryz.ntmps194;go_wp2;go_quiet(fail);go_wp2;go_ret;exact⟨aa HB.o.symm,below_drewN ((Below.refl _ _).alloc (Nat.le_refl _) _) _⟩
open Go.Shelf
theorem wZ(w:World)(l:List UInt8)(c:UInt8)(hl:l.length≤1000000000)(hm:aM w):Calls Tryz.prog 126 #[.string ⟨l.toArray⟩,.string ⟨#[c]⟩] w fun e w'=>e=.returned (.tuple #[.string ⟨(Lib.cut l [c]).1.toArray⟩,.string ⟨(Lib.cut l [c]).2.1.toArray⟩,.bool (Lib.cut l [c]).2.2])∧ ∃n,w'=w.drewN n:=by obtain⟨m,hm⟩:=hm;have:=Tryz.strings_Cut ⟨l.toArray⟩ ⟨#[c]⟩ m w (by show l.toArray.size<_;simp;omega) hm;simpa using this
theorem rF(s sep:List UInt8):(Lib.splitB ⟨sep.toArray⟩ 0 (Lib.countB ⟨s.toArray⟩ ⟨sep.toArray⟩) ⟨s.toArray⟩).map Value.string=(Lib.split s sep).map encStr:=by
 have h:=Lib.splitB_data ⟨sep.toArray⟩ 0 (Lib.countB ⟨s.toArray⟩ ⟨sep.toArray⟩) ⟨s.toArray⟩;have h2:Lib.split s sep=Lib.splitK sep 0 (Lib.countB ⟨s.toArray⟩ ⟨sep.toArray⟩) s:=rfl;rw[h2];have h3:(⟨s.toArray⟩:ByteArray).data.toList=s:=by simp
 have h4:(⟨sep.toArray⟩:ByteArray).data.toList=sep:=by simp
 rw[h3,h4]at h;rw[←h,List.map_map];refine List.map_congr_left fun b _=>?_;show Value.string b=encStr b.data.toList;unfold encStr;simp
theorem oW(s:List UInt8)(c:UInt8):(Lib.split s [c]).length=Lib.countB ⟨s.toArray⟩ ⟨#[c]⟩+1:=by have h:=Lib.splitB_all ⟨#[c]⟩ (Nat.le_refl _) 0 _ ⟨s.toArray⟩ rfl;have h2:=congrArg List.length (rF s [c]);simp only[List.length_map]at h2;rw[←h2,←h]
theorem mH(w:World)(l:List UInt8)(c:UInt8)(hl:l.length≤1000000000)(hm:aM w):Calls Tryz.prog 131 #[.string ⟨l.toArray⟩,.string ⟨#[c]⟩] w fun e w'=>e=.returned (.slice (some ⟨w.heap.size,0,none⟩) (Lib.split l [c]).length (Lib.split l [c]).length)∧w'=w.alloc (.cells ((Lib.split l [c]).map encStr).toArray 9):=by obtain⟨m,hm⟩:=hm;have:=Tryz.strings_Split ⟨l.toArray⟩ ⟨#[c]⟩ m w (by show l.toArray.size<_;simp;omega) hm (Nat.le_refl _);rw[←oW]at this;rw[←rF l [c]];exact this
def eQ(w:World):Prop:=(∃v,w.cell? ⟨1,0,none⟩=some v∧(v=.nilIface∨ ∃t p,v=.iface t p))∧ ∃v,w.cell? ⟨2,0,none⟩=some v∧(v=.nilIface∨ ∃t p,v=.iface t p)
theorem eQ.up{w w':World}(h:eQ w)(hb:Below w.heap.size w w'):eQ w':=by obtain⟨⟨v,h1,h2⟩,u,h3,h4⟩:=h;exact⟨⟨v,(hb.cell (World.block_lt_of_cell? _ _ h1)).trans h1,h2⟩,u,(hb.cell (World.block_lt_of_cell? _ _ h3)).trans h3,h4⟩
def NC(w:World)(l:List UInt8)(e:Ending)(w':World):Prop:= ∃ev,e=.returned (.tuple #[.int .i64 (dm l),ev])∧(if mr l then ev=.nilIface else∃t p,ev=.iface t p)∧Below w.heap.size w w'
theorem zG(w:World)(l:List UInt8)(hl:l.length≤1000000000)(hv:eQ w):Calls Tryz.prog 132 #[.string ⟨l.toArray⟩] w (NC w l):=by
 have hz:(⟨l.toArray⟩:ByteArray).size=l.length:=by simp[ByteArray.size]
 have hd:(⟨l.toArray⟩:ByteArray).data.toList=l:=by simp
 obtain⟨⟨v,h1,h2⟩,u,h3,h4⟩:=hv;cases ha:Lib.atoiAll l with
  |ok n=>
   refine(Tryz.strconv_Atoi_ok ⟨l.toArray⟩ (by rw[hz];omega) n (by rw[hd];exact ha) w).mono ?_;rintro e w'⟨rfl,hw⟩;refine⟨.nilIface,by unfold dm;rw[ha],by unfold mr;rw[ha];rfl,?_⟩;rcases hw with rfl|⟨t,rfl⟩;·exact Below.refl _ _
   ·exact Lib.bytesWorld_below w _ t
  |range=>refine(Tryz.strconv_Atoi_range ⟨l.toArray⟩ (by rw[hz];omega) (by rw[hd];exact ha) u w h3 h4).mono ?_;rintro e w'⟨N,rfl,_,_,hb⟩;refine⟨_,by unfold dm;rw[ha,hd],?_,hb⟩;unfold mr;rw[ha];exact⟨_,_,rfl⟩
  |_=>refine(Tryz.strconv_Atoi_syntax ⟨l.toArray⟩ (by rw[hz];omega) (by rw[hd];exact ha) v w h1 h2).mono ?_;rintro e w'⟨N,rfl,_,_,hb⟩;refine⟨_,by unfold dm;rw[ha],?_,hb⟩;unfold mr;rw[ha];exact⟨_,_,rfl⟩
theorem zF(w:World)(n:Int)(h0: -9223372036854775808≤n)(h1:n≤9223372036854775807):Calls Tryz.prog 132 #[.string ⟨(Lib.itoa n).toArray⟩] w fun e w'=>e=.returned (.tuple #[.int .i64 n,.nilIface])∧Below w.heap.size w w':=by
 have hz:(⟨(Lib.itoa n).toArray⟩:ByteArray).size=(Lib.itoa n).length:=by simp[ByteArray.size]
 have hl:=Lib.itoa_length_le n h0 h1;refine(Tryz.strconv_Atoi_ok ⟨(Lib.itoa n).toArray⟩ (by rw[hz];omega) n (by simpa using pW n h0 h1) w).mono ?_;rintro e w'⟨rfl,hw⟩;refine⟨rfl,?_⟩;rcases hw with rfl|⟨t,rfl⟩;·exact Below.refl _ _
 ·exact Lib.bytesWorld_below w _ t
theorem qU:(Tryz.prog.info? 5).map (fun i=>(i.zero,i.size,i.bytes))=some (some (.int .u8 0),1,1):=by kernel_rfl
def uo(l:List UInt8):List Value:=l.map fun x=>Value.int .u8 x.toNat
theorem nA(l:List UInt8):(uo l).length=l.length:=by simp[uo]
theorem CQ(l:List UInt8)(i:Nat)(h:i<l.length):(uo l)[i]?=some (.int .u8 l[i].toNat):=by simp[uo,h]
theorem jY(l l':List UInt8):uo (l++l')=uo l++uo l':=by simp[uo]
def aL(w:World)(base:Nat)(v:Value)(l:List UInt8):Prop:=w.ownsRow base 5 1 v l.length (uo l)
theorem aL.nil(w:World)(base:Nat):aL w base (.slice none 0 0) []:=World.ownsRow_nil _ _ _ _
theorem aL.J4{w:World}{base:Nat}{A:Option Addr}{n c:Nat}{l:List UInt8}(h:aL w base (.slice A n c) l):dP w w.heap.size A n c l:=by
 rcases h.2 with⟨e,hl⟩|⟨g,cap,cur,e,hb,hg,hnc,hm,hs,ht⟩;·have hl':l=[]:=List.eq_nil_of_length_eq_zero hl;subst hl';injection e with e1 e2 e3;subst e1 e2 e3;exact dP.nil _ _ _ _ (by unfold maxLen;omega)
 ·injection e with e1 e2 e3;subst e1 e2 e3;refine⟨rfl,hnc,hm,fun _=>⟨g,0,rfl,(Array.getElem?_eq_some_iff.1 hg).1,fun i hi=>?_⟩⟩;rw[Nat.zero_add,World.ownsRow.cellAt h i (by omega),CQ l i hi]
theorem aL.form{w:World}{base:Nat}{v:Value}{l:List UInt8}(h:aL w base v l): ∃A c,v=.slice A l.length c:=by
 rcases h.2 with⟨e,hl⟩|⟨g,cap,cur,e,_⟩;·exact⟨none,0,by rw[e,hl]⟩
 ·exact⟨_,_,e⟩
theorem aL.below{w w':World}{base B:Nat}{v:Value}{l:List UInt8}(h:aL w base v l)(hb:Below B w w')(hB:w.heap.size≤B):aL w' base v l:=by
 refine⟨h.1,?_⟩;rcases h.2 with⟨e,hl⟩|⟨g,cap,cur,e,hb',hg,hr⟩;·exact .inl ⟨e,hl⟩
 ·exact .inr ⟨g,cap,cur,e,hb',(hb.block g (by have:=(Array.getElem?_eq_some_iff.1 hg).1;omega)).trans hg,hr⟩
theorem aL.dR{w:World}{base base':Nat}{v:Value}{l:List UInt8}(h:aL w base v l)(hb:base'≤base):aL w base' v l:=by
 refine⟨h.1,?_⟩;rcases h.2 with⟨e,hl⟩|⟨g,cap,cur,e,hb',hg,hr⟩;·exact .inl ⟨e,hl⟩
 ·exact .inr ⟨g,cap,cur,e,by omega,hg,hr⟩
theorem aL.alloc{w:World}{base:Nat}{v:Value}{l:List UInt8}(h:aL w base v l)(o:Obj):aL (w.alloc o) base v l:=World.ownsRow.alloc h o
theorem aL.lt{w:World}{base:Nat}{v:Value}{l:List UInt8}(h:aL w base v l): ∀k,v.ownBlock=some k→base≤k:=fun k hk=>(World.ownsRow.lt h k hk).1
theorem FN(w:World)(ty:TypeId)(base:Nat)(v:Value)(l:List UInt8)(hown:aL w base v l)(B:Nat)(A:Option Addr)(m c:Nat)(l':List UInt8)(hr:dP w B A m c l')(hlen:l.length+m≤1099511627776)(hbase:base≤w.heap.size): ∃v' w',(Builtin.append_ #[93,93] ty #[v,.slice A m c]).run Tryz.prog w=.ok v' w'∧aL w' base v' (l++l')∧w.grownBy w' v.ownBlock∧(v'.ownBlock=v.ownBlock∨v'.ownBlock=some w.heap.size):=by
 obtain⟨i0,hi,hz0,hz1,hz2⟩:=info_parts qU;rcases Nat.eq_zero_or_pos m with h0|h0
 ·subst h0;have hl':l'=[]:=List.eq_nil_of_length_eq_zero hr.len;subst hl';refine⟨v,w,?_,by simpa using hown,World.grownBy.refl w _,.inl rfl⟩;rcases hown.2 with⟨rfl,hn⟩|⟨g,cap,cur,rfl,_,_,hnc,_⟩;·cases A<;>simp[Builtin.append_,run_underlying Tryz.underlying93,sizeOf,typeInfo,hi,Builtin.lenOf,Builtin.firstCells,loadCells,loadCellsFrom]
  ·cases A<;>simp[Builtin.append_,run_underlying Tryz.underlying93,sizeOf,typeInfo,hi,Builtin.lenOf,Builtin.firstCells,hnc,loadCells,loadCellsFrom,storeCells]
 ·obtain⟨b,off,rfl,_,hc⟩:=hr.cell h0;obtain⟨v',w',h1,h2,h3,_,h5⟩:=run_append_own_at (P:=Tryz.prog) w base 93 ty 5 i0 (.int .u8 0) 1 1 Tryz.underlying93 hi hz0 hz1 hz2 rfl (by decide) v l.length (uo l) hown ⟨b,off,none⟩ m c (uo l') (by rw[nA,hr.len];omega) (fun j u hj=>by
   have hjl:j<l'.length:=by
    rcases Nat.lt_or_ge j l'.length with h|h;·exact h
    ·rw[List.getElem?_eq_none (by rw[nA];exact h)]at hj;cases hj
   rw[CQ l' j hjl]at hj;injection hj with hj;subst hj;have:(⟨b,off,none⟩:Addr).add j=⟨b,off+j,none⟩:=by unfold Addr.add;split<;>simp_all
   rw[this];exact hc j hjl) (fun u hu=>by obtain⟨x,_,rfl⟩:=List.mem_map.1 hu;rfl) (by unfold maxLen;omega) (by omega) hbase;refine⟨v',w',h1,?_,h3,h5⟩;unfold aL;rw[List.length_append,jY,hr.len];exact h2
theorem bB{ops:Array Oper}{rest:List Oper}{o:Oper}{a:Act}{Q:Exit→Act→World→Prop}{w:World}(hgd:o.guard=none)(s x:Operand)(ho:o.op=.call {callee:=.builtin .append,args:= #[s,x],argTypes:= #[93,93]})(base:Nat)(v:Value)(l:List UInt8)(hs:a.eval s=v)(hown:aL w base v l)(B:Nat)(A:Option Addr)(m c:Nat)(l':List UInt8)(hx:a.eval x=.slice A m c)(hr:dP w B A m c l')(hlen:l.length+m≤1099511627776)(hbase:base≤w.heap.size)(h: ∀v' w',aL w' base v' (l++l')→w.grownBy w' v.ownBlock→(v'.ownBlock=v.ownBlock∨v'.ownBlock=some w.heap.size)→wpList Tryz.prog ops Q rest (a.put o.dst v') w'):wpList Tryz.prog ops Q (o::rest) a w:=wpList_plain hgd fun K hK=>by obtain⟨v',w',h1,h2,h3,h4⟩:=FN w o.type base v l hown B A m c l' hr hlen hbase;unfold Oper.wp execOp;simp only[ho,resolve,invoke,builtin,Sem.run_bind,Sem.run_pure,Result.andThen_ok,List.map_toArray,List.map_cons,List.map_nil,hs,hx,h1];exact hK _ _ (h v' w' h2 h3 h4)
theorem xg{w:World}{B n c:Nat}{A:Option Addr}{l:List UInt8}(h:dP w B A n c l): ∀W,Below B w W→(convert 93 9 (.slice A n c)).run Tryz.prog W=.ok (.string ⟨l.toArray⟩) W:=fun _ hW=>(h.below hW).str (P:=Tryz.prog) 93 5 9 Tryz.underlying93 Tryz.underlying5 Tryz.underlying9
def MI(w:World)(a b:Int)(e:Ending)(w':World):Prop:=e=.returned (.tuple #[.int .i64 a,.int .i64 b])∧Below w.heap.size w w'
theorem uS(w:World)(A:Option Addr)(n k:Nat)(c:bq)(hc:fP c)(h:dP w w.heap.size A n k (dZ c))(hn:n≤100000000)(hm:aM w):Calls Tryz.prog 87 #[.slice A n k] w (MI w c.ag c.idle):=by
 have h1:=hc.ag;have h2:=hc.idle;have h3:=hc.now;have h4:=hc.mark;have hlen:=h.len;have Tz:=qH (xg h w (Below.refl _ _));have hcut:Lib.cut (dZ c) [10]=([99,108,111,99,107]++cK [c.ag,c.idle,c.now,c.mark],dL c.src,true):=by
  have:dZ c=([99,108,111,99,107]++cK [c.ag,c.idle,c.now,c.mark])++10::dL c.src:=by unfold dZ dG;simp
  rw[this];exact lX 10 _ _ fun hm=>(List.mem_append.1 hm).elim (by decide) (yH 10 (by decide) (by decide) (by decide) _)
 have hsp:=mE [c.ag,c.idle,c.now,c.mark] [99,108,111,99,107] (by decide);have hnl:=o9 [c.ag,c.idle,c.now,c.mark] (by intro v hv;simp at hv;rcases hv with rfl|rfl|rfl|rfl<;>omega);have HC:=qH (wZ w (dZ c) 10 (by omega) hm);rw[hcut]at HC;have HM:=qH hm;have Di:=qS (([99,108,111,99,107]++cK [c.ag,c.idle,c.now,c.mark]).length≤1000) (by simp at hnl⊢;omega);have Xe:=qH hsp;clear hcut hsp hnl h hm;generalize[99,108,111,99,107]++cK [c.ag,c.idle,c.now,c.mark]=L at*;generalize dZ c=b at*;have hcv:=Tz.o;go_enter Tryz.func87,Tryz.ntmps87;go_wp2_with fail;with_reducible refine HC.o.mono ?_
 rintro r w1⟨rfl,q,rfl⟩;have HB1:=qS (Below w.heap.size w (w.drewN q)) (below_drewN (Below.refl _ _) q);have lH:=qH (HM.o.up HB1.o);have HS:=qH (mH (w.drewN q) L 32 (by have:=Di.o;omega) lH.o);clear hcv;generalize w.drewN q=w1 at*;rw[Xe.o]at HS;go_wp2_with fail;with_reducible refine HS.o.mono ?_
 rintro r w2⟨rfl,hw2⟩;have hcs:w2.heap[w1.heap.size]?=some (.cells #[.string ⟨#[99,108,111,99,107]⟩,.string ⟨(Lib.itoa c.ag).toArray⟩,.string ⟨(Lib.itoa c.idle).toArray⟩,.string ⟨(Lib.itoa c.now).toArray⟩,.string ⟨(Lib.itoa c.mark).toArray⟩] 9 (0,0)):=by rw[hw2];exact heap_alloc_new w1 _
 have hb2:Below w1.heap.size w1 w2:=by rw[hw2];exact(Below.refl _ _).alloc (Nat.le_refl _) _
 have hlt2:w1.heap.size<w2.heap.size:=(Array.getElem?_eq_some_iff.1 hcs).1;have kz:=qH hcs;have HB2:=qH (HB1.o.trans (hb2.mono HB1.o.size));have x1:w2.cell? ⟨w1.heap.size,1,none⟩=some (.string ⟨(Lib.itoa c.ag).toArray⟩):=(cell_of_row w2 _ 1 _ _ (0,0) hcs).trans rfl;clear hw2 hcs hb2 HS;go_wp2_with fail;with_reducible refine(zF w2 c.ag (by omega) (by omega)).mono ?_
 rintro r w3⟨rfl,hb3⟩;have JM:w3.heap[w1.heap.size]?=_:=(hb3.block _ hlt2).trans kz.o;have x2:w3.cell? ⟨w1.heap.size,2,none⟩=some (.string ⟨(Lib.itoa c.idle).toArray⟩):=(cell_of_row w3 _ 2 _ _ (0,0) JM).trans rfl;have HB3:=qH (HB2.o.trans (hb3.mono HB2.o.size));clear hb3 JM x1;go_wp2_with fail;with_reducible refine(zF w3 c.idle (by omega) (by omega)).mono ?_
 rintro r w4⟨rfl,hb4⟩;have fA:=qH (HB3.o.trans (hb4.mono HB3.o.size));clear hb4 x2;go_wp2;go_ret2;exact⟨rfl,fA.o⟩
structure vR(w:World)(base:Nat)(v:Value)(l:List UInt8)(v':Value)(w':World):Prop where
 own:aL w' base v' l
 keep:ai (fun b=>v.ownBlock=some b) w w'
 blk: ∀b,v'.ownBlock=some b→v.ownBlock=some b∨w.heap.size≤b
def p8(w:World)(base:Nat)(v:Value)(l:List UInt8)(e:Ending)(w':World):Prop:= ∃v',e=.returned v'∧vR w base v l v' w'
def vQ(w:World)(base:Nat)(v:Value)(l:List UInt8)(v' q:Value)(wr:World):Prop:= ∃(n:Nat)(l':List UInt8),q=.int .i64 n∧n<4611686018427387904∧l'++bI n=l∧vR w base v l' v' wr
theorem vR.app{w wr w2:World}{base:Nat}{v v1 v2:Value}{l l':List UInt8}(h:vR w base v l v1 wr)(o:Obj)(ho:aL w2 base v2 l')(hg:(wr.alloc o).grownBy w2 v1.ownBlock)(hv:v2.ownBlock=v1.ownBlock∨v2.ownBlock=some (wr.heap.size+1)):vR w base v l' v2 w2:=by
 have hs:=h.keep.size;refine⟨ho,(h.keep.alloc o).trans (ai.dW (F:=fun b=>v1.ownBlock=some b) hg (fun k e=>e)) (fun b hb hF=>?_),fun b hb=>?_⟩
 ·rcases h.blk b hF with h'|h';·exact h'
  ·omega
 ·rcases hv with e|e;·exact h.blk b (e▸hb)
  ·rw[e]at hb;injection hb with hb;right;omega
theorem vz{n:Nat}(h:n<4611686018427387904):(bI n).length≤9:=by
 by_cases h1:n<128;·rw[jR h1];simp
 ·rw[lT h1];have:=bR (n:=n/128) (by omega);simp;omega
theorem or128(x:Nat)(h:x<256):bits .or .u8 (x:Int) 128=((x%128+128:Nat):Int):=by
 have: ∀y:Fin 256,bits .or .u8 ((y.val:Nat):Int) 128=((y.val%128+128:Nat):Int):=by decide+kernel
 exact this ⟨x,h⟩
theorem CS(w:World)(base:Nat)(v:Value)(l s:List UInt8)(ho:aL w base v l)(h0:0<l.length)(hb:base≤w.heap.size)(hl:l.length+s.length≤1000000000000)(ty:TypeId): ∃v' w',(Builtin.append_ #[93,9] ty #[v,.string ⟨s.toArray⟩]).run Tryz.prog w=.ok v' w'∧aL w' base v' (l++s)∧w.grownBy w' v.ownBlock∧(v'.ownBlock=v.ownBlock∨v'.ownBlock=some w.heap.size):=by
 obtain⟨i0,hi,hz0,hz1,hz2⟩:=info_parts qU;have hss:(⟨s.toArray⟩:ByteArray).size=s.length:=by simp[ByteArray.size]
 have hsc:Lib.strCells ⟨s.toArray⟩=uo s:=by simp[Lib.strCells,uo]
 obtain⟨v',w',hr,h2,h3,_⟩:=Lib.run_append_own_string (P:=Tryz.prog) w base 93 9 ty 5 i0 Tryz.underlying93 Tryz.underlying9 hi hz0 hz1 hz2 v l.length (uo l) ho ⟨s.toArray⟩ (by rw[hss];unfold maxLen;omega) (by rw[hss];omega) hb;refine⟨v',w',hr,?_,h3,?_⟩;·unfold aL;rw[jY,List.length_append];rw[hss,hsc]at h2;exact h2
 ·rcases ho.2 with⟨_,h'⟩|⟨g,cap,cur,hv,hbg,hg,hnc,hcm,hcs,htake⟩;·omega
  ·subst hv;by_cases hroom:l.length+(⟨s.toArray⟩:ByteArray).size≤cap;·have h5:=Lib.run_append_room_string (P:=Tryz.prog) w 93 9 ty 5 i0 Tryz.underlying93 Tryz.underlying9 hi hz1 g l.length cap cur hg ⟨s.toArray⟩ hroom (by rw[hcs];omega);rw[hr]at h5;injection h5 with h5 _;left;rw[h5];rfl
   ·have hxl:(uo l).length=l.length*i0.size:=by rw[hz1,nA];omega
    have h5:=Lib.run_append_grow_string (P:=Tryz.prog) w 93 9 ty 5 i0 (.int .u8 0) Tryz.underlying93 Tryz.underlying9 hi hz0 ⟨g,0,none⟩ l.length cap (uo l) hxl (World.ownsRow.cells ho (g:=g) rfl) ⟨s.toArray⟩ (by omega) (by rw[hss];omega) (by rw[hz2,hss];exact growslice_fits (by omega) (by omega));rw[hr]at h5;injection h5 with h5 _;right;rw[h5];rfl
theorem vR.Cm{w w1 w2:World}{base:Nat}{v v1 v2:Value}{l l':List UInt8}(h:vR w base v l v1 w1)(h2:vR w1 base v1 l' v2 w2):vR w base v l' v2 w2:=by
 have hs:=h.keep.size;refine⟨h2.own,h.keep.trans h2.keep (fun b hb hF=>?_),fun b hb=>?_⟩
 ·rcases h.blk b hF with h'|h';·exact h'
  ·omega
 ·rcases h2.blk b hb with h'|h';·exact h.blk b h'
  ·right;omega
theorem vR.up{w w1 w2:World}{base:Nat}{v v1:Value}{l:List UInt8}(h:vR w base v l v1 w1)(hb:Below w1.heap.size w1 w2):vR w base v l v1 w2:=⟨h.own.below hb (Nat.le_refl _),h.keep.trans (G:=fun _=>False) (ai.of_below hb) (fun _ _ h=>h.elim),h.blk⟩
theorem vR.str{w wr w2:World}{base:Nat}{v v1 v2:Value}{l l':List UInt8}(h:vR w base v l v1 wr)(ho:aL w2 base v2 l')(hg:wr.grownBy w2 v1.ownBlock)(hv:v2.ownBlock=v1.ownBlock∨v2.ownBlock=some wr.heap.size):vR w base v l' v2 w2:=by
 have hs:=h.keep.size;refine⟨ho,h.keep.trans (ai.dW (F:=fun b=>v1.ownBlock=some b) hg (fun k e=>e)) (fun b hb hF=>?_),fun b hb=>?_⟩
 ·rcases h.blk b hF with h'|h';·exact h'
  ·omega
 ·rcases hv with e|e;·exact h.blk b (e▸hb)
  ·rw[e]at hb;injection hb with hb;right;omega
abbrev iU(l:List UInt8):Obj:=.cells #[.string ⟨l.toArray⟩] 9
abbrev iC(b:Bool):Obj:=.cells #[.bool b] 4
def lZ(w:World)(b1 b2:Nat)(d:NK)(e:Ending)(w':World):Prop:= ∃g,e=.returned (.tuple #[.string ⟨d.word.toArray⟩,.slice (some ⟨g,0,none⟩) d.nums.length d.nums.length])∧w'.heap[b1]?=some (iU d.rest)∧w'.heap[b2]?=some (iC d.ok)∧w'.heap[g]?=some (.cells (d.nums.map (Value.int .i64)).toArray 3 (0,0))∧w.heap.size≤g∧ai (fun b=>b=b1∨b=b2) w w'
def p9(w:World)(b2 g n:Nat)(ws:List (List UInt8))(ok:Bool)(i:Value)(W:World):Prop:= ∃k:Nat,i=.int .i64 k∧k≤ws.length∧W.heap[b2]?=some (iC (ok&&(ws.take k).all dz))∧W.heap[g]?=some (.cells (((ws.take k).map dm++List.replicate (n-k) 0).map (Value.int .i64)).toArray 3 (0,0))∧ai (fun b=>b=b2∨b=g) w W
theorem Gd(ws:List (List UInt8))(n k:Nat)(hk:k<ws.length)(hn:ws.length=n):((((ws.take k).map dm++List.replicate (n-k) 0).map (Value.int .i64)).toArray).setIfInBounds k (.int .i64 (dm ws[k]))=(((ws.take (k+1)).map dm++List.replicate (n-(k+1)) 0).map (Value.int .i64)).toArray:=by
 rw[List.setIfInBounds_toArray];congr 1;have hl:((ws.take k).map dm).length=k:=by simp;omega
 obtain⟨m,hm⟩: ∃m,n-k=m+1:=⟨n-k-1,by omega⟩;have hm2:n-(k+1)=m:=by omega
 rw[hm,hm2,List.replicate_succ,List.take_add_one,List.getElem?_eq_getElem hk];simp only[List.map_append,List.map_cons,Option.toList_some,List.map_nil,List.append_assoc,List.cons_append,List.nil_append];rw[List.set_append_right _ _ (by simp;omega)];simp only[List.length_map,List.length_take];rw[show k-min k ws.length=0 by omega];rfl
end Go.Proofs.YtladegonienapaaGreatDoor
