/-
  Layer 6: a line of 2 numbers that is read (Decode$1).
-/
import Derived.StillTailTactics
import Derived.Test.YtladegonienapaaGreatDoorUEvListing
import Derived.Lib.AtoiErrMem
import Derived.Lib.OthersKept
import Derived.Deep.DeepCutAuto
set_option maxRecDepth 100000
set_option maxHeartbeats 16000000
namespace Go.Proofs.YtladegonienapaaGreatDoor
open Go.RowKit Go.Maps Go.Sort
def xS(s:Int×Int):Value:=.agg #[.int .i64 s.1,.int .i64 s.2]
def dx(m:Row (Int×Int)):Row Value:=m.map fun p=>(p.1,xS p.2)
abbrev Bn(c:bu)(bm:Nat):Obj:=.cells #[.int .i64 c.ag,.int .i64 c.idle,.int .i64 c.now,.int .i64 c.mark,.map (some bm)] 156
structure aH(w:World)(bc bm:Nat)(c:bu):Prop where
 blk:w.heap[bc]?=some (Bn c bm)
 map:dN w bm (dx c.src)
 ok:eu c
structure Hu(w:World)(bc bm:Nat)(c:bu):Prop where
 c0:w.cell? ⟨bc,0,none⟩=some (.int .i64 c.ag)
 c1:w.cell? ⟨bc,1,none⟩=some (.int .i64 c.idle)
 c2:w.cell? ⟨bc,2,none⟩=some (.int .i64 c.now)
 c3:w.cell? ⟨bc,3,none⟩=some (.int .i64 c.mark)
 c4:w.cell? ⟨bc,4,none⟩=some (.map (some bm))
 f2:w.frozen? ⟨bc,2,none⟩=false
 f3:w.frozen? ⟨bc,3,none⟩=false
theorem aH.cells{w:World}{bc bm:Nat}{c:bu}(h:aH w bc bm c):Hu w bc bm c:=by have key: ∀o,w.cell? ⟨bc,o,none⟩=_:=fun o=>cell_of_row w bc o _ _ (0,0) h.blk;exact⟨(key 0).trans rfl,(key 1).trans rfl,(key 2).trans rfl,(key 3).trans rfl,(key 4).trans rfl,frozen_of_row w bc 2 _ _ h.blk,frozen_of_row w bc 3 _ _ h.blk⟩
theorem aH.keep{w w':World}{bc bm:Nat}{c:bu}(h:aH w bc bm c)(h1:w'.heap[bc]?=w.heap[bc]?)(h2:w'.heap[bm]?=w.heap[bm]?):aH w' bc bm c:=⟨h1.trans h.blk,h.map.block h2,h.ok⟩
theorem aH.lt{w:World}{bc bm:Nat}{c:bu}(h:aH w bc bm c):bc<w.heap.size:=aD h.blk
theorem aH.up{w w':World}{bc bm:Nat}{c:bu}(h:aH w bc bm c)(hb:Below w.heap.size w w'):aH w' bc bm c:=h.keep (hb.block _ h.lt) (hb.block _ h.map.lt)
theorem aH.ne{w:World}{bc bm:Nat}{c:bu}(h:aH w bc bm c):bc≠bm:=by rintro rfl;obtain⟨es,cl,h1⟩:=h.map.isMap;rw[h.blk]at h1;cases h1
theorem tT(w:World)(n:Int):Calls Tryz.prog 102 #[.int .i64 n] w fun e w'=>e=.returned (.int .i64 (bX n))∧w=w':=by go_enter Tryz.func102,Tryz.ntmps102;go_wp2;go_ret;exact⟨rfl,rfl⟩
theorem GD(w:World)(bc bm:Nat)(c:bu)(hc:aH w bc bm c)(a h:Int)(h1:0≤h∧h≤1099511627776):Calls Tryz.prog 194 #[.pointer (some ⟨bc,0,none⟩),.agg #[.int .i64 a,.int .i64 h]] w (Says (kK c.idle c.now (a,h)) w):=by
 obtain⟨o1,o2,o3,o4,_,_⟩:=hc.ok;have hlt:=hc.lt;obtain⟨c0,c1,c2,c3,c4,f2,f3⟩:=hc.cells;have HA:=qS (kK c.idle c.now (a,h)=(decide (c.idle=0)||decide (c.now-h≤c.idle))) (rfl);clear hc;generalize c.idle=idle at*;generalize c.now=now at*;generalize c.ag=ag at*;generalize c.mark=mark at*;by_cases h0:idle=0
 ·have b0:(idle==0)=true:=by simpa using h0
  have HB:=qS (kK idle now (a,h)=true) (by rw[HA.o];simp[h0]);clear h0;go_enter Tryz.func194,Tryz.ntmps194;go_wp2;go_quiet(fail);go_wp2;go_ret;exact⟨aa HB.o.symm,below_drewN ((Below.refl _ _).alloc (Nat.le_refl _) _) _⟩
 ·have b0:(idle==0)=false:=by simpa using h0
  have HB:=qS (kK idle now (a,h)=decide (now-h≤idle)) (by rw[HA.o];simp[h0]);clear h0;go_enter Tryz.func194,Tryz.ntmps194;go_wp2;go_quiet(fail);go_wp2;go_ret;exact⟨aa HB.o.symm,below_drewN ((Below.refl _ _).alloc (Nat.le_refl _) _) _⟩
open Go.Shelf
theorem Bj(w:World)(l:List UInt8)(c:UInt8)(hl:l.length≤1000000000)(hm:aW w):Calls Tryz.prog 126 #[.string ⟨l.toArray⟩,.string ⟨#[c]⟩] w fun e w'=>e=.returned (.tuple #[.string ⟨(Lib.cut l [c]).1.toArray⟩,.string ⟨(Lib.cut l [c]).2.1.toArray⟩,.bool (Lib.cut l [c]).2.2])∧ ∃n,w'=w.drewN n:=by obtain⟨m,hm⟩:=hm;have:=Tryz.strings_Cut ⟨l.toArray⟩ ⟨#[c]⟩ m w (by show l.toArray.size<_;simp;omega) hm;simpa using this
theorem wP(s sep:List UInt8):(Lib.splitB ⟨sep.toArray⟩ 0 (Lib.countB ⟨s.toArray⟩ ⟨sep.toArray⟩) ⟨s.toArray⟩).map Value.string=(Lib.split s sep).map encStr:=by
 have h:=Lib.splitB_data ⟨sep.toArray⟩ 0 (Lib.countB ⟨s.toArray⟩ ⟨sep.toArray⟩) ⟨s.toArray⟩;have h2:Lib.split s sep=Lib.splitK sep 0 (Lib.countB ⟨s.toArray⟩ ⟨sep.toArray⟩) s:=rfl;rw[h2];have h3:(⟨s.toArray⟩:ByteArray).data.toList=s:=by simp
 have h4:(⟨sep.toArray⟩:ByteArray).data.toList=sep:=by simp
 rw[h3,h4]at h;rw[←h,List.map_map];refine List.map_congr_left fun b _=>?_;show Value.string b=encStr b.data.toList;unfold encStr;simp
theorem sK(s:List UInt8)(c:UInt8):(Lib.split s [c]).length=Lib.countB ⟨s.toArray⟩ ⟨#[c]⟩+1:=by have h:=Lib.splitB_all ⟨#[c]⟩ (Nat.le_refl _) 0 _ ⟨s.toArray⟩ rfl;have h2:=congrArg List.length (wP s [c]);simp only[List.length_map]at h2;rw[←h2,←h]
theorem ql(w:World)(l:List UInt8)(c:UInt8)(hl:l.length≤1000000000)(hm:aW w):Calls Tryz.prog 131 #[.string ⟨l.toArray⟩,.string ⟨#[c]⟩] w fun e w'=>e=.returned (.slice (some ⟨w.heap.size,0,none⟩) (Lib.split l [c]).length (Lib.split l [c]).length)∧w'=w.alloc (.cells ((Lib.split l [c]).map encStr).toArray 9):=by obtain⟨m,hm⟩:=hm;have:=Tryz.strings_Split ⟨l.toArray⟩ ⟨#[c]⟩ m w (by show l.toArray.size<_;simp;omega) hm (Nat.le_refl _);rw[←sK]at this;rw[←wP l [c]];exact this
def iO(w:World):Prop:=(∃v,w.cell? ⟨1,0,none⟩=some v∧(v=.nilIface∨ ∃t p,v=.iface t p))∧ ∃v,w.cell? ⟨2,0,none⟩=some v∧(v=.nilIface∨ ∃t p,v=.iface t p)
theorem iO.up{w w':World}(h:iO w)(hb:Below w.heap.size w w'):iO w':=by obtain⟨⟨v,h1,h2⟩,u,h3,h4⟩:=h;exact⟨⟨v,(hb.cell (World.block_lt_of_cell? _ _ h1)).trans h1,h2⟩,u,(hb.cell (World.block_lt_of_cell? _ _ h3)).trans h3,h4⟩
def U6(w:World)(l:List UInt8)(e:Ending)(w':World):Prop:= ∃ev,e=.returned (.tuple #[.int .i64 (ed l),ev])∧(if qf l then ev=.nilIface else∃t p,ev=.iface t p)∧Below w.heap.size w w'
theorem Eu(w:World)(l:List UInt8)(hl:l.length≤1000000000)(hv:iO w):Calls Tryz.prog 132 #[.string ⟨l.toArray⟩] w (U6 w l):=by
 have hz:(⟨l.toArray⟩:ByteArray).size=l.length:=by simp[ByteArray.size]
 have hd:(⟨l.toArray⟩:ByteArray).data.toList=l:=by simp
 obtain⟨⟨v,h1,h2⟩,u,h3,h4⟩:=hv;cases ha:Lib.atoiAll l with
  |ok n=>
   refine(Tryz.strconv_Atoi_ok ⟨l.toArray⟩ (by rw[hz];omega) n (by rw[hd];exact ha) w).mono ?_;rintro e w'⟨rfl,hw⟩;refine⟨.nilIface,by unfold ed;rw[ha],by unfold qf;rw[ha];rfl,?_⟩;rcases hw with rfl|⟨t,rfl⟩;·exact Below.refl _ _
   ·exact Lib.bytesWorld_below w _ t
  |range=>refine(Tryz.strconv_Atoi_range ⟨l.toArray⟩ (by rw[hz];omega) (by rw[hd];exact ha) u w h3 h4).mono ?_;rintro e w'⟨N,rfl,_,_,hb⟩;refine⟨_,by unfold ed;rw[ha,hd],?_,hb⟩;unfold qf;rw[ha];exact⟨_,_,rfl⟩
  |_=>refine(Tryz.strconv_Atoi_syntax ⟨l.toArray⟩ (by rw[hz];omega) (by rw[hd];exact ha) v w h1 h2).mono ?_;rintro e w'⟨N,rfl,_,_,hb⟩;refine⟨_,by unfold ed;rw[ha],?_,hb⟩;unfold qf;rw[ha];exact⟨_,_,rfl⟩
theorem Et(w:World)(n:Int)(h0: -9223372036854775808≤n)(h1:n≤9223372036854775807):Calls Tryz.prog 132 #[.string ⟨(Lib.itoa n).toArray⟩] w fun e w'=>e=.returned (.tuple #[.int .i64 n,.nilIface])∧Below w.heap.size w w':=by
 have hz:(⟨(Lib.itoa n).toArray⟩:ByteArray).size=(Lib.itoa n).length:=by simp[ByteArray.size]
 have hl:=Lib.itoa_length_le n h0 h1;refine(Tryz.strconv_Atoi_ok ⟨(Lib.itoa n).toArray⟩ (by rw[hz];omega) n (by simpa using tV n h0 h1) w).mono ?_;rintro e w'⟨rfl,hw⟩;refine⟨rfl,?_⟩;rcases hw with rfl|⟨t,rfl⟩;·exact Below.refl _ _
 ·exact Lib.bytesWorld_below w _ t
theorem vM:(Tryz.prog.info? 5).map (fun i=>(i.zero,i.size,i.bytes))=some (some (.int .u8 0),1,1):=by kernel_rfl
def yz(l:List UInt8):List Value:=l.map fun x=>Value.int .u8 x.toNat
theorem qL(l:List UInt8):(yz l).length=l.length:=by simp[yz]
theorem IJ(l:List UInt8)(i:Nat)(h:i<l.length):(yz l)[i]?=some (.int .u8 l[i].toNat):=by simp[yz,h]
theorem mM(l l':List UInt8):yz (l++l')=yz l++yz l':=by simp[yz]
def aR(w:World)(base:Nat)(v:Value)(l:List UInt8):Prop:=w.ownsRow base 5 1 v l.length (yz l)
theorem aR.nil(w:World)(base:Nat):aR w base (.slice none 0 0) []:=World.ownsRow_nil _ _ _ _
theorem aR.Pb{w:World}{base:Nat}{A:Option Addr}{n c:Nat}{l:List UInt8}(h:aR w base (.slice A n c) l):fA w w.heap.size A n c l:=by
 rcases h.2 with⟨e,hl⟩|⟨g,cap,cur,e,hb,hg,hnc,hm,hs,ht⟩;·have hl':l=[]:=List.eq_nil_of_length_eq_zero hl;subst hl';injection e with e1 e2 e3;subst e1 e2 e3;exact fA.nil _ _ _ _ (by unfold maxLen;omega)
 ·injection e with e1 e2 e3;subst e1 e2 e3;refine⟨rfl,hnc,hm,fun _=>⟨g,0,rfl,(Array.getElem?_eq_some_iff.1 hg).1,fun i hi=>?_⟩⟩;rw[Nat.zero_add,World.ownsRow.cellAt h i (by omega),IJ l i hi]
theorem aR.form{w:World}{base:Nat}{v:Value}{l:List UInt8}(h:aR w base v l): ∃A c,v=.slice A l.length c:=by
 rcases h.2 with⟨e,hl⟩|⟨g,cap,cur,e,_⟩;·exact⟨none,0,by rw[e,hl]⟩
 ·exact⟨_,_,e⟩
theorem aR.below{w w':World}{base B:Nat}{v:Value}{l:List UInt8}(h:aR w base v l)(hb:Below B w w')(hB:w.heap.size≤B):aR w' base v l:=by
 refine⟨h.1,?_⟩;rcases h.2 with⟨e,hl⟩|⟨g,cap,cur,e,hb',hg,hr⟩;·exact .inl ⟨e,hl⟩
 ·exact .inr ⟨g,cap,cur,e,hb',(hb.block g (by have:=(Array.getElem?_eq_some_iff.1 hg).1;omega)).trans hg,hr⟩
theorem aR.eU{w:World}{base base':Nat}{v:Value}{l:List UInt8}(h:aR w base v l)(hb:base'≤base):aR w base' v l:=by
 refine⟨h.1,?_⟩;rcases h.2 with⟨e,hl⟩|⟨g,cap,cur,e,hb',hg,hr⟩;·exact .inl ⟨e,hl⟩
 ·exact .inr ⟨g,cap,cur,e,by omega,hg,hr⟩
theorem aR.alloc{w:World}{base:Nat}{v:Value}{l:List UInt8}(h:aR w base v l)(o:Obj):aR (w.alloc o) base v l:=World.ownsRow.alloc h o
theorem aR.lt{w:World}{base:Nat}{v:Value}{l:List UInt8}(h:aR w base v l): ∀k,v.ownBlock=some k→base≤k:=fun k hk=>(World.ownsRow.lt h k hk).1
theorem L9(w:World)(ty:TypeId)(base:Nat)(v:Value)(l:List UInt8)(hown:aR w base v l)(B:Nat)(A:Option Addr)(m c:Nat)(l':List UInt8)(hr:fA w B A m c l')(hlen:l.length+m≤1099511627776)(hbase:base≤w.heap.size): ∃v' w',(Builtin.append_ #[93,93] ty #[v,.slice A m c]).run Tryz.prog w=.ok v' w'∧aR w' base v' (l++l')∧w.grownBy w' v.ownBlock∧(v'.ownBlock=v.ownBlock∨v'.ownBlock=some w.heap.size):=by
 obtain⟨i0,hi,hz0,hz1,hz2⟩:=info_parts vM;rcases Nat.eq_zero_or_pos m with h0|h0
 ·subst h0;have hl':l'=[]:=List.eq_nil_of_length_eq_zero hr.len;subst hl';refine⟨v,w,?_,by simpa using hown,World.grownBy.refl w _,.inl rfl⟩;rcases hown.2 with⟨rfl,hn⟩|⟨g,cap,cur,rfl,_,_,hnc,_⟩;·cases A<;>simp[Builtin.append_,run_underlying Tryz.underlying93,sizeOf,typeInfo,hi,Builtin.lenOf,Builtin.firstCells,loadCells,loadCellsFrom]
  ·cases A<;>simp[Builtin.append_,run_underlying Tryz.underlying93,sizeOf,typeInfo,hi,Builtin.lenOf,Builtin.firstCells,hnc,loadCells,loadCellsFrom,storeCells]
 ·obtain⟨b,off,rfl,_,hc⟩:=hr.cell h0;obtain⟨v',w',h1,h2,h3,_,h5⟩:=run_append_own_at (P:=Tryz.prog) w base 93 ty 5 i0 (.int .u8 0) 1 1 Tryz.underlying93 hi hz0 hz1 hz2 rfl (by decide) v l.length (yz l) hown ⟨b,off,none⟩ m c (yz l') (by rw[qL,hr.len];omega) (fun j u hj=>by
   have hjl:j<l'.length:=by
    rcases Nat.lt_or_ge j l'.length with h|h;·exact h
    ·rw[List.getElem?_eq_none (by rw[qL];exact h)]at hj;cases hj
   rw[IJ l' j hjl]at hj;injection hj with hj;subst hj;have:(⟨b,off,none⟩:Addr).add j=⟨b,off+j,none⟩:=by unfold Addr.add;split<;>simp_all
   rw[this];exact hc j hjl) (fun u hu=>by obtain⟨x,_,rfl⟩:=List.mem_map.1 hu;rfl) (by unfold maxLen;omega) (by omega) hbase;refine⟨v',w',h1,?_,h3,h5⟩;unfold aR;rw[List.length_append,mM,hr.len];exact h2
theorem bJ{ops:Array Oper}{rest:List Oper}{o:Oper}{a:Act}{Q:Exit→Act→World→Prop}{w:World}(hgd:o.guard=none)(s x:Operand)(ho:o.op=.call {callee:=.builtin .append,args:= #[s,x],argTypes:= #[93,93]})(base:Nat)(v:Value)(l:List UInt8)(hs:a.eval s=v)(hown:aR w base v l)(B:Nat)(A:Option Addr)(m c:Nat)(l':List UInt8)(hx:a.eval x=.slice A m c)(hr:fA w B A m c l')(hlen:l.length+m≤1099511627776)(hbase:base≤w.heap.size)(h: ∀v' w',aR w' base v' (l++l')→w.grownBy w' v.ownBlock→(v'.ownBlock=v.ownBlock∨v'.ownBlock=some w.heap.size)→wpList Tryz.prog ops Q rest (a.put o.dst v') w'):wpList Tryz.prog ops Q (o::rest) a w:=wpList_plain hgd fun K hK=>by obtain⟨v',w',h1,h2,h3,h4⟩:=L9 w o.type base v l hown B A m c l' hr hlen hbase;unfold Oper.wp execOp;simp only[ho,resolve,invoke,builtin,Sem.run_bind,Sem.run_pure,Result.andThen_ok,List.map_toArray,List.map_cons,List.map_nil,hs,hx,h1];exact hK _ _ (h v' w' h2 h3 h4)
theorem Bo{w:World}{B n c:Nat}{A:Option Addr}{l:List UInt8}(h:fA w B A n c l): ∀W,Below B w W→(convert 93 9 (.slice A n c)).run Tryz.prog W=.ok (.string ⟨l.toArray⟩) W:=fun _ hW=>(h.below hW).str (P:=Tryz.prog) 93 5 9 Tryz.underlying93 Tryz.underlying5 Tryz.underlying9
def TV(w:World)(a b:Int)(e:Ending)(w':World):Prop:=e=.returned (.tuple #[.int .i64 a,.int .i64 b])∧Below w.heap.size w w'
theorem yY(w:World)(A:Option Addr)(n k:Nat)(c:bu)(hc:eu c)(h:fA w w.heap.size A n k (fZ c))(hn:n≤100000000)(hm:aW w):Calls Tryz.prog 87 #[.slice A n k] w (TV w c.ag c.idle):=by
 have h1:=hc.ag;have h2:=hc.idle;have h3:=hc.now;have h4:=hc.mark;have hlen:=h.len;have HCV:=qH (Bo h w (Below.refl _ _));have hcut:Lib.cut (fZ c) [10]=([99,108,111,99,107]++dS [c.ag,c.idle,c.now,c.mark],fC c.src,true):=by
  have:fZ c=([99,108,111,99,107]++dS [c.ag,c.idle,c.now,c.mark])++10::fC c.src:=by unfold fZ eY;simp
  rw[this];exact pq 10 _ _ fun hm=>(List.mem_append.1 hm).elim (by decide) (Dh 10 (by decide) (by decide) (by decide) _)
 have hsp:=qi [c.ag,c.idle,c.now,c.mark] [99,108,111,99,107] (by decide);have hnl:=sU [c.ag,c.idle,c.now,c.mark] (by intro v hv;simp at hv;rcases hv with rfl|rfl|rfl|rfl<;>omega);have HC:=qH (Bj w (fZ c) 10 (by omega) hm);rw[hcut]at HC;have HM:=qH hm;have Je:=qS (([99,108,111,99,107]++dS [c.ag,c.idle,c.now,c.mark]).length≤1000) (by simp at hnl⊢;omega);have Ui:=qH hsp;clear hcut hsp hnl h hm;generalize[99,108,111,99,107]++dS [c.ag,c.idle,c.now,c.mark]=L at*;generalize fZ c=b at*;have hcv:=HCV.o;go_enter Tryz.func87,Tryz.ntmps87;go_wp2_with fail;with_reducible refine HC.o.mono ?_
 rintro r w1⟨rfl,q,rfl⟩;have HB1:=qS (Below w.heap.size w (w.drewN q)) (below_drewN (Below.refl _ _) q);have oJ:=qH (HM.o.up HB1.o);have HS:=qH (ql (w.drewN q) L 32 (by have:=Je.o;omega) oJ.o);clear hcv;generalize w.drewN q=w1 at*;rw[Ui.o]at HS;go_wp2_with fail;with_reducible refine HS.o.mono ?_
 rintro r w2⟨rfl,hw2⟩;have hcs:w2.heap[w1.heap.size]?=some (.cells #[.string ⟨#[99,108,111,99,107]⟩,.string ⟨(Lib.itoa c.ag).toArray⟩,.string ⟨(Lib.itoa c.idle).toArray⟩,.string ⟨(Lib.itoa c.now).toArray⟩,.string ⟨(Lib.itoa c.mark).toArray⟩] 9 (0,0)):=by rw[hw2];exact heap_alloc_new w1 _
 have hb2:Below w1.heap.size w1 w2:=by rw[hw2];exact(Below.refl _ _).alloc (Nat.le_refl _) _
 have hlt2:w1.heap.size<w2.heap.size:=(Array.getElem?_eq_some_iff.1 hcs).1;have nz:=qH hcs;have HB2:=qH (HB1.o.trans (hb2.mono HB1.o.size));have x1:w2.cell? ⟨w1.heap.size,1,none⟩=some (.string ⟨(Lib.itoa c.ag).toArray⟩):=(cell_of_row w2 _ 1 _ _ (0,0) hcs).trans rfl;clear hw2 hcs hb2 HS;go_wp2_with fail;with_reducible refine(Et w2 c.ag (by omega) (by omega)).mono ?_
 rintro r w3⟨rfl,hb3⟩;have Qv:w3.heap[w1.heap.size]?=_:=(hb3.block _ hlt2).trans nz.o;have x2:w3.cell? ⟨w1.heap.size,2,none⟩=some (.string ⟨(Lib.itoa c.idle).toArray⟩):=(cell_of_row w3 _ 2 _ _ (0,0) Qv).trans rfl;have HB3:=qH (HB2.o.trans (hb3.mono HB2.o.size));clear hb3 Qv x1;go_wp2_with fail;with_reducible refine(Et w3 c.idle (by omega) (by omega)).mono ?_
 rintro r w4⟨rfl,hb4⟩;have jP:=qH (HB3.o.trans (hb4.mono HB3.o.size));clear hb4 x2;go_wp2;go_ret2;exact⟨rfl,jP.o⟩
abbrev kQ(l:List UInt8):Obj:=.cells #[.string ⟨l.toArray⟩] 9
abbrev jV(b:Bool):Obj:=.cells #[.bool b] 4
def pG(w:World)(b1 b2:Nat)(d:Vi)(e:Ending)(w':World):Prop:= ∃g,e=.returned (.tuple #[.string ⟨d.word.toArray⟩,.slice (some ⟨g,0,none⟩) d.nums.length d.nums.length])∧w'.heap[b1]?=some (kQ d.rest)∧w'.heap[b2]?=some (jV d.ok)∧w'.heap[g]?=some (.cells (d.nums.map (Value.int .i64)).toArray 3 (0,0))∧w.heap.size≤g∧ah (fun b=>b=b1∨b=b2) w w'
def ui(w:World)(b2 g n:Nat)(ws:List (List UInt8))(ok:Bool)(i:Value)(W:World):Prop:= ∃k:Nat,i=.int .i64 k∧k≤ws.length∧W.heap[b2]?=some (jV (ok&&(ws.take k).all eH))∧W.heap[g]?=some (.cells (((ws.take k).map ed++List.replicate (n-k) 0).map (Value.int .i64)).toArray 3 (0,0))∧ah (fun b=>b=b2∨b=g) w W
theorem MH(ws:List (List UInt8))(n k:Nat)(hk:k<ws.length)(hn:ws.length=n):((((ws.take k).map ed++List.replicate (n-k) 0).map (Value.int .i64)).toArray).setIfInBounds k (.int .i64 (ed ws[k]))=(((ws.take (k+1)).map ed++List.replicate (n-(k+1)) 0).map (Value.int .i64)).toArray:=by
 rw[List.setIfInBounds_toArray];congr 1;have hl:((ws.take k).map ed).length=k:=by simp;omega
 obtain⟨m,hm⟩: ∃m,n-k=m+1:=⟨n-k-1,by omega⟩;have hm2:n-(k+1)=m:=by omega
 rw[hm,hm2,List.replicate_succ,List.take_add_one,List.getElem?_eq_getElem hk];simp only[List.map_append,List.map_cons,Option.toList_some,List.map_nil,List.append_assoc,List.cons_append,List.nil_append];rw[List.set_append_right _ _ (by simp;omega)];simp only[List.length_map,List.length_take];rw[show k-min k ws.length=0 by omega];rfl
theorem Ep(w:World)(b1 b2:Nat)(l:List UInt8)(ok:Bool)(h1:w.heap[b1]?=some (kQ l))(h2:w.heap[b2]?=some (jV ok))(hl:l.length≤100000000)(hm:aW w)(he:iO w)(hel: ∀b,b=b1∨b=b2→b≠1∧b≠2):Calls Tryz.prog 130 #[.int .i64 2,.pointer (some ⟨b1,0,none⟩),.pointer (some ⟨b2,0,none⟩)] w (pG w b1 b2 (aB 2 l ok)):=by
 have hlt1:=aD h1;have hlt2:=aD h2;have hne:b1≠b2:=fun e=>by rw[e,h2]at h1;injection h1 with h1;injection h1 with _ h1;exact absurd h1 (by decide)
 have HM:=qH hm;have HE:=qH he;have zX:=qH h1;have I5:=qH h2;have HC:=qH (Bj w l 10 (by omega) hm);have HD:=qS (aB 2 l ok=if(Lib.cut l [10]).2.2&&decide ((Lib.split (Lib.cut l [10]).1 [32]).length=2+1)then _ else _) (rfl);have hcl:(Lib.cut l [10]).1.length≤l.length:=by
  rcases lT 10 l with h|⟨a,b,rfl,h⟩;·rw[rW 10 l h];exact Nat.le_refl _
  ·rw[pq 10 a b h];simp
 have hmk: ∀W:World,(Instr.makeSlice 55 (.int .i64 2) (.int .i64 2)).run Tryz.prog W=.ok (.slice (some ⟨W.heap.size,0,none⟩) 2 2) (W.alloc (.cells #[.int .i64 0,.int .i64 0] 3)):=fun _=>by kernel_rfl
 have c1:w.cell? ⟨b1,0,none⟩=some (.string ⟨l.toArray⟩):=(cell_of_row w b1 0 _ _ (0,0) h1).trans rfl;clear h1 h2 hm he;generalize aB 2 l ok=D at*;generalize Lib.cut l [10]=C at*;obtain⟨s,b,f⟩:=C;dsimp only at HC HD hcl;go_enter Tryz.func130,Tryz.ntmps130;go_wp2_with fail;with_reducible refine HC.o.mono ?_
 rintro r w1⟨rfl,q,rfl⟩;have hb1:Below w.heap.size w (w.drewN q):=below_drewN (Below.refl _ _) q;have HB1:=qH hb1;have oJ:=qH (HM.o.up hb1);have HS:=qH (ql (w.drewN q) s 32 (by omega) oJ.o);clear c1 hb1;generalize w.drewN q=w1 at*;go_wp2_with fail;with_reducible refine HS.o.mono ?_
 rintro r w2⟨rfl,hw2⟩;have hb2:Below w1.heap.size w1 w2:=by rw[hw2];exact(Below.refl _ _).alloc (Nat.le_refl _) _
 have nz:=qS (w2.heap[w1.heap.size]?=some (.cells ((Lib.split s [32]).map encStr).toArray 9 (0,0))) (by rw[hw2];exact heap_alloc_new w1 _);have HB2:=qH (HB1.o.trans (hb2.mono HB1.o.size));have hs1:=HB1.o.size;have hlt3:w1.heap.size<w2.heap.size:=aD nz.o;clear hw2 hb2 HS;have WQ:=qH (nJ 32 s.length s (Nat.le_refl _));have hw0:0<(Lib.split s [32]).length:=by rw[sK];omega
 generalize Lib.split s [32]=ws at*;have hx2:w2.heap[b2]?=some (jV ok):=(HB2.o.block b2 hlt2).trans I5.o;have hx1:w2.heap[b1]?=some (kQ l):=(HB2.o.block b1 hlt1).trans zX.o;have SQ:=frozen_of_row w2 b1 0 _ _ hx1;have y1:w2.cell? ⟨b1,0,none⟩=some (.string ⟨l.toArray⟩):=(cell_of_row w2 b1 0 _ _ (0,0) hx1).trans rfl;have y2:w2.cell? ⟨b2,0,none⟩=some (.bool ok):=(cell_of_row w2 b2 0 _ _ (0,0) hx2).trans rfl;have Vy:=frozen_of_row w2 b2 0 _ _ hx2;by_cases hbad:f=false∨ws.length≠3
 ·have Rk:=qS (D=⟨[],List.replicate 2 0,l,false⟩) (by rw[HD.o,if_neg];simp;intro hf;rcases hbad with h|h<;>simp_all);have HF:=qS (∀z,pG w b1 b2 D (.returned (.tuple #[.string ⟨#[]⟩,.slice (some ⟨w2.heap.size,0,none⟩) 2 2])) (((w2.setCell ⟨b2,0,none⟩ (.bool false)).alloc (.cells #[.int .i64 0,.int .i64 0] 3)).drewN z)) (fun z=>by
   rw[Rk.o];have hk:ah (fun b=>b=b1∨b=b2) w (((w2.setCell ⟨b2,0,none⟩ (.bool false)).alloc (.cells #[.int .i64 0,.int .i64 0] 3)).drewN z):=(((ah.of_below HB2.o).setCell (p:=⟨b2,0,none⟩) (fun _=>.inr rfl) _).alloc _).drewN z;have hsz:(w2.setCell ⟨b2,0,none⟩ (.bool false)).heap.size=w2.heap.size:=by simp[World.setCell]
   have hs2:=HB2.o.size;refine⟨w2.heap.size,rfl,?_,?_,?_,hs2,hk⟩;·show((w2.setCell ⟨b2,0,none⟩ (.bool false)).alloc _).heap[b1]?=_;rw[Below.heap_alloc _ _ b1 (by omega),Below.heap_setCell _ _ _ _ hne];exact(HB2.o.block b1 hlt1).trans zX.o
   ·show((w2.setCell ⟨b2,0,none⟩ (.bool false)).alloc _).heap[b2]?=_;rw[Below.heap_alloc _ _ b2 (by omega),ae ((HB2.o.block b2 hlt2).trans I5.o)];rfl
   ·have:=heap_alloc_new (w2.setCell ⟨b2,0,none⟩ (.bool false)) (.cells #[.int .i64 0,.int .i64 0] 3);rw[hsz]at this;exact this);clear HD Rk hx1 hx2;have hcase:f=false∨(f=true∧((ws.length:Int)==3)=false):=by cases f with|false=>exact .inl rfl|true=>right;refine⟨rfl,?_⟩;rcases hbad with h|h;(·cases h);simp;omega
  clear hbad;rcases hcase with rfl|⟨rfl,t1⟩;all_goals go_wp2;go_region;all_goals go_wp2;go_ret2;exact HF.o 1
 ·have hf:f=true:=by cases f<;>simp_all
  have hwl:ws.length=3:=by simp_all
  subst hf;have hdd:D=⟨ws.headD [],(ws.drop 1).map ed,b,ok&&(ws.drop 1).all eH⟩:=by rw[HD.o,if_pos];simp[hwl]
  clear HD hbad;obtain⟨w0,vs,rfl⟩: ∃w0 vs,ws=w0::vs:=by cases ws with|nil=>simp at hwl|cons w0 vs=>exact⟨w0,vs,rfl⟩
  have hvl:vs.length=2:=by simpa using hwl
  simp only[List.headD_cons,List.drop_succ_cons,List.drop_zero]at hdd;have Rk:=qH hdd;have K6:=qH hvl;have HW2:=qS (∀v∈vs,v.length≤1000000000) (fun v hv=>by have:=WQ.o v (by simp[hv]);omega);have HW3:=qS (ah (fun b=>b=b1∨b=b2) w (((w2.setCell ⟨b1,0,none⟩ (.string ⟨b.toArray⟩))).alloc (.cells #[.int .i64 0,.int .i64 0] 3))) (((ah.of_below HB2.o).setCell (p:=⟨b1,0,none⟩) (fun _=>.inl rfl) _).alloc _);have hsz:(w2.setCell ⟨b1,0,none⟩ (.string ⟨b.toArray⟩)).heap.size=w2.heap.size:=by simp[World.setCell]
  have hs2:=HB2.o.size;have HA1:=qS (((w2.setCell ⟨b1,0,none⟩ (.string ⟨b.toArray⟩)).alloc (.cells #[.int .i64 0,.int .i64 0] 3)).heap[b1]?=some (kQ b)) (by rw[Below.heap_alloc _ _ b1 (by omega),ae hx1];rfl);have HA2:=qS (((w2.setCell ⟨b1,0,none⟩ (.string ⟨b.toArray⟩)).alloc (.cells #[.int .i64 0,.int .i64 0] 3)).heap[b2]?=some (jV ok)) (by rw[Below.heap_alloc _ _ b2 (by omega),Below.heap_setCell _ _ _ _ (Ne.symm hne)];exact hx2);have Ye:=qS (((w2.setCell ⟨b1,0,none⟩ (.string ⟨b.toArray⟩)).alloc (.cells #[.int .i64 0,.int .i64 0] 3)).heap[w2.heap.size]?=some (.cells #[.int .i64 0,.int .i64 0] 3)) (by have:=heap_alloc_new (w2.setCell ⟨b1,0,none⟩ (.string ⟨b.toArray⟩)) (.cells #[.int .i64 0,.int .i64 0] 3);rw[hsz]at this;exact this);have U3:=qS (((w2.setCell ⟨b1,0,none⟩ (.string ⟨b.toArray⟩)).alloc (.cells #[.int .i64 0,.int .i64 0] 3)).heap[w1.heap.size]?=some (.cells ((w0::vs).map encStr).toArray 9 (0,0))) (by rw[Below.heap_alloc _ _ w1.heap.size (by omega),Below.heap_setCell _ _ _ _ (show w1.heap.size≠b1 by omega)];exact nz.o);clear hx1 hx2 hdd hsz nz WQ hvl hw0;go_upto_region 8 with fail;clear y1 SQ y2 Vy hmk;generalize(w2.setCell ⟨b1,0,none⟩ (.string ⟨b.toArray⟩)).alloc (.cells #[.int .i64 0,.int .i64 0] 3)=w3 at*;have HST:=qS (ui w3 b2 w2.heap.size 2 vs ok (.int .i64 ((0:Nat):Int)) w3) (⟨0,rfl,Nat.zero_le _,by simpa using HA2.o,Ye.o,ah.refl _ _⟩);go_wp2;go_loopw[40](fun i wr=>ui w3 b2 w2.heap.size 2 vs ok i wr)(fun i _=>2-(intOf i).toNat);case atStart=>exact HST.o
  case round=>
   obtain⟨k,rfl,hk,hb2,hg,hkp⟩:=hrel;have lY:=qH hkp;have HG:=qH hg;have yt:=qH hb2;have hkn':k≤2:=by have:=K6.o;omega
   have hg2:=aD Ye.o;have hg1:=aD U3.o;have hs3:=hkp.size;clear HST;by_cases hkn:k<2
   ·have Qs:k<vs.length:=by rw[K6.o];exact hkn
    have hcs:wr.cell? ⟨w1.heap.size,1+k,none⟩=some (.string ⟨(vs[k]).toArray⟩):=by have hblk:=(hkp.block w1.heap.size hg1 (fun e=>by rcases e with e|e<;>omega)).trans U3.o;rw[cell_of_row wr _ (1+k) _ _ (0,0) hblk];simp[Nat.add_comm 1 k,Qs,encStr]
    have df:=qS (vs.take (k+1)=vs.take k++[vs[k]]) (by rw[List.take_add_one,List.getElem?_eq_getElem Qs];rfl);have HLR:=qH (MH vs 2 k Qs K6.o);have hxl:=HW2.o vs[k] (List.getElem_mem Qs);have HEW:=qS (iO wr) (by
     obtain⟨⟨v,h1,h2⟩,u,h3,h4⟩:=HE.o;have hk2:=HW3.o.trans (lY.o) (F:=fun b=>b=b1∨b=b2) (G:=fun b=>b=b2∨b=w2.heap.size) (fun b hb hg=>by
      rcases hg with hg|hg;·exact .inr hg
      ·omega);have hn:=fun b(hb:b=b1∨b=b2)=>hel b hb;exact⟨⟨v,(hk2.cell (World.block_lt_of_cell? _ _ h1) (fun hb=>(hn _ hb).1 rfl)).trans h1,h2⟩,u,(hk2.cell (World.block_lt_of_cell? _ _ h3) (fun hb=>(hn _ hb).2 rfl)).trans h3,h4⟩);clear hb2 hg hkp;generalize vs[k]=x at*;have t1:(k:Int)<2:=by omega
    go_wp2_with fail;with_reducible refine(Eu wr x hxl HEW.o).mono ?_
    rintro r w5⟨ev,rfl,hev,hb5⟩;have TN:=aD yt.o;have yH:=aD HG.o;have Kz:=(hb5.block b2 TN).trans yt.o;have Lr:=(hb5.block w2.heap.size yH).trans HG.o;have Qw:=qS (∀c,c=(ok&&(vs.take (k+1)).all eH)→ui w3 b2 w2.heap.size 2 vs ok (.int .i64 ((k+1:Nat):Int)) ((w5.setCell ⟨b2,0,none⟩ (.bool c)).setCell ⟨w2.heap.size,k,none⟩ (.int .i64 (ed x)))) (fun c hc=>by
     refine⟨k+1,rfl,by rw[K6.o];omega,?_,?_,((lY.o.trans (ah.of_below (F:=fun _=>False) hb5) (fun _ _ h=>h.elim)).setCell (p:=⟨b2,0,none⟩) (fun _=>.inl rfl) _).setCell (p:=⟨w2.heap.size,k,none⟩) (fun _=>.inr rfl) _⟩;·rw[Below.heap_setCell _ _ _ _ (show b2≠w2.heap.size by omega),ae Kz,hc];rfl
     ·rw[ae (o:=k) (by rw[Below.heap_setCell _ _ _ _ (show w2.heap.size≠b2 by omega)];exact Lr),HLR.o]);have Qx:=qS ((ok&&(vs.take (k+1)).all eH)=((ok&&(vs.take k).all eH)&&eH x)) (by rw[df.o];simp[Bool.and_assoc]);have x2:w5.cell? ⟨b2,0,none⟩=some (.bool (ok&&(vs.take k).all eH)):=(cell_of_row w5 b2 0 _ _ (0,0) Kz).trans rfl;have YW:=frozen_of_row w5 b2 0 _ _ Kz;obtain⟨cg,hcg⟩: ∃cg,w5.cell? ⟨w2.heap.size,k,none⟩=some cg:=by
     rw[cell_of_row w5 _ k _ _ (0,0) Lr];have:k<(((vs.take k).map ed++List.replicate (2-k) 0).map (Value.int .i64)).length:=by simp;omega
     exact⟨_,by rw[List.getElem?_toArray,List.getElem?_eq_getElem this]⟩
    have Zk:=frozen_of_row w5 w2.heap.size k _ _ Lr;have hne2:b2≠w2.heap.size:=by omega
    have U2:=qS (eH x=(qf x&&decide (-1≤ed x)&&decide (ed x≤1099511627776))) (rfl);generalize(ok&&(vs.take k).all eH)=B0 at*;generalize(ok&&(vs.take (k+1)).all eH)=B1 at*;generalize ed x=v at*;generalize qf x=E at*;generalize eH x=AB at*;clear hb5 Kz Lr hcs;cases B0
    ·have HR:=qH (Qw.out false (by rw[Qx.out];rfl));clear hev;go_wp2;go_roundw;case rel=>exact HR.o
     case measure=>simp[intOf];omega
    ·cases E
     ·simp only[Bool.false_eq_true,if_false]at hev;obtain⟨et,ep,rfl⟩:=hev;have HR:=qH (Qw.out false (by rw[Qx.out,U2.o];rfl));go_wp2;go_roundw;case rel=>exact HR.o
      case measure=>simp[intOf];omega
     ·simp only[if_true]at hev;subst hev;by_cases hv1: -1≤v
      ·have HR:=qH (Qw.out (decide (v≤1099511627776)) (by rw[Qx.out,U2.o];simp[hv1]));go_wp2;go_roundw;case rel=>exact HR.o
       case measure=>simp[intOf];omega
      ·have HR:=qH (Qw.out false (by rw[Qx.out,U2.o];simp[hv1]));go_wp2;go_roundw;case rel=>exact HR.o
       case measure=>simp[intOf];omega
   ·have VT:k=2:=by omega
    have t1: ¬(k:Int)<2:=by omega
    have hvs:vs.take k=vs:=List.take_of_length_le (by rw[K6.o];omega);have hb0:wr.cell? ⟨w1.heap.size,0,none⟩=some (.string ⟨w0.toArray⟩):=by have hblk:=(hkp.block w1.heap.size hg1 (fun e=>by rcases e with e|e<;>omega)).trans U3.o;rw[cell_of_row wr _ 0 _ _ (0,0) hblk];simp[encStr]
    have HR:=qS (pG w b1 b2 D (.returned (.tuple #[.string ⟨w0.toArray⟩,.slice (some ⟨w2.heap.size,0,none⟩) 2 2])) wr) (by
     rw[Rk.o];have hb2':=yt.o;have hg':=HG.o;rw[hvs]at hb2' hg';refine⟨w2.heap.size,by simp[K6.o],?_,hb2',?_,hs2,HW3.o.trans lY.o fun b hb hg=>?_⟩;·exact(hkp.block b1 (aD HA1.o) (fun e=>by rcases e with e|e<;>omega)).trans HA1.o
     ·rw[VT]at hg';simpa using hg'
     ·rcases hg with hg|hg;·exact .inr hg
      ·omega);clear hb2 hg hkp VT hvs;go_wp2;go_ret2;exact HR.o
end Go.Proofs.YtladegonienapaaGreatDoor
