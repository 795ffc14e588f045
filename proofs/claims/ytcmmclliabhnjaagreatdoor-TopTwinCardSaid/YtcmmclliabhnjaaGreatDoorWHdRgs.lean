/-
  Layer 7: ranges that bytes begin with.
-/
import Derived.Test.YtcmmclliabhnjaaGreatDoorWMapL
import Derived.Laws.CopyOwn
import Derived.Laws.NewBlocks
import Derived.Lib.Overlaps
import Derived.Lib.AppendZerosOnto
import Derived.Lib.AppendZeros
import Derived.Deep.DeepAppendWide
import Derived.Test.YtcmmclliabhnjaaGreatDoorWHdNum
import Derived.Test.YtcmmclliabhnjaaGreatDoorWHad
import Derived.Deep.DeepCutAuto
set_option maxRecDepth 100000
set_option maxHeartbeats 16000000
namespace Go.Proofs.YtcmmclliabhnjaaGreatDoor
open Go.RowKit
section
variable{P:Program}
theorem run_copy_k(w:World)(dT sT ty elem:TypeId)(size g o dLen dCap:Nat)(a:Addr)(sLen sCap:Nat)(cur:Array Value)(t:TypeId)(cs:List Value)(m:Nat)(hu:P.underlying dT=some (.slice elem))(hs:(P.info? elem).map (·.size)=some size)(hg:w.heap[g]?=some (.cells cur t (0,0)))(hm:m=Nat.min sLen dLen)(hn:cs.length=m*size)(hsrc: ∀j v,cs[j]?=some v→w.cell? (a.add j)=some v)(hfit:o+cs.length≤cur.size)(h1: ∀v∈cs,v.oneCell'=true):(Builtin.copy_ #[dT,sT] ty #[.slice (some ⟨g,o,none⟩) dLen dCap,.slice (some a) sLen sCap]).run P w=.ok (goInt m) (w.setRow g (cur.toList.take o++cs++cur.toList.drop (o+cs.length)).toArray):=by
 have hl:=run_loadCells_list (P:=P) w a cs hsrc;have hst:=run_storeCells_at P g o t cs 0 cur w hg (by simpa using hfit) h1;rw[hn]at hl;cases hq:P.info? elem with
  |none=>simp[hq]at hs
  |some i=>
   have hi:i.size=size:=by simpa[hq]using hs
   simp[Builtin.copy_,run_underlying hu,Builtin.lenOf,Builtin.firstCells,sizeOf,typeInfo,hq,hi,←hm,hl,hst]
structure Spliced(w w':World)(g o:Nat)(cur:Array Value)(t:TypeId)(cs:List Value):Prop where
 row:w'.heap[g]?=some (.cells (cur.toList.take o++cs++cur.toList.drop (o+cs.length)).toArray t (0,0))
 size:w'.heap.size=w.heap.size
 grown:w.grownBy w' (some g)
theorem spliced_setRow(w:World)(g o:Nat)(cur:Array Value)(t:TypeId)(cs:List Value)(hg:w.heap[g]?=some (.cells cur t (0,0))):Spliced w (w.setRow g (cur.toList.take o++cs++cur.toList.drop (o+cs.length)).toArray) g o cur t cs:=⟨setRow_heap w g cur _ t (0,0) hg,by simp[World.setRow],⟨rfl,rfl,rfl,by simp[World.setRow],fun k _ hk=>setRow_other w g k _ (fun e=>hk (by rw[e]))⟩⟩
theorem wpList_copy_k{w:World}{ops:Array Oper}{rest:List Oper}{o:Oper}{a:Act}{Q:Exit→Act→World→Prop}(hgd:o.guard=none)(d s:Operand)(dT sT:TypeId)(ho:o.op=.call {callee:=.builtin .copy,args:= #[d,s],argTypes:= #[dT,sT]})(elem:TypeId)(size:Nat)(hu:P.underlying dT=some (.slice elem))(hsz:(P.info? elem).map (·.size)=some size)(g off dLen dCap:Nat)(ad:Addr)(sLen sCap:Nat)(hd:a.eval d=.slice (some ⟨g,off,none⟩) dLen dCap)(hs:a.eval s=.slice (some ad) sLen sCap)(cur:Array Value)(t:TypeId)(hg:w.heap[g]?=some (.cells cur t (0,0)))(cs:List Value)(m:Nat)(hm:m=Nat.min sLen dLen)(hn:cs.length=m*size)(hsrc: ∀j v,cs[j]?=some v→w.cell? (ad.add j)=some v)(hfit:off+cs.length≤cur.size)(h1: ∀v∈cs,v.oneCell'=true)(h: ∀w',Spliced w w' g off cur t cs→wpList P ops Q rest (a.put o.dst (goInt m)) w'):wpList P ops Q (o::rest) a w:=by refine wpList_plain hgd fun K hK=>?_;have hrun:=run_copy_k (P:=P) w dT sT o.type elem size g off dLen dCap ad sLen sCap cur t cs m hu hsz hg hm hn hsrc hfit h1;unfold Oper.wp;simp[execOp,ho,resolve,invoke,builtin,hd,hs,hrun,Result.andThen];have:=spliced_setRow w g off cur t cs hg;refine hK _ _ (h _ ?_);simpa using this
theorem step_copy_k{ops:Array Oper}{o:Oper}{a:Act}{w:World}{K:Act→World→Prop}{Q:Exit→Act→World→Prop}{E:Prop}(hgd:o.guard=none)(d s:Operand)(dT sT:TypeId)(ho:o.op=.call {callee:=.builtin .copy,args:= #[d,s],argTypes:= #[dT,sT]})(elem:TypeId)(size:Nat)(hu:P.underlying dT=some (.slice elem))(hsz:(P.info? elem).map (·.size)=some size)(g off dLen dCap:Nat)(ad:Addr)(sLen sCap:Nat)(hd:a.eval d=.slice (some ⟨g,off,none⟩) dLen dCap)(hs:a.eval s=.slice (some ad) sLen sCap)(cur:Array Value)(t:TypeId)(hg:w.heap[g]?=some (.cells cur t (0,0)))(cs:List Value)(m:Nat)(hm:m=Nat.min sLen dLen)(hn:cs.length=m*size)(hsrc: ∀j v,cs[j]?=some v→w.cell? (ad.add j)=some v)(hfit:off+cs.length≤cur.size)(h1: ∀v∈cs,v.oneCell'=true)(h: ∀w',Spliced w w' g off cur t cs→K (a.put o.dst (goInt m)) w'):if Region.wanted o (yielded ops a.tmps)=true then Oper.wp P o a w K Q else E:=by
 have hw:Region.wanted o (yielded ops a.tmps)=true:=by simp[Region.wanted,hgd]
 rw[if_pos hw];have hrun:=run_copy_k (P:=P) w dT sT o.type elem size g off dLen dCap ad sLen sCap cur t cs m hu hsz hg hm hn hsrc hfit h1;unfold Oper.wp;simp[execOp,ho,resolve,invoke,builtin,hd,hs,hrun,Result.andThen];have:=spliced_setRow w g off cur t cs hg;refine h _ ?_;simpa using this
end
def InsPost(e:TypeId)(size base:Nat)(w:World)(v:Value)(n i:Nat)(xs ys:List Value)(r:Ending)(w':World):Prop:= ∃v',r=.returned v'∧w'.ownsRow base e size v' (n+1) (xs.take (i*size)++ys++xs.drop (i*size))∧w.grownBy w' v.ownBlock∧(v'.ownBlock=v.ownBlock∨ ∃k,v'.ownBlock=some k∧w.heap.size≤k)
theorem take_at{α:Type}(l xs:List α)(n m:Nat)(h:l.take n=xs)(hm:m≤n):l.take m=xs.take m:=by rw[←h,List.take_take,Nat.min_eq_left hm]
theorem splice_ins{α:Type}(cur xs ys:List α)(a s n:Nat)(hx:cur.take n=xs)(hxl:xs.length=n)(ha:a≤n)(hy:ys.length=s)(hc:n+s≤cur.length):((((cur.take (a+s)++xs.drop a++cur.drop (a+s+(xs.drop a).length)).take a)++ys++(cur.take (a+s)++xs.drop a++cur.drop (a+s+(xs.drop a).length)).drop (a+ys.length)).take (n+s))=xs.take a++ys++xs.drop a:=by
 have e1:(cur.take (a+s)++xs.drop a++cur.drop (a+s+(xs.drop a).length)).take a=xs.take a:=by rw[List.append_assoc,List.take_append_of_le_length (by simp;omega),List.take_take,Nat.min_eq_left (by omega),take_at cur xs n a hx ha]
 have e2:(cur.take (a+s)++xs.drop a++cur.drop (a+s+(xs.drop a).length)).drop (a+ys.length)=xs.drop a++cur.drop (a+s+(xs.drop a).length):=by rw[hy,List.append_assoc];exact List.drop_left' (by simp;omega)
 rw[e1,e2,List.append_assoc,List.append_assoc,←List.append_assoc,←List.append_assoc];rw[List.take_left' (by simp;omega)];simp
theorem splice_grow{α:Type}(row xs ys:List α)(a s n:Nat)(hx:row.take a=xs.take a)(hxl:xs.length=n)(ha:a≤n)(hy:ys.length=s)(hc:n+s≤row.length):((((row.take a++ys++row.drop (a+ys.length)).take (a+s))++xs.drop a++(row.take a++ys++row.drop (a+ys.length)).drop (a+s+(xs.drop a).length)).take (n+s))=xs.take a++ys++xs.drop a:=by
 have e1:(row.take a++ys++row.drop (a+ys.length)).take (a+s)=xs.take a++ys:=by rw[List.take_left' (by simp;omega),hx]
 rw[e1,List.take_left' (by simp;omega)]
theorem rg_info:(Tryz.prog.info? 173).map (fun i=>(i.zero,i.size,i.bytes))=some (some (.agg #[.int .i64 0,.int .i64 0]),2,16):=by kernel_rfl
open Go.Maps Go.Sort
theorem numb_ok(w:World)(B:Nat)(A:Option Addr)(n k:Nat)(l:List UInt8)(h:Byt w B A n k l)(hn:n≤1000000000){v:Nat}{r:List UInt8}(hR:numR l=.ok v r):Calls Tryz.prog 164 #[.slice A n k] w fun e w'=> ∃A' n' c',e=.returned (.tuple #[.int .i64 v,.slice A' n' c',.int .i64 0])∧Byt w' B A' n' c' r∧Below w.heap.size w w':=(numb_any w B A n k l h hn).mono fun e w' hp=>by unfold NrPost at hp;rw[hR]at hp;obtain⟨⟨A',n',c',he,hb⟩,q,rfl⟩:=hp;exact⟨A',n',c',he,hb.drewN q,below_drewN (Below.refl _ _) q⟩
theorem numb_bad(w:World)(B:Nat)(A:Option Addr)(n k:Nat)(l:List UInt8)(h:Byt w B A n k l)(hn:n≤1000000000)(er:Int)(hR:(numR l=.torn∧er=3)∨(numR l=.form∧er=2)):Calls Tryz.prog 164 #[.slice A n k] w fun e w'=>e=.returned (.tuple #[.int .i64 0,.slice none 0 0,.int .i64 er])∧Below w.heap.size w w':=(numb_any w B A n k l h hn).mono fun e w' hp=>by unfold NrPost at hp;rcases hR with⟨hR,rfl⟩|⟨hR,rfl⟩<;>rw[hR]at hp<;>obtain⟨he,q,rfl⟩:=hp<;>exact⟨he,below_drewN (Below.refl _ _) q⟩
abbrev RowR(w:World)(base:Nat)(v:Value)(rs:Rg):Prop:=w.ownsRow base 173 2 v rs.length (rgCells rs)
def RgsOut(w:World)(B:Nat)(R:DecR Rg)(e:Ending)(w':World):Prop:=(match R with|.ok rs r=> ∃v A n c,e=.returned (.tuple #[v,.slice A n c,.int .i64 0])∧RowR w' w.heap.size v rs∧Byt w' B A n c r|.torn=>e=.returned (.tuple #[.slice none 0 0,.slice none 0 0,.int .i64 3])|.form=>e=.returned (.tuple #[.slice none 0 0,.slice none 0 0,.int .i64 2]))∧Below w.heap.size w w'
def RgsRel(w:World)(B N M:Nat)(R:DecR Rg)(v0 v7 v8 v25:Value)(wr:World):Prop:= ∃(k:Nat)(A:Option Addr)(n c:Nat)(cur:List UInt8)(acc:Rg),v25=.int .i64 (k:Int)∧k≤N∧v0=.slice A n c∧Byt wr B A n c cur∧RowR wr w.heap.size v7 acc∧acc.length=k∧v8=.int .i64 (endR 1 acc)∧RgOk acc∧acc.length+cur.length≤M∧rgsA (N-k) acc cur=R∧Below w.heap.size w wr
theorem endR_top{rs:Rg}(h:RgOk rs):endR 1 rs≤1099511627777:=by
 by_cases hn:rs=[];·subst hn;simp[endR]
 ·obtain⟨r,hr,he⟩:=endR_mem 1 rs hn;have:=(h.each r hr).2.2;omega
theorem bad_cases{α:Type}(R:DecR α):(∃a r,R=.ok a r)∨ ∃er:Int,(R=.torn∧er=3)∨(R=.form∧er=2):=by cases R with|ok a r=>exact .inl ⟨a,r,rfl⟩|torn=>exact .inr ⟨3,.inl ⟨rfl,rfl⟩⟩|form=>exact .inr ⟨2,.inr ⟨rfl,rfl⟩⟩
theorem rgs_fail{w w':World}{B:Nat}{R:DecR Rg}{er:Int}(h:(R=.torn∧er=3)∨(R=.form∧er=2))(hb:Below w.heap.size w w'):RgsOut w B R (.returned (.tuple #[.slice none 0 0,.slice none 0 0,.int .i64 er])) w':=by rcases h with⟨rfl,rfl⟩|⟨rfl,rfl⟩<;>exact⟨rfl,hb⟩
theorem er_ne{α:Type}{R:DecR α}{er:Int}(h:(R=.torn∧er=3)∨(R=.form∧er=2)):(er !=0)=true:=by rcases h with⟨_,rfl⟩|⟨_,rfl⟩<;>rfl
theorem rgsb_any(w:World)(B:Nat)(A:Option Addr)(n k:Nat)(l:List UInt8)(h:Byt w B A n k l)(hB:B≤w.heap.size)(hn:n≤1000000000):Calls Tryz.prog 166 #[.slice A n k] w (RgsOut w B (rangeR l)):=by
 have HB:=qH h;have hlen:=h.len;obtain⟨i0,hi,hz0,hz1,hz2⟩:=info_parts rg_info;have HI:=qH hi;have HZ0:=qH hz0;have HZ1:=qH hz1;have HZ2:=qH hz2;clear hi hz0 hz1 hz2 h;rcases bad_cases (numR l)with⟨N,r1,hR⟩|⟨er,hR⟩
 ·have hRR:rangeR l=if N=0 then .form else rgsA N [] r1:=by unfold rangeR;rw[hR]
  have hN:=(numR_ok hR).1;have hrl:=numR_len hR;have HRR:=qH hRR;have HNR:=qH hR;clear hRR hR;go_enter Tryz.func166,Tryz.ntmps166;go_wp2_with fail;with_reducible refine(numb_ok w B A n k l HB.out hn HNR.out).mono ?_
  rintro r w1⟨A1,n1,c1,rfl,hb1,hB1⟩;have HB1:=qH hB1;have HR:=HRR;clear hB1;by_cases hN0:N=0;·subst hN0;have HF:=qH (show RgsOut w B (rangeR l) (.returned (.tuple #[.slice none 0 0,.slice none 0 0,.int .i64 2])) w1 from rgs_fail (.inr ⟨HR.out,rfl⟩) HB1.out);clear hb1;go_wp2;go_ret3;exact HF.out
  ·have t0:((N:Int)==0)=false:=by simp;omega
   have HR2:=qH (show rgsA N [] r1=rangeR l from by rw[HR.out,if_neg hN0]);have HST:=qH (show RgsRel w B N l.length (rangeR l) (.slice A1 n1 c1) (.slice none 0 0) (.int .i64 1) (.int .i64 0) w1 from⟨0,A1,n1,c1,r1,[],rfl,Nat.zero_le _,rfl,hb1,World.ownsRow_nil _ _ _ _,rfl,rfl,RgOk.nil,by simp;omega,HR2.out,HB1.out⟩);clear hb1 HR hN0 HR2;generalize rangeR l=R at*;go_wp2;go_loopw[0,7,8,25](fun v0 v7 v8 v25 wr=>RgsRel w B N l.length R v0 v7 v8 v25 wr)(fun _ _ _ v25 _=>N-(intOf v25).toNat);case atStart=>exact HST.out
   case round=>
    obtain⟨j,A2,n2,c2,cur,acc,rfl,hj,rfl,hb2,ho2,hl2,rfl,hok2,hm2,hR2,hB2⟩:=hrel;have HBY:=qH hb2;have HO:=qH ho2;have HOK:=qH hok2;have HB2:=qH hB2;have HL2:=qH hl2;have hn2:=hb2.len;have he1:=endR_pos hok2;have he2:=endR_top hok2;clear hb2 ho2 hok2 hB2 HST;by_cases hjN:j<N
    ·have t1:(j:Int)<N:=by omega
     obtain⟨f,hf⟩: ∃f,N-j=f+1:=⟨N-j-1,by omega⟩;have HFF:=qH (show N-(j+1)=f from by omega);rw[hf]at hR2;simp only[rgsA]at hR2;rcases bad_cases (numR cur)with⟨gap,l1,hg⟩|⟨er,hg⟩
     ·rw[hg]at hR2;simp only at hR2;have hgap:=(numR_ok hg).1;have hl1:=numR_len hg;have HR2:=qH hR2;have HGG:=qH hg;clear hR2 hf hg;go_wp2_with fail;with_reducible refine(numb_ok wr B A2 n2 c2 cur HBY.out (by omega) HGG.out).mono ?_
      rintro r w3⟨A3,n3,c3,rfl,hb3,hB3⟩;have HBY3:=qH hb3;have hn3:=hb3.len;have HO3:=qH (ownsRow_below HO.out hB3 (Nat.le_refl _));have HB3:=qH (HB2.out.trans (hB3.mono HB2.out.size));clear hb3 hB3 HO HBY;by_cases hgz:gap=0∧acc≠[]
      ·rw[if_pos hgz]at HR2;have hj0:(0:Int)<j:=by have:=HL2.out;have:=List.length_pos_iff.2 hgz.2;omega
       have t2:((gap:Int)==0)=true:=by simp[hgz.1]
       have HF:=qH (show RgsOut w B R (.returned (.tuple #[.slice none 0 0,.slice none 0 0,.int .i64 2])) w3 from rgs_fail (.inr ⟨HR2.out.symm,rfl⟩) HB3.out);clear hgz hl2;go_wp2;go_ret3;exact HF.out
      ·rw[if_neg hgz]at HR2;have hte:(((gap:Int)==0)=true∧ ¬(0:Int)<j)∨((gap:Int)==0)=false:=by
        by_cases h0:gap=0;·left;have:acc=[]:=Classical.byContradiction fun h=>hgz ⟨h0,h⟩;have hl:=HL2.out;rw[this]at hl;simp only[List.length_nil]at hl;exact⟨by simp[h0],by omega⟩
        ·right;simp;omega
       have HGZ:=qH hgz;clear hgz hl2;rcases bad_cases (numR l1)with⟨many,l2,hm⟩|⟨er,hm⟩
       ·rw[hm]at HR2;simp only at HR2;have hmany:=(numR_ok hm).1;have hl2:=numR_len hm;have HMM:=qH hm;clear hm;rcases hte with⟨t2,t3⟩|t2;all_goals
         go_wp2_with fail;with_reducible refine(numb_ok w3 B A3 n3 c3 l1 HBY3.out (by omega) HMM.out).mono ?_
         rintro r w4⟨A4,n4,c4,rfl,hb4,hB4⟩;have hn4:=hb4.len;have HB4:=qH (HB3.out.trans (hB4.mono HB3.out.size));have HO4:=qH (ownsRow_below HO3.out hB4 (Nat.le_refl _));have hbA:Below w4.heap.size w4 (w4.alloc (.cells #[.int .i64 (endR 1 acc+gap),.int .i64 (endR 1 acc+gap+many)] 173)):=(Below.refl _ _).alloc (Nat.le_refl _) _;have z0:(w4.alloc (.cells #[.int .i64 (endR 1 acc+gap),.int .i64 (endR 1 acc+gap+many)] 173)).cell? ⟨w4.heap.size,0,none⟩=some (.int .i64 (endR 1 acc+gap)):=cell_of_row _ w4.heap.size 0 _ _ (0,0) (heap_alloc_new w4 _);have z1:(w4.alloc (.cells #[.int .i64 (endR 1 acc+gap),.int .i64 (endR 1 acc+gap+many)] 173)).cell? ⟨w4.heap.size,1,none⟩=some (.int .i64 (endR 1 acc+gap+many)):=cell_of_row _ w4.heap.size 1 _ _ (0,0) (heap_alloc_new w4 _);have HB5:=qH (HB4.out.trans (hbA.mono HB4.out.size));have HO5:=qH (ownsRow_below HO4.out hbA (Nat.le_refl _));have HBY5:=qH (hb4.below (hbA.mono (Nat.le_trans hB (HB4.out.size))));have HNE:=qH (show∀b,u7.ownBlock=some b→b≠w4.heap.size from fun b hb e=>by have:=(World.ownsRow.lt HO4.out b hb).2;omega);have hlt4:w4.heap.size<(w4.alloc (.cells #[.int .i64 (endR 1 acc+gap),.int .i64 (endR 1 acc+gap+many)] 173)).heap.size:=by simp
         clear hb4 hB4 hbA HBY3 HO3 HO4 HB3 HB4;go_upto_region 21 with fail;generalize w4.alloc (.cells #[.int .i64 (endR 1 acc+gap),.int .i64 (endR 1 acc+gap+many)] 173)=w5 at*;by_cases hmz:many=0∨1099511627777<endR 1 acc+gap+many
         ·rw[if_pos hmz]at HR2;have HF:=qH (show RgsOut w B R (.returned (.tuple #[.slice none 0 0,.slice none 0 0,.int .i64 2])) w5 from rgs_fail (.inr ⟨HR2.out.symm,rfl⟩) HB5.out);by_cases hm0:many=0
          ·have t5:((many:Int)==0)=true:=by simp[hm0]
           clear hmz hm0;go_wp2;go_ret3;exact HF.out
          ·have t5:((many:Int)==0)=false:=by simp;omega
           have t6:(1099511627777:Int)<endR 1 acc+gap+many:=by omega
           clear hmz hm0;go_wp2;go_ret3;exact HF.out
         ·rw[if_neg hmz]at HR2;have HOK2:=qH (RgOk.snoc HOK.out HGZ.out hmz);have t5:((many:Int)==0)=false:=by simp;omega
          have t6: ¬(1099511627777:Int)<endR 1 acc+gap+many:=by omega
          have HE:=qH (endR_snoc (endR 1 acc+gap,endR 1 acc+gap+many) 1 acc);have hal:acc.length≤1000000000:=by omega
          have hsz5:=HB5.out.size;clear hmz;generalize endR 1 acc+gap=ra at*;generalize ra+many=rb at*;go_wp2_with(at_builtin;refine wpList_app (P:=Tryz.prog) rfl (.tmp 68) (.tmp 70) 166 rfl 173 i0 _ 2 16 Tryz.underlying166 HI.out HZ0.out HZ1.out HZ2.out rfl (by decide) w.heap.size _ acc.length (rgCells acc) rfl ?c1 (w5.heap.size+1) _ _ _ [.int .i64 ra,.int .i64 rb] rfl ?c2 ?c3 ?c4 ?c5 ?c6 ?_);case c1=>exact World.ownsRow.alloc HO5.out _
          case c2=>exact Cel.new (size:=2) (n:=1) w5 #[.int .i64 ra,.int .i64 rb] _ (by unfold maxLen;omega) rfl
          case c3=>first|exact rgCells_one [(ra,rb)]|exact⟨rfl,rfl⟩
          case c4=>unfold maxLen;omega
          case c5=>omega
          case c6=>first|omega|(simp;omega)
          intro v' w6 hown6 hg6 hv6;have HR6:=qH (show RgsRel w B N l.length R (.slice A4 n4 c4) v' (.int .i64 rb) (.int .i64 ((j+1:Nat):Int)) w6 from⟨j+1,A4,n4,c4,l2,acc++[(ra,rb)],rfl,hjN,rfl,by
           refine HBY5.out.keep fun p hp=>?_;have hp5:p.block<w5.heap.size:=by omega
           have hne:some p.block≠u7.ownBlock:=fun e=>by have:=(World.ownsRow.lt HO5.out p.block e.symm).1;omega
           rw[World.cell?_of_block (w:=w5.alloc _) (hg6.block p.block (by simp;omega) hne)];exact World.cell?_alloc_lt w5 _ p hp5,by rw[show RowR w6 w.heap.size v' (acc++[(ra,rb)])=w6.ownsRow w.heap.size 173 2 v' (acc++[(ra,rb)]).length (rgCells (acc++[(ra,rb)]))from rfl,rgCells_append,List.length_append];exact hown6,by rw[List.length_append,HL2.out];rfl,by rw[HE.out],HOK2.out,by simp;omega,by rw[HFF.out];exact HR2.out,Below.grown (HB5.out.alloc hsz5 _) hg6 (by simp;omega) (fun k' hk'=>(World.ownsRow.lt HO5.out k' hk').1)⟩);have x1:w6.cell? ⟨w4.heap.size,1,none⟩=some (.int .i64 rb):=by rw[World.cell?_of_block (w:=w5.alloc (.cells #[.int .i64 ra,.int .i64 rb] 173)) (hg6.block w4.heap.size (by simp;omega) (fun e=>HNE.out _ e.symm rfl))];rw[World.cell?_alloc_lt w5 _ ⟨w4.heap.size,1,none⟩ hlt4];exact z1
          clear hown6 hg6 hv6 z0 z1;go_wp2;go_roundw;case rel=>exact HR6.out
          case measure=>simp[intOf];omega
       ·have HR3:=qH (show R=(if er=3 then .torn else .form)from by rw[←HR2.out];rcases hm with⟨hm,rfl⟩|⟨hm,rfl⟩<;>rw[hm]<;>rfl);clear HR2;have HF:=qH (show∀W,Below w3.heap.size w3 W→RgsOut w B R (.returned (.tuple #[.slice none 0 0,.slice none 0 0,.int .i64 er])) W from fun W hW=>rgs_fail (by
         rcases hm with⟨_,rfl⟩|⟨_,rfl⟩;·exact .inl ⟨HR3.out,rfl⟩
         ·exact .inr ⟨HR3.out,rfl⟩) (HB3.out.trans (hW.mono HB3.out.size)));have t4:(er !=0)=true:=er_ne hm;have HMM:=qH hm;clear hm;rcases hte with⟨t2,t3⟩|t2;all_goals
         go_wp2_with fail;with_reducible refine(numb_bad w3 B A3 n3 c3 l1 HBY3.out (by omega) er HMM.out).mono ?_
         rintro r w4⟨rfl,hb4⟩;have HFF:=qH (HF.out w4 hb4);clear hb4;go_wp2;go_ret3;exact HFF.out
     ·have HR2:=qH (show R=(if er=3 then .torn else .form)from by rw[←hR2];rcases hg with⟨hg,rfl⟩|⟨hg,rfl⟩<;>rw[hg]<;>rfl);have HF:=qH (show∀W,Below wr.heap.size wr W→RgsOut w B R (.returned (.tuple #[.slice none 0 0,.slice none 0 0,.int .i64 er])) W from fun W hW=>rgs_fail (by
       rcases hg with⟨_,rfl⟩|⟨_,rfl⟩;·exact .inl ⟨HR2.out,rfl⟩
       ·exact .inr ⟨HR2.out,rfl⟩) (HB2.out.trans (hW.mono HB2.out.size)));have t4:(er !=0)=true:=er_ne hg;have HGG:=qH hg;clear hg hR2 hf hl2;go_wp2_with fail;with_reducible refine(numb_bad wr B A2 n2 c2 cur HBY.out (by omega) er HGG.out).mono ?_
      rintro r w4⟨rfl,hb4⟩;have HFF:=qH (HF.out w4 hb4);clear hb4;go_wp2;go_ret3;exact HFF.out
    ·have hjE:j=N:=by omega
     rw[hjE,Nat.sub_self]at hR2;simp only[rgsA]at hR2;have t1: ¬(j:Int)<N:=by omega
     obtain⟨A7,c7,hv7⟩:=ownsRow_form HO.out;have HF:=qH (show RgsOut w B R (.returned (.tuple #[u7,.slice A2 n2 c2,.int .i64 0])) wr from by rw[←hR2];exact⟨⟨_,_,_,_,rfl,HO.out,HBY.out⟩,HB2.out⟩);subst hv7;clear hR2 hjE hl2;go_wp2;go_ret3;exact HF.out
 ·have HRB:=qH hR;go_enter Tryz.func166,Tryz.ntmps166;go_wp2_with fail;with_reducible refine(numb_bad w B A n k l HB.out hn er HRB.out).mono ?_
  rintro r w1⟨rfl,hb1⟩;have HF:=qH (show RgsOut w B (rangeR l) (.returned (.tuple #[.slice none 0 0,.slice none 0 0,.int .i64 er])) w1 from rgs_fail (by
   unfold rangeR;rcases hR with⟨hR,rfl⟩|⟨hR,rfl⟩<;>rw[hR];·exact .inl ⟨rfl,rfl⟩
   ·exact .inr ⟨rfl,rfl⟩) hb1);have t0:(er !=0)=true:=er_ne hR;clear hR hb1;go_wp2;go_ret3;exact HF.out
end Go.Proofs.YtcmmclliabhnjaaGreatDoor
