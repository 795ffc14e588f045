/-
  Chapter 37: the text of a Listed event.
-/
import Derived.Test.YtcmmclliabhnjaaGreatDoorWTaleR
import Derived.Test.YtcmmclliabhnjaaGreatDoorWMapL
import Derived.Test.YtcmmclliabhnjaaGreatDoorWSets
import Derived.Test.YtcmmclliabhnjaaGreatDoorWTwCc
import Derived.Lib.AppendZeros
import Derived.Deep.DeepCutAuto
set_option maxRecDepth 100000
set_option maxHeartbeats 16000000
namespace Go.Proofs.YtcmmclliabhnjaaGreatDoor
open Go.RowKit Go.Maps Go.Sort
def bitT(v j:Nat):Bool:=decide (v/4/2^j%2=1)
abbrev bitsR(v k:Nat):Array Value:= #[.bool (decide (0<k)&&bitT v 0),.bool (decide (1<k)&&bitT v 1),.bool (decide (2<k)&&bitT v 2)]
def BitRel(w:World)(b v:Nat)(i:Value)(wr:World):Prop:= ∃k:Nat,i=.int .i64 k∧k≤3∧wr.heap[b]?=some (.cells (bitsR v k) 258)∧Below w.heap.size w wr
theorem bit_0(v:Nat)(hv:v≤255):(bits BinOp.and IntKind.i64 ((v:Int)/4) 1==1)=bitT v 0:=by
 have key: ∀v:Fin 256,(bits BinOp.and IntKind.i64 ((v.val:Int)/4) 1==1)=bitT v.val 0:=by decide+kernel
 exact key ⟨v,by omega⟩
theorem bit_1(v:Nat)(hv:v≤255):(bits BinOp.and IntKind.i64 ((v:Int)/4/2) 1==1)=bitT v 1:=by
 have key: ∀v:Fin 256,(bits BinOp.and IntKind.i64 ((v.val:Int)/4/2) 1==1)=bitT v.val 1:=by decide+kernel
 exact key ⟨v,by omega⟩
theorem bit_2(v:Nat)(hv:v≤255):(bits BinOp.and IntKind.i64 ((v:Int)/4/4) 1==1)=bitT v 2:=by
 have key: ∀v:Fin 256,(bits BinOp.and IntKind.i64 ((v.val:Int)/4/4) 1==1)=bitT v.val 2:=by decide+kernel
 exact key ⟨v,by omega⟩
def tagL(v k:Nat):List (List UInt8):=((List.range k).filter (bitT v)).map (nmT 116)
theorem tagL_succ(v k:Nat):tagL v (k+1)=if bitT v k then tagL v k++[nmT 116 k]else tagL v k:=by unfold tagL;rw[List.range_succ,List.filter_append,List.map_append];cases h:bitT v k<;>simp[h]
theorem tagL_len(v k:Nat):(tagL v k).length≤k:=by unfold tagL;rw[List.length_map];have:=List.length_filter_le (bitT v) (List.range k);rw[List.length_range]at this;exact this
theorem tags_join(v:Nat)(hv:v≤255):Lib.join (tagL v 3) [44]=tagsT (v/4%8):=by
 have key: ∀v:Fin 256,Lib.join (tagL v.val 3) [44]=tagsT (v.val/4%8):=by decide+kernel
 exact key ⟨v,by omega⟩
theorem tags_len(q:Nat):(tagsT q).length≤8:=by
 by_cases h:q<8
 ·have key: ∀q:Fin 8,(tagsT q.val).length≤8:=by decide+kernel
  exact key ⟨q,h⟩
 ·unfold tagsT;rw[List.getD_eq_getElem?_getD,List.getElem?_eq_none (by simp;omega)];simp
theorem tags_none(v:Nat)(h0:bitT v 0=false)(h1:bitT v 1=false)(h2:bitT v 2=false)(hv:v≤255):tagsT (v/4%8)=[]:=by
 rw[←tags_join v hv];have:tagL v 3=[]:=by rw[tagL_succ,h2,tagL_succ,h1,tagL_succ,h0];rfl
 rw[this];rfl
theorem tags_some(v:Nat)(h:(bitT v 0||bitT v 1||bitT v 2)=true):0<(tagL v 3).length:=by rw[tagL_succ,tagL_succ,tagL_succ];cases h0:bitT v 0<;>cases h1:bitT v 1<;>cases h2:bitT v 2<;>simp_all
theorem eq_bits(b0 b1 b2:Bool)(w:World):(Op.equalIn 10000 258 (.agg #[.bool b0,.bool b1,.bool b2]) (.agg #[.bool false,.bool false,.bool false])).run Tryz.prog w=.ok (!(b0||b1||b2)) w:=by cases b0<;>cases b1<;>cases b2<;>kernel_rfl
theorem ix_bits(b0 b1 b2:Bool)(w:World):(Instr.index 258 (.agg #[.bool b0,.bool b1,.bool b2]) (.int .i64 0)).run Tryz.prog w=.ok (.bool b0) w∧(Instr.index 258 (.agg #[.bool b0,.bool b1,.bool b2]) (.int .i64 1)).run Tryz.prog w=.ok (.bool b1) w∧(Instr.index 258 (.agg #[.bool b0,.bool b1,.bool b2]) (.int .i64 2)).run Tryz.prog w=.ok (.bool b2) w:=⟨by kernel_rfl,by kernel_rfl,by kernel_rfl⟩
theorem tstr_info:(Tryz.prog.info? 9).map (fun i=>(i.zero,i.size,i.bytes))=some (some (.string ByteArray.empty),1,16):=by kernel_rfl
def TagRel(w:World)(v:Nat)(tg i:Value)(wr:World):Prop:= ∃k:Nat,i=.int .i64 k∧k≤3∧wr.ownsRow w.heap.size 9 1 tg (tagL v k).length ((tagL v k).map encStr)∧Below w.heap.size w wr
theorem tlist_any(w:World)(d v:Nat)(hv:v≤255):Calls Tryz.prog 156 #[.string ⟨(nmT 109 d).toArray⟩,.int .i64 v] w fun e w'=>e=.returned (.string ⟨(nmT 109 d++59::tagsT (v/4%8)).toArray⟩)∧Below w.heap.size w w':=by
 go_enter Tryz.func156,Tryz.ntmps156;go_upto_region 2 with fail;have hb1:Below w.heap.size w (w.alloc (.cells #[.bool false,.bool false,.bool false] 258)):=(Below.refl _ _).alloc (Nat.le_refl _) _;have HST:=qH (show BitRel w w.heap.size v (.int .i64 ((0:Nat):Int)) (w.alloc (.cells #[.bool false,.bool false,.bool false] 258))from⟨0,rfl,by omega,heap_alloc_new w _,hb1⟩);go_wp2;go_loopw[10](fun i wr=>BitRel w w.heap.size v i wr)(fun i _=>3-(intOf i).toNat);case atStart=>exact HST.out
 case round=>
  obtain⟨k,rfl,hk,hblk,hbel⟩:=hrel;have HBL:=qH hbel;have HROW:=qH hblk;have key: ∀o,wr.cell? ⟨w.heap.size,o,none⟩=_:=fun o=>cell_of_row _ w.heap.size o _ _ (0,0) hblk;have f:=fun o=>frozen_of_row wr w.heap.size o _ _ hblk;have hsz:=hbel.size;have hsb:=heap_lt hblk;by_cases hk3:k<3
  ·have HRL:=qH (show∀b,b=bitT v k→BitRel w w.heap.size v (.int .i64 ((k:Int)+1)) (wr.setCell ⟨w.heap.size,k,none⟩ (.bool b))from fun b e=>by
    subst e;refine⟨k+1,rfl,hk3,?_,HBL.out.setCell (p:=⟨w.heap.size,k,none⟩) (Nat.le_refl _) _⟩;rw[heap_set_row HROW.out];have hkk:k=0∨k=1∨k=2:=by omega
    rcases hkk with rfl|rfl|rfl<;>simp[bitsR]);have hkk:k=0∨k=1∨k=2:=by omega
   rcases hkk with rfl|rfl|rfl
   ·have g0:=(key 0).trans rfl;have f0:=f 0;clear key f hblk hbel;go_wp2;go_roundw;case rel=>exact HRL.out _ (bit_0 v hv)
    case measure=>simp[intOf]
   ·have g0:=(key 1).trans rfl;have f0:=f 1;clear key f hblk hbel;go_wp2;go_roundw;case rel=>exact HRL.out _ (bit_1 v hv)
    case measure=>simp[intOf]
   ·have g0:=(key 2).trans rfl;have f0:=f 2;clear key f hblk hbel;go_wp2;go_roundw;case rel=>exact HRL.out _ (bit_2 v hv)
    case measure=>simp[intOf]
  ·obtain rfl:k=3:=by omega
   have g0:wr.cell? ⟨w.heap.size,0,none⟩=some (.bool (bitT v 0)):=(key 0).trans rfl;have g1:wr.cell? ⟨w.heap.size,1,none⟩=some (.bool (bitT v 1)):=(key 1).trans rfl;have g2:wr.cell? ⟨w.heap.size,2,none⟩=some (.bool (bitT v 2)):=(key 2).trans rfl;have HTS:=qH (tags_some v);have HTJ:=qH (tags_join v hv);have HNO:=qH (fun h0 h1 h2=>tags_none v h0 h1 h2 hv);have heq:=eq_bits (bitT v 0) (bitT v 1) (bitT v 2) wr;have hmk: ¬9223372036854775807<(nmT 109 d).length+1:=by simp[nmT]
   clear key f hblk HROW;cases hall:(bitT v 0||bitT v 1||bitT v 2);·simp only[Bool.or_eq_false_iff]at hall;have h0:=hall.1.1;have h1:=hall.1.2;have h2:=hall.2;rw[h0]at g0;rw[h1]at g1;rw[h2]at g2;rw[h0,h1,h2]at heq;simp only[Bool.or_self,Bool.not_false]at heq;have HS:=qH (show(⟨(nmT 109 d).toArray⟩:ByteArray)++⟨#[59]⟩=⟨(nmT 109 d++59::tagsT (v/4%8)).toArray⟩from by have e:(⟨#[59]⟩:ByteArray)=⟨[(59:UInt8)].toArray⟩:=rfl;rw[e,str_app,HNO.out h0 h1 h2]);go_wp2;go_ret;exact⟨congrArg (fun b=>Ending.returned (.string b)) HS.out,HBL.out⟩
   ·have hp:=HTS.out hall;have HP:=qH hp;clear HTS HNO;rw[hall]at heq;simp only[Bool.not_true]at heq;generalize hB0:bitT v 0=B0 at*;generalize hB1:bitT v 1=B1 at*;generalize hB2:bitT v 2=B2 at*;have HB0:=qH hB0;have HB1:=qH hB1;have HB2:=qH hB2;have HR0:=qH (show TagRel w v (.slice none 0 0) (.int .i64 ((0:Nat):Int)) wr from⟨0,rfl,by omega,World.ownsRow_nil _ _ _ _,HBL.out⟩);obtain⟨i0,hi,hz0,hz1,hz2⟩:=info_parts tstr_info;have HI:=qH hi;have HZ0:=qH hz0;have HZ1:=qH hz1;have HZ2:=qH hz2;clear hB0 hB1 hB2 hall hi hz0 hz1 hz2 hp hbel HST hb1;go_wp2;go_loopw[28,7](fun i tg wr=>TagRel w v tg i wr)(fun i _ _=>3-(intOf i).toNat);case atStart=>exact HR0.out
    case round=>
     obtain⟨k,rfl,hk,how,hbel⟩:=hrel;have HOW:=qH how;have HBE:=qH hbel;have hsw:=hbel.size;obtain⟨x0,x1,x2⟩:=ix_bits B0 B1 B2 wr;have htl:=tagL_len v k;clear how hbel;by_cases hk3:k<3
     ·have hkk:k=0∨k=1∨k=2:=by omega
      rcases hkk with rfl|rfl|rfl
      ·cases B0
       ·have HRL:=qH (show TagRel w v u7 (.int .i64 ((0:Nat)+1:Int)) wr from⟨1,rfl,by omega,by rw[show tagL v 1=tagL v 0 from by rw[tagL_succ,HB0.out];rfl];exact HOW.out,HBE.out⟩);go_wp2;go_roundw;case rel=>first|exact HRL.out|((repeat apply Exists.intro);exact⟨HRL.out,rfl⟩)
        case measure=>simp[intOf]
       ·go_wp2_with fail;refine(numbered_any wr 116 0 (by omega)).mono ?_;rintro r w9⟨rfl,rfl⟩;go_wp2_with(at_builtin;refine wpList_app (P:=Tryz.prog) rfl (.tmp 33) (.tmp 36) 54 rfl 9 i0 (.string ByteArray.empty) 1 16 Tryz.underlying54 HI.out HZ0.out HZ1.out HZ2.out rfl (by decide) w.heap.size _ (tagL v 0).length ((tagL v 0).map encStr) rfl ?c1 (w9.heap.size+1) _ _ _ [.string ⟨(nmT 116 0).toArray⟩] rfl ?c2 ?c3 ?c4 ?c5 ?c6 ?_);case c1=>exact World.ownsRow.alloc HOW.out _
        case c2=>exact Cel.new (size:=1) (n:=1) w9 #[.string ⟨(nmT 116 0).toArray⟩] 9 (by unfold maxLen;omega) rfl
        case c3=>intro u hu;simp at hu;subst hu;rfl
        case c4=>first|omega|(unfold maxLen;omega)|(simp;unfold maxLen;omega)
        case c5=>first|omega|(simp;omega)
        case c6=>first|omega|(simp;omega)
        intro v' w2 hown2 hg2 _;have HRL:=qH (show TagRel w v v' (.int .i64 ((0:Nat)+1:Int)) w2 from⟨1,rfl,by omega,by rw[show tagL v 1=tagL v 0++[nmT 116 0]from by rw[tagL_succ,HB0.out];rfl];rw[List.length_append,List.map_append];exact hown2,Below.grown (HBE.out.alloc HBE.out.size _) hg2 (by first|omega|(simp;omega)) (fun k' hk'=>(World.ownsRow.lt HOW.out k' hk').1)⟩);clear hown2 hg2;go_wp2;go_roundw;case rel=>first|exact HRL.out|((repeat apply Exists.intro);exact⟨HRL.out,rfl⟩)
        case measure=>simp[intOf]
      ·cases B1
       ·have HRL:=qH (show TagRel w v u7 (.int .i64 ((1:Nat)+1:Int)) wr from⟨2,rfl,by omega,by rw[show tagL v 2=tagL v 1 from by rw[tagL_succ,HB1.out];rfl];exact HOW.out,HBE.out⟩);go_wp2;go_roundw;case rel=>first|exact HRL.out|((repeat apply Exists.intro);exact⟨HRL.out,rfl⟩)
        case measure=>simp[intOf]
       ·go_wp2_with fail;refine(numbered_any wr 116 1 (by omega)).mono ?_;rintro r w9⟨rfl,rfl⟩;go_wp2_with(at_builtin;refine wpList_app (P:=Tryz.prog) rfl (.tmp 33) (.tmp 36) 54 rfl 9 i0 (.string ByteArray.empty) 1 16 Tryz.underlying54 HI.out HZ0.out HZ1.out HZ2.out rfl (by decide) w.heap.size _ (tagL v 1).length ((tagL v 1).map encStr) rfl ?c1 (w9.heap.size+1) _ _ _ [.string ⟨(nmT 116 1).toArray⟩] rfl ?c2 ?c3 ?c4 ?c5 ?c6 ?_);case c1=>exact World.ownsRow.alloc HOW.out _
        case c2=>exact Cel.new (size:=1) (n:=1) w9 #[.string ⟨(nmT 116 1).toArray⟩] 9 (by unfold maxLen;omega) rfl
        case c3=>intro u hu;simp at hu;subst hu;rfl
        case c4=>first|omega|(unfold maxLen;omega)|(simp;unfold maxLen;omega)
        case c5=>first|omega|(simp;omega)
        case c6=>first|omega|(simp;omega)
        intro v' w2 hown2 hg2 _;have HRL:=qH (show TagRel w v v' (.int .i64 ((1:Nat)+1:Int)) w2 from⟨2,rfl,by omega,by rw[show tagL v 2=tagL v 1++[nmT 116 1]from by rw[tagL_succ,HB1.out];rfl];rw[List.length_append,List.map_append];exact hown2,Below.grown (HBE.out.alloc HBE.out.size _) hg2 (by first|omega|(simp;omega)) (fun k' hk'=>(World.ownsRow.lt HOW.out k' hk').1)⟩);clear hown2 hg2;go_wp2;go_roundw;case rel=>first|exact HRL.out|((repeat apply Exists.intro);exact⟨HRL.out,rfl⟩)
        case measure=>simp[intOf]
      ·cases B2
       ·have HRL:=qH (show TagRel w v u7 (.int .i64 ((2:Nat)+1:Int)) wr from⟨3,rfl,by omega,by rw[show tagL v 3=tagL v 2 from by rw[tagL_succ,HB2.out];rfl];exact HOW.out,HBE.out⟩);go_wp2;go_roundw;case rel=>first|exact HRL.out|((repeat apply Exists.intro);exact⟨HRL.out,rfl⟩)
        case measure=>simp[intOf]
       ·go_wp2_with fail;refine(numbered_any wr 116 2 (by omega)).mono ?_;rintro r w9⟨rfl,rfl⟩;go_wp2_with(at_builtin;refine wpList_app (P:=Tryz.prog) rfl (.tmp 33) (.tmp 36) 54 rfl 9 i0 (.string ByteArray.empty) 1 16 Tryz.underlying54 HI.out HZ0.out HZ1.out HZ2.out rfl (by decide) w.heap.size _ (tagL v 2).length ((tagL v 2).map encStr) rfl ?c1 (w9.heap.size+1) _ _ _ [.string ⟨(nmT 116 2).toArray⟩] rfl ?c2 ?c3 ?c4 ?c5 ?c6 ?_);case c1=>exact World.ownsRow.alloc HOW.out _
        case c2=>exact Cel.new (size:=1) (n:=1) w9 #[.string ⟨(nmT 116 2).toArray⟩] 9 (by unfold maxLen;omega) rfl
        case c3=>intro u hu;simp at hu;subst hu;rfl
        case c4=>first|omega|(unfold maxLen;omega)|(simp;unfold maxLen;omega)
        case c5=>first|omega|(simp;omega)
        case c6=>first|omega|(simp;omega)
        intro v' w2 hown2 hg2 _;have HRL:=qH (show TagRel w v v' (.int .i64 ((2:Nat)+1:Int)) w2 from⟨3,rfl,by omega,by rw[show tagL v 3=tagL v 2++[nmT 116 2]from by rw[tagL_succ,HB2.out];rfl];rw[List.length_append,List.map_append];exact hown2,Below.grown (HBE.out.alloc HBE.out.size _) hg2 (by first|omega|(simp;omega)) (fun k' hk'=>(World.ownsRow.lt HOW.out k' hk').1)⟩);clear hown2 hg2;go_wp2;go_roundw;case rel=>first|exact HRL.out|((repeat apply Exists.intro);exact⟨HRL.out,rfl⟩)
        case measure=>simp[intOf]
     ·obtain rfl:k=3:=by omega
      obtain⟨g,c,hu,hgb,hgl⟩: ∃g c,u7=.slice (some ⟨g,0,none⟩) (tagL v 3).length c∧w.heap.size≤g∧g<wr.heap.size:=by
       rcases HOW.out.2 with⟨_,h0⟩|⟨g,c,cur,e,hb,hg,_⟩;·have:=HP.out;omega
       ·exact⟨g,c,e,hb,(Array.getElem?_eq_some_iff.1 hg).1⟩
      subst hu;have HST2:=qH (show Strs wr wr.heap.size (some ⟨g,0,none⟩) (tagL v 3).length c (tagL v 3)from Cel.of_own HOW.out);have HXS:=qH (show((tagL v 3).map fun l=>(⟨l.toArray⟩:ByteArray)).length=(tagL v 3).length from List.length_map _);have HDL:=qH (show(((tagL v 3).map fun l=>(⟨l.toArray⟩:ByteArray)).map (·.data.toList))=tagL v 3 from by rw[List.map_map];exact(List.map_congr_left (fun l _=>by simp)).trans (List.map_id _));have HJN:=qH (Tryz.strings_Join g 0 c ((tagL v 3).map fun l=>(⟨l.toArray⟩:ByteArray)) ⟨#[44]⟩ wr (fun j x hx=>by
       rw[List.getElem?_map]at hx;obtain⟨l,hl,rfl⟩:=Option.map_eq_some_iff.1 hx;have hj:j<(tagL v 3).length:=(List.getElem?_eq_some_iff.1 hl).1;obtain⟨b,off,e,_,hc⟩:=HST2.out.at_ j hj;injection e with e;injection e with e1 e2;subst e1 e2;rw[hc];have:(tagL v 3)[j]=l:=by rw[List.getElem?_eq_getElem hj]at hl;exact Option.some.inj hl
       rw[this]) hgl (by rw[HXS.out];omega) (by rw[HXS.out];exact Cel.cap HST2.out) (by rw[HDL.out];show(Lib.join (tagL v 3) [44]).length≤_;rw[HTJ.out];have:=tags_len (v/4%8);omega));rw[HXS.out,HDL.out]at HJN;rw[show(⟨#[44]⟩:ByteArray).data.toList=[44]from rfl,HTJ.out]at HJN;have htq:=tags_len (v/4%8);have HS:=qH (show(⟨(nmT 109 d).toArray⟩:ByteArray)++⟨#[59]⟩++⟨(tagsT (v/4%8)).toArray⟩=⟨(nmT 109 d++59::tagsT (v/4%8)).toArray⟩from by have e:(⟨#[59]⟩:ByteArray)=⟨[(59:UInt8)].toArray⟩:=rfl;rw[e,str_app,str_app];simp);have hm2: ¬9223372036854775807<(nmT 109 d).length+1+(tagsT (v/4%8)).length:=by simp[nmT];omega
      obtain⟨tq,hq⟩: ∃tq,tq=tagsT (v/4%8):=⟨_,rfl⟩;rw[←hq]at HJN HS hm2 htq;have HQ:=qH hq;clear hq;clear x0 x1 x2 g0 g1 g2 heq HTJ;go_wp2_with fail;refine HJN.out.mono ?_;rintro r w5⟨rfl,hb5⟩;have HB5:=qH (HBE.out.trans (hb5.mono HBE.out.size));clear hb5;go_wp2;go_ret;exact⟨congrArg (fun b=>Ending.returned (.string b)) (HS.out.trans (by rw[HQ.out])),HB5.out⟩
end Go.Proofs.YtcmmclliabhnjaaGreatDoor
