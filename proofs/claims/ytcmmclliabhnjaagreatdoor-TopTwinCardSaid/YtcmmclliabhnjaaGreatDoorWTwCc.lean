/-
  What a slice of events that came in reads as, and how long its texts can be.
-/
import Derived.Test.YtcmmclliabhnjaaGreatDoorWSets
import Derived.Test.YtcmmclliabhnjaaGreatDoorWEvForget
import Derived.Test.YtcmmclliabhnjaaGreatDoorWShelf
import Derived.Lib.AppendZeros
import Derived.Lib.AppendZerosOnto
import Derived.ProofKit
import Derived.OpenShut
import Derived.ShutString
import Derived.ChangeOld
import Derived.Deep.Slices
import Derived.SizedLaws
set_option maxRecDepth 100000
set_option maxHeartbeats 16000000
namespace Go.Proofs.YtcmmclliabhnjaaGreatDoor
open Go.RowKit Go.Maps Go.Sort
theorem str_info:(Tryz.prog.info? 9).map (fun i=>(i.zero,i.size,i.bytes))=some (some (.string ByteArray.empty),1,16):=by kernel_rfl
def Strs(w:World)(B:Nat)(A:Option Addr)(n c:Nat)(ss:List (List UInt8)):Prop:=Cel w B 1 A n c (ss.map encStr)
theorem Strs.len{w:World}{B n c:Nat}{A:Option Addr}{ss:List (List UInt8)}(h:Strs w B A n c ss):ss.length=n:=by have:=Cel.len h;simpa using this
theorem Strs.at_{w:World}{B n c:Nat}{A:Option Addr}{ss:List (List UInt8)}(h:Strs w B A n c ss)(k:Nat)(hk:k<ss.length): ∃b off,A=some ⟨b,off,none⟩∧b<B∧w.cell? ⟨b,off+k,none⟩=some (.string ⟨ss[k].toArray⟩):=by have hl:=h.len;obtain⟨b,off,e,hb,hc⟩:=Cel.cell h (by omega);exact⟨b,off,e,hb,hc k _ (by simp[hk,encStr])⟩
def MaxAt(w:World):Prop:= ∃m,w.cell? ⟨2,0,none⟩=some (.int .i64 m)
theorem MaxAt.lt{w:World}(h:MaxAt w):2<w.heap.size:=by obtain⟨m,h⟩:=h;exact World.block_lt_of_cell? w ⟨2,0,none⟩ h
theorem MaxAt.below{w w':World}{B:Nat}(h:MaxAt w)(hb:Below B w w')(hB:2<B):MaxAt w':=by obtain⟨m,h⟩:=h;exact⟨m,(hb.cell (p:=⟨2,0,none⟩) hB).trans h⟩
theorem MaxAt.up{w w':World}(h:MaxAt w)(hb:Below w.heap.size w w'):MaxAt w':=h.below hb h.lt
def restL(s:List UInt8):List UInt8:=(Lib.cut s [59]).2.1
def tagsL(s:List UInt8):List (List UInt8):=if(restL s).isEmpty then[]else(Lib.splitB ⟨#[44]⟩ 0 (Lib.countB ⟨(restL s).toArray⟩ ⟨#[44]⟩) ⟨(restL s).toArray⟩).map (fun b=>b.data.toList)
theorem restL_length(s:List UInt8):(restL s).length≤s.length:=by
 unfold restL Lib.cut;split;·simp
 ·simp
theorem str_of(b:ByteArray):(⟨b.data.toList.toArray⟩:ByteArray)=b:=by cases b;simp
theorem tags_any(w:World)(s:List UInt8)(hs:s.length≤1000000000)(hm:MaxAt w):Calls Tryz.prog 232 #[.string ⟨s.toArray⟩] w fun e w'=> ∃A c,e=.returned (.slice A (tagsL s).length c)∧Strs w' w'.heap.size A (tagsL s).length c (tagsL s)∧Below w.heap.size w w':=by
 obtain⟨m,hmc⟩:=hm;have HM:=qH hmc;clear hmc;have HR:=qH (show(Lib.cut s [59]).2.1=restL s from rfl);have hrl:=restL_length s;have HT:=qH (show tagsL s=if(restL s).isEmpty then[]else(Lib.splitB ⟨#[44]⟩ 0 (Lib.countB ⟨(restL s).toArray⟩ ⟨#[44]⟩) ⟨(restL s).toArray⟩).map (fun b=>b.data.toList)from rfl);go_enter Tryz.func232,Tryz.ntmps232;go_wp2_with fail;refine(Tryz.strings_Cut ⟨s.toArray⟩ ⟨#[59]⟩ m w (by simp[ByteArray.size];omega) HM.out).mono ?_;rintro q w1⟨rfl,n1,rfl⟩;simp only;rw[HR.out];generalize restL s=rest at*;generalize(Lib.cut s [59]).1=mk at*;generalize(Lib.cut s [59]).2.2=ok at*;cases he:rest.isEmpty
 ·go_wp2_with fail;refine(Tryz.strings_Split ⟨rest.toArray⟩ ⟨#[44]⟩ m (w.drewN n1) (by simp[ByteArray.size];omega) HM.out (by simp[ByteArray.size])).mono ?_;rintro q w2⟨rfl,rfl⟩;have hT:=HT.out;rw[he]at hT;simp only[Bool.false_eq_true,if_false]at hT;have hl:(tagsL s).length=Lib.countB ⟨rest.toArray⟩ ⟨#[44]⟩+1:=by rw[hT,List.length_map];exact(Lib.splitB_all ⟨#[44]⟩ (by simp[ByteArray.size]) 0 _ ⟨rest.toArray⟩ rfl)
  have hE:(Lib.splitB ⟨#[44]⟩ 0 (Lib.countB ⟨rest.toArray⟩ ⟨#[44]⟩) ⟨rest.toArray⟩).map Value.string=(tagsL s).map encStr:=by rw[hT,List.map_map];refine List.map_congr_left fun b _=>?_;show Value.string b=.string ⟨b.data.toList.toArray⟩;rw[str_of]
  have HL:=qH hl;have HE:=qH hE;clear hl hE hT;have hcb:Lib.countB ⟨rest.toArray⟩ ⟨#[44]⟩≤1000000000:=by have:=Lib.countB_le ⟨#[44]⟩ (by simp[ByteArray.size]) _ ⟨rest.toArray⟩ (Nat.le_refl _);simp[ByteArray.size]at this;omega
  go_wp2;go_ret;refine⟨some ⟨w.heap.size,0,none⟩,Lib.countB ⟨rest.toArray⟩ ⟨#[44]⟩+1,by rw[HL.out];rfl,?_,((below_drewN (Below.refl _ _) n1).alloc (by simp) _)⟩;rw[HE.out,←HL.out];have h:=Cel.new (w.drewN n1) ((tagsL s).map encStr).toArray 9 (n:=(tagsL s).length) (size:=1) (by rw[HL.out];unfold maxLen;omega) (by simp);unfold Strs;simpa using h
 ·have hT:=HT.out;rw[he]at hT;simp only[if_true]at hT;have HTE:=qH hT;clear hT;go_wp2;go_ret;exact⟨none,0,by rw[HTE.out];rfl,by rw[HTE.out];exact Cel.nil _ _ _ _ _ (by unfold maxLen;omega),below_drewN (Below.refl _ _) n1⟩
theorem strs_one(ss:List (List UInt8)): ∀u∈ss.map encStr,u.oneCell'=true:=by intro u hu;obtain⟨s,_,rfl⟩:=List.mem_map.1 hu;rfl
def GrowSPost(w:World)(e:Ending)(w':World):Prop:= ∃v,e=.returned v∧w'.ownsRow w.heap.size 9 1 v 0 []∧Below w.heap.size w w'
theorem grows_nil(w:World)(n:Nat)(hn:n≤1000000):Calls Tryz.prog 97 #[.slice none 0 0,.int .i64 n] w (GrowSPost w):=by
 rcases Nat.eq_zero_or_pos n with rfl|h0;·go_enter Tryz.func97,Tryz.ntmps97;go_wp2;go_ret;exact⟨_,rfl,⟨rfl,.inl ⟨rfl,rfl⟩⟩,Below.refl _ _⟩
 obtain⟨i0,hi0,hz0,hzs,hzb⟩:=info_parts str_info;have hrz: ∃G row w1,(∀ty,(Builtin.append_ #[54,3] ty #[.slice none 0 0,.int .i64 (n:Int)]).run Tryz.prog w=.ok (.slice (some ⟨w.heap.size,0,none⟩) n G) w1)∧w1.heap[w.heap.size]?=some (.cells row 9 (0,0))∧Below w.heap.size w w1∧n≤G∧G≤maxLen∧row.size=G*1:=by have h:=fun ty=>Lib.run_append_nil_zeros w 54 3 ty 9 i0 _ .i64 .i64 Tryz.underlying54 Tryz.underlying3 hi0 hz0 n h0 (by omega) (by omega) (by rw[hzb];omega);refine⟨_,_,_,h,heap_alloc_new w.drew _,(Below.refl _ _).drew.alloc (Nat.le_refl _) _,grownCap_ge w _ _ _,grownCap_le_maxLen w _ _ _ (by unfold maxLen;omega),?_⟩;have hge:=grownCap_ge w n 0 9;simp only[Array.size_append,size_zeroCells];simp only[Value.cells,List.size_toArray,List.length_cons,List.length_nil];omega
 obtain⟨G,row,w1,hr,hrow,hb1,hG1,hG2,hrs⟩:=hrz;have HR:=qH hr;have HO:=qH (show w1.ownsRow w.heap.size 9 1 (.slice (some ⟨w.heap.size,0,none⟩) 0 G) 0 []from⟨rfl,.inr ⟨w.heap.size,G,row,rfl,Nat.le_refl _,hrow,Nat.zero_le _,hG2,hrs,by simp⟩⟩);unfold maxLen at hG2;clear hr hrow hrs hi0 hz0 hzs hzb;have t1: ¬(n:Int)<0:=by omega
 have t2:(0:Int)<n:=by omega
 go_enter Tryz.func97,Tryz.ntmps97;go_wp2_with(at_builtin;refine Lib.wpList_append_run _ rfl (.tmp 20) (.tmp 21) _ _ rfl _ _ rfl rfl _ _ (HR.out _) ?_);go_wp2;go_ret;exact⟨_,rfl,HO.out,hb1⟩
def CcSPost(w:World)(ss:List (List UInt8))(e:Ending)(w':World):Prop:= ∃v,e=.returned v∧w'.ownsRow w.heap.size 9 1 v ss.length (ss.map encStr)∧Below w.heap.size w w'
def CcSRel(w:World)(l1 l2:List (List UInt8))(v i:Value)(wr:World):Prop:= ∃(k:Nat)(out:List (List UInt8)),i=.int .i64 k∧((k=0∧out=[])∨(k=1∧out=l1)∨(k=2∧out=l1++l2))∧wr.ownsRow w.heap.size 9 1 v out.length (out.map encStr)∧Below w.heap.size w wr
theorem concats_any(w:World)(b:Nat)(A1 A2:Option Addr)(c1 c2:Nat)(l1 l2:List (List UInt8))(x0:w.cell? ⟨b,0,none⟩=some (.slice A1 l1.length c1))(x1:w.cell? ⟨b,1,none⟩=some (.slice A2 l2.length c2))(h1:Strs w w.heap.size A1 l1.length c1 l1)(h2:Strs w w.heap.size A2 l2.length c2 l2)(hl1:l1.length≤200000)(hl2:l2.length≤200000):Calls Tryz.prog 40 #[.slice (some ⟨b,0,none⟩) 2 2] w (CcSPost w (l1++l2)):=by
 have H1:=qH h1;have H2:=qH h2;have hbw:b<w.heap.size:=World.block_lt_of_cell? w ⟨b,0,none⟩ x0;have HX:=qH (And.intro x0 x1);obtain⟨i0,hi,hz0,hz1,hz2⟩:=info_parts str_info;have HI:=qH hi;have HZ0:=qH hz0;have HZ1:=qH hz1;have HZ2:=qH hz2;clear hi hz0 hz1 hz2 h1 h2;go_enter Tryz.func40,Tryz.ntmps40;go_wp2;go_loop[3,11](fun s i=>(s=.int .i64 0∧i=.int .i64 ((0:Nat):Int))∨(s=.int .i64 (l1.length:Int)∧i=.int .i64 ((1:Nat):Int))∨(s=.int .i64 ((l1.length:Int)+l2.length)∧i=.int .i64 ((2:Nat):Int)))(fun _ i=>2-(intOf i).toNat);case atStart=>exact .inl ⟨rfl,rfl⟩
 case round=>
  rcases hrel with⟨rfl,rfl⟩|⟨rfl,rfl⟩|⟨rfl,rfl⟩
  ·go_wp2;go_round;case rel=>exact .inr (.inl ⟨by first|rfl|(congr 1;omega),rfl⟩)
   case measure=>simp[intOf]
  ·go_wp2;go_round;case rel=>exact .inr (.inr ⟨rfl,rfl⟩)
   case measure=>simp[intOf]
  ·have HG:=qH (show Calls Tryz.prog 97 #[.slice none 0 0,.int .i64 ((l1.length:Int)+l2.length)] w (GrowSPost w)from by have:=grows_nil w (l1.length+l2.length) (by omega);rw[Int.natCast_add]at this;exact this);go_wp2_with fail;refine HG.out.mono ?_;rintro r w1⟨v1,rfl,ho,hb1⟩;have HB1:=qH hb1;have hs1:=hb1.size;have HST:=qH (show CcSRel w l1 l2 v1 (.int .i64 ((0:Nat):Int)) w1 from⟨0,[],rfl,.inl ⟨rfl,rfl⟩,ho,HB1.out⟩);clear HB1 hs1 ho hb1 x0 x1;go_wp2;go_loopw[6,27](fun v i wr=>CcSRel w l1 l2 v i wr)(fun _ i _=>2-(intOf i).toNat);case atStart=>exact HST.out
   case round=>
    obtain⟨k,out,rfl,hcase,how,hbel⟩:=hrel;have HOW:=qH how;clear how;rcases hcase with⟨rfl,hout⟩|⟨rfl,hout⟩|⟨rfl,hout⟩<;>rw[hout]at HOW<;>clear hout out
    ·have hsr:=hbel.size;have HCL:=qH (show Cel wr w.heap.size 1 A1 l1.length c1 (l1.map encStr)from Cel.below H1.out hbel);have x0:wr.cell? ⟨b,0,none⟩=some (.slice A1 l1.length c1):=(hbel.cell (p:=⟨b,0,none⟩) hbw).trans HX.out.1;have HON:=qH (show wr.ownsRow w.heap.size 9 1 u6 0 []from HOW.out);go_wp2_with(at_builtin;refine wpList_app (P:=Tryz.prog) rfl (.tmp 31) (.tmp 32) 54 rfl 9 i0 _ 1 16 Tryz.underlying54 HI.out HZ0.out HZ1.out HZ2.out rfl (by decide) w.heap.size _ 0 [] rfl ?c1 w.heap.size _ _ _ (l1.map encStr) rfl ?c2 ?c3 ?c4 ?c5 ?c6 ?_);case c1=>exact HON.out
     case c2=>exact HCL.out
     case c3=>exact strs_one _
     case c4=>unfold maxLen;omega
     case c5=>omega
     case c6=>omega
     intro v' w2 hown2 hg2 _;have HR:=qH (show CcSRel w l1 l2 v' (.int .i64 ((0+1:Nat):Int)) w2 from⟨0+1,l1,rfl,by simp,by first|exact hown2|(have h9:=hown2;rw[Nat.zero_add,List.nil_append]at h9;exact h9),Below.grown hbel hg2 hsr (fun k' hk'=>(World.ownsRow.lt HON.out k' hk').1)⟩);clear hown2 hg2 x0;go_wp2;go_roundw;case rel=>exact HR.out
     case measure=>simp[intOf]
    ·have hsr:=hbel.size;have HCL:=qH (show Cel wr w.heap.size 1 A2 l2.length c2 (l2.map encStr)from Cel.below H2.out hbel);have x1:wr.cell? ⟨b,1,none⟩=some (.slice A2 l2.length c2):=(hbel.cell (p:=⟨b,1,none⟩) hbw).trans HX.out.2;have HON:=qH (show wr.ownsRow w.heap.size 9 1 u6 l1.length (l1.map encStr)from HOW.out);go_wp2_with(at_builtin;refine wpList_app (P:=Tryz.prog) rfl (.tmp 31) (.tmp 32) 54 rfl 9 i0 _ 1 16 Tryz.underlying54 HI.out HZ0.out HZ1.out HZ2.out rfl (by decide) w.heap.size _ l1.length (l1.map encStr) rfl ?c1 w.heap.size _ _ _ (l2.map encStr) rfl ?c2 ?c3 ?c4 ?c5 ?c6 ?_);case c1=>exact HON.out
     case c2=>exact HCL.out
     case c3=>exact strs_one _
     case c4=>unfold maxLen;omega
     case c5=>omega
     case c6=>omega
     intro v' w2 hown2 hg2 _;have HR:=qH (show CcSRel w l1 l2 v' (.int .i64 ((1+1:Nat):Int)) w2 from⟨1+1,l1++l2,rfl,by simp,by rw[List.map_append,List.length_append];exact hown2,Below.grown hbel hg2 hsr (fun k' hk'=>(World.ownsRow.lt HON.out k' hk').1)⟩);clear hown2 hg2 x1;go_wp2;go_roundw;case rel=>exact HR.out
     case measure=>simp[intOf]
    ·obtain⟨A9,k9,hv⟩:=ownsRow_form HOW.out;subst hv;go_wp2;go_ret;exact⟨_,rfl,HOW.out,hbel⟩
open Go.ChangeShapes Go.WideShapes Go.ChangeAt
theorem own:ownKnob Tryz.prog.godebug=none:=by kernel_rfl
theorem laidOut:laidOutB Tryz.prog=true:=by kernel_rfl
theorem byt_of_trod{H:Type}{enc:TypeId×Value→H}{W:World}{T E:TypeId}(hT:Tryz.prog.underlying T=some (.slice E))(hE:Tryz.prog.underlying E=some (.int .u8))(hc:Tryz.prog.cellsOf E=1){A:Option Addr}{n c:Nat}{x:DataW H×List MemPlace}(h: ∃fuel,DataW.trod enc Tryz.prog W 0 (fun _=>true) true fuel T (Value.slice A n c).cells.toList=some x): ∃l,Byt W W.heap.size A n c l:=by
 obtain⟨fuel,hf⟩:=h;rcases open_ints hT hE hc hf with⟨hcs,_⟩|⟨x,l,c',zs,hcs,_,hl,hm,hz,_,hcell,hwz⟩;·simp[Value.cells]at hcs;obtain⟨rfl,rfl,rfl⟩:=hcs;exact⟨[],Byt.nil _ _ _ _ (by unfold maxLen;omega)⟩
 ·simp[Value.cells]at hcs;obtain⟨rfl,rfl,rfl⟩:=hcs;have hz':zs.length=c:=by simpa using hz
  have hw8: ∀i,0≤zs.getD i 0∧zs.getD i 0<256:=fun i=>by
   by_cases hi:i<zs.length
   ·have:=hwz (zs[i]) (List.getElem_mem hi);have e:zs.getD i 0=zs[i]:=by simp[List.getD,hi]
    rw[e];have hb:=this;simp[Lit.wf,IntKind.min,IntKind.max,IntKind.signed,IntKind.bits]at hb;omega
   ·have e:zs.getD i 0=0:=by simp[List.getD,List.getElem?_eq_none (Nat.le_of_not_lt hi)]
    rw[e];decide
  refine⟨(zs.take n).map fun z=>UInt8.ofNat z.toNat,by simp;omega,hl,hm,fun h0=>?_⟩;obtain⟨b,off,spot⟩:=x;have hc0:=hcell 0 (by omega);have hspot:spot=none:=by simpa[Addr.add]using World.cell?_spot hc0
  subst hspot;refine⟨b,off,rfl,World.block_lt_of_cell? W ⟨b,off,none⟩ (by simpa[Addr.add]using hc0),fun i hi=>?_⟩;have hi':i<n:=by simp at hi;omega
  have:=hcell i (by omega);have hadd:(⟨b,off,none⟩:Addr).add i=⟨b,off+i,none⟩:=by unfold Addr.add;split<;>simp_all
  rw[hadd]at this;rw[this];have h8:=hw8 i;have e:zs.getD i 0=zs[i]'(by omega):=by simp[List.getD,List.getElem?_eq_getElem (show i<zs.length by omega)]
  rw[e]at h8⊢;simp;omega
instance:Inhabited Ev:=⟨⟨[],0,0,0,[],[],0,[]⟩⟩
end Go.Proofs.YtcmmclliabhnjaaGreatDoor
