/-
  Layer 7: Merge; layer 8: Had.
-/
import Derived.Test.YtcmmclliabhnjaaGreatDoorWPnM
import Derived.Test.YtcmmclliabhnjaaGreatDoorWHad
import Derived.Test.YtcmmclliabhnjaaGreatDoorWIns
import Derived.Shelf.SlGeneric
import Derived.Shelf.SlSortCmp.WholeK
import Derived.Ground.SlsfProg
import Derived.Test.YtcmmclliabhnjaaGreatDoorProg
import Derived.Sort.OwnSorted
import Derived.Test.YtcmmclliabhnjaaGreatDoorWSets
import Derived.Deep.RegionHeld3
import Derived.Deep.DeepCutAuto
import Derived.RegionTactic
import Derived.StillTailTactics
import Derived.BigRegion
import Derived.Test.YtcmmclliabhnjaaGreatDoorWItk
import Derived.LaidEqlPtr
set_option maxRecDepth 100000
set_option maxHeartbeats 16000000
namespace Go.Proofs.YtcmmclliabhnjaaGreatDoor
open Go.RowKit Go.Maps Go.Sort
def OwnRB(w:World)(base:Nat)(v:Value)(rs:Rg):Prop:=w.ownsRow base 173 2 v rs.length (rgCells rs)
def GrowPost(w:World)(e:Ending)(w':World):Prop:= ∃cp,e=.returned (.slice (some ⟨w.heap.size,0,none⟩) 0 cp)∧OwnRB w' w.heap.size (.slice (some ⟨w.heap.size,0,none⟩) 0 cp) []∧Below w.heap.size w w'
theorem grow_nil(w:World)(n:Nat)(h0:0<n)(hn:n≤1000000):Calls Tryz.prog 200 #[.slice none 0 0,.int .i64 n] w (GrowPost w):=by
 obtain⟨i0,hi0,hz0,hzs,hzb⟩:=info_parts rg_info;have hrz: ∃G row w1,(∀ty,(Builtin.append_ #[166,3] ty #[.slice none 0 0,.int .i64 (n:Int)]).run Tryz.prog w=.ok (.slice (some ⟨w.heap.size,0,none⟩) n G) w1)∧w1.heap[w.heap.size]?=some (.cells row 173 (0,0))∧Below w.heap.size w w1∧n≤G∧G≤maxLen∧row.size=G*2:=by have h:=fun ty=>Lib.run_append_nil_zeros w 166 3 ty 173 i0 _ .i64 .i64 Tryz.underlying166 Tryz.underlying3 hi0 hz0 n h0 (by omega) (by omega) (by rw[hzb];omega);refine⟨_,_,_,h,heap_alloc_new w.drew _,(Below.refl _ _).drew.alloc (Nat.le_refl _) _,grownCap_ge w _ _ _,grownCap_le_maxLen w _ _ _ (by unfold maxLen;omega),?_⟩;have hge:=grownCap_ge w n 0 173;simp only[Array.size_append,size_zeroCells];simp only[Value.cells,List.size_toArray,List.length_cons,List.length_nil];omega
 obtain⟨G,row,w1,hr,hrow,hb1,hG1,hG2,hrs⟩:=hrz;have HR:=qH hr;have HO:=qH (show OwnRB w1 w.heap.size (.slice (some ⟨w.heap.size,0,none⟩) 0 G) []from⟨rfl,.inr ⟨w.heap.size,G,row,rfl,Nat.le_refl _,hrow,Nat.zero_le _,hG2,hrs,by simp[rgCells]⟩⟩);unfold maxLen at hG2;clear hr hrow hrs hi0 hz0 hzs hzb;have t1: ¬(n:Int)<0:=by omega
 have t2:(0:Int)<n:=by omega
 go_enter Tryz.func200,Tryz.ntmps200;go_wp2_with(at_builtin;refine Lib.wpList_append_run _ rfl (.tmp 20) (.tmp 21) _ _ rfl _ _ rfl rfl _ _ (HR.out _) ?_);go_wp2;go_ret;exact⟨G,rfl,HO.out,hb1⟩
def CcPost(w:World)(rs:Rg)(e:Ending)(w':World):Prop:= ∃g cp,e=.returned (.slice (some ⟨g,0,none⟩) rs.length cp)∧OwnRB w' w.heap.size (.slice (some ⟨g,0,none⟩) rs.length cp) rs∧Below w.heap.size w w'
structure CcArg(w:World)(b:Nat)(A1 A2:Option Addr)(c1 c2:Nat)(l1 l2:Rg):Prop where
 x0:w.cell? ⟨b,0,none⟩=some (.slice A1 l1.length c1)
 x1:w.cell? ⟨b,1,none⟩=some (.slice A2 l2.length c2)
def CcRel(w:World)(l1 l2:Rg)(v i:Value)(wr:World):Prop:= ∃(k:Nat)(out:Rg),i=.int .i64 k∧((k=0∧out=[])∨(k=1∧out=l1)∨(k=2∧out=l1++l2))∧OwnRB wr w.heap.size v out∧Below w.heap.size w wr
theorem concat_any(w:World)(b:Nat)(A1 A2:Option Addr)(c1 c2:Nat)(l1 l2:Rg)(hx:CcArg w b A1 A2 c1 c2 l1 l2)(h1:Cel w w.heap.size 2 A1 l1.length c1 (rgCells l1))(h2:Cel w w.heap.size 2 A2 l2.length c2 (rgCells l2))(hp:0<l2.length)(hl1:l1.length≤200000)(hl2:l2.length≤200000):Calls Tryz.prog 157 #[.slice (some ⟨b,0,none⟩) 2 2] w (CcPost w (l1++l2)):=by
 have H1:=qH h1;have H2:=qH h2;have hbw:b<w.heap.size:=World.block_lt_of_cell? w ⟨b,0,none⟩ hx.x0;have HX:=qH hx;obtain⟨i0,hi,hz0,hz1,hz2⟩:=info_parts rg_info;have HI:=qH hi;have HZ0:=qH hz0;have HZ1:=qH hz1;have HZ2:=qH hz2;clear hi hz0 hz1 hz2 h1 h2;obtain⟨x0,x1⟩:=hx;go_enter Tryz.func157,Tryz.ntmps157;go_wp2;go_loop[3,11](fun s i=>(s=.int .i64 0∧i=.int .i64 ((0:Nat):Int))∨(s=.int .i64 (l1.length:Int)∧i=.int .i64 ((1:Nat):Int))∨(s=.int .i64 ((l1.length:Int)+l2.length)∧i=.int .i64 ((2:Nat):Int)))(fun _ i=>2-(intOf i).toNat);case atStart=>exact .inl ⟨rfl,rfl⟩
 case round=>
  rcases hrel with⟨rfl,rfl⟩|⟨rfl,rfl⟩|⟨rfl,rfl⟩
  ·go_wp2;go_round;case rel=>exact .inr (.inl ⟨by first|rfl|(congr 1;omega),rfl⟩)
   case measure=>simp[intOf]
  ·go_wp2;go_round;case rel=>exact .inr (.inr ⟨rfl,rfl⟩)
   case measure=>simp[intOf]
  ·have HG:=qH (show Calls Tryz.prog 200 #[.slice none 0 0,.int .i64 ((l1.length:Int)+l2.length)] w (GrowPost w)from by have:=grow_nil w (l1.length+l2.length) (by omega) (by omega);rw[Int.natCast_add]at this;exact this);go_wp2_with fail;refine HG.out.mono ?_;rintro r w1⟨cp,rfl,ho,hb1⟩;have HO:=qH ho;have HB1:=qH hb1;have hs1:=hb1.size;clear ho hb1 x0 x1;have HST:=qH (show CcRel w l1 l2 (.slice (some ⟨w.heap.size,0,none⟩) 0 cp) (.int .i64 ((0:Nat):Int)) w1 from⟨0,[],rfl,.inl ⟨rfl,rfl⟩,HO.out,HB1.out⟩);clear HO HB1 hs1;go_wp2;go_loopw[6,27](fun v i wr=>CcRel w l1 l2 v i wr)(fun _ i _=>2-(intOf i).toNat);case atStart=>exact HST.out
   case round=>
    obtain⟨k,out,rfl,hcase,how,hbel⟩:=hrel;have HOW:=qH how;clear how;rcases hcase with⟨rfl,hout⟩|⟨rfl,hout⟩|⟨rfl,hout⟩<;>rw[hout]at HOW<;>clear hout out
    ·have hsr:=hbel.size;have HCL:=qH (show Cel wr w.heap.size 2 A1 l1.length c1 (rgCells l1)from Cel.below H1.out hbel);have x0:wr.cell? ⟨b,0,none⟩=some (.slice A1 l1.length c1):=(hbel.cell (p:=⟨b,0,none⟩) hbw).trans HX.out.x0;have HON:=qH (show wr.ownsRow w.heap.size 173 2 u6 0 []from HOW.out);go_wp2_with(at_builtin;refine wpList_app (P:=Tryz.prog) rfl (.tmp 31) (.tmp 32) 166 rfl 173 i0 _ 2 16 Tryz.underlying166 HI.out HZ0.out HZ1.out HZ2.out rfl (by decide) w.heap.size _ 0 [] rfl ?c1 w.heap.size _ _ _ (rgCells l1) rfl ?c2 ?c3 ?c4 ?c5 ?c6 ?_);case c1=>exact HON.out
     case c2=>exact HCL.out
     case c3=>exact rgCells_one _
     case c4=>unfold maxLen;omega
     case c5=>omega
     case c6=>omega
     intro v' w2 hown2 hg2 _;have HR:=qH (show CcRel w l1 l2 v' (.int .i64 ((0+1:Nat):Int)) w2 from⟨0+1,l1,rfl,by simp,by unfold OwnRB;first|exact hown2|(have h9:=hown2;rw[Nat.zero_add,List.nil_append]at h9;exact h9),Below.grown hbel hg2 hsr (fun k' hk'=>(World.ownsRow.lt HON.out k' hk').1)⟩);clear hown2 hg2 x0;go_wp2;go_roundw;case rel=>exact HR.out
     case measure=>simp[intOf]
    ·have hsr:=hbel.size;have HCL:=qH (show Cel wr w.heap.size 2 A2 l2.length c2 (rgCells l2)from Cel.below H2.out hbel);have x1:wr.cell? ⟨b,1,none⟩=some (.slice A2 l2.length c2):=(hbel.cell (p:=⟨b,1,none⟩) hbw).trans HX.out.x1;have HON:=qH (show wr.ownsRow w.heap.size 173 2 u6 l1.length (rgCells l1)from HOW.out);go_wp2_with(at_builtin;refine wpList_app (P:=Tryz.prog) rfl (.tmp 31) (.tmp 32) 166 rfl 173 i0 _ 2 16 Tryz.underlying166 HI.out HZ0.out HZ1.out HZ2.out rfl (by decide) w.heap.size _ l1.length (rgCells l1) rfl ?c1 w.heap.size _ _ _ (rgCells l2) rfl ?c2 ?c3 ?c4 ?c5 ?c6 ?_);case c1=>exact HON.out
     case c2=>exact HCL.out
     case c3=>exact rgCells_one _
     case c4=>unfold maxLen;omega
     case c5=>omega
     case c6=>omega
     intro v' w2 hown2 hg2 _;have HR:=qH (show CcRel w l1 l2 v' (.int .i64 ((1+1:Nat):Int)) w2 from⟨1+1,l1++l2,rfl,by simp,by unfold OwnRB;rw[rgCells_append,List.length_append];exact hown2,Below.grown hbel hg2 hsr (fun k' hk'=>(World.ownsRow.lt HON.out k' hk').1)⟩);clear hown2 hg2 x1;go_wp2;go_roundw;case rel=>exact HR.out
     case measure=>simp[intOf]
    ·obtain⟨g,cp2,hv,_,_⟩:=World.ownsRow.form HOW.out (by simp;omega);subst hv;go_wp2;go_ret;exact⟨g,cp2,rfl,HOW.out,hbel⟩
end Go.Proofs.YtcmmclliabhnjaaGreatDoor
namespace Go.Proofs
open Go.Shelf
def Tryz.sortR_ren:Go.Shelf.Ren:=⟨fun|6=>158|15=>175|14=>201|28=>217|29=>218|20=>241|21=>242|22=>243|23=>244|24=>245|25=>246|26=>247|27=>248|46=>278|47=>256|48=>257|49=>279|50=>280|57=>294|n=>n,fun|22=>166|24=>173|25=>228|3=>3|39=>240|0=>0|53=>277|55=>30|4=>4|46=>270|45=>269|50=>223|5=>5|9=>9|66=>302|70=>306|76=>326|77=>139|n=>n,fun|n=>n⟩
theorem Tryz.sortR:Go.Proofs.SlLaysF0.n6 Tryz.prog Tryz.sortR_ren:={mixed:=by kernel_rfl,f6:=⟨Tryz.f158.name,by decide,Tryz.func158.trans (congrArg some (by kernel_rfl))⟩,f14:=⟨Tryz.f201.name,by decide,Tryz.func201.trans (congrArg some (by kernel_rfl))⟩,f15:=Tryz.func175.trans (congrArg some (by kernel_rfl)),f20:=⟨Tryz.f241.name,by decide,Tryz.func241.trans (congrArg some (by kernel_rfl))⟩,f21:=⟨Tryz.f242.name,by decide,Tryz.func242.trans (congrArg some (by kernel_rfl))⟩,f22:=⟨Tryz.f243.name,by decide,Tryz.func243.trans (congrArg some (by kernel_rfl))⟩,f23:=⟨Tryz.f244.name,by decide,Tryz.func244.trans (congrArg some (by kernel_rfl))⟩,f24:=⟨Tryz.f245.name,by decide,Tryz.func245.trans (congrArg some (by kernel_rfl))⟩,f25:=⟨Tryz.f246.name,by decide,Tryz.func246.trans (congrArg some (by kernel_rfl))⟩,f26:=⟨Tryz.f247.name,by decide,Tryz.func247.trans (congrArg some (by kernel_rfl))⟩,f27:=⟨Tryz.f248.name,by decide,Tryz.func248.trans (congrArg some (by kernel_rfl))⟩,f28:=Tryz.func217.trans (congrArg some (by kernel_rfl)),f29:=Tryz.func218.trans (congrArg some (by kernel_rfl)),f46:=⟨Tryz.f278.name,by decide,Tryz.func278.trans (congrArg some (by kernel_rfl))⟩,f47:=Tryz.func256.trans (congrArg some (by kernel_rfl)),f48:=Tryz.func257.trans (congrArg some (by kernel_rfl)),f49:=⟨Tryz.f279.name,by decide,Tryz.func279.trans (congrArg some (by kernel_rfl))⟩,f50:=⟨Tryz.f280.name,by decide,Tryz.func280.trans (congrArg some (by kernel_rfl))⟩,f57:=⟨Tryz.f294.name,by decide,Tryz.func294.trans (congrArg some (by kernel_rfl))⟩,t0:=Tryz.underlying0,a0:=Tryz.isAgg0,z0:=Tryz.sizeOf0,v0:=Tryz.zeroValue0,t3:=Tryz.underlying3,a3:=Tryz.isAgg3,z3:=Tryz.sizeOf3,v3:=Tryz.zeroValue3,t4:=Tryz.underlying4,a4:=Tryz.isAgg4,z4:=Tryz.sizeOf4,v4:=Tryz.zeroValue4,t5:=Tryz.underlying5,a5:=Tryz.isAgg5,z5:=Tryz.sizeOf5,v5:=Tryz.zeroValue5,t9:=Tryz.underlying9,a9:=Tryz.isAgg9,z9:=Tryz.sizeOf9,v9:=Tryz.zeroValue9,t22:=Tryz.underlying166,a22:=Tryz.isAgg166,z22:=Tryz.sizeOf166,v22:=Tryz.zeroValue166,t25:=Tryz.underlying228,a25:=Tryz.isAgg228,z25:=Tryz.sizeOf228,v25:=Tryz.zeroValue228,t39:=Tryz.underlying240,a39:=Tryz.isAgg240,z39:=Tryz.sizeOf240,v39:=Tryz.zeroValue240,t45:=Tryz.underlying269,a45:=Tryz.isAgg269,z45:=Tryz.sizeOf269,v45:=Tryz.zeroValue269,t46:=Tryz.underlying270,a46:=Tryz.isAgg270,z46:=Tryz.sizeOf270,v46:=Tryz.zeroValue270,t50:=Tryz.underlying223,a50:=Tryz.isAgg223,z50:=Tryz.sizeOf223,v50:=Tryz.zeroValue223,t53:=Tryz.underlying277,a53:=Tryz.isAgg277,z53:=Tryz.sizeOf277,v53:=Tryz.zeroValue277,t55:=Tryz.underlying30,a55:=Tryz.isAgg30,z55:=Tryz.sizeOf30,v55:=Tryz.zeroValue30,t66:=Tryz.underlying302,a66:=Tryz.isAgg302,z66:=Tryz.sizeOf302,v66:=Tryz.zeroValue302,t70:=Tryz.underlying306,a70:=Tryz.isAgg306,z70:=Tryz.sizeOf306,v70:=Tryz.zeroValue306,t76:=Tryz.underlying326,a76:=Tryz.isAgg326,z76:=Tryz.sizeOf326,v76:=Tryz.zeroValue326,t77:=Tryz.underlying139,a77:=Tryz.isAgg139,z77:=Tryz.sizeOf139,v77:=Tryz.zeroValue139}
end Go.Proofs
namespace Go.Proofs.YtcmmclliabhnjaaGreatDoor
open Go.RowKit Go.Maps Go.Sort Go.Shelf
abbrev RS:={r:Int×Int//0≤r.1∧r.1≤4398046511104}
instance:Inhabited RS:=⟨⟨(0,0),by decide⟩⟩
def encRS(r:RS):List Value:=[.int .i64 r.1.1,.int .i64 r.1.2]
def cfRS(x y:RS):Int:=x.1.1-y.1.1
theorem swoRS : SWO (ltOf cfRS) where
  irrefl x := by unfold ltOf cfRS; simp
  trans x y z h1 h2 := by unfold ltOf cfRS at *; simp at *; omega
  ntrans x y z h1 h2 := by unfold ltOf cfRS at *; simp at *; omega
theorem ucmp_any(x y:RS)(W:World):Calls Tryz.prog 159 #[.agg #[.int .i64 x.1.1,.int .i64 x.1.2],.agg #[.int .i64 y.1.1,.int .i64 y.1.2]] W fun e w'=>e=.returned (.int .i64 (cfRS x y))∧ ∃q os',w'=grow (W.drewN q) os':=by have hx:=x.2;have hy:=y.2;have HC:=qH (show cfRS x y=x.1.1-y.1.1 from rfl);generalize x.1=xv at*;generalize y.1=yv at*;obtain⟨xa,xb⟩:=xv;obtain⟨ya,yb⟩:=yv;simp only at*;go_enter Tryz.func159,Tryz.ntmps159;go_wp2;go_ret;exact⟨ret_int HC.out.symm,0,_,by rw[alloc_eq_grow,alloc_eq_grow,grow_grow];rfl⟩
theorem flatRS (d : Array RS) : (flatK encRS 2 d).toList = rgCells (d.toList.map (·.1)) := by
  apply List.ext_getElem?
  intro t
  by_cases ht : t < d.size * 2
  · have h1 : (flatK encRS 2 d).toList[t]? = some ((encRS d[t / 2]!)[t % 2]!) := by
      rw [Array.getElem?_toList, Array.getElem?_eq_getElem (by simpa using ht), ← getElem!_pos (flatK encRS 2 d) t (by simpa using ht), get_flatK _ _ _ _ ht]
    have hk : t / 2 < (d.toList.map (·.1)).length := by simp; omega
    have h2 := rgCells_get (d.toList.map (·.1)) (t / 2) hk
    have hd : d[t / 2]! = d[t / 2]'(by omega) := getElem!_pos d (t / 2) (by omega)
    have hg : (d.toList.map (·.1))[t / 2]'hk = (d[t / 2]'(by omega)).1 := by simp
    rw [hg] at h2
    rw [h1, hd]
    have hm : t % 2 = 0 ∨ t % 2 = 1 := by omega
    rcases hm with hm | hm
    · have h3 := h2.1
      rw [show t / 2 * 2 = t by omega] at h3
      rw [hm]; exact h3.symm
    · have h3 := h2.2
      rw [show t / 2 * 2 + 1 = t by omega] at h3
      rw [hm]; exact h3.symm
  · rw [List.getElem?_eq_none (by simp; omega), List.getElem?_eq_none (by rw [rgCells_length]; simp; omega)]
theorem heap_sortedV{w:World}{g n:Nat}{os:Array Obj}{cur:Array Value}{e:TypeId}{fr:Nat×Nat}(F:Array Value)(hb:w.heap[g]?=some (.cells cur e fr)):(grow (putRow id (Sort.ahead w n) g 0 F) os).heap[g]?=some (.cells (putCells id 0 F cur) e fr):=by have hg:g<w.heap.size:=(Array.getElem?_eq_some_iff.1 hb).1;rw[heap_grow_old _ _ (by simpa using hg)];simp[putRow,mapBlock,Sort.ahead,Array.getElem?_modify,hb,onCells]
theorem grownBy_sortedV{w:World}{g n:Nat}{os:Array Obj}(F:Array Value):w.grownBy (grow (putRow id (Sort.ahead w n) g 0 F) os) (some g):=by refine⟨rfl,rfl,rfl,by simp,fun k hk hne=>?_⟩;rw[heap_grow_old _ _ (by simpa using hk)];have:g≠k:=fun e=>hne (by rw[e]);simp[putRow,mapBlock,Sort.ahead,Array.getElem?_modify,this]
theorem take_putCellsV(cur F:Array Value)(h:F.size≤cur.size):(putCells id 0 F cur).toList.take F.size=F.toList:=by
 apply List.ext_getElem?;intro j;by_cases hj:j<F.size;·rw[List.getElem?_take_of_lt hj,Array.getElem?_toList];simp[putCells,hj,show j<cur.size by omega]
 ·rw[List.getElem?_take_eq_none (by omega),List.getElem?_eq_none (by simp;omega)]
def SrtPost(w:World)(base g cap:Nat)(rs:Rg)(e:Ending)(w':World):Prop:=e=.returned (.tuple #[])∧ ∃rs':Rg,rs'.Perm rs∧rs'.Pairwise (fun a b=>a.1≤b.1)∧OwnRB w' base (.slice (some ⟨g,0,none⟩) rs.length cap) rs'∧w.grownBy w' (some g)
theorem usort_any(w:World)(base g cap:Nat)(rs:Rg)(hrs: ∀r∈rs,0≤r.1∧r.1≤4398046511104)(ho:OwnRB w base (.slice (some ⟨g,0,none⟩) rs.length cap) rs)(hl:rs.length≤400000):Calls Tryz.prog 158 #[.slice (some ⟨g,0,none⟩) rs.length cap,.func (.func 159) #[] #[]] w (SrtPost w base g cap rs):=by
 obtain⟨d,hd⟩: ∃d:Array RS,d.toList.map (·.1)=rs:=⟨(rs.pmap (fun r h=>(⟨r,h⟩:RS)) hrs).toArray,by simp[List.map_pmap]⟩;have hds:d.size=rs.length:=by rw[←hd];simp
 have how:=ho;obtain⟨hl0,hrow⟩:=ho;rcases hrow with⟨hv,_⟩|⟨g',cap',cur,hv,hb,hg,hn,hc,hcs,htk⟩;·cases hv
 obtain⟨rfl,rfl⟩:g=g'∧cap=cap':=by injection hv with h1 _ h3;injection h1 with h1;injection h1 with h1;exact⟨h1,h3⟩
 have hlt:g<w.heap.size:=(Array.getElem?_eq_some_iff.1 hg).1;have hH:HoldsK encRS 2 w g 0 d:=fun j hj=>by
  have hj2:j<rs.length*2:=by rw[←hds];simpa using hj
  rw[Nat.zero_add];refine⟨?_,frozen_of_row w g j _ _ hg⟩;have h1:=World.ownsRow.cellAt how j hj2;rw[h1,←hd,←flatRS];rw[Array.getElem?_toList,Array.getElem?_eq_getElem hj];simp only[id];rw[getElem!_pos (flatK encRS 2 d) j hj]
 have eg: ∀args w,(callFunc 159 args).run Tryz.prog w=.ok (.enter 159 args) w:=enters_of Tryz.func159 (by kernel_rfl) rfl;have hcon:=AnyQ.slices_SortFunc Tryz.sortR 2 (fun w=>by kernel_rfl) (fun w=>by kernel_rfl) encRS (fun _=>rfl) (fun x v hv=>by simp[encRS]at hv;rcases hv with rfl|rfl<;>rfl) cfRS swoRS 159 #[] g 0 cap d w eg (fun _ _ _ _ x y=>ucmp_any x y _) hH hlt (by omega);rw[hds]at hcon;refine(show Calls Tryz.prog 158 #[.slice (some ⟨g,0,none⟩) rs.length cap,.func (.func 159) #[] #[]] w _ from hcon).mono ?_;rintro e w'⟨rfl,d',n,os,hp,hs,rfl⟩;have hds':d'.size=d.size:=hp.1;have hperm:d'.toList.Perm d.toList:=by
  have h3:=hp.2.2;rw[←hds]at h3;have e1:d'.extract 0 d.size=d':=by rw[←hds'];simp
  have e2:d.extract 0 d.size=d:=by simp
  rw[e1,e2]at h3;exact h3
 refine⟨rfl,d'.toList.map (·.1),by rw[←hd];exact hperm.map _,?_,?_,grownBy_sortedV _⟩
 ·rw[List.pairwise_map,List.pairwise_iff_getElem];intro i j hi hj hij;have hi':i<d'.size:=by simpa using hi
  have hj':j<d'.size:=by simpa using hj
  have h4:=hs i j (Nat.zero_le _) hij (by omega);rw[getElem!_pos d' j hj',getElem!_pos d' i hi']at h4;unfold ltOf cfRS at h4;simp at h4;simp only[Array.getElem_toList];omega
 ·have hF:(flatK encRS 2 d').size=rs.length*2:=by rw[size_flatK,hds',hds]
  have hl':(d'.toList.map (·.1)).length=rs.length:=by simp;omega
  unfold OwnRB;rw[hl',←flatRS];refine⟨by simp;omega,.inr ⟨g,cap,_,rfl,hb,heap_sortedV _ hg,hn,hc,by simp[putCells,hcs],?_⟩⟩;rw[←hF];exact take_putCellsV cur _ (by rw[hF,hcs];exact Nat.mul_le_mul_right _ hn)
def UniPost(w:World)(l1 l2:Rg)(e:Ending)(w':World):Prop:= ∃v rs,e=.returned v∧OwnRB w' w.heap.size v rs∧RgOk rs∧(∀n,hasR rs n=(hasR l1 n||hasR l2 n))∧rs.length≤l1.length+l2.length∧Below w.heap.size w w'
structure UniM(w:World)(g cp:Nat)(all out:Rg)(v:Value)(wr:World):Prop where
 own:OwnRB wr w.heap.size v out
 all:OwnRB wr w.heap.size (.slice (some ⟨g,0,none⟩) all.length cp) all
 ne:v.ownBlock≠some g
 bel:Below w.heap.size w wr
def UniRel(w:World)(g cp:Nat)(all:Rg)(v i:Value)(wr:World):Prop:= ∃k:Nat,i=.int .i64 k∧k≤all.length∧UniM w g cp all ((all.take k).foldl joinU []) v wr
theorem OwnRB.cell{w:World}{base:Nat}{rs:Rg}{g cap n:Nat}(h:OwnRB w base (.slice (some ⟨g,0,none⟩) n cap) rs)(hn:n=rs.length)(k:Nat)(hk:k<rs.length):w.cell? ⟨g,k*2,none⟩=some (.int .i64 rs[k].1)∧w.cell? ⟨g,k*2+1,none⟩=some (.int .i64 rs[k].2)∧w.frozen? ⟨g,k*2+1,none⟩=false:=by
 subst hn;have hg:=rgCells_get rs k hk;refine⟨?_,?_,World.ownsRow.frozenAt h _⟩;·rw[World.ownsRow.cellAt h (k*2) (by omega)];exact hg.1
 ·rw[World.ownsRow.cellAt h (k*2+1) (by omega)];exact hg.2
theorem own_down{w:World}{base base' n:Nat}{e:TypeId}{size:Nat}{v:Value}{xs:List Value}(h:w.ownsRow base e size v n xs)(hb:base'≤base):w.ownsRow base' e size v n xs:=by
 refine⟨h.1,?_⟩;rcases h.2 with h'|⟨g,cap,cur,e,hb',r⟩;·exact .inl h'
 ·exact .inr ⟨g,cap,cur,e,Nat.le_trans hb hb',r⟩
theorem UniM.up{w wr w2:World}{g cp:Nat}{all out:Rg}{v:Value}(h:UniM w g cp all out v wr)(hb:Below wr.heap.size wr w2):UniM w g cp all out v w2:=⟨ownsRow_below h.own hb (Nat.le_refl _),ownsRow_below h.all hb (Nat.le_refl _),h.ne,h.bel.trans (hb.mono h.bel.size)⟩
theorem UniM.app{w wr w2:World}{g cp:Nat}{all out out':Rg}{v v':Value}(h:UniM w g cp all out v wr)(ho:OwnRB w2 w.heap.size v' out')(hg:wr.grownBy w2 v.ownBlock)(hv:v'.ownBlock=v.ownBlock∨v'.ownBlock=some wr.heap.size):UniM w g cp all out' v' w2:=by
 refine⟨ho,World.ownsRow.kept h.all hg (.inr (Ne.symm h.ne)),?_,Below.grown h.bel hg h.bel.size (fun k hk=>(World.ownsRow.lt h.own k hk).1)⟩;rcases hv with e|e;·rw[e];exact h.ne
 ·rw[e];intro e';injection e' with e';have:=(World.ownsRow.lt h.all g rfl).2;omega
theorem joinU_at{out:Rg}{j:Nat}(hj:j=out.length)(h0:0<j)(r:Int×Int):joinU out r=if r.1≤(out[j-1]'(by omega)).2 then out.set (j-1) ((out[j-1]'(by omega)).1,max (out[j-1]'(by omega)).2 r.2)else out++[r]:=by
 rcases List.eq_nil_or_concat out with rfl|⟨i,l,rfl⟩;·simp at hj;omega
 ·simp only[List.concat_eq_append]at*;have hjl:j-1=i.length:=by rw[hj];simp
  have hg:(i++[l])[j-1]'(by simp;omega)=l:=by simp only[hjl];simp
  rw[joinU_snoc,hg];split;·rw[hjl];simp
  ·rfl
theorem union_any(w:World)(A1 A2:Option Addr)(c1 c2:Nat)(l1 l2:Rg)(h1:Cel w w.heap.size 2 A1 l1.length c1 (rgCells l1))(h2:Cel w w.heap.size 2 A2 l2.length c2 (rgCells l2))(ok1:RgOk l1)(ok2:RgOk l2)(hp:0<l2.length)(hl1:l1.length≤100000)(hl2:l2.length≤100000):Calls Tryz.prog 98 #[.slice A1 l1.length c1,.slice A2 l2.length c2] w (UniPost w l1 l2):=by
 have hb0:Below w.heap.size w (w.alloc (.cells #[.slice A1 l1.length c1,.slice A2 l2.length c2] 166)):=(Below.refl _ _).alloc (Nat.le_refl _) _;have hsz0:(w.alloc (.cells #[.slice A1 l1.length c1,.slice A2 l2.length c2] 166)).heap.size=w.heap.size+1:=by simp
 have HCA:=qH (show CcArg (w.alloc (.cells #[.slice A1 l1.length c1,.slice A2 l2.length c2] 166)) w.heap.size A1 A2 c1 c2 l1 l2 from⟨cell_of_row _ w.heap.size 0 _ _ (0,0) (heap_alloc_new w _),cell_of_row _ w.heap.size 1 _ _ (0,0) (heap_alloc_new w _)⟩);have HC1:=qH (Cel.more (Cel.below h1 hb0) hb0.size);have HC2:=qH (Cel.more (Cel.below h2 hb0) hb0.size);have HB0:=qH hb0;have HEA:=qH (show∀r∈l1++l2,1≤r.1∧r.1<r.2∧r.2≤1099511627777 from fun r hr=>by
  rcases List.mem_append.1 hr with hr|hr;·exact ok1.each r hr
  ·exact ok2.each r hr);obtain⟨i0,hi,hz0,hz1,hz2⟩:=info_parts rg_info;have HI:=qH hi;have HZ0:=qH hz0;have HZ1:=qH hz1;have HZ2:=qH hz2;clear hi hz0 hz1 hz2 h1 h2 hb0 ok1 ok2;go_enter Tryz.func98,Tryz.ntmps98;go_wp2_with fail;generalize w.alloc (.cells #[.slice A1 l1.length c1,.slice A2 l2.length c2] 166)=w1 at*;with_reducible refine(concat_any w1 w.heap.size A1 A2 c1 c2 l1 l2 HCA.out HC1.out HC2.out hp (by omega) (by omega)).mono ?_
 rintro r w2⟨g,cp,rfl,ho2,hb2⟩;have hlen2:(l1++l2).length=l1.length+l2.length:=by simp
 have HPALL:Hid (∀r∈l1++l2,1≤r.1∧r.1<r.2∧r.2≤1099511627777):=HEA.out;have HO2:=qH (show OwnRB w2 w.heap.size (.slice (some ⟨g,0,none⟩) (l1++l2).length cp) (l1++l2)from own_down ho2 (by omega));have HB2:=qH (show Below w.heap.size w w2 from HB0.out.trans (hb2.mono (by omega)));have hgb:w.heap.size≤g:=(World.ownsRow.lt HO2.out g rfl).1;clear ho2 hb2 HCA HC1 HC2 HB0 hsz0;generalize hlists:l1++l2=ll at*;have HLL:=qH hlists;clear hlists;have hll:ll.length≤200000:=by omega
 have HLEN2:=qH hlen2;clear hlen2;go_wp2_with fail;with_reducible refine(usort_any w2 w.heap.size g cp ll (fun r hr=>by have:=HPALL.out r hr;omega) HO2.out (by omega)).mono ?_
 rintro r w3⟨rfl,all,hperm,hsort,ho3,hg3⟩;have hlen:all.length=ll.length:=hperm.length_eq;have HPERM:=qH hperm;have HSORT:=qH hsort;have HLEN:=qH hlen;rw[←hlen]at ho3⊢;have HM3:=qH (show UniM w g cp all [] (.slice none 0 0) w3 from⟨World.ownsRow_nil _ _ _ _,ho3,by simp[Value.ownBlock],Below.grown HB2.out hg3 HB2.out.size (fun k hk=>by injection hk with hk;omega)⟩);have hal:all.length≤200000:=by omega
 clear ho3 hg3 hperm hsort HO2 HB2 hlen;have HST:=qH (show UniRel w g cp all (.slice none 0 0) (.int .i64 ((0:Nat):Int)) w3 from⟨0,rfl,Nat.zero_le _,HM3.out⟩);go_wp2;go_loopw[6,18](fun v i wr=>UniRel w g cp all v i wr)(fun _ i _=>all.length-(intOf i).toNat);case atStart=>exact HST.out
 case round=>
  obtain⟨k,rfl,hk,hm⟩:=hrel;have HM:=qH hm;have hjl:=joinL_len (all.take k) [];rw[List.length_take]at hjl;simp only[List.length_nil]at hjl;have hsr:=hm.bel.size;clear hm;by_cases hkn:k<all.length
  ·obtain⟨y0,y1,_⟩:=HM.out.all.cell rfl k hkn;have hgl:=(World.ownsRow.lt HM.out.all g rfl).2;have HTK:=qH (show(all.take (k+1)).foldl joinU []=joinU ((all.take k).foldl joinU []) all[k]by rw[List.take_add_one,List.getElem?_eq_getElem hkn,Option.toList_some,joinL_snoc]);have hea:=HPALL.out all[k] (HPERM.out.mem_iff.1 (List.getElem_mem hkn));generalize all[k]=rr at*;obtain⟨ra,rb⟩:=rr;simp only at y0 y1 hea;generalize(all.take k).foldl joinU []=out at*;have t1:(k:Int)<all.length:=by omega
   have hbW:Below wr.heap.size wr (wr.alloc (.cells #[.int .i64 ra,.int .i64 rb] 173)):=(Below.refl _ _).alloc (Nat.le_refl _) _;have HM1:=qH (HM.out.up hbW);have z0:(wr.alloc (.cells #[.int .i64 ra,.int .i64 rb] 173)).cell? ⟨wr.heap.size,0,none⟩=some (.int .i64 ra):=cell_of_row _ wr.heap.size 0 _ _ (0,0) (heap_alloc_new wr _);have z1:(wr.alloc (.cells #[.int .i64 ra,.int .i64 rb] 173)).cell? ⟨wr.heap.size,1,none⟩=some (.int .i64 rb):=cell_of_row _ wr.heap.size 1 _ _ (0,0) (heap_alloc_new wr _);obtain⟨B,cB,hvf⟩:=ownsRow_form HM.out.own;subst hvf;have hsa:(wr.alloc (.cells #[.int .i64 ra,.int .i64 rb] 173)).heap.size=wr.heap.size+1:=by simp
   go_upto_region 7 with fail;clear hbW y0 y1;generalize wr.alloc (.cells #[.int .i64 ra,.int .i64 rb] 173)=wa at*;have HSA:=qH hsa;clear hsa;by_cases h0:0<out.length
   ·obtain⟨gg,cg,hvg,hgb2,hgg⟩:=World.ownsRow.form HM1.out.own h0;obtain⟨rfl,rfl⟩:B=some ⟨gg,0,none⟩∧cB=cg:=by injection hvg with h1 _ h3;exact⟨h1,h3⟩
    clear hvg;obtain⟨j,hj⟩: ∃j,j=out.length:=⟨_,rfl⟩;have hj0:0<j:=by omega
    have hjo:j-1<out.length:=by omega
    have HJ:=qH (joinU_at hj hj0 (ra,rb));obtain⟨_,y1,y1f⟩:=HM1.out.own.cell rfl (j-1) hjo;have HST1:=qH (show∀t,(rgCells out).set ((j-1)*2+1) (.int .i64 t)=rgCells (out.set (j-1) ((out[j-1]'hjo).1,t))from fun t=>rgCells_set1 out (j-1) hjo t);generalize out[j-1]'hjo=q at*;obtain⟨qa,qb⟩:=q;simp only at y1 HJ HST1;have HLJ:=qH hj;have hjk:j≤200000:=by omega
    rw[←hj];clear hj h0 hjo;have ej:(j:Int)-1=((j-1:Nat):Int):=by omega
    have j1:((j-1:Nat):Int)<j:=by omega
    have wj:IntKind.i64.wrap ((j-1:Nat):Int)=((j-1:Nat):Int):=IntWalk.i64_in _ (by omega);have d0:decide (0<(j:Int))=true:=decide_eq_true (by omega);have d1:(0:Int)<(j:Int):=by omega
    have d0':decide (0<j)=true:=decide_eq_true hj0;by_cases hq:ra≤qb
    ·have hbe:decide (ra≤qb)=true:=decide_eq_true hq;have HT:=qH (show(all.take (k+1)).foldl joinU []=out.set (j-1) (qa,max qb rb)by rw[HTK.out,HJ.out,if_pos hq]);clear HJ HTK;go_wp2;go_quiet(fail);have HMQ:=qH (HM1.out.up (below_drewN (Below.refl wa.heap.size wa) nq));have q1:(wa.drewN nq).cell? ⟨wr.heap.size,1,none⟩=some (.int .i64 rb):=z1;have y1q:(wa.drewN nq).cell? ⟨gg,(j-1)*2+1,none⟩=some (.int .i64 qb):=y1;have y1fq:(wa.drewN nq).frozen? ⟨gg,(j-1)*2+1,none⟩=false:=y1f;clear z0 z1 HM1 y1 y1f hbe hq d0 d1 d0';generalize wa.drewN nq=wq at*;go_wp2;go_still_tail 14,(by kernel_rfl);change wpList _ _ _ _ _ (wq.drewN 1);have HMZ:=qH (HMQ.out.up (below_drewN (Below.refl wq.heap.size wq) 1));have y1z:(wq.drewN 1).cell? ⟨gg,(j-1)*2+1,none⟩=some (.int .i64 qb):=y1q;have y1fz:(wq.drewN 1).frozen? ⟨gg,(j-1)*2+1,none⟩=false:=y1fq;clear q1 y1q y1fq HMQ;generalize wq.drewN 1=wz at*;have HR:=qH (show UniRel w g cp all (.slice (some ⟨gg,0,none⟩) j cB) (.int .i64 ((k+1:Nat):Int)) (wz.setCell ⟨gg,(j-1)*2+1,none⟩ (.int .i64 (max qb rb)))from⟨k+1,rfl,by omega,by rw[HT.out];have hst:=World.ownsRow.stored HMZ.out.own ((j-1)*2+1) (.int .i64 (max qb rb));refine HMZ.out.app (v':=.slice (some ⟨gg,0,none⟩) j cB) ?_ hst.2 (.inl (by rfl));have h8:=hst.1;rw[HST1.out]at h8;unfold OwnRB;rw[List.length_set];rw[HLJ.out]at h8⊢;exact h8⟩);clear ej j1 wj;go_wp2;go_roundw;case rel=>exact HR.out
     case measure=>simp[intOf];omega
    ·have hbe:decide (ra≤qb)=false:=decide_eq_false hq;have HT:=qH (show(all.take (k+1)).foldl joinU []=out++[(ra,rb)]by rw[HTK.out,HJ.out,if_neg hq]);clear HJ HTK;go_wp2;go_quiet(fail);clear y1 y1f hbe hq d0 d1 d0' ej j1 wj;rw[HLJ.out];have hbq:Below wa.heap.size wa (wa.drewN nq):=below_drewN (Below.refl _ _) nq;have HMQ:=qH (HM1.out.up hbq);have q0:(wa.drewN nq).cell? ⟨wr.heap.size,0,none⟩=some (.int .i64 ra):=z0;have q1:(wa.drewN nq).cell? ⟨wr.heap.size,1,none⟩=some (.int .i64 rb):=z1;clear z0 z1 HM1 hbq;generalize wa.drewN nq=wq at*;have hsq:=HMQ.out.bel.size;go_wp2_with(at_builtin;refine wpList_app (P:=Tryz.prog) rfl (.tmp 51) (.tmp 53) 166 rfl 173 i0 _ 2 16 Tryz.underlying166 HI.out HZ0.out HZ1.out HZ2.out rfl (by decide) w.heap.size _ out.length (rgCells out) rfl ?c1 (wq.heap.size+1) _ _ _ [.int .i64 ra,.int .i64 rb] rfl ?c2 ?c3 ?c4 ?c5 ?c6 ?_);case c1=>exact World.ownsRow.alloc HMQ.out.own _
     case c2=>exact Cel.new (size:=2) (n:=1) wq #[.int .i64 ra,.int .i64 rb] _ (by unfold maxLen;omega) rfl
     case c3=>exact rgCells_one [(ra,rb)]
     case c4=>unfold maxLen;omega
     case c5=>omega
     case c6=>first|omega|(simp;omega)
     intro v' w5 hown5 hg5 hv5;have HR:=qH (show UniRel w g cp all v' (.int .i64 ((k+1:Nat):Int)) w5 from⟨k+1,rfl,by omega,by rw[HT.out];refine(HMQ.out.up ((Below.refl _ _).alloc (Nat.le_refl _) (.cells #[.int .i64 ra,.int .i64 rb] 173))).app ?_ hg5 (by simpa using hv5);unfold OwnRB;rw[rgCells_append,List.length_append];exact hown5⟩);clear hown5 hg5 hv5 q0 q1;go_wp2;go_roundw;case rel=>exact HR.out
     case measure=>simp[intOf];omega
   ·have ho0:out=[]:=List.eq_nil_of_length_eq_zero (by omega);have HT:=qH (show(all.take (k+1)).foldl joinU []=out++[(ra,rb)]by rw[HTK.out,ho0,joinU_nil];rfl);have hol:out.length=0:=by rw[ho0];rfl
    have HOL:=qH hol;rw[hol];rw[hol]at HM1;clear HTK h0 ho0 hol;go_wp2;go_quiet(fail);have hbq:Below wa.heap.size wa (wa.drewN nq):=below_drewN (Below.refl _ _) nq;have HMQ:=qH (HM1.out.up hbq);have q0:(wa.drewN nq).cell? ⟨wr.heap.size,0,none⟩=some (.int .i64 ra):=z0;have q1:(wa.drewN nq).cell? ⟨wr.heap.size,1,none⟩=some (.int .i64 rb):=z1;clear z0 z1 HM1 hbq;generalize wa.drewN nq=wq at*;have hsq:=HMQ.out.bel.size;go_wp2_with(at_builtin;refine wpList_app (P:=Tryz.prog) rfl (.tmp 51) (.tmp 53) 166 rfl 173 i0 _ 2 16 Tryz.underlying166 HI.out HZ0.out HZ1.out HZ2.out rfl (by decide) w.heap.size _ out.length (rgCells out) rfl ?c1 (wq.heap.size+1) _ _ _ [.int .i64 ra,.int .i64 rb] rfl ?c2 ?c3 ?c4 ?c5 ?c6 ?_);case c1=>exact World.ownsRow.alloc HMQ.out.own _
    case c2=>exact Cel.new (size:=2) (n:=1) wq #[.int .i64 ra,.int .i64 rb] _ (by unfold maxLen;omega) rfl
    case c3=>exact rgCells_one [(ra,rb)]
    case c4=>unfold maxLen;omega
    case c5=>omega
    case c6=>first|omega|(simp;omega)
    intro v' w5 hown5 hg5 hv5;have HR:=qH (show UniRel w g cp all v' (.int .i64 ((k+1:Nat):Int)) w5 from⟨k+1,rfl,by omega,by rw[HT.out];refine(HMQ.out.up ((Below.refl _ _).alloc (Nat.le_refl _) (.cells #[.int .i64 ra,.int .i64 rb] 173))).app ?_ hg5 (by simpa using hv5);unfold OwnRB;rw[rgCells_append,List.length_append];exact hown5⟩);clear hown5 hg5 hv5 q0 q1;go_wp2;go_roundw;case rel=>exact HR.out
    case measure=>simp[intOf];omega
  ·have t1: ¬(k:Int)<all.length:=by omega
   have HKK:=qH (show all.take k=all from List.take_of_length_le (by omega));rw[HKK.out]at HM hjl;have HJ:=qH (joinL_ok all HSORT.out (fun r hr=>HPALL.out r (HPERM.out.mem_iff.1 hr)) [] RgOk.nil (fun q hq=>by simp at hq));obtain⟨B,cB,hvf⟩:=ownsRow_form HM.out.own;subst hvf;have HF:=qH (show UniPost w l1 l2 (.returned (.slice B (all.foldl joinU []).length cB)) wr from⟨_,_,rfl,HM.out.own,HJ.out.1,fun n=>by have h0:hasR ([]:Rg) n=false:=rfl;rw[HJ.out.2,h0,Bool.false_or,←hasR_append,HLL.out];unfold hasR;rw[Bool.eq_iff_iff,List.any_eq_true,List.any_eq_true];constructor<;>(rintro⟨q,hq,h⟩;exact⟨q,by first|exact HPERM.out.mem_iff.1 hq|exact HPERM.out.mem_iff.2 hq,h⟩),by have:=HLEN.out;have:=HLEN2.out;omega,HM.out.bel⟩);go_wp2;go_ret;exact HF.out
theorem MapR.kept{w w':World}{b r:Nat}{m:Row Value}{todo:List UInt8→Bool}{cnt x:Nat}(h:MapR w b r m todo cnt)(hg:w.grownBy w' (some x))(hb:b≠x)(hr:r≠x):MapR w' b r m todo cnt:=by obtain⟨n,left,h1,h2⟩:=h;exact⟨n,left,h1.kept (row:=some x) hg (by simpa using hb) (by simpa using hr),h2⟩
theorem HadAt.grown{w w':World}{G:Nat→Prop}{bs bm x:Nat}{m:Had}{V:List UInt8→Value}(h:HadAt w G bs bm m V)(hg:w.grownBy w' (some x))(hx: ¬G x):HadAt w' G bs bm m V:=h.keep hg.size fun b hb=>hg.block b (h.lt b hb) (fun e=>by injection e with e;exact hx (e▸hb))
structure MgM(w:World)(G G':Nat→Prop)(bs bm bo bp r:Nat)(m m':Had)(V':List UInt8→Value)(todo:List UInt8→Bool)(cnt:Nat)(G2:Nat→Prop)(m2:Had)(V2:List UInt8→Value)(wr:World):Prop where
 rng:MapR wr bp r (m'.map fun p=>(p.1,V' p.1)) todo cnt
 dst:HadAt wr G2 bs bm m2 V2
 src:HadAt wr G' bo bp m' V'
 has: ∀s n,hadB m2 s n=(hadB m s n||(!todo s&&hadB m' s n))
 rows: ∀s,todo s=true→hadRow m2 s=hadRow m s
 len:m2.length+cnt≤m.length+m'.length
 keep:Keep G w wr
 new: ∀b,G2 b→G b∨w.heap.size<b
def MgRel(w:World)(G G':Nat→Prop)(bs bm bo bp r:Nat)(m m':Had)(V':List UInt8→Value)(wr:World):Prop:= ∃todo cnt G2 m2 V2,MgM w G G' bs bm bo bp r m m' V' todo cnt G2 m2 V2 wr
def MergePost(w:World)(G:Nat→Prop)(bs bm:Nat)(m m':Had)(e:Ending)(w':World):Prop:=e=.returned (.tuple #[])∧ ∃G2 m2 V2,HadAt w' G2 bs bm m2 V2∧(∀s n,hadB m2 s n=(hadB m s n||hadB m' s n))∧Keep G w w'∧ ∀b,G2 b→G b∨w.heap.size≤b
theorem OwnR.celForm{w:World}{v:Value}{rs:Rg}(h:OwnR w v rs): ∃A c,v=.slice A rs.length c∧Cel w w.heap.size 2 A rs.length c (rgCells rs):=by obtain⟨A,c,hv⟩:=ownsRow_form h;subst hv;exact⟨A,c,rfl,Cel.of_own h⟩
theorem getB_rowV{m:Had}{V:List UInt8→Value}{k:List UInt8}{v:Value}(h:getB (m.map fun p=>(p.1,V p.1)) k=some v): ∃rs,getB m k=some rs∧v=V k:=by unfold getB at*;rw[List.find?_map]at h;have e:((fun p:List UInt8×Value=>p.1==k)∘fun p:List UInt8×Rg=>(p.1,V p.1))=fun p=>p.1==k:=rfl;rw[e]at h;cases hf:m.find? fun p=>p.1==k with|none=>rw[hf]at h;cases h|some p=>have h1:=List.find?_some hf;simp at h1;rw[hf]at h;simp at h;exact⟨p.2,rfl,by rw[←h,h1]⟩
theorem merge_any(w:World)(G G':Nat→Prop)(bs bm bo bp:Nat)(m m':Had)(V V':List UInt8→Value)(h:HadAt w G bs bm m V)(h':HadAt w G' bo bp m' V')(hap: ∀b,G b→ ¬G' b)(hl:m.length+m'.length≤200000)(hr: ∀s,(hadRow m s).length≤100000)(hr': ∀p∈m',p.2.length≤100000):Calls Tryz.prog 42 #[.pointer (some ⟨bs,0,none⟩),.pointer (some ⟨bo,0,none⟩)] w (MergePost w G bs bm m m'):=by
 have HH:=qH h;have HH':=qH h';have HAP:=qH hap;have HR:=qH hr;have HR':=qH hr';have hne:bs≠bo:=fun e=>hap bs h.gs (e▸h'.gs);have hcmp:(binOp .eql 95 (.pointer (some ⟨bs,0,none⟩)) (.pointer (some ⟨bo,0,none⟩))).run Tryz.prog w=.ok (.bool false) w:=by
  obtain⟨j,hj1,hj2⟩: ∃j,Tryz.prog.info? 165=some j∧j.size=1:=by
   have:(Tryz.prog.info? 165).map (·.size)=some 1:=by kernel_rfl
   cases hi:Tryz.prog.info? 165 with|none=>rw[hi]at this;cases this|some j=>rw[hi]at this;exact⟨j,rfl,by simpa using this⟩
  exact run_eql_ptr_other w Tryz.underlying95 hj1 (by omega) (fun e=>hne (by injection e)) h.blk h'.blk
 have c0:=h'.cell;have HM':=qH h'.map;have hGl:=h.lt;have hG'l:=h'.lt;have HGL:=qH hGl;have HGL':=qH hG'l;have HBP:=qH h'.gm;have HBM:=qH h.gm;clear h h' hap hr hr' hGl hG'l;go_enter Tryz.func42,Tryz.ntmps42;go_wp2_with(at_range;refine wpList_range_S _ rfl _ 163 166 rfl Tryz.underlying163 bp (m'.map fun p=>(p.1,V' p.1)) rfl HM'.out ?_;intro w0 hrg0 hg0 hs0);go_frame;clear c0 hcmp;have hb0:Below w.heap.size w w0:=⟨hg0.os,hg0.tape,hg0.output,hg0.size,fun k hk=>hg0.block k hk (by simp)⟩;have HST:=qH (show MgRel w G G' bs bm bo bp w.heap.size m m' V' w0 from⟨_,_,G,m,V,hrg0,HH.out.up hb0,HH'.out.up hb0,fun s n=>by
  rw[show(getB (m'.map fun p=>(p.1,V' p.1)) s).isSome=(getB m' s).isSome from ?_];·cases hg:getB m' s with|none=>simp[hadB,hadRow,hg,hasR]|some rs=>simp
  ·unfold getB;rw[List.find?_map];have e:((fun p:List UInt8×Value=>p.1==s)∘fun p:List UInt8×Rg=>(p.1,V' p.1))=fun p=>p.1==s:=rfl;rw[e];cases m'.find? fun p=>p.1==s<;>rfl,fun s _=>rfl,by simp,Keep.of_below hb0,fun b hb=>.inl hb⟩);clear hg0 hrg0 hb0;go_loopw[](fun wr=>MgRel w G G' bs bm bo bp w.heap.size m m' V' wr)(fun wr=>wr.rangeLeft bp w.heap.size);case atStart=>exact HST.out
 case round=>
  obtain⟨todo,cnt,G2,m2,V2,hM⟩:=hrel;have HM:=qH hM;clear hM;go_wp2_with(at_next;refine wpList_next_S _ rfl _ rfl bp w.heap.size (m'.map fun p=>(p.1,V' p.1)) todo cnt rfl HM.out.rng ?_ ?_);·intro hdone;have HF:=qH (show MergePost w G bs bm m m' (.returned (.tuple #[])) wr from⟨rfl,G2,m2,V2,HM.out.dst,fun s n=>by rw[HM.out.has,hdone s];simp,HM.out.keep,fun b hb=>(HM.out.new b hb).imp id (fun h=>by omega)⟩);clear hdone;go_wp2;go_end0;exact HF.out
  ·intro k v w1 cnt1 htk hget hkl hrg1 hlt1 hgr hsz1 hen;obtain⟨rs,hgk,rfl⟩:=getB_rowV hget;have hnG2: ∀b,G2 b→b≠w.heap.size:=fun b hb e=>by
    rcases HM.out.new b hb with h1|h1;·have:=HGL.out b h1;omega
    ·omega
   have hswr:=HM.out.keep.size;have D1:=(HM.out.dst.grown hgr (fun hx=>hnG2 _ hx rfl)).up (w':=w1.drew) (Below.refl _ _).drew;have S1:=(HM.out.src.grown hgr (fun hx=>by have:=HGL'.out _ hx;omega)).up (w':=w1.drew) (Below.refl _ _).drew;have K1:Keep G w w1:=HM.out.keep.trans (Keep.of_grown (F:=fun b=>b=w.heap.size) hgr (fun k e=>by injection e with e;exact e.symm)) (fun b hb e=>by omega);have hmem:=getB_mem hgk;have hpo:=HH'.out.ok.each _ hmem;have hpl:=HR'.out _ hmem;simp only at hpo hpl;have hk24:k.length≤24:=by have:=hpo.1;unfold nameB at this;simp at this;omega
   obtain⟨va,hlk,hoa,hv0,hv1⟩:=D1.look k (by omega);have hrk:=HM.out.rows k htk;have hl1:=HR.out k;rw[hrk]at hoa;have hok1:=HH.out.ok.row k;have hob:=S1.own _ hmem;simp only at hob;obtain⟨A1,c1,hva,hC1⟩:=hoa.celForm;obtain⟨A2,c2,hvb,hC2⟩:=hob.celForm;have hrs0:0<rs.length:=List.length_pos_iff.2 hpo.2.2;have HU:=qH (union_any w1.drew A1 A2 c1 c2 (hadRow m k) rs hC1 hC2 hok1 hpo.2.1 hrs0 hl1 hpl);have HD1:=qH D1;have HS1:=qH S1;have HK1:=qH K1;have HV0:=qH hv0;have HV1:=qH hv1;have HHB:=qH hrk;have HPO:=qH hpo;have HTK:=qH htk;have HRG:=qH hrg1;have HLT:=qH hlt1;have HGK:=qH hgk;have hlen2:m2.length<maxLen:=by have:=HM.out.len;unfold maxLen;omega
   have c0:w1.cell? ⟨bs,0,none⟩=some (.map (some bm)):=D1.cell;have HSZ1:=qH hsz1;have HNG:=qH hnG2;have HFIN:=qH (show∀w5 v5 rs5,Below w1.drew.heap.size w1.drew w5→OwnRB w5 w1.drew.heap.size v5 rs5→RgOk rs5→(∀n,hasR rs5 n=(hasR (hadRow m k) n||hasR rs n))→ ∃w6,(Instr.mapUpdate 163 (.map (some bm)) (.string ⟨k.toArray⟩) v5).run Tryz.prog w5=.ok () w6∧w5.cell? ⟨bs,0,none⟩=some (.map (some bm))∧w6.cell? ⟨bs,0,none⟩=some (.map (some bm))∧MgRel w G G' bs bm bo bp w.heap.size m m' V' w6∧w6.rangeLeft bp w.heap.size<wr.rangeLeft bp w.heap.size from fun w5 v5 rs5 hb5 ho5 hok5 hhas5=>by
    have D5:=D1.up hb5;have hne5:rs5≠[]:=fun e=>by obtain⟨n,hn⟩:=rg_some hpo.2.1 hpo.2.2;have:=hhas5 n;rw[e,hn]at this;simp[hasR]at this
    obtain⟨g5,cp5,hv5,hg5b,hg5l⟩:=World.ownsRow.form ho5 (List.length_pos_iff.2 hne5);obtain⟨w6,hr6,hm6,hg6⟩:=D5.map.put (by simpa using hlen2) k (by unfold maxLen;omega) _ _ Tryz.underlying163 v5;have hok6:HadOk (putB k rs5 m2):=⟨putB_rising HM.out.dst.ok.up _ _,fun p hp=>by
     rcases putB_mem.1 hp with rfl|⟨hp,_⟩;·exact⟨hpo.1,hok5,hne5⟩
     ·exact HM.out.dst.ok.each p hp⟩;have hst:=D1.stored (w2:=w5) (w3:=w6) k va v5 rs5 hv0 hv1 ⟨hb5.os,hb5.tape,hb5.output,hb5.size,fun i hi _=>hb5.block i hi⟩ (own_down ho5 (Nat.zero_le _)) (.inr ⟨g5,by rw[hv5];rfl,hg5b⟩) (by rw[hv5];simp[Value.ownBlock]) hm6 hg6 hok6;have hw1s:w.heap.size<w1.heap.size:=by have:=(MapR.lt hrg1);omega
    have hbpm:bp≠bm:=fun e=>HAP.out bm HBM.out (e▸HBP.out);have hrm:w.heap.size≠bm:=fun e=>by have:=HGL.out bm HBM.out;omega
    have R6:=((hrg1.up (w':=w1.drew) (Below.refl _ _).drew).up hb5).kept hg6 hbpm hrm;refine⟨w6,hr6,D5.cell,hst.1.cell,⟨_,cnt1,_,putB k rs5 m2,_,R6,hst.1,(S1.up hb5).grown hg6 (fun hx=>HAP.out bm HBM.out hx),fun s n=>?_,fun s hs=>?_,?_,?_,fun b hb=>?_⟩,?_⟩
    ·have h1:=HM.out.has s n;by_cases e:s=k
     ·subst e;have h2:hadB (putB s rs5 m2) s n=hasR rs5 n:=by unfold hadB;rw[hadRow_put_same]
      have h3:hadB m' s n=hasR rs n:=by unfold hadB hadRow;rw[hgk];rfl
      rw[h2,hhas5,h3];simp[hadB]
     ·have h2:hadB (putB k rs5 m2) s n=hadB m2 s n:=by unfold hadB;rw[hadRow_put_other _ _ e]
      have h3:(s==k)=false:=by simpa using e
      rw[h2,h1];simp only[h3,Bool.not_false,Bool.and_true]
    ·simp only[Bool.and_eq_true,Bool.not_eq_true',beq_eq_false_iff_ne]at hs;rw[hadRow_put_other _ _ hs.2];exact HM.out.rows s hs.1
    ·have:=putB_length_le m2 k rs5;have:=HM.out.len;omega
    ·refine(K1.drewN 1).trans (G:=G2) (show Keep G2 (w1.drewN 1) w6 from hst.2) (fun b hb hG2=>?_);rcases HM.out.new b hG2 with h1|h1;·exact h1
     ·omega
    ·rcases hb with⟨hb,_⟩|⟨hb,_⟩;·exact HM.out.new b hb
     ·right;have:w1.heap.size≤b:=hb;omega
    ·rw[R6.left_eq,HM.out.rng.left_eq];exact hlt1);subst hva;rw[hvb]at hen;rw[hvb];clear hoa hob hC1 hC2 hvb D1 S1 K1 hv0 hv1 hrk hpo htk hrg1 hlt1 hgk hmem hget hgr hsz1 hnG2 hok1;go_wp2;go_region_held3(fun wx=>wx.cell? ⟨bs,0,none⟩=some (.map (some bm)))(first|assumption|go_keep)(first|(go_at_call 98;(with_reducible refine HU.out.mono ?_);rintro r9 w5⟨v5,rs5,rfl,ho5,hok5,hhas5,_,hb5⟩;obtain⟨w6,hr6,hc5,hc6,hrel6,hme6⟩:=HFIN.out w5 v5 rs5 hb5 ho5 hok5 hhas5;have HREL:=qH hrel6;have HME:=qH hme6;clear ho5 hok5 hhas5 hb5 hrel6 hme6));all_goals
    clear hlk hen hr6 hc5 c0;go_wp2;go_roundw;case rel=>exact HREL.out
    case measure=>exact HME.out
end Go.Proofs.YtcmmclliabhnjaaGreatDoor
