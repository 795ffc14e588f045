/-
  Layer 8: Had.
-/
import Derived.Test.YtladegonienapaaGreatDoorUIns
import Derived.Shelf.SlSortCmp.WholeK
import Derived.Ground.SlsfProg
import Derived.Sort.OwnSorted
import Derived.BigRegion
import Derived.Test.YtladegonienapaaGreatDoorUItkRef
import Derived.LaidEqlPtr
set_option maxRecDepth 100000
set_option maxHeartbeats 16000000
namespace Go.Proofs.YtladegonienapaaGreatDoor
open Go.RowKit Go.Maps Go.Sort
def ik(w:World)(base:Nat)(v:Value)(rs:Rg):Prop:=w.ownsRow base 153 2 v rs.length (rgCells rs)
def EN(w:World)(e:Ending)(w':World):Prop:= ∃cp,e=.returned (.slice (some ⟨w.heap.size,0,none⟩) 0 cp)∧ik w' w.heap.size (.slice (some ⟨w.heap.size,0,none⟩) 0 cp) []∧Below w.heap.size w w'
theorem Ni(w:World)(n:Nat)(h0:0<n)(hn:n≤1000000):Calls Tryz.prog 240 #[.slice none 0 0,.int .i64 n] w (EN w):=by
 obtain⟨i0,hi0,hz0,hzs,hzb⟩:=info_parts mi;have hrz: ∃G row w1,(∀ty,(Builtin.append_ #[151,3] ty #[.slice none 0 0,.int .i64 (n:Int)]).run Tryz.prog w=.ok (.slice (some ⟨w.heap.size,0,none⟩) n G) w1)∧w1.heap[w.heap.size]?=some (.cells row 153 (0,0))∧Below w.heap.size w w1∧n≤G∧G≤maxLen∧row.size=G*2:=by have h:=fun ty=>Lib.run_append_nil_zeros w 151 3 ty 153 i0 _ .i64 .i64 Tryz.underlying151 Tryz.underlying3 hi0 hz0 n h0 (by omega) (by omega) (by rw[hzb];omega);refine⟨_,_,_,h,heap_alloc_new w.drew _,(Below.refl _ _).drew.alloc (Nat.le_refl _) _,grownCap_ge w _ _ _,grownCap_le_maxLen w _ _ _ (by unfold maxLen;omega),?_⟩;have hge:=grownCap_ge w n 0 153;simp only[Array.size_append,size_zeroCells];simp only[Value.cells,List.size_toArray,List.length_cons,List.length_nil];omega
 obtain⟨G,row,w1,hr,hrow,hb1,hG1,hG2,hrs⟩:=hrz;have HR:=qH hr;have HO:=qS (ik w1 w.heap.size (.slice (some ⟨w.heap.size,0,none⟩) 0 G) []) (⟨rfl,.inr ⟨w.heap.size,G,row,rfl,Nat.le_refl _,hrow,Nat.zero_le _,hG2,hrs,by simp[rgCells]⟩⟩);unfold maxLen at hG2;clear hr hrow hrs hi0 hz0 hzs hzb;have t1: ¬(n:Int)<0:=by omega
 have t2:(0:Int)<n:=by omega
 go_enter Tryz.func240,Tryz.ntmps240;go_wp2_with(at_builtin;refine Lib.wpList_append_run _ rfl (.tmp 20) (.tmp 21) _ _ rfl _ _ rfl rfl _ _ (HR.o _) ?_);go_wp2;go_ret;exact⟨G,rfl,HO.o,hb1⟩
def U5(w:World)(rs:Rg)(e:Ending)(w':World):Prop:= ∃g cp,e=.returned (.slice (some ⟨g,0,none⟩) rs.length cp)∧ik w' w.heap.size (.slice (some ⟨g,0,none⟩) rs.length cp) rs∧Below w.heap.size w w'
structure SN(w:World)(b:Nat)(A1 A2:Option Addr)(c1 c2:Nat)(l1 l2:Rg):Prop where
 x0:w.cell? ⟨b,0,none⟩=some (.slice A1 l1.length c1)
 x1:w.cell? ⟨b,1,none⟩=some (.slice A2 l2.length c2)
def Jk(w:World)(l1 l2:Rg)(v i:Value)(wr:World):Prop:= ∃(k:Nat)(out:Rg),i=.int .i64 k∧((k=0∧out=[])∨(k=1∧out=l1)∨(k=2∧out=l1++l2))∧ik wr w.heap.size v out∧Below w.heap.size w wr
theorem Gs(w:World)(b:Nat)(A1 A2:Option Addr)(c1 c2:Nat)(l1 l2:Rg)(hx:SN w b A1 A2 c1 c2 l1 l2)(h1:ax w w.heap.size 2 A1 l1.length c1 (rgCells l1))(h2:ax w w.heap.size 2 A2 l2.length c2 (rgCells l2))(hp:0<l2.length)(hl1:l1.length≤200000)(hl2:l2.length≤200000):Calls Tryz.prog 197 #[.slice (some ⟨b,0,none⟩) 2 2] w (U5 w (l1++l2)):=by
 have H1:=qH h1;have H2:=qH h2;have hbw:b<w.heap.size:=World.block_lt_of_cell? w ⟨b,0,none⟩ hx.x0;have HX:=qH hx;obtain⟨i0,hi,hz0,hz1,hz2⟩:=info_parts mi;have HI:=qH hi;have HZ0:=qH hz0;have HZ1:=qH hz1;have HZ2:=qH hz2;clear hi hz0 hz1 hz2 h1 h2;obtain⟨x0,x1⟩:=hx;go_enter Tryz.func197,Tryz.ntmps197;go_wp2;go_loop[3,11](fun s i=>(s=.int .i64 0∧i=.int .i64 ((0:Nat):Int))∨(s=.int .i64 (l1.length:Int)∧i=.int .i64 ((1:Nat):Int))∨(s=.int .i64 ((l1.length:Int)+l2.length)∧i=.int .i64 ((2:Nat):Int)))(fun _ i=>2-(intOf i).toNat);case atStart=>exact .inl ⟨rfl,rfl⟩
 case round=>
  rcases hrel with⟨rfl,rfl⟩|⟨rfl,rfl⟩|⟨rfl,rfl⟩
  ·go_wp2;go_round;case rel=>exact .inr (.inl ⟨by first|rfl|(congr 1;omega),rfl⟩)
   case measure=>simp[intOf]
  ·go_wp2;go_round;case rel=>exact .inr (.inr ⟨rfl,rfl⟩)
   case measure=>simp[intOf]
  ·have HG:=qS (Calls Tryz.prog 240 #[.slice none 0 0,.int .i64 ((l1.length:Int)+l2.length)] w (EN w)) (by have:=Ni w (l1.length+l2.length) (by omega) (by omega);rw[Int.natCast_add]at this;exact this);go_wp2_with fail;refine HG.o.mono ?_;rintro r w1⟨cp,rfl,ho,hb1⟩;have HO:=qH ho;have HB1:=qH hb1;have hs1:=hb1.size;clear ho hb1 x0 x1;have HST:=qS (Jk w l1 l2 (.slice (some ⟨w.heap.size,0,none⟩) 0 cp) (.int .i64 ((0:Nat):Int)) w1) (⟨0,[],rfl,.inl ⟨rfl,rfl⟩,HO.o,HB1.o⟩);clear HO HB1 hs1;go_wp2;go_loopw[6,27](fun v i wr=>Jk w l1 l2 v i wr)(fun _ i _=>2-(intOf i).toNat);case atStart=>exact HST.o
   case round=>
    obtain⟨k,out,rfl,hcase,how,hbel⟩:=hrel;have HOW:=qH how;clear how;rcases hcase with⟨rfl,hout⟩|⟨rfl,hout⟩|⟨rfl,hout⟩<;>rw[hout]at HOW<;>clear hout out
    ·have yF:=hbel.size;have Rl:=qS (ax wr w.heap.size 2 A1 l1.length c1 (rgCells l1)) (ax.below H1.o hbel);have x0:wr.cell? ⟨b,0,none⟩=some (.slice A1 l1.length c1):=(hbel.cell (p:=⟨b,0,none⟩) hbw).trans HX.o.x0;have Xo:=qS (wr.ownsRow w.heap.size 153 2 u6 0 []) (HOW.o);go_wp2_with(at_builtin;refine aj (P:=Tryz.prog) rfl (.tmp 31) (.tmp 32) 151 rfl 153 i0 _ 2 16 Tryz.underlying151 HI.o HZ0.o HZ1.o HZ2.o rfl (by decide) w.heap.size _ 0 [] rfl ?c1 w.heap.size _ _ _ (rgCells l1) rfl ?c2 ?c3 ?c4 ?c5 ?c6 ?_);case c1=>exact Xo.o
     case c2=>exact Rl.o
     case c3=>exact dD _
     case c4=>unfold maxLen;omega
     case c5=>omega
     case c6=>omega
     intro v' w2 hown2 hg2 _;have HR:=qS (Jk w l1 l2 v' (.int .i64 ((0+1:Nat):Int)) w2) (⟨0+1,l1,rfl,by simp,by unfold ik;first|exact hown2|(have h9:=hown2;rw[Nat.zero_add,List.nil_append]at h9;exact h9),Below.grown hbel hg2 yF (fun k' hk'=>(World.ownsRow.lt Xo.o k' hk').1)⟩);clear hown2 hg2 x0;go_wp2;go_roundw;case rel=>exact HR.o
     case measure=>simp[intOf]
    ·have yF:=hbel.size;have Rl:=qS (ax wr w.heap.size 2 A2 l2.length c2 (rgCells l2)) (ax.below H2.o hbel);have x1:wr.cell? ⟨b,1,none⟩=some (.slice A2 l2.length c2):=(hbel.cell (p:=⟨b,1,none⟩) hbw).trans HX.o.x1;have Xo:=qS (wr.ownsRow w.heap.size 153 2 u6 l1.length (rgCells l1)) (HOW.o);go_wp2_with(at_builtin;refine aj (P:=Tryz.prog) rfl (.tmp 31) (.tmp 32) 151 rfl 153 i0 _ 2 16 Tryz.underlying151 HI.o HZ0.o HZ1.o HZ2.o rfl (by decide) w.heap.size _ l1.length (rgCells l1) rfl ?c1 w.heap.size _ _ _ (rgCells l2) rfl ?c2 ?c3 ?c4 ?c5 ?c6 ?_);case c1=>exact Xo.o
     case c2=>exact Rl.o
     case c3=>exact dD _
     case c4=>unfold maxLen;omega
     case c5=>omega
     case c6=>omega
     intro v' w2 hown2 hg2 _;have HR:=qS (Jk w l1 l2 v' (.int .i64 ((1+1:Nat):Int)) w2) (⟨1+1,l1++l2,rfl,by simp,by unfold ik;rw[aS,List.length_append];exact hown2,Below.grown hbel hg2 yF (fun k' hk'=>(World.ownsRow.lt Xo.o k' hk').1)⟩);clear hown2 hg2 x1;go_wp2;go_roundw;case rel=>exact HR.o
     case measure=>simp[intOf]
    ·obtain⟨g,cp2,hv,_,_⟩:=World.ownsRow.form HOW.o (by simp;omega);subst hv;go_wp2;go_ret;exact⟨g,cp2,rfl,HOW.o,hbel⟩
end Go.Proofs.YtladegonienapaaGreatDoor
namespace Go.Proofs
open Go.Shelf
def Tryz.Ju:Go.Shelf.Ren:=⟨fun|6=>198|15=>125|14=>241|28=>185|29=>186|20=>260|21=>261|22=>262|23=>263|24=>264|25=>265|26=>266|27=>267|46=>278|47=>224|48=>225|49=>279|50=>280|57=>283|n=>n,fun|22=>151|24=>153|25=>263|3=>3|39=>163|0=>0|53=>252|55=>254|4=>4|46=>245|45=>244|50=>200|5=>5|9=>9|66=>275|70=>279|76=>297|77=>143|n=>n,fun|n=>n⟩
theorem Tryz.VC:Go.Proofs.SlLaysF0.n6 Tryz.prog Tryz.Ju:={mixed:=by kernel_rfl,f6:=⟨Tryz.f198.name,by decide,Tryz.func198.trans (congrArg some (by kernel_rfl))⟩,f14:=⟨Tryz.f241.name,by decide,Tryz.func241.trans (congrArg some (by kernel_rfl))⟩,f15:=Tryz.func125.trans (congrArg some (by kernel_rfl)),f20:=⟨Tryz.f260.name,by decide,Tryz.func260.trans (congrArg some (by kernel_rfl))⟩,f21:=⟨Tryz.f261.name,by decide,Tryz.func261.trans (congrArg some (by kernel_rfl))⟩,f22:=⟨Tryz.f262.name,by decide,Tryz.func262.trans (congrArg some (by kernel_rfl))⟩,f23:=⟨Tryz.f263.name,by decide,Tryz.func263.trans (congrArg some (by kernel_rfl))⟩,f24:=⟨Tryz.f264.name,by decide,Tryz.func264.trans (congrArg some (by kernel_rfl))⟩,f25:=⟨Tryz.f265.name,by decide,Tryz.func265.trans (congrArg some (by kernel_rfl))⟩,f26:=⟨Tryz.f266.name,by decide,Tryz.func266.trans (congrArg some (by kernel_rfl))⟩,f27:=⟨Tryz.f267.name,by decide,Tryz.func267.trans (congrArg some (by kernel_rfl))⟩,f28:=Tryz.func185.trans (congrArg some (by kernel_rfl)),f29:=Tryz.func186.trans (congrArg some (by kernel_rfl)),f46:=⟨Tryz.f278.name,by decide,Tryz.func278.trans (congrArg some (by kernel_rfl))⟩,f47:=Tryz.func224.trans (congrArg some (by kernel_rfl)),f48:=Tryz.func225.trans (congrArg some (by kernel_rfl)),f49:=⟨Tryz.f279.name,by decide,Tryz.func279.trans (congrArg some (by kernel_rfl))⟩,f50:=⟨Tryz.f280.name,by decide,Tryz.func280.trans (congrArg some (by kernel_rfl))⟩,f57:=⟨Tryz.f283.name,by decide,Tryz.func283.trans (congrArg some (by kernel_rfl))⟩,t0:=Tryz.underlying0,a0:=Tryz.isAgg0,z0:=Tryz.sizeOf0,v0:=Tryz.zeroValue0,t3:=Tryz.underlying3,a3:=Tryz.isAgg3,z3:=Tryz.sizeOf3,v3:=Tryz.zeroValue3,t4:=Tryz.underlying4,a4:=Tryz.isAgg4,z4:=Tryz.sizeOf4,v4:=Tryz.zeroValue4,t5:=Tryz.underlying5,a5:=Tryz.isAgg5,z5:=Tryz.sizeOf5,v5:=Tryz.zeroValue5,t9:=Tryz.underlying9,a9:=Tryz.isAgg9,z9:=Tryz.sizeOf9,v9:=Tryz.zeroValue9,t22:=Tryz.underlying151,a22:=Tryz.isAgg151,z22:=Tryz.sizeOf151,v22:=Tryz.zeroValue151,t25:=Tryz.underlying263,a25:=Tryz.isAgg263,z25:=Tryz.sizeOf263,v25:=Tryz.zeroValue263,t39:=Tryz.underlying163,a39:=Tryz.isAgg163,z39:=Tryz.sizeOf163,v39:=Tryz.zeroValue163,t45:=Tryz.underlying244,a45:=Tryz.isAgg244,z45:=Tryz.sizeOf244,v45:=Tryz.zeroValue244,t46:=Tryz.underlying245,a46:=Tryz.isAgg245,z46:=Tryz.sizeOf245,v46:=Tryz.zeroValue245,t50:=Tryz.underlying200,a50:=Tryz.isAgg200,z50:=Tryz.sizeOf200,v50:=Tryz.zeroValue200,t53:=Tryz.underlying252,a53:=Tryz.isAgg252,z53:=Tryz.sizeOf252,v53:=Tryz.zeroValue252,t55:=Tryz.underlying254,a55:=Tryz.isAgg254,z55:=Tryz.sizeOf254,v55:=Tryz.zeroValue254,t66:=Tryz.underlying275,a66:=Tryz.isAgg275,z66:=Tryz.sizeOf275,v66:=Tryz.zeroValue275,t70:=Tryz.underlying279,a70:=Tryz.isAgg279,z70:=Tryz.sizeOf279,v70:=Tryz.zeroValue279,t76:=Tryz.underlying297,a76:=Tryz.isAgg297,z76:=Tryz.sizeOf297,v76:=Tryz.zeroValue297,t77:=Tryz.underlying143,a77:=Tryz.isAgg143,z77:=Tryz.sizeOf143,v77:=Tryz.zeroValue143}
end Go.Proofs
namespace Go.Proofs.YtladegonienapaaGreatDoor
open Go.RowKit Go.Maps Go.Sort Go.Shelf
abbrev RS:={r:Int×Int//0≤r.1∧r.1≤4398046511104}
instance:Inhabited RS:=⟨⟨(0,0),by decide⟩⟩
def rU(r:RS):List Value:=[.int .i64 r.1.1,.int .i64 r.1.2]
def Er(x y:RS):Int:=x.1.1-y.1.1
theorem VB : SWO (ltOf Er) where
  irrefl x := by unfold ltOf Er; simp
  trans x y z h1 h2 := by unfold ltOf Er at *; simp at *; omega
  ntrans x y z h1 h2 := by unfold ltOf Er at *; simp at *; omega
theorem LK(x y:RS)(W:World):Calls Tryz.prog 199 #[.agg #[.int .i64 x.1.1,.int .i64 x.1.2],.agg #[.int .i64 y.1.1,.int .i64 y.1.2]] W fun e w'=>e=.returned (.int .i64 (Er x y))∧ ∃q os',w'=grow (W.drewN q) os':=by have hx:=x.2;have hy:=y.2;have HC:=qS (Er x y=x.1.1-y.1.1) (rfl);generalize x.1=xv at*;generalize y.1=yv at*;obtain⟨xa,xb⟩:=xv;obtain⟨ya,yb⟩:=yv;simp only at*;go_enter Tryz.func199,Tryz.ntmps199;go_wp2;go_ret;exact⟨aY HC.o.symm,0,_,by rw[alloc_eq_grow,alloc_eq_grow,grow_grow];rfl⟩
theorem Nn (d : Array RS) : (flatK rU 2 d).toList = rgCells (d.toList.map (·.1)) := by
  apply List.ext_getElem?
  intro t
  by_cases ht : t < d.size * 2
  · have h1 : (flatK rU 2 d).toList[t]? = some ((rU d[t / 2]!)[t % 2]!) := by
      rw [Array.getElem?_toList, Array.getElem?_eq_getElem (by simpa using ht), ← getElem!_pos (flatK rU 2 d) t (by simpa using ht), get_flatK _ _ _ _ ht]
    have hk : t / 2 < (d.toList.map (·.1)).length := by simp; omega
    have h2 := gX (d.toList.map (·.1)) (t / 2) hk
    have hd : d[t / 2]! = d[t / 2]'(by omega) := getElem!_pos d (t / 2) (by omega)
    have hg : (d.toList.map (·.1))[t / 2]'hk = (d[t / 2]'(by omega)).1 := by simp
    rw [hg] at h2
    rw [h1, hd]
    have hm : t % 2 = 0 ∨ t % 2 = 1 := by omega
    rcases hm with hm | hm
    · have h3 := h2.1
      rw [show t / 2 * 2 = t by omega] at h3
      rw [hm]; exact h3.symm
    · have h3 := h2.2
      rw [show t / 2 * 2 + 1 = t by omega] at h3
      rw [hm]; exact h3.symm
  · rw [List.getElem?_eq_none (by simp; omega), List.getElem?_eq_none (by rw [nL]; simp; omega)]
theorem Bc{w:World}{g n:Nat}{os:Array Obj}{cur:Array Value}{e:TypeId}{fr:Nat×Nat}(F:Array Value)(hb:w.heap[g]?=some (.cells cur e fr)):(grow (putRow id (Sort.ahead w n) g 0 F) os).heap[g]?=some (.cells (putCells id 0 F cur) e fr):=by have hg:g<w.heap.size:=(Array.getElem?_eq_some_iff.1 hb).1;rw[heap_grow_old _ _ (by simpa using hg)];simp[putRow,mapBlock,Sort.ahead,Array.getElem?_modify,hb,onCells]
theorem vG{w:World}{g n:Nat}{os:Array Obj}(F:Array Value):w.grownBy (grow (putRow id (Sort.ahead w n) g 0 F) os) (some g):=by refine⟨rfl,rfl,rfl,by simp,fun k hk hne=>?_⟩;rw[heap_grow_old _ _ (by simpa using hk)];have:g≠k:=fun e=>hne (by rw[e]);simp[putRow,mapBlock,Sort.ahead,Array.getElem?_modify,this]
theorem wJ(cur F:Array Value)(h:F.size≤cur.size):(putCells id 0 F cur).toList.take F.size=F.toList:=by
 apply List.ext_getElem?;intro j;by_cases hj:j<F.size;·rw[List.getElem?_take_of_lt hj,Array.getElem?_toList];simp[putCells,hj,show j<cur.size by omega]
 ·rw[List.getElem?_take_eq_none (by omega),List.getElem?_eq_none (by simp;omega)]
def QQ(w:World)(base g cap:Nat)(rs:Rg)(e:Ending)(w':World):Prop:=e=.returned (.tuple #[])∧ ∃rs':Rg,rs'.Perm rs∧rs'.Pairwise (fun a b=>a.1≤b.1)∧ik w' base (.slice (some ⟨g,0,none⟩) rs.length cap) rs'∧w.grownBy w' (some g)
theorem Jm(w:World)(base g cap:Nat)(rs:Rg)(hrs: ∀r∈rs,0≤r.1∧r.1≤4398046511104)(ho:ik w base (.slice (some ⟨g,0,none⟩) rs.length cap) rs)(hl:rs.length≤400000):Calls Tryz.prog 198 #[.slice (some ⟨g,0,none⟩) rs.length cap,.func (.func 199) #[] #[]] w (QQ w base g cap rs):=by
 obtain⟨d,hd⟩: ∃d:Array RS,d.toList.map (·.1)=rs:=⟨(rs.pmap (fun r h=>(⟨r,h⟩:RS)) hrs).toArray,by simp[List.map_pmap]⟩;have hds:d.size=rs.length:=by rw[←hd];simp
 have how:=ho;obtain⟨hl0,hrow⟩:=ho;rcases hrow with⟨hv,_⟩|⟨g',cap',cur,hv,hb,hg,hn,hc,hcs,htk⟩;·cases hv
 obtain⟨rfl,rfl⟩:g=g'∧cap=cap':=by injection hv with h1 _ h3;injection h1 with h1;injection h1 with h1;exact⟨h1,h3⟩
 have hlt:g<w.heap.size:=(Array.getElem?_eq_some_iff.1 hg).1;have hH:HoldsK rU 2 w g 0 d:=fun j hj=>by
  have hj2:j<rs.length*2:=by rw[←hds];simpa using hj
  rw[Nat.zero_add];refine⟨?_,frozen_of_row w g j _ _ hg⟩;have h1:=World.ownsRow.cellAt how j hj2;rw[h1,←hd,←Nn];rw[Array.getElem?_toList,Array.getElem?_eq_getElem hj];simp only[id];rw[getElem!_pos (flatK rU 2 d) j hj]
 have eg: ∀args w,(callFunc 199 args).run Tryz.prog w=.ok (.enter 199 args) w:=enters_of Tryz.func199 (by kernel_rfl) rfl;have hcon:=AnyQ.slices_SortFunc Tryz.VC 2 (fun w=>by kernel_rfl) (fun w=>by kernel_rfl) rU (fun _=>rfl) (fun x v hv=>by simp[rU]at hv;rcases hv with rfl|rfl<;>rfl) Er VB 199 #[] g 0 cap d w eg (fun _ _ _ _ x y=>LK x y _) hH hlt (by omega);rw[hds]at hcon;refine(show Calls Tryz.prog 198 #[.slice (some ⟨g,0,none⟩) rs.length cap,.func (.func 199) #[] #[]] w _ from hcon).mono ?_;rintro e w'⟨rfl,d',n,os,hp,hs,rfl⟩;have hds':d'.size=d.size:=hp.1;have hperm:d'.toList.Perm d.toList:=by
  have h3:=hp.2.2;rw[←hds]at h3;have e1:d'.extract 0 d.size=d':=by rw[←hds'];simp
  have e2:d.extract 0 d.size=d:=by simp
  rw[e1,e2]at h3;exact h3
 refine⟨rfl,d'.toList.map (·.1),by rw[←hd];exact hperm.map _,?_,?_,vG _⟩
 ·rw[List.pairwise_map,List.pairwise_iff_getElem];intro i j hi hj hij;have hi':i<d'.size:=by simpa using hi
  have hj':j<d'.size:=by simpa using hj
  have h4:=hs i j (Nat.zero_le _) hij (by omega);rw[getElem!_pos d' j hj',getElem!_pos d' i hi']at h4;unfold ltOf Er at h4;simp at h4;simp only[Array.getElem_toList];omega
 ·have hF:(flatK rU 2 d').size=rs.length*2:=by rw[size_flatK,hds',hds]
  have hl':(d'.toList.map (·.1)).length=rs.length:=by simp;omega
  unfold ik;rw[hl',←Nn];refine⟨by simp;omega,.inr ⟨g,cap,_,rfl,hb,Bc _ hg,hn,hc,by simp[putCells,hcs],?_⟩⟩;rw[←hF];exact wJ cur _ (by rw[hF,hcs];exact Nat.mul_le_mul_right _ hn)
def IP(w:World)(l1 l2:Rg)(e:Ending)(w':World):Prop:= ∃v rs,e=.returned v∧ik w' w.heap.size v rs∧RgOk rs∧(∀n,dF rs n=(dF l1 n||dF l2 n))∧rs.length≤l1.length+l2.length∧Below w.heap.size w w'
structure Ey(w:World)(g cp:Nat)(all out:Rg)(v:Value)(wr:World):Prop where
 own:ik wr w.heap.size v out
 all:ik wr w.heap.size (.slice (some ⟨g,0,none⟩) all.length cp) all
 ne:v.ownBlock≠some g
 jB:Below w.heap.size w wr
def yh(w:World)(g cp:Nat)(all:Rg)(v i:Value)(wr:World):Prop:= ∃k:Nat,i=.int .i64 k∧k≤all.length∧Ey w g cp all ((all.take k).foldl eZ []) v wr
theorem ik.cell{w:World}{base:Nat}{rs:Rg}{g cap n:Nat}(h:ik w base (.slice (some ⟨g,0,none⟩) n cap) rs)(hn:n=rs.length)(k:Nat)(hk:k<rs.length):w.cell? ⟨g,k*2,none⟩=some (.int .i64 rs[k].1)∧w.cell? ⟨g,k*2+1,none⟩=some (.int .i64 rs[k].2)∧w.frozen? ⟨g,k*2+1,none⟩=false:=by
 subst hn;have hg:=gX rs k hk;refine⟨?_,?_,World.ownsRow.frozenAt h _⟩;·rw[World.ownsRow.cellAt h (k*2) (by omega)];exact hg.1
 ·rw[World.ownsRow.cellAt h (k*2+1) (by omega)];exact hg.2
theorem Dg{w:World}{base base' n:Nat}{e:TypeId}{size:Nat}{v:Value}{xs:List Value}(h:w.ownsRow base e size v n xs)(hb:base'≤base):w.ownsRow base' e size v n xs:=by
 refine⟨h.1,?_⟩;rcases h.2 with h'|⟨g,cap,cur,e,hb',r⟩;·exact .inl h'
 ·exact .inr ⟨g,cap,cur,e,Nat.le_trans hb hb',r⟩
theorem Ey.up{w wr w2:World}{g cp:Nat}{all out:Rg}{v:Value}(h:Ey w g cp all out v wr)(hb:Below wr.heap.size wr w2):Ey w g cp all out v w2:=⟨ownsRow_below h.own hb (Nat.le_refl _),ownsRow_below h.all hb (Nat.le_refl _),h.ne,h.jB.trans (hb.mono h.jB.size)⟩
theorem Ey.app{w wr w2:World}{g cp:Nat}{all out out':Rg}{v v':Value}(h:Ey w g cp all out v wr)(ho:ik w2 w.heap.size v' out')(hg:wr.grownBy w2 v.ownBlock)(hv:v'.ownBlock=v.ownBlock∨v'.ownBlock=some wr.heap.size):Ey w g cp all out' v' w2:=by
 refine⟨ho,World.ownsRow.kept h.all hg (.inr (Ne.symm h.ne)),?_,Below.grown h.jB hg h.jB.size (fun k hk=>(World.ownsRow.lt h.own k hk).1)⟩;rcases hv with e|e;·rw[e];exact h.ne
 ·rw[e];intro e';injection e' with e';have:=(World.ownsRow.lt h.all g rfl).2;omega
theorem MQ{out:Rg}{j:Nat}(hj:j=out.length)(h0:0<j)(r:Int×Int):eZ out r=if r.1≤(out[j-1]'(by omega)).2 then out.set (j-1) ((out[j-1]'(by omega)).1,max (out[j-1]'(by omega)).2 r.2)else out++[r]:=by
 rcases List.eq_nil_or_concat out with rfl|⟨i,l,rfl⟩;·simp at hj;omega
 ·simp only[List.concat_eq_append]at*;have hjl:j-1=i.length:=by rw[hj];simp
  have hg:(i++[l])[j-1]'(by simp;omega)=l:=by simp only[hjl];simp
  rw[qE,hg];split;·rw[hjl];simp
  ·rfl
theorem Jn(w:World)(A1 A2:Option Addr)(c1 c2:Nat)(l1 l2:Rg)(h1:ax w w.heap.size 2 A1 l1.length c1 (rgCells l1))(h2:ax w w.heap.size 2 A2 l2.length c2 (rgCells l2))(ok1:RgOk l1)(ok2:RgOk l2)(hp:0<l2.length)(hl1:l1.length≤100000)(hl2:l2.length≤100000):Calls Tryz.prog 142 #[.slice A1 l1.length c1,.slice A2 l2.length c2] w (IP w l1 l2):=by
 have hb0:Below w.heap.size w (w.alloc (.cells #[.slice A1 l1.length c1,.slice A2 l2.length c2] 151)):=(Below.refl _ _).alloc (Nat.le_refl _) _;have hsz0:(w.alloc (.cells #[.slice A1 l1.length c1,.slice A2 l2.length c2] 151)).heap.size=w.heap.size+1:=by simp
 have qP:=qS (SN (w.alloc (.cells #[.slice A1 l1.length c1,.slice A2 l2.length c2] 151)) w.heap.size A1 A2 c1 c2 l1 l2) (⟨cell_of_row _ w.heap.size 0 _ _ (0,0) (heap_alloc_new w _),cell_of_row _ w.heap.size 1 _ _ (0,0) (heap_alloc_new w _)⟩);have kD:=qH (ax.more (ax.below h1 hb0) hb0.size);have ku:=qH (ax.more (ax.below h2 hb0) hb0.size);have HB0:=qH hb0;have UM:=qS (∀r∈l1++l2,1≤r.1∧r.1<r.2∧r.2≤1099511627777) (fun r hr=>by
  rcases List.mem_append.1 hr with hr|hr;·exact ok1.each r hr
  ·exact ok2.each r hr);obtain⟨i0,hi,hz0,hz1,hz2⟩:=info_parts mi;have HI:=qH hi;have HZ0:=qH hz0;have HZ1:=qH hz1;have HZ2:=qH hz2;clear hi hz0 hz1 hz2 h1 h2 hb0 ok1 ok2;go_enter Tryz.func142,Tryz.ntmps142;go_wp2_with fail;generalize w.alloc (.cells #[.slice A1 l1.length c1,.slice A2 l2.length c2] 151)=w1 at*;with_reducible refine(Gs w1 w.heap.size A1 A2 c1 c2 l1 l2 qP.o kD.o ku.o hp (by omega) (by omega)).mono ?_
 rintro r w2⟨g,cp,rfl,ho2,hb2⟩;have hlen2:(l1++l2).length=l1.length+l2.length:=by simp
 have OE:Hid (∀r∈l1++l2,1≤r.1∧r.1<r.2∧r.2≤1099511627777):=UM.o;have dA:=qS (ik w2 w.heap.size (.slice (some ⟨g,0,none⟩) (l1++l2).length cp) (l1++l2)) (Dg ho2 (by omega));have HB2:=qS (Below w.heap.size w w2) (HB0.o.trans (hb2.mono (by omega)));have hgb:w.heap.size≤g:=(World.ownsRow.lt dA.o g rfl).1;clear ho2 hb2 qP kD ku HB0 hsz0;generalize hlists:l1++l2=ll at*;have Je:=qH hlists;clear hlists;have hll:ll.length≤200000:=by omega
 have XE:=qH hlen2;clear hlen2;go_wp2_with fail;with_reducible refine(Jm w2 w.heap.size g cp ll (fun r hr=>by have:=OE.o r hr;omega) dA.o (by omega)).mono ?_
 rintro r w3⟨rfl,all,hperm,hsort,ho3,hg3⟩;have hlen:all.length=ll.length:=hperm.length_eq;have I9:=qH hperm;have WY:=qH hsort;have HLEN:=qH hlen;rw[←hlen]at ho3⊢;have LD:=qS (Ey w g cp all [] (.slice none 0 0) w3) (⟨World.ownsRow_nil _ _ _ _,ho3,by simp[Value.ownBlock],Below.grown HB2.o hg3 HB2.o.size (fun k hk=>by injection hk with hk;omega)⟩);have hal:all.length≤200000:=by omega
 clear ho3 hg3 hperm hsort dA HB2 hlen;have HST:=qS (yh w g cp all (.slice none 0 0) (.int .i64 ((0:Nat):Int)) w3) (⟨0,rfl,Nat.zero_le _,LD.o⟩);go_wp2;go_loopw[6,18](fun v i wr=>yh w g cp all v i wr)(fun _ i _=>all.length-(intOf i).toNat);case atStart=>exact HST.o
 case round=>
  obtain⟨k,rfl,hk,hm⟩:=hrel;have HM:=qH hm;have hjl:=J9 (all.take k) [];rw[List.length_take]at hjl;simp only[List.length_nil]at hjl;have yF:=hm.jB.size;clear hm;by_cases hkn:k<all.length
  ·obtain⟨y0,y1,_⟩:=HM.o.all.cell rfl k hkn;have hgl:=(World.ownsRow.lt HM.o.all g rfl).2;have df:=qS ((all.take (k+1)).foldl eZ []=eZ ((all.take k).foldl eZ []) all[k]) (by rw[List.take_add_one,List.getElem?_eq_getElem hkn,Option.toList_some,FV]);have vD:=OE.o all[k] (I9.o.mem_iff.1 (List.getElem_mem hkn));generalize all[k]=rr at*;obtain⟨ra,rb⟩:=rr;simp only at y0 y1 vD;generalize(all.take k).foldl eZ []=out at*;have t1:(k:Int)<all.length:=by omega
   have hbW:Below wr.heap.size wr (wr.alloc (.cells #[.int .i64 ra,.int .i64 rb] 153)):=(Below.refl _ _).alloc (Nat.le_refl _) _;have oJ:=qH (HM.o.up hbW);have z0:(wr.alloc (.cells #[.int .i64 ra,.int .i64 rb] 153)).cell? ⟨wr.heap.size,0,none⟩=some (.int .i64 ra):=cell_of_row _ wr.heap.size 0 _ _ (0,0) (heap_alloc_new wr _);have z1:(wr.alloc (.cells #[.int .i64 ra,.int .i64 rb] 153)).cell? ⟨wr.heap.size,1,none⟩=some (.int .i64 rb):=cell_of_row _ wr.heap.size 1 _ _ (0,0) (heap_alloc_new wr _);obtain⟨B,cB,lJ⟩:=ownsRow_form HM.o.own;subst lJ;have hsa:(wr.alloc (.cells #[.int .i64 ra,.int .i64 rb] 153)).heap.size=wr.heap.size+1:=by simp
   go_upto_region 7 with fail;clear hbW y0 y1;generalize wr.alloc (.cells #[.int .i64 ra,.int .i64 rb] 153)=wa at*;have Pg:=qH hsa;clear hsa;by_cases h0:0<out.length
   ·obtain⟨gg,cg,Yl,hgb2,hgg⟩:=World.ownsRow.form oJ.o.own h0;obtain⟨rfl,rfl⟩:B=some ⟨gg,0,none⟩∧cB=cg:=by injection Yl with h1 _ h3;exact⟨h1,h3⟩
    clear Yl;obtain⟨j,hj⟩: ∃j,j=out.length:=⟨_,rfl⟩;have hj0:0<j:=by omega
    have hjo:j-1<out.length:=by omega
    have HJ:=qH (MQ hj hj0 (ra,rb));obtain⟨_,y1,SQ⟩:=oJ.o.own.cell rfl (j-1) hjo;have WW:=qS (∀t,(rgCells out).set ((j-1)*2+1) (.int .i64 t)=rgCells (out.set (j-1) ((out[j-1]'hjo).1,t))) (fun t=>dB out (j-1) hjo t);generalize out[j-1]'hjo=q at*;obtain⟨qa,qb⟩:=q;simp only at y1 HJ WW;have UB:=qH hj;have hjk:j≤200000:=by omega
    rw[←hj];clear hj h0 hjo;have ej:(j:Int)-1=((j-1:Nat):Int):=by omega
    have j1:((j-1:Nat):Int)<j:=by omega
    have wj:IntKind.i64.wrap ((j-1:Nat):Int)=((j-1:Nat):Int):=IntWalk.i64_in _ (by omega);have d0:decide (0<(j:Int))=true:=decide_eq_true (by omega);have d1:(0:Int)<(j:Int):=by omega
    have d0':decide (0<j)=true:=decide_eq_true hj0;by_cases hq:ra≤qb
    ·have hbe:decide (ra≤qb)=true:=decide_eq_true hq;have HT:=qS ((all.take (k+1)).foldl eZ []=out.set (j-1) (qa,max qb rb)) (by rw[df.o,HJ.o,if_pos hq]);clear HJ df;go_wp2;go_quiet(fail);have LB:=qH (oJ.o.up (below_drewN (Below.refl wa.heap.size wa) nq));have q1:(wa.drewN nq).cell? ⟨wr.heap.size,1,none⟩=some (.int .i64 rb):=z1;have Vz:(wa.drewN nq).cell? ⟨gg,(j-1)*2+1,none⟩=some (.int .i64 qb):=y1;have VA:(wa.drewN nq).frozen? ⟨gg,(j-1)*2+1,none⟩=false:=SQ;clear z0 z1 oJ y1 SQ hbe hq d0 d1 d0';generalize wa.drewN nq=wq at*;go_wp2;go_still_tail 14,(by kernel_rfl);change wpList _ _ _ _ _ (wq.drewN 1);have Sn:=qH (LB.o.up (below_drewN (Below.refl wq.heap.size wq) 1));have y1z:(wq.drewN 1).cell? ⟨gg,(j-1)*2+1,none⟩=some (.int .i64 qb):=Vz;have aaK:(wq.drewN 1).frozen? ⟨gg,(j-1)*2+1,none⟩=false:=VA;clear q1 Vz VA LB;generalize wq.drewN 1=wz at*;have HR:=qS (yh w g cp all (.slice (some ⟨gg,0,none⟩) j cB) (.int .i64 ((k+1:Nat):Int)) (wz.setCell ⟨gg,(j-1)*2+1,none⟩ (.int .i64 (max qb rb)))) (⟨k+1,rfl,by omega,by rw[HT.o];have hst:=World.ownsRow.stored Sn.o.own ((j-1)*2+1) (.int .i64 (max qb rb));refine Sn.o.app (v':=.slice (some ⟨gg,0,none⟩) j cB) ?_ hst.2 (.inl (by rfl));have h8:=hst.1;rw[WW.o]at h8;unfold ik;rw[List.length_set];rw[UB.o]at h8⊢;exact h8⟩);clear ej j1 wj;go_wp2;go_roundw;case rel=>exact HR.o
     case measure=>simp[intOf];omega
    ·have hbe:decide (ra≤qb)=false:=decide_eq_false hq;have HT:=qS ((all.take (k+1)).foldl eZ []=out++[(ra,rb)]) (by rw[df.o,HJ.o,if_neg hq]);clear HJ df;go_wp2;go_quiet(fail);clear y1 SQ hbe hq d0 d1 d0' ej j1 wj;rw[UB.o];have hbq:Below wa.heap.size wa (wa.drewN nq):=below_drewN (Below.refl _ _) nq;have LB:=qH (oJ.o.up hbq);have q0:(wa.drewN nq).cell? ⟨wr.heap.size,0,none⟩=some (.int .i64 ra):=z0;have q1:(wa.drewN nq).cell? ⟨wr.heap.size,1,none⟩=some (.int .i64 rb):=z1;clear z0 z1 oJ hbq;generalize wa.drewN nq=wq at*;have Qo:=LB.o.jB.size;go_wp2_with(at_builtin;refine aj (P:=Tryz.prog) rfl (.tmp 51) (.tmp 53) 151 rfl 153 i0 _ 2 16 Tryz.underlying151 HI.o HZ0.o HZ1.o HZ2.o rfl (by decide) w.heap.size _ out.length (rgCells out) rfl ?c1 (wq.heap.size+1) _ _ _ [.int .i64 ra,.int .i64 rb] rfl ?c2 ?c3 ?c4 ?c5 ?c6 ?_);case c1=>exact World.ownsRow.alloc LB.o.own _
     case c2=>exact ax.new (size:=2) (n:=1) wq #[.int .i64 ra,.int .i64 rb] _ (by unfold maxLen;omega) rfl
     case c3=>exact dD [(ra,rb)]
     case c4=>unfold maxLen;omega
     case c5=>omega
     case c6=>first|omega|(simp;omega)
     intro v' w5 hown5 hg5 hv5;have HR:=qS (yh w g cp all v' (.int .i64 ((k+1:Nat):Int)) w5) (⟨k+1,rfl,by omega,by rw[HT.o];refine(LB.o.up ((Below.refl _ _).alloc (Nat.le_refl _) (.cells #[.int .i64 ra,.int .i64 rb] 153))).app ?_ hg5 (by simpa using hv5);unfold ik;rw[aS,List.length_append];exact hown5⟩);clear hown5 hg5 hv5 q0 q1;go_wp2;go_roundw;case rel=>exact HR.o
     case measure=>simp[intOf];omega
   ·have ho0:out=[]:=List.eq_nil_of_length_eq_zero (by omega);have HT:=qS ((all.take (k+1)).foldl eZ []=out++[(ra,rb)]) (by rw[df.o,ho0,tu];rfl);have hol:out.length=0:=by rw[ho0];rfl
    have Ja:=qH hol;rw[hol];rw[hol]at oJ;clear df h0 ho0 hol;go_wp2;go_quiet(fail);have hbq:Below wa.heap.size wa (wa.drewN nq):=below_drewN (Below.refl _ _) nq;have LB:=qH (oJ.o.up hbq);have q0:(wa.drewN nq).cell? ⟨wr.heap.size,0,none⟩=some (.int .i64 ra):=z0;have q1:(wa.drewN nq).cell? ⟨wr.heap.size,1,none⟩=some (.int .i64 rb):=z1;clear z0 z1 oJ hbq;generalize wa.drewN nq=wq at*;have Qo:=LB.o.jB.size;go_wp2_with(at_builtin;refine aj (P:=Tryz.prog) rfl (.tmp 51) (.tmp 53) 151 rfl 153 i0 _ 2 16 Tryz.underlying151 HI.o HZ0.o HZ1.o HZ2.o rfl (by decide) w.heap.size _ out.length (rgCells out) rfl ?c1 (wq.heap.size+1) _ _ _ [.int .i64 ra,.int .i64 rb] rfl ?c2 ?c3 ?c4 ?c5 ?c6 ?_);case c1=>exact World.ownsRow.alloc LB.o.own _
    case c2=>exact ax.new (size:=2) (n:=1) wq #[.int .i64 ra,.int .i64 rb] _ (by unfold maxLen;omega) rfl
    case c3=>exact dD [(ra,rb)]
    case c4=>unfold maxLen;omega
    case c5=>omega
    case c6=>first|omega|(simp;omega)
    intro v' w5 hown5 hg5 hv5;have HR:=qS (yh w g cp all v' (.int .i64 ((k+1:Nat):Int)) w5) (⟨k+1,rfl,by omega,by rw[HT.o];refine(LB.o.up ((Below.refl _ _).alloc (Nat.le_refl _) (.cells #[.int .i64 ra,.int .i64 rb] 153))).app ?_ hg5 (by simpa using hv5);unfold ik;rw[aS,List.length_append];exact hown5⟩);clear hown5 hg5 hv5 q0 q1;go_wp2;go_roundw;case rel=>exact HR.o
    case measure=>simp[intOf];omega
  ·have t1: ¬(k:Int)<all.length:=by omega
   have HKK:=qS (all.take k=all) (List.take_of_length_le (by omega));rw[HKK.o]at HM hjl;have HJ:=qH (DR all WY.o (fun r hr=>OE.o r (I9.o.mem_iff.1 hr)) [] RgOk.nil (fun q hq=>by simp at hq));obtain⟨B,cB,lJ⟩:=ownsRow_form HM.o.own;subst lJ;have HF:=qS (IP w l1 l2 (.returned (.slice B (all.foldl eZ []).length cB)) wr) (⟨_,_,rfl,HM.o.own,HJ.o.1,fun n=>by have h0:dF ([]:Rg) n=false:=rfl;rw[HJ.o.2,h0,Bool.false_or,←jm,Je.o];unfold dF;rw[Bool.eq_iff_iff,List.any_eq_true,List.any_eq_true];constructor<;>(rintro⟨q,hq,h⟩;exact⟨q,by first|exact I9.o.mem_iff.1 hq|exact I9.o.mem_iff.2 hq,h⟩),by have:=HLEN.o;have:=XE.o;omega,HM.o.jB⟩);go_wp2;go_ret;exact HF.o
theorem oF.kept{w w':World}{b r:Nat}{m:Row Value}{todo:List UInt8→Bool}{cnt x:Nat}(h:oF w b r m todo cnt)(hg:w.grownBy w' (some x))(hb:b≠x)(hr:r≠x):oF w' b r m todo cnt:=by obtain⟨n,left,h1,h2⟩:=h;exact⟨n,left,h1.kept (row:=some x) hg (by simpa using hb) (by simpa using hr),h2⟩
theorem bQ.grown{w w':World}{G:Nat→Prop}{bs bm x:Nat}{m:eB}{V:List UInt8→Value}(h:bQ w G bs bm m V)(hg:w.grownBy w' (some x))(hx: ¬G x):bQ w' G bs bm m V:=h.keep hg.size fun b hb=>hg.block b (h.lt b hb) (fun e=>by injection e with e;exact hx (e▸hb))
structure MgM(w:World)(G G':Nat→Prop)(bs bm bo bp r:Nat)(m m':eB)(V':List UInt8→Value)(todo:List UInt8→Bool)(cnt:Nat)(G2:Nat→Prop)(m2:eB)(V2:List UInt8→Value)(wr:World):Prop where
 rng:oF wr bp r (m'.map fun p=>(p.1,V' p.1)) todo cnt
 dst:bQ wr G2 bs bm m2 V2
 src:bQ wr G' bo bp m' V'
 has: ∀s n,hadB m2 s n=(hadB m s n||(!todo s&&hadB m' s n))
 rows: ∀s,todo s=true→aM m2 s=aM m s
 len:m2.length+cnt≤m.length+m'.length
 keep:ah G w wr
 new: ∀b,G2 b→G b∨w.heap.size<b
def Ol(w:World)(G G':Nat→Prop)(bs bm bo bp r:Nat)(m m':eB)(V':List UInt8→Value)(wr:World):Prop:= ∃todo cnt G2 m2 V2,MgM w G G' bs bm bo bp r m m' V' todo cnt G2 m2 V2 wr
def zW(w:World)(G:Nat→Prop)(bs bm:Nat)(m m':eB)(e:Ending)(w':World):Prop:=e=.returned (.tuple #[])∧ ∃G2 m2 V2,bQ w' G2 bs bm m2 V2∧(∀s n,hadB m2 s n=(hadB m s n||hadB m' s n))∧ah G w w'∧ ∀b,G2 b→G b∨w.heap.size≤b
theorem dX.II{w:World}{v:Value}{rs:Rg}(h:dX w v rs): ∃A c,v=.slice A rs.length c∧ax w w.heap.size 2 A rs.length c (rgCells rs):=by obtain⟨A,c,hv⟩:=ownsRow_form h;subst hv;exact⟨A,c,rfl,ax.aQ h⟩
theorem KA{m:eB}{V:List UInt8→Value}{k:List UInt8}{v:Value}(h:aC (m.map fun p=>(p.1,V p.1)) k=some v): ∃rs,aC m k=some rs∧v=V k:=by unfold aC at*;rw[List.find?_map]at h;have e:((fun p:List UInt8×Value=>p.1==k)∘fun p:List UInt8×Rg=>(p.1,V p.1))=fun p=>p.1==k:=rfl;rw[e]at h;cases hf:m.find? fun p=>p.1==k with|none=>rw[hf]at h;cases h|some p=>have h1:=List.find?_some hf;simp at h1;rw[hf]at h;simp at h;exact⟨p.2,rfl,by rw[←h,h1]⟩
theorem J3(w:World)(G G':Nat→Prop)(bs bm bo bp:Nat)(m m':eB)(V V':List UInt8→Value)(h:bQ w G bs bm m V)(h':bQ w G' bo bp m' V')(hap: ∀b,G b→ ¬G' b)(hl:m.length+m'.length≤200000)(hr: ∀s,(aM m s).length≤100000)(hr': ∀p∈m',p.2.length≤100000):Calls Tryz.prog 90 #[.pointer (some ⟨bs,0,none⟩),.pointer (some ⟨bo,0,none⟩)] w (zW w G bs bm m m'):=by
 have HH:=qH h;have Vs:=qH h';have Jg:=qH hap;have HR:=qH hr;have HR':=qH hr';have hne:bs≠bo:=fun e=>hap bs h.gs (e▸h'.gs);have hcmp:(binOp .eql 75 (.pointer (some ⟨bs,0,none⟩)) (.pointer (some ⟨bo,0,none⟩))).run Tryz.prog w=.ok (.bool false) w:=by
  obtain⟨j,hj1,hj2⟩: ∃j,Tryz.prog.info? 150=some j∧j.size=1:=by
   have:(Tryz.prog.info? 150).map (·.size)=some 1:=by kernel_rfl
   cases hi:Tryz.prog.info? 150 with|none=>rw[hi]at this;cases this|some j=>rw[hi]at this;exact⟨j,rfl,by simpa using this⟩
  exact run_eql_ptr_other w Tryz.underlying75 hj1 (by omega) (fun e=>hne (by injection e)) h.blk h'.blk
 have c0:=h'.cell;have HM':=qH h'.map;have hGl:=h.lt;have Wp:=h'.lt;have Sy:=qH hGl;have aar:=qH Wp;have X8:=qH h'.gm;have HBM:=qH h.gm;clear h h' hap hr hr' hGl Wp;go_enter Tryz.func90,Tryz.ntmps90;go_wp2_with(at_range;refine nD _ rfl _ 148 151 rfl Tryz.underlying148 bp (m'.map fun p=>(p.1,V' p.1)) rfl HM'.o ?_;intro w0 hrg0 hg0 hs0);go_frame;clear c0 hcmp;have hb0:Below w.heap.size w w0:=⟨hg0.os,hg0.tape,hg0.output,hg0.size,fun k hk=>hg0.block k hk (by simp)⟩;have HST:=qS (Ol w G G' bs bm bo bp w.heap.size m m' V' w0) (⟨_,_,G,m,V,hrg0,HH.o.up hb0,Vs.o.up hb0,fun s n=>by
  rw[show(aC (m'.map fun p=>(p.1,V' p.1)) s).isSome=(aC m' s).isSome from ?_];·cases hg:aC m' s with|none=>simp[hadB,aM,hg,dF]|some rs=>simp
  ·unfold aC;rw[List.find?_map];have e:((fun p:List UInt8×Value=>p.1==s)∘fun p:List UInt8×Rg=>(p.1,V' p.1))=fun p=>p.1==s:=rfl;rw[e];cases m'.find? fun p=>p.1==s<;>rfl,fun s _=>rfl,by simp,ah.of_below hb0,fun b hb=>.inl hb⟩);clear hg0 hrg0 hb0;go_loopw[](fun wr=>Ol w G G' bs bm bo bp w.heap.size m m' V' wr)(fun wr=>wr.rangeLeft bp w.heap.size);case atStart=>exact HST.o
 case round=>
  obtain⟨todo,cnt,G2,m2,V2,hM⟩:=hrel;have HM:=qH hM;clear hM;go_wp2_with(at_next;refine pW _ rfl _ rfl bp w.heap.size (m'.map fun p=>(p.1,V' p.1)) todo cnt rfl HM.o.rng ?_ ?_);·intro hdone;have HF:=qS (zW w G bs bm m m' (.returned (.tuple #[])) wr) (⟨rfl,G2,m2,V2,HM.o.dst,fun s n=>by rw[HM.o.has,hdone s];simp,HM.o.keep,fun b hb=>(HM.o.new b hb).imp id (fun h=>by omega)⟩);clear hdone;go_wp2;go_end0;exact HF.o
  ·intro k v w1 cnt1 htk hget hkl hrg1 hlt1 hgr hsz1 hen;obtain⟨rs,Lp,rfl⟩:=KA hget;have Tw: ∀b,G2 b→b≠w.heap.size:=fun b hb e=>by
    rcases HM.o.new b hb with h1|h1;·have:=Sy.o b h1;omega
    ·omega
   have aaM:=HM.o.keep.size;have D1:=(HM.o.dst.grown hgr (fun hx=>Tw _ hx rfl)).up (w':=w1.drew) (Below.refl _ _).drew;have S1:=(HM.o.src.grown hgr (fun hx=>by have:=aar.o _ hx;omega)).up (w':=w1.drew) (Below.refl _ _).drew;have K1:ah G w w1:=HM.o.keep.trans (ah.bV (F:=fun b=>b=w.heap.size) hgr (fun k e=>by injection e with e;exact e.symm)) (fun b hb e=>by omega);have hmem:=ak Lp;have hpo:=Vs.o.ok.each _ hmem;have hpl:=HR'.o _ hmem;simp only at hpo hpl;have hk24:k.length≤24:=by have:=hpo.1;unfold af at this;simp at this;omega
   obtain⟨va,hlk,hoa,hv0,hv1⟩:=D1.look k (by omega);have Y4:=HM.o.rows k htk;have hl1:=HR.o k;rw[Y4]at hoa;have hok1:=HH.o.ok.row k;have Ku:=S1.own _ hmem;simp only at Ku;obtain⟨A1,c1,hva,tJ⟩:=hoa.II;obtain⟨A2,c2,hvb,hC2⟩:=Ku.II;have hrs0:0<rs.length:=List.length_pos_iff.2 hpo.2.2;have HU:=qH (Jn w1.drew A1 A2 c1 c2 (aM m k) rs tJ hC2 hok1 hpo.2.1 hrs0 hl1 hpl);have HD1:=qH D1;have oI:=qH S1;have zZ:=qH K1;have BF:=qH hv0;have yo:=qH hv1;have XQ:=qH Y4;have BV:=qH hpo;have df:=qH htk;have pJ:=qH hrg1;have pM:=qH hlt1;have UG:=qH Lp;have hlen2:m2.length<maxLen:=by have:=HM.o.len;unfold maxLen;omega
   have c0:w1.cell? ⟨bs,0,none⟩=some (.map (some bm)):=D1.cell;have ZY:=qH hsz1;have HNG:=qH Tw;have jA:=qS (∀w5 v5 rs5,Below w1.drew.heap.size w1.drew w5→ik w5 w1.drew.heap.size v5 rs5→RgOk rs5→(∀n,dF rs5 n=(dF (aM m k) n||dF rs n))→ ∃w6,(Instr.mapUpdate 148 (.map (some bm)) (.string ⟨k.toArray⟩) v5).run Tryz.prog w5=.ok () w6∧w5.cell? ⟨bs,0,none⟩=some (.map (some bm))∧w6.cell? ⟨bs,0,none⟩=some (.map (some bm))∧Ol w G G' bs bm bo bp w.heap.size m m' V' w6∧w6.rangeLeft bp w.heap.size<wr.rangeLeft bp w.heap.size) (fun w5 v5 rs5 hb5 ho5 hok5 hhas5=>by
    have D5:=D1.up hb5;have hne5:rs5≠[]:=fun e=>by obtain⟨n,hn⟩:=PQ hpo.2.1 hpo.2.2;have:=hhas5 n;rw[e,hn]at this;simp[dF]at this
    obtain⟨g5,cp5,hv5,Zg,aaT⟩:=World.ownsRow.form ho5 (List.length_pos_iff.2 hne5);obtain⟨w6,hr6,hm6,hg6⟩:=D5.map.put (by simpa using hlen2) k (by unfold maxLen;omega) _ _ Tryz.underlying148 v5;have hok6:dm (aL k rs5 m2):=⟨aZ HM.o.dst.ok.up _ _,fun p hp=>by
     rcases aJ.1 hp with rfl|⟨hp,_⟩;·exact⟨hpo.1,hok5,hne5⟩
     ·exact HM.o.dst.ok.each p hp⟩;have hst:=D1.stored (w2:=w5) (w3:=w6) k va v5 rs5 hv0 hv1 ⟨hb5.os,hb5.tape,hb5.output,hb5.size,fun i hi _=>hb5.block i hi⟩ (Dg ho5 (Nat.zero_le _)) (.inr ⟨g5,by rw[hv5];rfl,Zg⟩) (by rw[hv5];simp[Value.ownBlock]) hm6 hg6 hok6;have aaL:w.heap.size<w1.heap.size:=by have:=(oF.lt hrg1);omega
    have Zm:bp≠bm:=fun e=>Jg.o bm HBM.o (e▸X8.o);have hrm:w.heap.size≠bm:=fun e=>by have:=Sy.o bm HBM.o;omega
    have R6:=((hrg1.up (w':=w1.drew) (Below.refl _ _).drew).up hb5).kept hg6 Zm hrm;refine⟨w6,hr6,D5.cell,hst.1.cell,⟨_,cnt1,_,aL k rs5 m2,_,R6,hst.1,(S1.up hb5).grown hg6 (fun hx=>Jg.o bm HBM.o hx),fun s n=>?_,fun s hs=>?_,?_,?_,fun b hb=>?_⟩,?_⟩
    ·have h1:=HM.o.has s n;by_cases e:s=k
     ·subst e;have h2:hadB (aL s rs5 m2) s n=dF rs5 n:=by unfold hadB;rw[jG]
      have h3:hadB m' s n=dF rs n:=by unfold hadB aM;rw[Lp];rfl
      rw[h2,hhas5,h3];simp[hadB]
     ·have h2:hadB (aL k rs5 m2) s n=hadB m2 s n:=by unfold hadB;rw[gD _ _ e]
      have h3:(s==k)=false:=by simpa using e
      rw[h2,h1];simp only[h3,Bool.not_false,Bool.and_true]
    ·simp only[Bool.and_eq_true,Bool.not_eq_true',beq_eq_false_iff_ne]at hs;rw[gD _ _ hs.2];exact HM.o.rows s hs.1
    ·have:=dJ m2 k rs5;have:=HM.o.len;omega
    ·refine(K1.drewN 1).trans (G:=G2) (show ah G2 (w1.drewN 1) w6 from hst.2) (fun b hb hG2=>?_);rcases HM.o.new b hG2 with h1|h1;·exact h1
     ·omega
    ·rcases hb with⟨hb,_⟩|⟨hb,_⟩;·exact HM.o.new b hb
     ·right;have:w1.heap.size≤b:=hb;omega
    ·rw[R6.left_eq,HM.o.rng.left_eq];exact hlt1);subst hva;rw[hvb]at hen;rw[hvb];clear hoa Ku tJ hC2 hvb D1 S1 K1 hv0 hv1 Y4 hpo htk hrg1 hlt1 Lp hmem hget hgr hsz1 Tw hok1;go_wp2;go_region_held3(fun wx=>wx.cell? ⟨bs,0,none⟩=some (.map (some bm)))(first|assumption|go_keep)(first|(go_at_call 142;(with_reducible refine HU.o.mono ?_);rintro r9 w5⟨v5,rs5,rfl,ho5,hok5,hhas5,_,hb5⟩;obtain⟨w6,hr6,hc5,hc6,hrel6,hme6⟩:=jA.o w5 v5 rs5 hb5 ho5 hok5 hhas5;have pU:=qH hrel6;have YG:=qH hme6;clear ho5 hok5 hhas5 hb5 hrel6 hme6));all_goals
    clear hlk hen hr6 hc5 c0;go_wp2;go_roundw;case rel=>exact pU.o
    case measure=>exact YG.o
def BD(w:World)(m:eB)(e:Ending)(w':World):Prop:= ∃bs bm G V,e=.returned (.pointer (some ⟨bs,0,none⟩))∧bQ w' G bs bm m V∧Below w.heap.size w w'∧ ∀b,G b→w.heap.size≤b
theorem wW{m:eB}(h:dm m){p:List UInt8×Rg}(hp:p∈m):aM m p.1=p.2:=by unfold aM;rw[fU h.up (v:=p.2) hp];rfl
theorem MW(w:World)(F:Nat→Prop)(bi N:Nat)(x:aG)(h:bN w F bi N x)(hN:N≤90000):Calls Tryz.prog 47 #[.pointer (some ⟨bi,0,none⟩)] w (BD w x.had):=by
 obtain⟨A,hM,hO,_,_,_,_⟩:=h;have HM:=qH hM;have hhl:=hO.had;have HRW:=qH hO.rows;clear hM hO;go_enter Tryz.func47,Tryz.ntmps47;go_wp2_with fail;refine(qI w).mono ?_;rintro r w1⟨bs,bm,rfl,hd1,hbs,yI,hb1⟩;have HD1:=qH hd1;have HB1:=qH hb1;have oJ:=qH (HM.o.up hb1);obtain⟨c0,c1,c2,c3,c4,c5,f2,f3,f4⟩:=oJ.o.cells;have Sy:=qS (∀b,A.G b→b<w.heap.size) (fun b hb=>HM.o.had.lt b hb);clear hd1 hb1;go_wp2_with fail;with_reducible refine(J3 w1 (fun b=>b=bs∨b=bm) A.G bs bm A.bs A.bh [] x.had (fun _=>.slice none 0 0) A.V HD1.o oJ.o.had (fun b hb hg=>by have:=Sy.o b hg;rcases hb with rfl|rfl<;>omega) (by simp;omega) (fun s=>by simp[aM,aC]) (fun p hp=>by have:=HRW.o p.1;rw[wW HM.o.had.ok hp]at this;omega)).mono ?_
 rintro r w2⟨rfl,G2,m2,V2,hd2,hhas,hk2,hG2⟩;have hm2:m2=x.had:=Gf hd2.ok HM.o.had.ok (fun s n=>by rw[hhas];simp[hadB,aM,aC,dF]);subst hm2;have HF:=qS (BD w x.had (.returned (.pointer (some ⟨bs,0,none⟩))) w2) (⟨bs,bm,G2,V2,rfl,hd2,HB1.o.trans (hk2.below HB1.o.size (fun k hk hF=>by rcases hF with rfl|rfl<;>omega)),fun b hb=>by
  have:=HB1.o.size;rcases hG2 b hb with(rfl|rfl)|h';·exact hbs
  ·exact yI
  ·omega⟩);clear hd2 hhas hk2 hG2 c0 c1 c2 c3 c4 c5 f2 f3 f4;go_wp2;go_ret;exact HF.o
end Go.Proofs.YtladegonienapaaGreatDoor
