/-
  Layer 7: a row of ranges is sorted.
-/
import Derived.Test.YtladegonienapaaGreatDoorREvLen
import Derived.Test.YtladegonienapaaGreatDoorRHad
import Derived.Test.YtladegonienapaaGreatDoorRIns
import Derived.Shelf.SlSortCmp.WholeK
import Derived.Ground.SlsfProg
import Derived.Sort.OwnSorted
set_option maxRecDepth 100000
set_option maxHeartbeats 16000000
namespace Go.Proofs.YtladegonienapaaGreatDoor
open Go.RowKit Go.Maps Go.Sort
def dH(out:Rg)(r:Int×Int):Rg:=match out.getLast? with|some l=>if r.1≤l.2 then out.dropLast++[(l.1,max l.2 r.2)]else out++[r]|none=>[r]
def MJ(l:Rg):Prop:= ∀r∈l,1≤r.1∧r.1<r.2∧r.2≤1099511627777
theorem gF(a b:Rg)(n:Int):bS (a++b) n=(bS a n||bS b n):=by unfold bS;rw[List.any_append]
theorem sK(r:Int×Int)(n:Int):bS [r] n=(decide (r.1≤n)&&decide (n<r.2)):=by simp[bS]
theorem pF(r:Int×Int):dH [] r=[r]:=rfl
theorem mY(i:Rg)(l r:Int×Int):dH (i++[l]) r=if r.1≤l.2 then i++[(l.1,max l.2 r.2)]else i++[l]++[r]:=by unfold dH;rw[List.getLast?_append,List.getLast?_singleton,Option.some_or];simp
theorem Gm{out:Rg}{r:Int×Int}(h:RgOk out)(hr:1≤r.1∧r.1<r.2∧r.2≤1099511627777)(hl: ∀l,out.getLast?=some l→l.1≤r.1):RgOk (dH out r)∧(∀n,bS (dH out r) n=(bS out n||bS [r] n))∧ ∀l,(dH out r).getLast?=some l→l.1≤r.1:=by
 rcases List.eq_nil_or_concat out with rfl|⟨i,l,rfl⟩;·rw[pF];refine⟨⟨by simp,fun q hq=>by rw[List.mem_singleton]at hq;rw[hq];exact hr⟩,fun n=>by simp[bS],fun l hl=>?_⟩;simp at hl;rw[←hl];omega
 ·rw[List.concat_eq_append]at*;have h1:=hl l (by simp);obtain⟨u1,u2,u3⟩:=List.pairwise_append.1 h.up;have hle:=h.each l (by simp);rw[mY];by_cases hc:r.1≤l.2
  ·rw[if_pos hc];refine⟨⟨List.pairwise_append.2 ⟨u1,by simp,fun a ha b hb=>?_⟩,fun q hq=>?_⟩,fun n=>?_,fun q hq=>?_⟩;·rw[List.mem_singleton]at hb;rw[hb];exact u3 a ha l (by simp)
   ·rcases List.mem_append.1 hq with hq|hq;·exact h.each q (by simp[hq])
    ·rw[List.mem_singleton]at hq;rw[hq];simp only;omega
   ·rw[gF,gF,sK,sK,sK,Bool.or_assoc];congr 1;rw[Bool.eq_iff_iff];simp only[Bool.and_eq_true,Bool.or_eq_true,decide_eq_true_eq];omega
   ·simp at hq;rw[←hq];exact h1
  ·rw[if_neg hc];refine⟨⟨List.pairwise_append.2 ⟨h.up,by simp,fun a ha b hb=>?_⟩,fun q hq=>?_⟩,fun n=>gF _ _ _,fun q hq=>?_⟩
   ·rw[List.mem_singleton]at hb;rw[hb];rcases List.mem_append.1 ha with ha|ha;·have:=u3 a ha l (by simp);omega
    ·rw[List.mem_singleton]at ha;rw[ha];omega
   ·rcases List.mem_append.1 hq with hq|hq;·exact h.each q hq
    ·rw[List.mem_singleton]at hq;rw[hq];exact hr
   ·simp at hq;rw[←hq];omega
theorem za: ∀(l:Rg),l.Pairwise (fun a b=>a.1≤b.1)→MJ l→ ∀out,RgOk out→(∀q,out.getLast?=some q→ ∀r∈l,q.1≤r.1)→RgOk (l.foldl dH out)∧ ∀n,bS (l.foldl dH out) n=(bS out n||bS l n)|[],_,_,out,ho,_=>⟨ho,fun n=>by simp[bS]⟩|r::l,hp,he,out,ho,hq=>by obtain⟨p1,p2⟩:=List.pairwise_cons.1 hp;obtain⟨h1,h2,h3⟩:=Gm ho (he r (by simp)) (fun q hq'=>hq q hq' r (by simp));obtain⟨k1,k2⟩:=za l p2 (fun q hq'=>he q (by simp[hq'])) (dH out r) h1 (fun q hq' a ha=>by have:=h3 q hq';have:=p1 a ha;omega);refine⟨k1,fun n=>?_⟩;rw[List.foldl_cons,k2,h2,show r::l=[r]++l from rfl,gF,Bool.or_assoc]
theorem Ee(out:Rg)(r:Int×Int):(dH out r).length≤out.length+1:=by
 rcases List.eq_nil_or_concat out with rfl|⟨i,l,rfl⟩;·simp[pF]
 ·rw[List.concat_eq_append,mY];split<;>simp
theorem Ef(l:Rg): ∀out:Rg,(l.foldl dH out).length≤out.length+l.length:=by induction l with|nil=>intro out;simp|cons r l ih=>intro out;have:=ih (dH out r);have:=Ee out r;simp only[List.foldl_cons,List.length_cons];omega
theorem AX(l:Rg)(r:Int×Int):(l++[r]).foldl dH []=dH (l.foldl dH []) r:=by rw[List.foldl_append];rfl
theorem zm{a b:Rg}(ha:RgOk a)(hb:RgOk b)(h: ∀n,bS a n=bS b n):a=b:=by have:nums a=nums b:=Du (Ct ha) (Ct hb) (fun n=>by rw[yG ha,yG hb,h]);rw[←FT ha,←FT hb,this]
theorem DL{α:Type}{a b:Row α}(ha:bM a)(hb:bM b)(h: ∀p,p∈a↔p∈b):a=b:=by
 have key: ∀m:Row α,bM m→m.Nodup:=fun m hm=>hm.imp fun{x y}hxy e=>by rw[e,aV]at hxy;cases hxy
 refine List.Perm.eq_of_pairwise (le:=fun(x y:List UInt8×α)=>bytesBefore x.1 y.1=true) (fun x y _ _ h1 h2=>?_) ha hb ((List.perm_ext_iff_of_nodup (key a ha) (key b hb)).2 h);have:=iI h1 h2;rw[aV]at this;cases this
theorem Jn{rs:Rg}(h:RgOk rs)(hne:rs≠[]): ∃n,bS rs n=true:=by cases rs with|nil=>exact absurd rfl hne|cons r rs=>have:=h.each r (by simp);exact⟨r.1,by unfold bS;simp;left;omega⟩
theorem Bn{a b:dV}(ha:bV a)(hb:bV b)(h: ∀s n,hadB a s n=hadB b s n):a=b:=by
 have half: ∀{a b:dV},bV a→bV b→(∀s n,hadB a s n=hadB b s n)→ ∀p∈a,p∈b:=fun{a b}ha hb h p hp=>by
  have hr:aC a p.1=p.2:=by unfold aC;rw[dY ha.up (v:=p.2) hp];rfl
  have hE:aC a p.1=aC b p.1:=zm (ha.row _) (hb.row _) (fun n=>h p.1 n);have hne:=(ha.each p hp).2.2;rw[hr]at hE;unfold aC at hE;cases hg:aA b p.1 with|none=>rw[hg]at hE;exact absurd hE hne|some rs=>rw[hg]at hE;have:=ah hg;rw[show p=(p.1,rs)by rw[←show p.2=rs from hE]];exact this
 exact DL ha.up hb.up fun p=>⟨half ha hb h p,half hb ha (fun s n=>(h s n).symm) p⟩
def fu(w:World)(base:Nat)(v:Value)(rs:Rg):Prop:=w.ownsRow base 153 2 v rs.length (rgCells rs)
def zV(w:World)(e:Ending)(w':World):Prop:= ∃cp,e=.returned (.slice (some ⟨w.heap.size,0,none⟩) 0 cp)∧fu w' w.heap.size (.slice (some ⟨w.heap.size,0,none⟩) 0 cp) []∧Below w.heap.size w w'
theorem Gz(w:World)(n:Nat)(h0:0<n)(hn:n≤1000000):Calls Tryz.prog 240 #[.slice none 0 0,.int .i64 n] w (zV w):=by
 obtain⟨i0,hi0,hz0,hzs,hzb⟩:=info_parts jO;have hrz: ∃G row w1,(∀ty,(Builtin.append_ #[151,3] ty #[.slice none 0 0,.int .i64 (n:Int)]).run Tryz.prog w=.ok (.slice (some ⟨w.heap.size,0,none⟩) n G) w1)∧w1.heap[w.heap.size]?=some (.cells row 153 (0,0))∧Below w.heap.size w w1∧n≤G∧G≤maxLen∧row.size=G*2:=by have h:=fun ty=>Lib.run_append_nil_zeros w 151 3 ty 153 i0 _ .i64 .i64 Tryz.underlying151 Tryz.underlying3 hi0 hz0 n h0 (by omega) (by omega) (by rw[hzb];omega);refine⟨_,_,_,h,heap_alloc_new w.drew _,(Below.refl _ _).drew.alloc (Nat.le_refl _) _,grownCap_ge w _ _ _,grownCap_le_maxLen w _ _ _ (by unfold maxLen;omega),?_⟩;have hge:=grownCap_ge w n 0 153;simp only[Array.size_append,size_zeroCells];simp only[Value.cells,List.size_toArray,List.length_cons,List.length_nil];omega
 obtain⟨G,row,w1,hr,hrow,hb1,hG1,hG2,hrs⟩:=hrz;have HR:=qH hr;have HO:=qS (fu w1 w.heap.size (.slice (some ⟨w.heap.size,0,none⟩) 0 G) []) (⟨rfl,.inr ⟨w.heap.size,G,row,rfl,Nat.le_refl _,hrow,Nat.zero_le _,hG2,hrs,by simp[rgCells]⟩⟩);unfold maxLen at hG2;clear hr hrow hrs hi0 hz0 hzs hzb;have t1: ¬(n:Int)<0:=by omega
 have t2:(0:Int)<n:=by omega
 go_enter Tryz.func240,Tryz.ntmps240;go_wp2_with(at_builtin;refine Lib.wpList_append_run _ rfl (.tmp 20) (.tmp 21) _ _ rfl _ _ rfl rfl _ _ (HR.o _) ?_);go_wp2;go_ret;exact⟨G,rfl,HO.o,hb1⟩
def NB(w:World)(rs:Rg)(e:Ending)(w':World):Prop:= ∃g cp,e=.returned (.slice (some ⟨g,0,none⟩) rs.length cp)∧fu w' w.heap.size (.slice (some ⟨g,0,none⟩) rs.length cp) rs∧Below w.heap.size w w'
structure LP(w:World)(b:Nat)(A1 A2:Option Addr)(c1 c2:Nat)(l1 l2:Rg):Prop where
 x0:w.cell? ⟨b,0,none⟩=some (.slice A1 l1.length c1)
 x1:w.cell? ⟨b,1,none⟩=some (.slice A2 l2.length c2)
def Dr(w:World)(l1 l2:Rg)(v i:Value)(wr:World):Prop:= ∃(k:Nat)(out:Rg),i=.int .i64 k∧((k=0∧out=[])∨(k=1∧out=l1)∨(k=2∧out=l1++l2))∧fu wr w.heap.size v out∧Below w.heap.size w wr
theorem BB(w:World)(b:Nat)(A1 A2:Option Addr)(c1 c2:Nat)(l1 l2:Rg)(hx:LP w b A1 A2 c1 c2 l1 l2)(h1:aI w w.heap.size 2 A1 l1.length c1 (rgCells l1))(h2:aI w w.heap.size 2 A2 l2.length c2 (rgCells l2))(hp:0<l2.length)(hl1:l1.length≤200000)(hl2:l2.length≤200000):Calls Tryz.prog 197 #[.slice (some ⟨b,0,none⟩) 2 2] w (NB w (l1++l2)):=by
 have H1:=qH h1;have H2:=qH h2;have hbw:b<w.heap.size:=World.block_lt_of_cell? w ⟨b,0,none⟩ hx.x0;have HX:=qH hx;obtain⟨i0,hi,hz0,hz1,hz2⟩:=info_parts jO;have HI:=qH hi;have HZ0:=qH hz0;have HZ1:=qH hz1;have HZ2:=qH hz2;clear hi hz0 hz1 hz2 h1 h2;obtain⟨x0,x1⟩:=hx;go_enter Tryz.func197,Tryz.ntmps197;go_wp2;go_loop[3,11](fun s i=>(s=.int .i64 0∧i=.int .i64 ((0:Nat):Int))∨(s=.int .i64 (l1.length:Int)∧i=.int .i64 ((1:Nat):Int))∨(s=.int .i64 ((l1.length:Int)+l2.length)∧i=.int .i64 ((2:Nat):Int)))(fun _ i=>2-(intOf i).toNat);case atStart=>exact .inl ⟨rfl,rfl⟩
 case round=>
  rcases hrel with⟨rfl,rfl⟩|⟨rfl,rfl⟩|⟨rfl,rfl⟩
  ·go_wp2;go_round;case rel=>exact .inr (.inl ⟨by first|rfl|(congr 1;omega),rfl⟩)
   case measure=>simp[intOf]
  ·go_wp2;go_round;case rel=>exact .inr (.inr ⟨rfl,rfl⟩)
   case measure=>simp[intOf]
  ·have HG:=qS (Calls Tryz.prog 240 #[.slice none 0 0,.int .i64 ((l1.length:Int)+l2.length)] w (zV w)) (by have:=Gz w (l1.length+l2.length) (by omega) (by omega);rw[Int.natCast_add]at this;exact this);go_wp2_with fail;refine HG.o.mono ?_;rintro r w1⟨cp,rfl,ho,hb1⟩;have HO:=qH ho;have HB1:=qH hb1;have hs1:=hb1.size;clear ho hb1 x0 x1;have HST:=qS (Dr w l1 l2 (.slice (some ⟨w.heap.size,0,none⟩) 0 cp) (.int .i64 ((0:Nat):Int)) w1) (⟨0,[],rfl,.inl ⟨rfl,rfl⟩,HO.o,HB1.o⟩);clear HO HB1 hs1;go_wp2;go_loopw[6,27](fun v i wr=>Dr w l1 l2 v i wr)(fun _ i _=>2-(intOf i).toNat);case atStart=>exact HST.o
   case round=>
    obtain⟨k,out,rfl,hcase,how,hbel⟩:=hrel;have HOW:=qH how;clear how;rcases hcase with⟨rfl,hout⟩|⟨rfl,hout⟩|⟨rfl,hout⟩<;>rw[hout]at HOW<;>clear hout out
    ·have qX:=hbel.size;have KF:=qS (aI wr w.heap.size 2 A1 l1.length c1 (rgCells l1)) (aI.below H1.o hbel);have x0:wr.cell? ⟨b,0,none⟩=some (.slice A1 l1.length c1):=(hbel.cell (p:=⟨b,0,none⟩) hbw).trans HX.o.x0;have PM:=qS (wr.ownsRow w.heap.size 153 2 u6 0 []) (HOW.o);go_wp2_with(at_builtin;refine aJ (P:=Tryz.prog) rfl (.tmp 31) (.tmp 32) 151 rfl 153 i0 _ 2 16 Tryz.underlying151 HI.o HZ0.o HZ1.o HZ2.o rfl (by decide) w.heap.size _ 0 [] rfl ?c1 w.heap.size _ _ _ (rgCells l1) rfl ?c2 ?c3 ?c4 ?c5 ?c6 ?_);case c1=>exact PM.o
     case c2=>exact KF.o
     case c3=>exact bO _
     case c4=>unfold maxLen;omega
     case c5=>omega
     case c6=>omega
     intro v' w2 hown2 hg2 _;have HR:=qS (Dr w l1 l2 v' (.int .i64 ((0+1:Nat):Int)) w2) (⟨0+1,l1,rfl,by simp,by unfold fu;first|exact hown2|(have h9:=hown2;rw[Nat.zero_add,List.nil_append]at h9;exact h9),Below.grown hbel hg2 qX (fun k' hk'=>(World.ownsRow.lt PM.o k' hk').1)⟩);clear hown2 hg2 x0;go_wp2;go_roundw;case rel=>exact HR.o
     case measure=>simp[intOf]
    ·have qX:=hbel.size;have KF:=qS (aI wr w.heap.size 2 A2 l2.length c2 (rgCells l2)) (aI.below H2.o hbel);have x1:wr.cell? ⟨b,1,none⟩=some (.slice A2 l2.length c2):=(hbel.cell (p:=⟨b,1,none⟩) hbw).trans HX.o.x1;have PM:=qS (wr.ownsRow w.heap.size 153 2 u6 l1.length (rgCells l1)) (HOW.o);go_wp2_with(at_builtin;refine aJ (P:=Tryz.prog) rfl (.tmp 31) (.tmp 32) 151 rfl 153 i0 _ 2 16 Tryz.underlying151 HI.o HZ0.o HZ1.o HZ2.o rfl (by decide) w.heap.size _ l1.length (rgCells l1) rfl ?c1 w.heap.size _ _ _ (rgCells l2) rfl ?c2 ?c3 ?c4 ?c5 ?c6 ?_);case c1=>exact PM.o
     case c2=>exact KF.o
     case c3=>exact bO _
     case c4=>unfold maxLen;omega
     case c5=>omega
     case c6=>omega
     intro v' w2 hown2 hg2 _;have HR:=qS (Dr w l1 l2 v' (.int .i64 ((1+1:Nat):Int)) w2) (⟨1+1,l1++l2,rfl,by simp,by unfold fu;rw[aK,List.length_append];exact hown2,Below.grown hbel hg2 qX (fun k' hk'=>(World.ownsRow.lt PM.o k' hk').1)⟩);clear hown2 hg2 x1;go_wp2;go_roundw;case rel=>exact HR.o
     case measure=>simp[intOf]
    ·obtain⟨g,cp2,hv,_,_⟩:=World.ownsRow.form HOW.o (by simp;omega);subst hv;go_wp2;go_ret;exact⟨g,cp2,rfl,HOW.o,hbel⟩
end Go.Proofs.YtladegonienapaaGreatDoor
namespace Go.Proofs
open Go.Shelf
def Tryz.DD:Go.Shelf.Ren:=⟨fun|6=>198|15=>125|14=>241|28=>185|29=>186|20=>260|21=>261|22=>262|23=>263|24=>264|25=>265|26=>266|27=>267|46=>278|47=>224|48=>225|49=>279|50=>280|57=>283|n=>n,fun|22=>151|24=>153|25=>263|3=>3|39=>163|0=>0|53=>252|55=>254|4=>4|46=>245|45=>244|50=>200|5=>5|9=>9|66=>275|70=>279|76=>297|77=>143|n=>n,fun|n=>n⟩
theorem Tryz.N9:Go.Proofs.SlLaysF0.n6 Tryz.prog Tryz.DD:={mixed:=by kernel_rfl,f6:=⟨Tryz.f198.name,by decide,Tryz.func198.trans (congrArg some (by kernel_rfl))⟩,f14:=⟨Tryz.f241.name,by decide,Tryz.func241.trans (congrArg some (by kernel_rfl))⟩,f15:=Tryz.func125.trans (congrArg some (by kernel_rfl)),f20:=⟨Tryz.f260.name,by decide,Tryz.func260.trans (congrArg some (by kernel_rfl))⟩,f21:=⟨Tryz.f261.name,by decide,Tryz.func261.trans (congrArg some (by kernel_rfl))⟩,f22:=⟨Tryz.f262.name,by decide,Tryz.func262.trans (congrArg some (by kernel_rfl))⟩,f23:=⟨Tryz.f263.name,by decide,Tryz.func263.trans (congrArg some (by kernel_rfl))⟩,f24:=⟨Tryz.f264.name,by decide,Tryz.func264.trans (congrArg some (by kernel_rfl))⟩,f25:=⟨Tryz.f265.name,by decide,Tryz.func265.trans (congrArg some (by kernel_rfl))⟩,f26:=⟨Tryz.f266.name,by decide,Tryz.func266.trans (congrArg some (by kernel_rfl))⟩,f27:=⟨Tryz.f267.name,by decide,Tryz.func267.trans (congrArg some (by kernel_rfl))⟩,f28:=Tryz.func185.trans (congrArg some (by kernel_rfl)),f29:=Tryz.func186.trans (congrArg some (by kernel_rfl)),f46:=⟨Tryz.f278.name,by decide,Tryz.func278.trans (congrArg some (by kernel_rfl))⟩,f47:=Tryz.func224.trans (congrArg some (by kernel_rfl)),f48:=Tryz.func225.trans (congrArg some (by kernel_rfl)),f49:=⟨Tryz.f279.name,by decide,Tryz.func279.trans (congrArg some (by kernel_rfl))⟩,f50:=⟨Tryz.f280.name,by decide,Tryz.func280.trans (congrArg some (by kernel_rfl))⟩,f57:=⟨Tryz.f283.name,by decide,Tryz.func283.trans (congrArg some (by kernel_rfl))⟩,t0:=Tryz.underlying0,a0:=Tryz.isAgg0,z0:=Tryz.sizeOf0,v0:=Tryz.zeroValue0,t3:=Tryz.underlying3,a3:=Tryz.isAgg3,z3:=Tryz.sizeOf3,v3:=Tryz.zeroValue3,t4:=Tryz.underlying4,a4:=Tryz.isAgg4,z4:=Tryz.sizeOf4,v4:=Tryz.zeroValue4,t5:=Tryz.underlying5,a5:=Tryz.isAgg5,z5:=Tryz.sizeOf5,v5:=Tryz.zeroValue5,t9:=Tryz.underlying9,a9:=Tryz.isAgg9,z9:=Tryz.sizeOf9,v9:=Tryz.zeroValue9,t22:=Tryz.underlying151,a22:=Tryz.isAgg151,z22:=Tryz.sizeOf151,v22:=Tryz.zeroValue151,t25:=Tryz.underlying263,a25:=Tryz.isAgg263,z25:=Tryz.sizeOf263,v25:=Tryz.zeroValue263,t39:=Tryz.underlying163,a39:=Tryz.isAgg163,z39:=Tryz.sizeOf163,v39:=Tryz.zeroValue163,t45:=Tryz.underlying244,a45:=Tryz.isAgg244,z45:=Tryz.sizeOf244,v45:=Tryz.zeroValue244,t46:=Tryz.underlying245,a46:=Tryz.isAgg245,z46:=Tryz.sizeOf245,v46:=Tryz.zeroValue245,t50:=Tryz.underlying200,a50:=Tryz.isAgg200,z50:=Tryz.sizeOf200,v50:=Tryz.zeroValue200,t53:=Tryz.underlying252,a53:=Tryz.isAgg252,z53:=Tryz.sizeOf252,v53:=Tryz.zeroValue252,t55:=Tryz.underlying254,a55:=Tryz.isAgg254,z55:=Tryz.sizeOf254,v55:=Tryz.zeroValue254,t66:=Tryz.underlying275,a66:=Tryz.isAgg275,z66:=Tryz.sizeOf275,v66:=Tryz.zeroValue275,t70:=Tryz.underlying279,a70:=Tryz.isAgg279,z70:=Tryz.sizeOf279,v70:=Tryz.zeroValue279,t76:=Tryz.underlying297,a76:=Tryz.isAgg297,z76:=Tryz.sizeOf297,v76:=Tryz.zeroValue297,t77:=Tryz.underlying143,a77:=Tryz.isAgg143,z77:=Tryz.sizeOf143,v77:=Tryz.zeroValue143}
end Go.Proofs
namespace Go.Proofs.YtladegonienapaaGreatDoor
open Go.RowKit Go.Maps Go.Sort Go.Shelf
abbrev RS:={r:Int×Int//0≤r.1∧r.1≤4398046511104}
instance:Inhabited RS:=⟨⟨(0,0),by decide⟩⟩
def oD(r:RS):List Value:=[.int .i64 r.1.1,.int .i64 r.1.2]
def zD(x y:RS):Int:=x.1.1-y.1.1
theorem N8 : SWO (ltOf zD) where
  irrefl x := by unfold ltOf zD; simp
  trans x y z h1 h2 := by unfold ltOf zD at *; simp at *; omega
  ntrans x y z h1 h2 := by unfold ltOf zD at *; simp at *; omega
theorem Fz(x y:RS)(W:World):Calls Tryz.prog 199 #[.agg #[.int .i64 x.1.1,.int .i64 x.1.2],.agg #[.int .i64 y.1.1,.int .i64 y.1.2]] W fun e w'=>e=.returned (.int .i64 (zD x y))∧ ∃q os',w'=grow (W.drewN q) os':=by have hx:=x.2;have hy:=y.2;have HC:=qS (zD x y=x.1.1-y.1.1) (rfl);generalize x.1=xv at*;generalize y.1=yv at*;obtain⟨xa,xb⟩:=xv;obtain⟨ya,yb⟩:=yv;simp only at*;go_enter Tryz.func199,Tryz.ntmps199;go_wp2;go_ret;exact⟨dB HC.o.symm,0,_,by rw[alloc_eq_grow,alloc_eq_grow,grow_grow];rfl⟩
theorem GD (d : Array RS) : (flatK oD 2 d).toList = rgCells (d.toList.map (·.1)) := by
  apply List.ext_getElem?
  intro t
  by_cases ht : t < d.size * 2
  · have h1 : (flatK oD 2 d).toList[t]? = some ((oD d[t / 2]!)[t % 2]!) := by
      rw [Array.getElem?_toList, Array.getElem?_eq_getElem (by simpa using ht), ← getElem!_pos (flatK oD 2 d) t (by simpa using ht), get_flatK _ _ _ _ ht]
    have hk : t / 2 < (d.toList.map (·.1)).length := by simp; omega
    have h2 := iX (d.toList.map (·.1)) (t / 2) hk
    have hd : d[t / 2]! = d[t / 2]'(by omega) := getElem!_pos d (t / 2) (by omega)
    have hg : (d.toList.map (·.1))[t / 2]'hk = (d[t / 2]'(by omega)).1 := by simp
    rw [hg] at h2
    rw [h1, hd]
    have hm : t % 2 = 0 ∨ t % 2 = 1 := by omega
    rcases hm with hm | hm
    · have h3 := h2.1
      rw [show t / 2 * 2 = t by omega] at h3
      rw [hm]; exact h3.symm
    · have h3 := h2.2
      rw [show t / 2 * 2 + 1 = t by omega] at h3
      rw [hm]; exact h3.symm
  · rw [List.getElem?_eq_none (by simp; omega), List.getElem?_eq_none (by rw [kJ]; simp; omega)]
theorem wR{w:World}{g n:Nat}{os:Array Obj}{cur:Array Value}{e:TypeId}{fr:Nat×Nat}(F:Array Value)(hb:w.heap[g]?=some (.cells cur e fr)):(grow (putRow id (Sort.ahead w n) g 0 F) os).heap[g]?=some (.cells (putCells id 0 F cur) e fr):=by have hg:g<w.heap.size:=(Array.getElem?_eq_some_iff.1 hb).1;rw[heap_grow_old _ _ (by simpa using hg)];simp[putRow,mapBlock,Sort.ahead,Array.getElem?_modify,hb,onCells]
theorem qP{w:World}{g n:Nat}{os:Array Obj}(F:Array Value):w.grownBy (grow (putRow id (Sort.ahead w n) g 0 F) os) (some g):=by refine⟨rfl,rfl,rfl,by simp,fun k hk hne=>?_⟩;rw[heap_grow_old _ _ (by simpa using hk)];have:g≠k:=fun e=>hne (by rw[e]);simp[putRow,mapBlock,Sort.ahead,Array.getElem?_modify,this]
theorem rD(cur F:Array Value)(h:F.size≤cur.size):(putCells id 0 F cur).toList.take F.size=F.toList:=by
 apply List.ext_getElem?;intro j;by_cases hj:j<F.size;·rw[List.getElem?_take_of_lt hj,Array.getElem?_toList];simp[putCells,hj,show j<cur.size by omega]
 ·rw[List.getElem?_take_eq_none (by omega),List.getElem?_eq_none (by simp;omega)]
def Ka(w:World)(base g cap:Nat)(rs:Rg)(e:Ending)(w':World):Prop:=e=.returned (.tuple #[])∧ ∃rs':Rg,rs'.Perm rs∧rs'.Pairwise (fun a b=>a.1≤b.1)∧fu w' base (.slice (some ⟨g,0,none⟩) rs.length cap) rs'∧w.grownBy w' (some g)
theorem Dt(w:World)(base g cap:Nat)(rs:Rg)(hrs: ∀r∈rs,0≤r.1∧r.1≤4398046511104)(ho:fu w base (.slice (some ⟨g,0,none⟩) rs.length cap) rs)(hl:rs.length≤400000):Calls Tryz.prog 198 #[.slice (some ⟨g,0,none⟩) rs.length cap,.func (.func 199) #[] #[]] w (Ka w base g cap rs):=by
 obtain⟨d,hd⟩: ∃d:Array RS,d.toList.map (·.1)=rs:=⟨(rs.pmap (fun r h=>(⟨r,h⟩:RS)) hrs).toArray,by simp[List.map_pmap]⟩;have hds:d.size=rs.length:=by rw[←hd];simp
 have how:=ho;obtain⟨hl0,hrow⟩:=ho;rcases hrow with⟨hv,_⟩|⟨g',cap',cur,hv,hb,hg,hn,hc,hcs,htk⟩;·cases hv
 obtain⟨rfl,rfl⟩:g=g'∧cap=cap':=by injection hv with h1 _ h3;injection h1 with h1;injection h1 with h1;exact⟨h1,h3⟩
 have hlt:g<w.heap.size:=(Array.getElem?_eq_some_iff.1 hg).1;have hH:HoldsK oD 2 w g 0 d:=fun j hj=>by
  have hj2:j<rs.length*2:=by rw[←hds];simpa using hj
  rw[Nat.zero_add];refine⟨?_,frozen_of_row w g j _ _ hg⟩;have h1:=World.ownsRow.cellAt how j hj2;rw[h1,←hd,←GD];rw[Array.getElem?_toList,Array.getElem?_eq_getElem hj];simp only[id];rw[getElem!_pos (flatK oD 2 d) j hj]
 have eg: ∀args w,(callFunc 199 args).run Tryz.prog w=.ok (.enter 199 args) w:=enters_of Tryz.func199 (by kernel_rfl) rfl;have hcon:=AnyQ.slices_SortFunc Tryz.N9 2 (fun w=>by kernel_rfl) (fun w=>by kernel_rfl) oD (fun _=>rfl) (fun x v hv=>by simp[oD]at hv;rcases hv with rfl|rfl<;>rfl) zD N8 199 #[] g 0 cap d w eg (fun _ _ _ _ x y=>Fz x y _) hH hlt (by omega);rw[hds]at hcon;refine(show Calls Tryz.prog 198 #[.slice (some ⟨g,0,none⟩) rs.length cap,.func (.func 199) #[] #[]] w _ from hcon).mono ?_;rintro e w'⟨rfl,d',n,os,hp,hs,rfl⟩;have hds':d'.size=d.size:=hp.1;have hperm:d'.toList.Perm d.toList:=by
  have h3:=hp.2.2;rw[←hds]at h3;have e1:d'.extract 0 d.size=d':=by rw[←hds'];simp
  have e2:d.extract 0 d.size=d:=by simp
  rw[e1,e2]at h3;exact h3
 refine⟨rfl,d'.toList.map (·.1),by rw[←hd];exact hperm.map _,?_,?_,qP _⟩
 ·rw[List.pairwise_map,List.pairwise_iff_getElem];intro i j hi hj hij;have hi':i<d'.size:=by simpa using hi
  have hj':j<d'.size:=by simpa using hj
  have h4:=hs i j (Nat.zero_le _) hij (by omega);rw[getElem!_pos d' j hj',getElem!_pos d' i hi']at h4;unfold ltOf zD at h4;simp at h4;simp only[Array.getElem_toList];omega
 ·have hF:(flatK oD 2 d').size=rs.length*2:=by rw[size_flatK,hds',hds]
  have hl':(d'.toList.map (·.1)).length=rs.length:=by simp;omega
  unfold fu;rw[hl',←GD];refine⟨by simp;omega,.inr ⟨g,cap,_,rfl,hb,wR _ hg,hn,hc,by simp[putCells,hcs],?_⟩⟩;rw[←hF];exact rD cur _ (by rw[hF,hcs];exact Nat.mul_le_mul_right _ hn)
end Go.Proofs.YtladegonienapaaGreatDoor
