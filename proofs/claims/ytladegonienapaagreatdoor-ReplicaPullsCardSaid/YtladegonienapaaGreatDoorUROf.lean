/-
  Layer 33: the document's row of entries, of which a person's are gone; its Read; the closure that keeps the others.
-/
import Derived.Test.YtladegonienapaaGreatDoorURpPull
import Derived.Test.YtladegonienapaaGreatDoorUJlRwB2
set_option maxRecDepth 100000
set_option maxHeartbeats 16000000
namespace Go.Proofs.YtladegonienapaaGreatDoor
open Go.RowKit Go.Maps Go.Sort
theorem JQ:(Tryz.prog.info? 109).map (fun i=>(i.zero,i.size,i.bytes))=some (some (.agg #[.string ByteArray.empty,.int .i64 0,.int .i64 0,.int .i64 0,.string ByteArray.empty,.string ByteArray.empty,.int .i64 0,.string ByteArray.empty,.bool false]),9,104):=by kernel_rfl
def ko(w:World)(base:Nat)(v:Value)(es:List (Option Ev)):Prop:=w.ownsRow base 109 9 v es.length (av es)
def GQ(w:World)(ds:List Ev)(v i:Value)(wr:World):Prop:= ∃k:Nat,i=.int .i64 k∧k≤ds.length∧ko wr w.heap.size v ((ds.map some).take k)∧RowKit.Below w.heap.size w wr
def Bw(w:World)(es:List (Option Ev))(e:Ending)(w':World):Prop:= ∃v,e=.returned v∧ko w' w.heap.size v es∧RowKit.Below w.heap.size w w'
theorem PM(w:World)(A:Option Addr)(n c:Nat)(ds:List Ev)(h:gH w w.heap.size A n c ds)(hn:n≤100000):Calls Tryz.prog 59 #[.slice A n c] w (Bw w (ds.map some)):=by
 have HH:=qH h;have HL:=qH h.len;clear h;have HST:=qS (GQ w ds (.slice (some ⟨w.heap.size,0,none⟩) 0 0) (.int .i64 ((0:Nat):Int)) (w.alloc (.cells #[] 109))) (⟨0,rfl,Nat.zero_le _,World.ownsRow_lit w #[] 0 (Nat.le_refl _) (by simp[maxLen]) rfl,(Below.refl _ _).alloc (Nat.le_refl _) _⟩);obtain⟨i0,hi,hz0,hz1,hz2⟩:=info_parts JQ;have HI:=qH hi;have HZ0:=qH hz0;have HZ1:=qH hz1;have HZ2:=qH hz2;clear hi hz0 hz1 hz2;go_enter Tryz.func59,Tryz.ntmps59;go_wp2;go_loopw[3,4](fun v i wr=>GQ w ds v i wr)(fun _ i _=>n-(intOf i).toNat);case atStart=>exact HST.o
 case round=>
  obtain⟨k,rfl,hk,hov,hbel⟩:=hrel;have HV:=qH hov;have sG:=qH hbel;clear hov;have Vb:k≤n:=by rw[←HL.o];exact hk
  by_cases hkn:k<n
  ·have hkl:k<ds.length:=by rw[HL.o];exact hkn
   obtain⟨b,off,rfl,hb,hd⟩:=HH.o.ev k hkl;obtain⟨e0,e1,e2,e3,e4,e5,e6,e7⟩:=hd.below hbel hb;have df:=qS ((ds.map some).take (k+1)=(ds.map some).take k++[some ds[k]]) (by rw[List.take_add_one,List.getElem?_map,List.getElem?_eq_getElem hkl];rfl);have hlk:((ds.map some).take k).length=k:=by rw[List.length_take,List.length_map];omega
   have hsz:=hbel.size;generalize ds[k]=e at*;have t1:(k:Int)<n:=by omega
   clear hd hb hbel hkn;go_wp2_with(at_builtin;refine aj (P:=Tryz.prog) rfl (.tmp 12) (.tmp 18) 60 rfl 109 i0 _ 9 104 Tryz.underlying60 HI.o HZ0.o HZ1.o HZ2.o rfl (by decide) w.heap.size _ ((ds.map some).take k).length (av ((ds.map some).take k)) rfl ?c1 (wr.heap.size+1) _ _ _ (jZ (some e)) rfl ?c2 (rR _) ?c4 ?c5 ?c6 ?_);case c1=>exact World.ownsRow.alloc HV.o _
   case c2=>exact ax.new (size:=9) (n:=1) wr #[.string ⟨e.src.toArray⟩,.int .i64 e.num,.int .i64 e.at_,.int .i64 e.kind,.string ⟨e.per.toArray⟩,.string ⟨e.item.toArray⟩,.int .i64 e.val,.string ⟨e.text.toArray⟩,.bool false] 109 (by unfold maxLen;omega) rfl
   case c4=>unfold maxLen;omega
   case c5=>omega
   case c6=>first|omega|(simp;omega)
   intro v' w2 hown2 hg2 _;have lX:=qS (GQ w ds v' (.int .i64 ((k:Int)+1)) w2) (⟨k+1,rfl,by omega,by rw[df.o];unfold ko;rw[rQ,List.length_append,hlk];exact hown2,Below.grown (sG.o.alloc sG.o.size _) hg2 (by first|omega|(simp;omega)) (fun k' hk'=>(World.ownsRow.lt HV.o k' hk').1)⟩);clear hown2 hg2 e0 e1 e2 e3 e4 e5 e6 e7;go_wp2;go_roundw;case rel=>exact lX.o
   case measure=>simp[intOf];omega
  ·have t1: ¬(k:Int)<n:=by omega
   have HZ:=qS (Bw w (ds.map some) (.returned u3) wr) (⟨_,rfl,by rw[show ds.map some=(ds.map some).take k by rw[List.take_of_length_le (by rw[List.length_map,HL.o];omega)]];exact HV.o,sG.o⟩);go_wp2;go_ret;exact HZ.o
theorem ko.gP{w:World}{base g n cap:Nat}{l:List (Option Ev)}(h:ko w base (.slice (some ⟨g,0,none⟩) n cap) l)(i:Nat)(hi:i<l.length):ko (gP w g (i*9)) base (.slice (some ⟨g,0,none⟩) n cap) (l.set i none)∧w.grownBy (Go.Proofs.YtladegonienapaaGreatDoor.gP w g (i*9)) (some g):=by
 unfold ko at h⊢;rw[rP l i hi,List.length_set];have hn:l.length=n:=by
  rcases h.2 with⟨e,_⟩|⟨g',cap',cur,e,_⟩;·cases e
  ·injection e with _ e2 _;exact e2.symm
 rw[hn]at h⊢;obtain⟨h0,g0⟩:=World.ownsRow.stored h (i*9) (.string ⟨#[]⟩);obtain⟨h1,g1⟩:=World.ownsRow.stored h0 (i*9+1) (.int .i64 0);obtain⟨h2,g2⟩:=World.ownsRow.stored h1 (i*9+2) (.int .i64 0);obtain⟨h3,g3⟩:=World.ownsRow.stored h2 (i*9+3) (.int .i64 0);obtain⟨h4,g4⟩:=World.ownsRow.stored h3 (i*9+4) (.string ⟨#[]⟩);obtain⟨h5,g5⟩:=World.ownsRow.stored h4 (i*9+5) (.string ⟨#[]⟩);obtain⟨h6,g6⟩:=World.ownsRow.stored h5 (i*9+6) (.int .i64 0);obtain⟨h7,g7⟩:=World.ownsRow.stored h6 (i*9+7) (.string ⟨#[]⟩);obtain⟨h8,g8⟩:=World.ownsRow.stored h7 (i*9+8) (.bool true);exact⟨h8,(((((((g0.trans g1).trans g2).trans g3).trans g4).trans g5).trans g6).trans g7).trans g8⟩
theorem ko.there{w:World}{base g n cap:Nat}{l:List (Option Ev)}(h:ko w base (.slice (some ⟨g,0,none⟩) n cap) l)(i:Nat)(hi:i<l.length):w.there g (i*9) 9:=fun j hj=>by
 have hn:l.length=n:=by
  rcases h.2 with⟨e,_⟩|⟨g',cap',cur,e,_⟩;·cases e
  ·injection e with _ e2 _;exact e2.symm
 unfold ko at h;rw[hn]at h;have hc:=World.ownsRow.cellAt h (i*9+j) (by omega);exact⟨by rw[hc,List.getElem?_eq_getElem (by rw[bB];omega)];rfl,World.ownsRow.frozenAt h _⟩
theorem ko.head{w:World}{base n c:Nat}{A:Option Addr}{l:List (Option Ev)}(h:ko w base (.slice A n c) l)(hn:0<l.length): ∃g,A=some ⟨g,0,none⟩∧base≤g∧g<w.heap.size:=by
 rcases h.2 with⟨_,h0⟩|⟨g,cap,cur,e,hb,hg,_⟩;·omega
 ·injection e with e1 _ _;exact⟨g,e1,hb,(Array.getElem?_eq_some_iff.1 hg).1⟩
def yK(kb:Ev→Bool)(l:List (Option Ev))(k:Nat):List (Option Ev):=(l.take k).map (iP kb)++l.drop k
theorem xM(kb:Ev→Bool)(l:List (Option Ev))(k:Nat):(yK kb l k).length=l.length:=by unfold yK;rw[List.length_append,List.length_map,List.length_take,List.length_drop];omega
theorem KF{kb:Ev→Bool}{l:List (Option Ev)}{k:Nat}(hk:k<l.length)(h:iP kb l[k]=l[k]):yK kb l (k+1)=yK kb l k:=by unfold yK;rw[List.take_add_one,List.getElem?_eq_getElem hk,Option.toList_some,List.map_append,List.map_singleton,h,List.append_assoc,List.singleton_append,←List.drop_eq_getElem_cons hk]
theorem KG{kb:Ev→Bool}{l:List (Option Ev)}{k:Nat}(hk:k<l.length)(h:iP kb l[k]=none):yK kb l (k+1)=(yK kb l k).set k none:=by
 have hlen:((l.take k).map (iP kb)).length=k:=by rw[List.length_map,List.length_take];omega
 unfold yK;rw[List.set_append_right _ _ (by omega),hlen,Nat.sub_self,List.drop_eq_getElem_cons hk,List.set_cons_zero,List.take_add_one,List.getElem?_eq_getElem hk,Option.toList_some,List.map_append,List.map_singleton,h,List.append_assoc,List.singleton_append]
def Bu(w:World)(kb:Ev→Bool)(l:List (Option Ev))(v i:Value)(wr:World):Prop:= ∃k:Nat,i=.int .i64 k∧k≤l.length∧ko wr w.heap.size v (yK kb l k)∧RowKit.Below w.heap.size w wr
theorem CY(w:World)(A:Option Addr)(n c:Nat)(ds:List Ev)(h:gH w w.heap.size A n c ds)(hn:n≤100000)(p:List UInt8)(os:List (Option Ev))(hos:os=(ds.map some).map (iP (gY p))):Calls Tryz.prog 30 #[.slice A n c,.string ⟨p.toArray⟩] w (Bw w os):=by
 have HH:=qH h;have HOS:=qH hos;clear hos;have HL:=qH h.len;clear h;go_enter Tryz.func30,Tryz.ntmps30;go_wp2_with fail;with_reducible refine(PM w A n c ds HH.o hn).mono ?_
 rintro r w1⟨v,rfl,hv,hb1⟩;obtain⟨B,d,hf⟩:=ownsRow_form hv;rw[List.length_map,HL.o]at hf;subst hf;have BU:=qS (Bu w (gY p) (ds.map some) (.slice B n d) (.int .i64 ((0:Nat):Int)) w1) (⟨0,rfl,Nat.zero_le _,hv,hb1⟩);clear hv hb1;go_wp2;go_loopw[6](fun i wr=>Bu w (gY p) (ds.map some) (.slice B n d) i wr)(fun i _=>n-(intOf i).toNat);case atStart=>exact BU.o
 case round=>
  obtain⟨k,rfl,hk,hov,hbel⟩:=hrel;have HV:=qH hov;have sG:=qH hbel;have hln:(ds.map some).length=n:=by rw[List.length_map,HL.o]
  have Vb:k≤n:=by omega
  clear hov;by_cases hkn:k<n
  ·have hkl:k<ds.length:=by rw[HL.o];exact hkn
   have O7:k<(ds.map some).length:=by omega
   obtain⟨b,off,rfl,hb,hd⟩:=HH.o.ev k hkl;obtain⟨e0,e1,e2,e3,e4,e5,e6,e7⟩:=hd.below hbel hb;obtain⟨g,hg,hgb,hgl⟩:=HV.o.head (by rw[xM];omega);subst hg;have HEK:=qS ((ds.map some)[k]=some ds[k]) (List.getElem_map ..);have UG:=qH (KG (kb:=gY p) O7);have Ha:=qH (KF (kb:=gY p) O7);rw[HEK.o]at UG Ha;have kC:=qS (gY p ds[k]=((ds[k].per !=p)||(ds[k].kind==14))) (rfl);have mF:=ko.there HV.o k (by rw[xM];omega);have Ox:=qH (HV.o.gP k (by rw[xM];omega));have key: ∀o,o<9→(∃u,wr.cell? ⟨g,k*9+o,none⟩=some u)∧wr.frozen? ⟨g,k*9+o,none⟩=false:=fun o ho=>⟨Option.isSome_iff_exists.1 (mF o ho).1,(mF o ho).2⟩;generalize ds[k]=e at*;have lX:=qS (gY p e=true→Bu w (gY p) (ds.map some) (.slice (some ⟨g,0,none⟩) n d) (.int .i64 ((k:Int)+1)) wr) (fun hl=>⟨k+1,rfl,O7,by rw[Ha.o (by simp[iP,hl])];exact HV.o,sG.o⟩);have pJ:=qS (gY p e=false→Bu w (gY p) (ds.map some) (.slice (some ⟨g,0,none⟩) n d) (.int .i64 ((k:Int)+1)) (gP wr g (k*9))) (fun hl=>⟨k+1,rfl,O7,by rw[UG.o (by simp[iP,hl])];exact Ox.o.1,Below.grown sG.o Ox.o.2 sG.o.size (fun q hq=>by injection hq with hq;omega)⟩);have t1:(k:Int)<n:=by omega
   clear hd hb hbel hkn HEK UG Ha;cases hp:e.per==p
   ·have HZ:=qH (lX.o (by rw[kC.o];simp[bne,hp]));clear key mF;go_wp2;go_roundw;case rel=>exact HZ.o
    case measure=>simp[intOf];omega
   ·by_cases hk14:e.kind=14
    ·have HZ:=qH (lX.o (by rw[kC.o];simp[hk14]));clear key mF;rw[hk14]at e3;go_wp2;go_roundw;case rel=>exact HZ.o
     case measure=>simp[intOf];omega
    ·have HZ:=qH (pJ.o (by rw[kC.o];simp[bne,hp,hk14]));obtain⟨⟨u0,g0⟩,z0⟩:=key 0 (by omega);obtain⟨⟨u1,g1⟩,z1⟩:=key 1 (by omega);obtain⟨⟨u2,g2⟩,z2⟩:=key 2 (by omega);obtain⟨⟨u3,g3⟩,z3⟩:=key 3 (by omega);obtain⟨⟨u4,g4⟩,z4⟩:=key 4 (by omega);obtain⟨⟨u5,g5⟩,z5⟩:=key 5 (by omega);obtain⟨⟨u6,g6⟩,z6⟩:=key 6 (by omega);obtain⟨⟨u7,g7⟩,z7⟩:=key 7 (by omega);obtain⟨⟨u8,g8⟩,z8⟩:=key 8 (by omega);rw[Nat.add_zero]at g0 z0;clear key mF;go_wp2;go_roundw;case rel=>exact HZ.o
     case measure=>simp[intOf];omega
  ·have t1: ¬(k:Int)<n:=by omega
   have HZ:=qS (Bw w os (.returned (.slice B n d)) wr) (⟨_,rfl,by have h1:=HV.o;unfold yK at h1;rw[List.take_of_length_le (by omega),List.drop_of_length_le (by omega),List.append_nil]at h1;rw[HOS.o];exact h1,sG.o⟩);go_wp2;go_ret;exact HZ.o
/-!### the closure that keeps the others -/
def NoI(_aq:List Ev)(H:Nat→Prop)(_W:World):Prop:= ∀b,¬H b
theorem FU(p:List UInt8)(W:World)(e:Ev):Calls Tryz.prog 29 #[.agg #[.string ⟨p.toArray⟩],e.agg] W (fun r W'=>r=.returned (.bool (gY p e))∧RowKit.Below W.heap.size W W'):=by
 have hagg:e.agg=.agg #[.string ⟨e.src.toArray⟩,.int .i64 e.num,.int .i64 e.at_,.int .i64 e.kind,.string ⟨e.per.toArray⟩,.string ⟨e.item.toArray⟩,.int .i64 e.val,.string ⟨e.text.toArray⟩]:=rfl;have kC:=qS (gY p e=((e.per !=p)||(e.kind==14))) (rfl);have hk0:RowKit.Below W.heap.size W (W.alloc (.cells #[.string ⟨p.toArray⟩] 59)):=(Below.refl _ _).alloc (Nat.le_refl _) _;have hk1:(W.alloc (.cells #[.string ⟨p.toArray⟩] 59)).cell? ⟨W.heap.size,0,none⟩=some (.string ⟨p.toArray⟩):=(cell_of_row _ W.heap.size 0 _ _ (0,0) (heap_alloc_new W _)).trans rfl;have HR:=qS (∀q,RowKit.Below W.heap.size W (((W.alloc (.cells #[.string ⟨p.toArray⟩] 59)).alloc (au e)).drewN q)) (fun q=>below_drewN (hk0.alloc hk0.size _) q);have hs:(W.alloc (.cells #[.string ⟨p.toArray⟩] 59)).heap.size=W.heap.size+1:=by simp
 go_enter Tryz.func29,Tryz.ntmps29;go_upto_region 1 with fail;generalize W.alloc (.cells #[.string ⟨p.toArray⟩] 59)=W1 at*;obtain⟨f0,f1,f2,f3,f4,f5,f6,f7⟩:=eD.new W1 e;have hb1:RowKit.Below W1.heap.size W1 (W1.alloc (au e)):=(Below.refl _ _).alloc (Nat.le_refl _) _;have c0:(W1.alloc (au e)).cell? ⟨W.heap.size,0,none⟩=some (.string ⟨p.toArray⟩):=(hb1.cell (p:=⟨W.heap.size,0,none⟩) (by show W.heap.size<_;omega)).trans hk1;generalize W1.alloc (au e)=W2 at*;rw[hs]at f0 f1 f2 f3 f4 f5 f6 f7;clear hk0 hk1 hb1 hs;by_cases hp:e.per=p
 ·by_cases hk:e.kind=14;·have HZ:=qS (gY p e=true) (by rw[kC.o,hk];simp);rw[hk]at f3;go_wp2;go_ret;exact⟨by rw[HZ.o];rfl,HR.o 0⟩
  ·have HZ:=qS (gY p e=false) (by rw[kC.o,hp];simp[hk]);go_wp2;go_ret;exact⟨by rw[HZ.o];first|rfl|simp[hk],HR.o 0⟩
 ·have HZ:=qS (gY p e=true) (by rw[kC.o];simp[hp]);go_wp2;go_ret;exact⟨by rw[HZ.o];rfl,HR.o 0⟩
theorem A8 (p : List UInt8) : ve 29 #[.agg #[.string ⟨p.toArray⟩]] #[] (gY p) NoI where
  enter := fun args w => by kernel_rfl
  ask := fun W aq H e _ hi _ => (FU p W e).mono fun r W' ⟨h1, h2⟩ => ⟨h1, H, hi, fun _ hb => .inl hb, ah.of_below h2⟩
  keep := fun _ _ _ _ hi _ _ => hi
  lt := fun _ H _ hi b hb => absurd hb (hi b)
end Go.Proofs.YtladegonienapaaGreatDoor
