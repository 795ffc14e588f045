/-
  Layer 30: the laws' lives: a snapshot of a new intake.
-/
import Derived.Test.YtbejfgmdkmddnaaGreatDoorVSnRd3
import Derived.Test.YtbejfgmdkmddnaaGreatDoorVSnSv
set_option maxRecDepth 100000
set_option maxHeartbeats 16000000
namespace Go.Proofs.YtbejfgmdkmddnaaGreatDoor
open Go.RowKit
theorem JR{n a b n' a' b':Int}{lc lh lc' lh':List UInt8}{ts ls ts' ls':List Ev}{gs gs':List (List UInt8)}(h:KH n a b lc lh ts ls gs)(h':KH n' a' b' lc' lh' ts' ls' gs')(he:AO n a b lc lh ts ls gs=AO n' a' b' lc' lh' ts' ls' gs'):n=n'∧a=a'∧b=b'∧lc=lc'∧lh=lh'∧ts=ts'∧ls=ls'∧gs=gs':=by have h1:=Cg h [];have h2:=Cg h' [];rw[List.append_nil]at h1 h2;rw[he,h2]at h1;injection h1 with g1 g2 g3 g4 g5 g6 g7 g8;exact⟨g1.symm,g2.symm,g3.symm,g4.symm,g5.symm,g6.symm,g7.symm,g8.symm⟩
def BS(w:World)(l:List UInt8)(e:Ending)(w':World):Prop:= ∃v,e=.returned (.tuple #[v,.int .i64 (aN.dm l).2.1,.int .i64 (aN.dm l).2.2])∧aK w' w.heap.size v (aN.dm l).1∧Below w.heap.size w w'
theorem idx0(x0 x1 x2:Value)(w:World):(Instr.index 212 (.agg #[x0,x1,x2]) (.int .i64 0)).run Tryz.prog w=.ok x0 w:=by kernel_rfl
theorem idx1(x0 x1 x2:Value)(w:World):(Instr.index 212 (.agg #[x0,x1,x2]) (.int .i64 1)).run Tryz.prog w=.ok x1 w:=by kernel_rfl
theorem idx2(x0 x1 x2:Value)(w:World):(Instr.index 212 (.agg #[x0,x1,x2]) (.int .i64 2)).run Tryz.prog w=.ok x2 w:=by kernel_rfl
theorem nS(w w':World)(l:List UInt8)(h:aN.bad l=true)(hb:Below w.heap.size w w'):BS w l (.returned (.tuple #[.slice none 0 0,.int .i64 0,.int .i64 2])) w':=by
 have e:aN.dm l=([],0,2):=by simp[aN.dm,h]
 refine⟨.slice none 0 0,by rw[e];rfl,?_,hb⟩;rw[e];exact World.ownsRow_nil _ _ _ _
theorem Oq(w:World)(A:Option Addr)(n c:Nat)(l:List UInt8)(h:bU w w.heap.size A n c l)(hn:n≤1000000):Calls Tryz.prog 97 #[.slice A n c] w (BS w l):=by
 have HH:=qH h;clear h;have ix0:=idx0;have ix1:=idx1;have ix2:=idx2;go_enter Tryz.func97,Tryz.ntmps97;go_wp2_with fail;have hB1:=qH ((HH.o.alloc (Nat.le_refl _) (Obj.cells #[Value.slice A n c] 32)).alloc (by simp) (Obj.cells #[Value.func (Fn.func 158) #[] #[Value.pointer (some {block:=w.heap.size,off:=0})]] 23));have hbl:Below w.heap.size w ((w.alloc (Obj.cells #[Value.slice A n c] 32)).alloc (Obj.cells #[Value.func (Fn.func 158) #[] #[Value.pointer (some {block:=w.heap.size,off:=0})]] 23)):=((Below.refl _ _).alloc (Nat.le_refl _) _).alloc (by simp) _;have hc0:((w.alloc (Obj.cells #[Value.slice A n c] 32)).alloc (Obj.cells #[Value.func (Fn.func 158) #[] #[Value.pointer (some {block:=w.heap.size,off:=0})]] 23)).cell? ⟨w.heap.size,0,none⟩=some (.slice A n c):=by go_simp
 have hc1:((w.alloc (Obj.cells #[Value.slice A n c] 32)).alloc (Obj.cells #[Value.func (Fn.func 158) #[] #[Value.pointer (some {block:=w.heap.size,off:=0})]] 23)).cell? ⟨w.heap.size+1,0,none⟩=some (Value.func (Fn.func 158) #[] #[Value.pointer (some {block:=w.heap.size,off:=0})]):=by go_simp
 have hsz:((w.alloc (Obj.cells #[Value.slice A n c] 32)).alloc (Obj.cells #[Value.func (Fn.func 158) #[] #[Value.pointer (some {block:=w.heap.size,off:=0})]] 23)).heap.size=w.heap.size+2:=by simp
 generalize((w.alloc (Obj.cells #[Value.slice A n c] 32)).alloc (Obj.cells #[Value.func (Fn.func 158) #[] #[Value.pointer (some {block:=w.heap.size,off:=0})]] 23))=w1 at*;have hsz':w.heap.size+2≤w1.heap.size:=by omega
 clear hsz;have WN:=qH hc0;have jG:=qH hc1;refine wp_loop_rounds 4 ?_;rw[rounds_succ];go_wp2_with fail;refine(LU w1 _ _ A n c l WN.o hB1.out).mono ?_;rintro e w2⟨rfl,k1,rfl⟩;cases hu:aN.kJ l;case true=>have HU:=qH hu;clear hu;go_wp2;go_ret3;exact nS w _ l (by simp[aN.bad,HU.o]) (below_drewN hbl _)
 case false=>
  have HU:=qH hu;clear hu;go_wp2_with fail;rw[rounds_succ];go_wp2_with fail;refine(LQ (w1.drewN k1) _ _ A n c l WN.o (hB1.out.drewN _)).mono ?_;rintro e w2⟨rfl,k2,rfl⟩;cases hl:aN.long l;case true=>have HL:=qH hl;clear hl;go_wp2;go_ret3;exact nS w _ l (by simp[aN.bad,HL.o]) (below_drewN hbl _)
  case false=>
   have HL:=qH hl;clear hl;go_wp2_with fail;rw[rounds_succ];go_wp2_with fail;refine(LP (w1.drewN (k1+k2)) _ _ _ A n c l jG.o WN.o (hB1.out.drewN _) (by simp;omega) hn).mono ?_;rintro e w3⟨rfl,hb3⟩;have yQ:Below w1.heap.size w1 w3:=(below_drewN (Below.refl _ _) _).trans hb3;have hbw3:Below w.heap.size w w3:=hbl.trans (yQ.mono hbl.size);have g0:w3.cell? ⟨w.heap.size,0,none⟩=some (.slice A n c):=(yQ.cell (p:=⟨w.heap.size,0,none⟩) (show w.heap.size<w1.heap.size by omega)).trans WN.o;have g1:w3.cell? ⟨w.heap.size+1,0,none⟩=some (Value.func (Fn.func 158) #[] #[Value.pointer (some {block:=w.heap.size,off:=0})]):=(yQ.cell (p:=⟨w.heap.size+1,0,none⟩) (show w.heap.size+1<w1.heap.size by omega)).trans jG.o;have hB3:=qH (hB1.out.below (yQ.mono hbl.size));have hs3:w.heap.size+2≤w3.heap.size:=by have:=yQ.size;omega
   clear hc0 hc1 hb3 yQ hB1 WN jG hbl hsz';cases hw:aN.wrong l;case true=>have HW:=qH hw;clear hw;go_wp2;go_ret3;exact nS w _ l (by simp[aN.bad,HW.o]) hbw3
   case false=>
    have HW:=qH hw;clear hw;go_wp2_with fail;rw[rounds_succ];go_wp2_with fail;refine(uQ w3 _ _ A n c l g0 hB3.out).mono ?_;rintro e w4⟨rfl,k4,rfl⟩;cases ht:aN.there l;case false=>
     have HT:=qH ht;clear ht;go_wp2;go_ret3;have e:aN.dm l=([],0,1):=by simp[aN.dm,aN.bad,HU.o,HL.o,HW.o,HT.o]
     exact⟨.slice none 0 0,by rw[e];rfl,by rw[e];exact aK.nil _ _,below_drewN hbw3 _⟩
    case true=>
     have hsz:6≤l.length∧aN.sz l+10≤l.length:=by simpa[aN.there]using ht
     have HT:=qH ht;clear ht;rw[HH.o.len]at hsz;obtain⟨hs6,hs10⟩:=hsz;have hmax:=HH.o.max;have hcap:=HH.o.cap;unfold maxLen at hmax;obtain⟨b,off,rfl,hb,_⟩:=HH.o.cell (by omega);go_wp2_with fail;refine(sS _ _ _ _ _ _ (hB3.out.drewN _) (by omega)).mono ?_;rintro e w5⟨rfl,k5,rfl⟩;have e:Hid (aN.dm l=((l.drop 6).take (aN.sz l),6+aN.sz l+4,0)):=by simp[Hid,aN.dm,aN.bad,HU.o,HL.o,HW.o,HT.o]
     generalize hz:aN.sz l=z at*;have HZ:=qH hz;clear hz;have hc2:=qH (hB3.out.cut 6 z (by omega));clear ix0 ix1 ix2;have g0': ∀(k:Nat)(o:Obj),((w3.drewN k).alloc o).cell? ⟨w.heap.size,0,none⟩=some (Value.slice (some {block:=b,off:=off}) n c):=fun k o=>(World.cell?_alloc_lt (w3.drewN k) o _ (show w.heap.size<w3.heap.size by omega)).trans g0;have hlz:z≤1000000:=by omega
     go_wp2_with(at_builtin;refine aG rfl (.tmp 32) (.tmp 35) rfl w.heap.size _ [] rfl ?c1 w.heap.size _ _ _ ((l.drop 6).take z) rfl ?c2 ?c3 ?c4 ?_);case c1=>exact World.ownsRow_lit (w3.drewN _) #[] 0 (by simp;omega) (by simp[maxLen]) rfl
     case c2=>rw[Nat.add_sub_cancel_left];exact(hc2.out.drewN _).alloc (by simp;omega) _
     case c3=>simp;omega
     case c4=>simp;omega
     intro v' w6 hown hgr hat;have hbw6:Below w.heap.size w w6:=Below.grown ((below_drewN hbw3 (k4+k5)).alloc (by simp;omega) (Obj.cells #[] 5)) hgr (by simp;omega) (by intro k hk;simp[Value.ownBlock]at hk;omega);clear g0' hgr hat;go_wp2;go_ret3;exact⟨v',by rw[e.out];rfl,by rw[e.out];exact hown,hbw6⟩
theorem S9:(Tryz.prog.info? 32).map (fun i=>(i.zero,i.size,i.bytes))=some (some (.slice none 0 0),1,24):=by kernel_rfl
def lJ(w:World)(base:Nat)(vs:List Value)(ps:List (List UInt8)):Prop:=vs.length=ps.length∧ ∀(i:Nat)(v:Value)(p:List UInt8),vs[i]?=some v→ps[i]?=some p→aK w base v p
theorem lJ.nil(w:World)(base:Nat):lJ w base [] []:=⟨rfl,fun i v p h=>by simp at h⟩
theorem lJ.kept{w w':World}{base:Nat}{vs:List Value}{ps:List (List UInt8)}(h:lJ w base vs ps)(hk: ∀v p,aK w base v p→aK w' base v p):lJ w' base vs ps:=⟨h.1,fun i v p h1 h2=>hk v p (h.2 i v p h1 h2)⟩
theorem lJ.snoc{w:World}{base:Nat}{vs:List Value}{ps:List (List UInt8)}(h:lJ w base vs ps){v:Value}{p:List UInt8}(hv:aK w base v p):lJ w base (vs++[v]) (ps++[p]):=by
 refine⟨by simp[h.1],fun i v' p' h1 h2=>?_⟩;rcases Nat.lt_or_ge i vs.length with hi|hi;·rw[List.getElem?_append_left hi]at h1;rw[List.getElem?_append_left (by rw[←h.1];exact hi)]at h2;exact h.2 i v' p' h1 h2
 ·rw[List.getElem?_append_right hi]at h1;rw[List.getElem?_append_right (by rw[←h.1];exact hi),←h.1]at h2;rcases hk:i-vs.length with _|k;·rw[hk]at h1 h2;simp at h1 h2;subst h1 h2;exact hv
  ·rw[hk]at h1;simp at h1
def K6(w:World)(l:List UInt8)(e:Ending)(w':World):Prop:= ∃v vs,e=.returned (.tuple #[v,.int .i64 (aN.mJ l).2.1,.int .i64 (aN.mJ l).2.2])∧w'.ownsRow w.heap.size 32 1 v vs.length vs∧lJ w' w.heap.size vs (aN.mJ l).1∧Below w.heap.size w w'
def WY(w:World)(n:Nat)(l:List UInt8)(v i:Value)(wr:World):Prop:= ∃(k:Nat)(vs:List Value)(ps:List (List UInt8)),i=.int .i64 k∧k≤n∧vs.length≤k∧wr.ownsRow w.heap.size 32 1 v vs.length vs∧lJ wr w.heap.size vs ps∧Below w.heap.size w wr∧aN.mJ l=(ps++(aN.mJ (l.drop k)).1,k+(aN.mJ (l.drop k)).2.1,(aN.mJ (l.drop k)).2.2)
theorem Td(w:World)(A:Option Addr)(n c:Nat)(l:List UInt8)(h:bU w w.heap.size A n c l)(hn:n≤1000000):Calls Tryz.prog 42 #[.slice A n c] w (K6 w l):=by
 have HH:=qH h;clear h;have hmax:=HH.o.max;have hcap:=HH.o.cap;unfold maxLen at hmax;obtain⟨i0,hi,hz0,hz1,hz2⟩:=info_parts S9;have HI:=qH hi;have HZ0:=qH hz0;have HZ1:=qH hz1;have HZ2:=qH hz2;clear hi hz0 hz1 hz2;go_enter Tryz.func42,Tryz.ntmps42;go_wp2;go_loopw[5,6](fun v i wr=>WY w n l v i wr)(fun _ i _=>n-(intOf i).toNat);case atStart=>exact⟨0,[],[],rfl,Nat.zero_le _,Nat.le_refl _,World.ownsRow_nil _ _ _ _,lJ.nil _ _,Below.refl _ _,by simp⟩
 case round=>
  obtain⟨k,vs,ps,rfl,hk,hvk,hown,hbs,hbel,hall⟩:=hrel;have HO:=qH hown;have HB:=qH hbs;have HA:=qH hall;clear hown hbs hall;have hsz:=hbel.size;by_cases hkn:k<n
  ·obtain⟨b,off,rfl,hb,_⟩:=HH.o.cell (by omega);have hcut:Hid (bU wr w.heap.size (some ⟨b,off+k,none⟩) (n-k) (c-k) (l.drop k)):=by have:=((HH.o.below hbel).cut k (n-k) (by omega));rwa[List.take_of_length_le (by rw[List.length_drop,HH.o.len];omega)]at this
   have hlen:(l.drop k).length=n-k:=by rw[List.length_drop,HH.o.len]
   have hne:l.drop k≠[]:=fun e=>by rw[e]at hlen;simp at hlen;omega
   have HN:=qH hne;clear hne;have HLn:=qH hlen;clear hlen;go_wp2_with fail;refine(Oq wr _ (n-k) (c-k) (l.drop k) (hcut.out.more hsz) (by omega)).mono ?_;rintro e w1⟨p,rfl,hown1,hb1⟩;obtain⟨Ap,cp,hp⟩:=hown1.form;have H10:=qH (aN.uP (l.drop k));have hle:=aN.yC (l.drop k);have HST:=qH (aN.MS (l.drop k) HN.o);have KZ:=qH (aN.Ky (l.drop k) HN.o);rw[HLn.o]at hle;generalize hq:aN.dm (l.drop k)=r at*;obtain⟨q,m,st⟩:=r;have HQ:=qH hq;clear hq;dsimp only at*;subst hp;have hbw1:Below w.heap.size w w1:=hbel.trans (hb1.mono hsz);have hsz1:=hb1.size;have hown0:aK w1 w.heap.size (.slice Ap q.length cp) q:=hown1.gB hsz;have HP:=qH hown0;clear hown1 hown0;have Ak:=qH (ownsRow_below HO.o hb1 (Nat.le_refl _));have HB1:=qH (HB.o.kept (fun v p hv=>hv.below hb1 (Nat.le_refl _)));by_cases hst:st=0
   ·subst hst;have hm10:10≤m:=H10.o rfl;have hgo:=KZ.o rfl;rw[List.drop_drop]at hgo;have HG:=qH hgo;clear hgo;go_wp2_with(at_builtin;refine av (P:=Tryz.prog) rfl (.tmp 27) (.tmp 29) 92 rfl 32 i0 (.slice none 0 0) 1 24 Tryz.underlying92 HI.o HZ0.o HZ1.o HZ2.o rfl (by decide) w.heap.size _ vs.length vs rfl ?c1 (w1.heap.size+1) _ _ _ [.slice Ap q.length cp] rfl ?c2 ?c3 ?c4 ?c5 ?c6 ?_);case c1=>exact World.ownsRow.alloc Ak.o _
    case c2=>exact az.new w1 #[.slice Ap q.length cp] _ (by unfold maxLen;omega) rfl
    case c3=>simp[Value.oneCell']
    case c4=>unfold maxLen;omega
    case c5=>omega
    case c6=>first|omega|(simp;omega)
    intro v' w2 hown2 hg2 hat2;have hne:=eU (World.ownsRow.alloc HP.o (Obj.cells #[.slice Ap q.length cp] 32)) (World.ownsRow.alloc Ak.o (Obj.cells #[.slice Ap q.length cp] 32)) (by decide);have hp2:aK w2 w.heap.size (.slice Ap q.length cp) q:=(HP.o.alloc (Obj.cells #[.slice Ap q.length cp] 32)).kept hg2 hne;have hbs2:lJ w2 w.heap.size vs ps:=HB1.o.kept fun v p' hv=>(aK.alloc hv (Obj.cells #[.slice Ap q.length cp] 32)).kept hg2 (eU (World.ownsRow.alloc hv (Obj.cells #[.slice Ap q.length cp] 32)) (World.ownsRow.alloc Ak.o (Obj.cells #[.slice Ap q.length cp] 32)) (by decide));have hb2:Below w.heap.size w w2:=Below.grown (hbw1.alloc (by omega) (Obj.cells #[.slice Ap q.length cp] 32)) hg2 (by simp;omega) (fun k' hk'=>(Ak.o.lt k' hk').1);have HB2:=qH (hbs2.snoc hp2);have dW:=qH hown2;have Z9:=qH hb2;clear hown2 hg2 hat2 hne hp2 hbs2 hb2;go_wp2;go_roundw;case rel=>refine⟨k+m,vs++[.slice Ap q.length cp],ps++[q],by go_num,by omega,by simp;omega,by rw[List.length_append];exact dW.o,HB2.o,Z9.o,?_⟩;rw[HA.o,HG.o];simp[Nat.add_assoc]
    case measure=>simp[intOf];omega
   ·have hs':((st:Int)!=0)=true:=by simp;omega
    have hstop:=HST.o hst;go_wp2;go_ret3;refine⟨u5,vs,?_,Ak.o,?_,hbw1⟩;·rw[HA.o,hstop];rfl
    ·rw[HA.o,hstop];simpa using HB1.o
  ·have hk':l.drop k=[]:=List.drop_eq_nil_iff.2 (by rw[HH.o.len];omega);have HK:=qH hk';clear hk';go_wp2;go_ret3;refine⟨u5,vs,?_,HO.o,?_,hbel⟩;·rw[HA.o,HK.o];rfl
   ·rw[HA.o,HK.o];simpa[show aN.mJ []=([],0,0)from rfl]using HB.o
open Go.Maps Go.Sort Go.Shelf
theorem Im{a b:List UInt8}(h: ¬a<b)(h2:a≠b):b<a:=by
 have:b≤a:=List.not_lt.1 h;rcases List.le_iff_lt_or_eq.1 this with h3|h3;·exact h3
 ·exact absurd h3.symm h2
theorem AX: ∀g:List (List UInt8),∃r,fI r g
 |[]=>⟨[],List.Pairwise.nil,fun x=>by simp⟩
 |a::g=>by
  obtain⟨r,h1,h2⟩:=AX g;by_cases ha:a∈r;·refine⟨r,h1,fun x=>?_⟩;rw[h2 x,List.mem_cons];exact⟨.inr,fun h=>h.elim (fun e=>by rw[e];exact(h2 a).1 ha) id⟩
  ·refine⟨r.filter (fun x=>decide (x<a))++a::r.filter (fun x=>decide (a<x)),?_,fun x=>?_⟩
   ·refine List.pairwise_append.2 ⟨h1.filter _,List.pairwise_cons.2 ⟨fun y hy=>by simpa using(List.mem_filter.1 hy).2,h1.filter _⟩,fun x hx y hy=>?_⟩;have h3:x<a:=by simpa using(List.mem_filter.1 hx).2
    rcases List.mem_cons.1 hy with rfl|hy;·exact h3
    ·exact List.lt_trans h3 (by simpa using(List.mem_filter.1 hy).2)
   ·rw[List.mem_append,List.mem_cons,List.mem_filter,List.mem_filter,List.mem_cons];constructor
    ·rintro(⟨h,_⟩|h|⟨h,_⟩);·exact .inr ((h2 x).1 h)
     ·exact .inl h
     ·exact .inr ((h2 x).1 h)
    ·rintro(h|h);·exact .inr (.inl h)
     ·have hx:=(h2 x).2 h;by_cases hlt:x<a;·exact .inl ⟨hx,by simpa using hlt⟩
      ·exact .inr (.inr ⟨hx,by simpa using Im hlt (fun e=>ha (e▸hx))⟩)
theorem jy(x:ay):fI (ko x) x.gone:=by obtain⟨r,hr⟩:=AX x.gone;rw[←nu hr];exact hr
theorem bY.JS{N:Nat}{x:ay}(h:bY N x)(hN:N≤600){n:Int}(h0:0≤n)(h1:n≤1048576):KH n x.au.aa x.au.idle (aX x.au) (bV x.had) x.taken x.late (ko x):=by have k1:=h.au.aa;have k2:=h.au.idle;have k3:=h.tZ;have k4:=h.Kg hN;have k5:=h.ok.taken;have k6:=h.ok.late;have k7:=h.gone;have k8:=fA (jy x);exact⟨h0,by omega,by omega,by omega,by omega,by omega,by omega,by omega,by omega,by omega,by omega,fun e he=>h.ok.may e (.inl he),fun e he=>h.ok.may e (.inr he),fun g hg h10=>by have hn:=h.pt.name g (((jy x).2 g).1 hg);unfold ag at hn;simp only[Bool.and_eq_true]at hn;exact(yF (List.all_eq_true.1 hn.2 10 h10)).1 rfl⟩
theorem Br{B:Nat}{w:World}{v:Value}{l:List UInt8}(h:Lib.FreshBytes B w v l): ∃g c,v=.slice (some ⟨g,0,none⟩) l.length c∧bU w w.heap.size (some ⟨g,0,none⟩) l.length c l:=by
 obtain⟨g,cap,zs,rfl,_,h2,h3,h4,h5,h6,h7,_⟩:=h;refine⟨g,cap,rfl,⟨rfl,h2,h3,fun h0=>⟨g,0,rfl,World.block_lt_of_cell? _ _ (h7 0 (by omega)),fun i hi=>?_⟩⟩⟩;rw[Nat.zero_add,h7 i (by omega)];have h8:(Lib.bytesOf (zs.take l.length))[i]?=some l[i]:=by rw[h6];exact List.getElem?_eq_getElem hi
 unfold Lib.bytesOf at h8;rw[List.getElem?_map,List.getElem?_take,if_pos hi]at h8;have hz:i<zs.length:=by omega
 rw[List.getElem?_eq_getElem hz]at h8;simp only[Option.map_some,Option.some.injEq]at h8;have h9:=h5 zs[i] (List.getElem_mem hz);rw[List.getD_eq_getElem?_getD,List.getElem?_eq_getElem hz,Option.getD_some,←h8];congr 2;simp;omega
theorem Bj: ∀ls:List (List UInt8),Lib.join ls []=ls.flatten|[]=>rfl|[a]=>by simp[Lib.join,List.intercalate]|a::b::t=>by have ih:=Bj (b::t);unfold Lib.join List.intercalate at ih⊢;rw[show List.intersperse [] (a::b::t)=a::[]::List.intersperse [] (b::t)from rfl,List.flatten_cons,List.flatten_cons,ih,List.flatten_cons];rfl
theorem Bi: ∀ls:List (List UInt8),Lib.lens ls=ls.flatten.length|[]=>rfl|a::t=>by have ih:=Bi t;unfold Lib.lens at ih⊢;rw[List.map_cons,List.sum_cons,ih,List.flatten_cons,List.length_append]
def VR(w:World)(l:List UInt8)(e:Ending)(w':World):Prop:= ∃A c,e=.returned (.slice A l.length c)∧bU w' w'.heap.size A l.length c l∧(A=none→c=0)∧Below w.heap.size w w'
theorem lJ.holds{w:World}{base:Nat}{vs:List Value}{ps:List (List UInt8)}(h:lJ w base vs ps){i:Nat}{v:Value}{p:List UInt8}(h1:vs[i]?=some v)(h2:ps[i]?=some p):Lib.HoldsBytes w v p:=by
 have ho:=h.2 i v p h1 h2;obtain⟨A,c,rfl⟩:=ho.form;refine⟨A,c,rfl,fun e=>?_,fun a ha j x hj=>?_⟩
 ·subst e;have hb:=ho.oF;rcases Nat.eq_zero_or_pos p.length with h0|h0;·exact List.eq_nil_of_length_eq_zero h0
  ·obtain⟨b,off,e,_⟩:=hb.cell h0;cases e
 ·have hjl:j<p.length:=(List.getElem?_eq_some_iff.1 hj).1;obtain⟨b,off,e,_,hc⟩:=ho.oF.cell (by omega);rw[ha]at e;injection e with e;subst e;have:=hc j hjl;rw[Go.WideShapes.add_plain,this,(List.getElem?_eq_some_iff.1 hj).2]
theorem OY(w:World)(B base:Nat)(A:Option Addr)(n c:Nat)(vs:List Value)(ps:List (List UInt8))(hc:az w B 1 A n c vs)(ho:lJ w base vs ps)(hl:ps.flatten.length≤1000000000)(hn:n≤1000000000):Calls Tryz.prog 44 #[.slice A n c,.slice none 0 0] w (VR w ps.flatten):=by
 have hvn:vs.length=n:=by have:=hc.len;omega
 have hpn:ps.length=n:=by rw[←ho.1];exact hvn
 match ps,hpn with
  |[],hpn=>
   obtain rfl:n=0:=by simpa using hpn.symm
   refine(Tryz.bytes_Join_none A c (.slice none 0 0) w).mono ?_;rintro e w'⟨rfl,rfl⟩;exact⟨_,_,rfl,bU.nil _ _ _ _ (Nat.zero_le _),(fun e=>by cases e),(Below.refl _ _).alloc (Nat.le_refl _) _⟩
  |[p],hpn=>
   obtain rfl:n=1:=by simpa using hpn.symm
   obtain⟨b,off,rfl,_,hcc⟩:=hc.cell (by omega);obtain⟨v,hv⟩: ∃v,vs[0]?=some v:=⟨vs[0]'(by omega),List.getElem?_eq_getElem _⟩;obtain⟨Ap,cp,e,h1,h2⟩:=ho.holds hv (p:=p) rfl;subst e;have h3:=hcc 0 _ hv;rw[Nat.add_zero]at h3;rw[show[p].flatten=p by simp];by_cases hp:p=[];·subst hp;refine(Tryz.bytes_Join_one_empty b off c Ap cp (.slice none 0 0) w h3).mono ?_;rintro e w'⟨rfl,rfl⟩;exact⟨none,0,rfl,bU.nil _ _ _ _ (Nat.zero_le _),fun _=>rfl,Below.refl _ _⟩
   ·cases Ap with|none=>exact absurd (h1 rfl) hp|some a=>refine(Tryz.bytes_Join_one b off c a cp p (.slice none 0 0) w h3 (h2 a rfl) (List.length_pos_iff.2 hp) (by simp at hl;omega)).mono ?_;rintro e w'⟨v',rfl,hf,hb⟩;obtain⟨g,cc,rfl,hby⟩:=Br hf;exact⟨_,_,rfl,hby,(fun e=>by cases e),hb⟩
  |p::q::t,hpn=>
   obtain⟨b,off,rfl,_,hcc⟩:=hc.cell (by simp at hpn;omega);have hn2:2≤n:=by simp at hpn;omega
   refine(Tryz.bytes_Join_many b off n c vs (p::q::t) (.slice none 0 0) [] w hpn hn2 ⟨ho.1,fun i v hv=>by rw[Go.WideShapes.add_plain];exact hcc i v hv,fun i v l h1 h2=>ho.holds h1 h2⟩ hc.cap ⟨none,0,rfl,fun _=>rfl,fun a ha=>by cases ha⟩ (by omega) (by rw[Bi];simp only[List.length_nil,Nat.zero_mul];omega)).mono ?_;rintro e w'⟨v',rfl,hf,hb⟩;rw[Bj]at hf;obtain⟨g,cc,rfl,hby⟩:=Br hf;exact⟨_,_,rfl,hby,(fun e=>by cases e),hb⟩
theorem R4{w:World}{N:Nat}{x:ay}(hx:bY N x)(hN:N≤600){Ac Ah At Al Ag:Option Addr}{nc kc nh kh nt kt nl kl ng kg:Nat}{r:List (List UInt8)}(hr:fI r x.gone)(h:YS w N Ac Ah At Al Ag nc kc nh kh nt kt nl kl ng kg (aX x.au) (bV x.had) x.taken x.late r):Calls Tryz.prog 25 #[fq x.au.aa x.au.idle (.slice Ac nc kc) (.slice Ah nh kh) (.slice At nt kt) (.slice Al nl kl) (.slice Ag ng kg)] w (Ns w N x):=by
 refine(Vj w N Ac Ah At Al Ag nc kc nh kh nt kt nl kl ng kg x.au.aa x.au.idle (aX x.au) (bV x.had) x.taken x.late r h).mono ?_;rintro e w'⟨hb,⟨c,m,bi,F,hp,rfl,hi,hF⟩|⟨er,rfl,h1,h2⟩⟩
 ·have e1:c=x.au:=by have:=hp.dc;rw[hx.dc]at this;injection this with this;exact this.symm
  have e2:m=x.had:=by obtain⟨q,hq⟩:=hp.dh;rw[hx.dh hN]at hq;injection hq with hq _;exact hq.symm
  subst e1 e2;exact⟨bi,F,rfl,aU.VJ hi hr.2,hb,hF⟩
 ·exact absurd (hx.parts hN hr) (h2 _ _)
theorem Ow(a q:Nat)(h: ¬a≤65536)(h3:q*65536≤a-65536+65535):(q+1)*65536≤a+65535:=by generalize hC:65536=C at*;generalize hD:65535=D at*;rw[Nat.add_mul,Nat.one_mul];generalize q*C=z at*;omega
theorem Ox(a q:Nat)(h2:0<a)(h3:q=0):(q+1)*65536≤a+65535:=by subst h3;rw[Nat.zero_add,Nat.one_mul];omega
theorem uh(l:List UInt8):(ji l).length*65536≤l.length+65535:=by
 have key: ∀(f:Nat)(l:List UInt8),l.length≤f→(chunks f l).length*65536≤l.length+65535:=fun f=>by
  induction f with
   |zero=>intro l _;simp[chunks]
   |succ f ih=>
    intro l hf;unfold chunks;split;·simp
    ·rename_i h1;have h2:=List.length_pos_iff.2 h1;have h3:=ih (l.drop 65536) (by rw[List.length_drop];omega);rw[List.length_drop]at h3;rw[List.length_cons];by_cases h4:l.length≤65536
     ·have h7:(l.drop 65536).length=0:=by rw[List.length_drop];omega
      have h8:=List.eq_nil_of_length_eq_zero h7;have h6:(chunks f (l.drop 65536)).length=0:=by rw[h8];cases f with|zero=>rfl|succ f=>unfold chunks;rfl
      exact Ox _ _ h2 h6
     ·exact Ow _ _ h4 h3
 exact key _ l (Nat.le_refl _)
theorem Cq(l:List UInt8)(h:l.length≤900000):(aD l).length≤l.length+150:=by unfold aD;rw[zh,iq];have:=uh l;omega
theorem bY.FN{N:Nat}{x:ay}(h:bY N x)(hN:N≤100):(bV x.had).length≤163400:=by have h1:=bH (n:=x.had.length) (by have:=h.ok.had;omega);have h2:=vB (M:=N) x.had (fun p hp=>BB (h.yx.ok.each p hp).1 (h.yx.ok.each p hp).2.1 (h.ok.yS h.yx.ok p hp) (by omega));have h3:=h.ok.had;have h4:(33+16*N)*x.had.length≤(33+16*100)*100:=Nat.mul_le_mul (by omega) (by omega);unfold bV;rw[List.length_append];omega
theorem bY.DZ{N:Nat}{x:ay}(h:bY N x)(hN:N≤100){n:Int}(h0:0≤n)(h1:n≤1048576):(jW n x).length≤530000:=by
 have k1:=h.au.aa;have k2:=h.au.idle;have k3:=h.tZ;have k4:=h.FN hN;have k5:=h.ok.taken;have k6:=h.ok.late;have k7:=h.gone;have k8:=fA (jy x);have e1:=iK x.taken fun e he=>h.ok.may e (.inl he);have e2:=iK x.late fun e he=>h.ok.may e (.inr he);have e3:=nT (ko x) fun p hp=>by have:=h.pt.name p (((jy x).2 p).1 hp);have:=(gW this).2;omega
 have f1:=aY ed n (by omega) (by omega);have f2:=aY cZ x.au.aa (by omega) (by omega);have f3:=aY eu x.au.idle (by omega) (by omega);have f4:=aY bW (aX x.au).length (by omega) (by omega);have f5:=aY gV (bV x.had).length (by omega) (by omega);have f6:=aY bE x.taken.length (by omega) (by omega);have f7:=aY dz x.late.length (by omega) (by omega);have f8:=aY dw (ko x).length (by omega) (by omega);unfold jW AO;simp only[List.length_append];simp only[ed,cZ,eu,bW,gV,bE,dz,dw,List.length_cons,List.length_nil]at*;omega
def Jk(w:World)(N:Nat)(x:ay)(off:Int)(e:Ending)(w':World):Prop:= ∃bi F,e=.returned (.tuple #[.pointer (some ⟨bi,0,none⟩),.int .i64 off,.int .i64 0])∧aU w' F bi N x∧Below w.heap.size w w'∧ ∀b,F b→w.heap.size≤b
theorem wh(w:World)(A:Option Addr)(n c:Nat)(x:ay)(off:Int)(N:Nat)(h:bU w w.heap.size A n c (aD (jW off x)))(hg:bY N x)(hN:N≤100)(h0:0≤off)(h1:off≤1048576)(hmx:bf w)(xB:dV w)(htab:Lib.TabBelow Tryz.prog w.heap.size w "internal/strconv.uint64pow10" .u64 Lib.pow10Tab):Calls Tryz.prog 15 #[.slice A n c] w (Jk w N x off):=by
 have htl:=hg.DZ hN h0 h1;have hpl:=Cq (jW off x) (by omega);have hll:=h.len;have HA:=qH (Td w A n c _ h (by omega));have hab:=pV (jW off x);have hcl:=uh (jW off x);have Y9:=qS (yl (jW off x)=⟨off,x.au.aa,x.au.idle,aX x.au,bV x.had,x.taken,x.late,ko x,true⟩) (by have h2:=Cg (hg.JS (by omega) h0 h1) [];rw[List.append_nil]at h2;exact h2);have HG:=qH hg;have jS:=qH hmx;have JD:=qH xB;have HT:=qH htab;have gJ:=qH h;unfold K6 at HA;rw[hab]at HA;clear h hg hmx xB htab hab;go_enter Tryz.func15,Tryz.ntmps15;go_wp2_with fail;with_reducible refine HA.o.mono ?_
 rintro r w1⟨v,vs,rfl,ho,Sq,hb⟩;obtain⟨Av,kv,rfl⟩:=ownsRow_form ho;have HB:=qH hb;have hvs:=Sq.1;have HJ:=qH (OY w1 _ _ Av vs.length kv vs _ (az.aI ho) Sq (by rw[iq];omega) (by omega));rw[iq]at HJ;clear ho Sq hb HA hvs hcl;generalize(aD (jW off x)).length=m at*;go_wp2_with fail;with_reducible refine HJ.o.mono ?_
 rintro r w2⟨A2,c2,rfl,hb2,hA2,hbl2⟩;have HB2:=qH (HB.o.trans (hbl2.mono HB.o.size));have HR:=qH (Ha w2 A2 (jW off x).length c2 (jW off x) hb2 hA2 (by omega) (JD.o.up HB2.o) (jS.o.up HB2.o));unfold Ql at HR;rw[Y9.o]at HR;clear HJ hb2 hA2 hbl2;go_wp2_with fail;with_reducible refine HR.o.mono ?_
 rintro r w3⟨Ac,nc,kc,Ah,nh,kh,At,nt,kt,Al,nl,kl,Ag,ng,kg,rfl,q1,q2,q3,q4,q5,q6⟩;have hs3:=q6.size;have bJ:Below w3.heap.size w3 (w3.alloc (aW x.au.aa x.au.idle (.slice Ac nc kc) (.slice Ah nh kh) (.slice At nt kt) (.slice Al nl kl) (.slice Ag ng kg))):=(Below.refl _ _).alloc (Nat.le_refl _) _;have fM:=qH (HB2.o.trans ((q6.trans (bJ.mono hs3)).mono HB2.o.size));have HP4:=qS ((w3.alloc (aW x.au.aa x.au.idle (.slice Ac nc kc) (.slice Ah nh kh) (.slice At nt kt) (.slice Al nl kl) (.slice Ag ng kg))).heap[w3.heap.size]?=some (aW x.au.aa x.au.idle (.slice Ac nc kc) (.slice Ah nh kh) (.slice At nt kt) (.slice Al nl kl) (.slice Ag ng kg))) (heap_alloc_new w3 _);have l1:=q1.len;have l2:=q2.len;have l3:=fV.len q3;have l4:=fV.len q4;have l5:=Strs.len q5;have hrl:=fA (jy x);have Gu:=qH (R4 HG.o (by omega) (jy x) (w:=w3.alloc (aW x.au.aa x.au.idle (.slice Ac nc kc) (.slice Ah nh kh) (.slice At nt kt) (.slice Al nl kl) (.slice Ag ng kg))) {au:=(q1.below (bJ.mono hs3)).more (by have:=bJ.size;omega),had:=(q2.below (bJ.mono hs3)).more (by have:=bJ.size;omega),tk:=az.more (az.below q3 bJ) bJ.size,le:=az.more (az.below q4 bJ) bJ.size,gn:=az.more (az.below q5 bJ) bJ.size,hnc:=by have:=HG.o.tZ;omega,hnh:=by have:=HG.o.FN hN;omega,hnt:=by have:=HG.o.ok.taken;omega,hnl:=by have:=HG.o.ok.late;omega,Bq:=by have:=HG.o.gone;omega,hN:=by omega,st:=fun e he=>wH (HG.o.ok.may e (.inl he)),sl:=fun e he=>wH (HG.o.ok.may e (.inr he)),max:=jS.o.up fM.o,errs:=JD.o.up fM.o,tab:=fe HT.o fM.o,bd:=HG.o.bd (by omega)});clear HR q1 q2 q3 q4 q5 q6 l1 l2 l3 l4 l5 bJ hrl;unfold fq at Gu⊢;go_upto_region 8 with fail;generalize w3.alloc (aW x.au.aa x.au.idle (.slice Ac nc kc) (.slice Ah nh kh) (.slice At nt kt) (.slice Al nl kl) (.slice Ag ng kg))=w4 at*;obtain⟨z0,z1,z2,z3,z4,z5,z6,_⟩:=bM HP4.o;go_wp2_with fail;with_reducible refine Gu.o.mono ?_
 rintro r w5⟨bi,F,rfl,hi,hb5,hF⟩;have qE:=qH (fM.o.trans (hb5.mono fM.o.size));have HI:=qH hi;have TR:=qS (∀b,F b→w.heap.size≤b) (fun b hb=>by have:=hF b hb;have:=fM.o.size;omega);have Xo:=qH (iN w5 F bi N x hi HG.o (by omega) off h0 h1 (jS.o.up qE.o) (fe HT.o qE.o));clear Gu z0 z1 z2 z3 z4 z5 z6 hi hb5 hF;go_wp2_with fail;with_reducible refine Xo.o.mono ?_
 rintro r w6⟨v6,rfl,ho6,hb6⟩;obtain⟨A6,k6,rfl⟩:=ho6.form;have dY:=qH (qE.o.trans (hb6.mono qE.o.size));have Wz:=qH (HI.o.up hb6);have QM:=qH (BA w6 _ _ _ _ _ _ _ _ _ _ ho6.oF (gJ.o.below dY.o));have HF:=qS (Jk w N x off (.returned (.tuple #[.pointer (some ⟨bi,0,none⟩),.int .i64 off,.int .i64 0])) w6) (⟨bi,F,rfl,Wz.o,dY.o,TR.o⟩);rw[beq_self_eq_true]at QM;clear Xo ho6 hb6;go_wp2_with fail;with_reducible refine QM.o.mono ?_
 rintro r w7⟨rfl,rfl⟩;clear QM;go_wp2;go_ret3;exact HF.o
theorem NV(w:World)(l:List UInt8)(hn:l.length≤1000000):Calls Tryz.prog 140 #[.string ⟨l.toArray⟩] w fun e w'=>e=.returned (.int .i64 (aN.uk l))∧w=w':=by
 go_enter Tryz.func140,Tryz.ntmps140;go_wp2;go_loop[3,4,5](fun t s i=> ∃k:Nat,k≤l.length∧i=.int .i64 k∧t=.int .i64 (aN.ad (l.take k)).1∧s=.int .i64 (aN.ad (l.take k)).2)(fun _ _ i=>l.length-(intOf i).toNat);case atStart=>exact⟨0,Nat.zero_le _,rfl,rfl,rfl⟩
 case round=>
  obtain⟨k,hk,rfl,rfl,rfl⟩:=hrel;obtain⟨hlt1,hlt2⟩:=aN.KC (l.take k);by_cases hkn:k<l.length
  ·have HA:=qH (aN.Kz l k hkn);have hb8:((⟨l.toArray⟩:ByteArray)[k]'(by simpa[ByteArray.size]using hkn)).toNat<256:=((⟨l.toArray⟩:ByteArray)[k]'(by simpa[ByteArray.size]using hkn)).toNat_lt;have HE:=qS (((⟨l.toArray⟩:ByteArray)[k]'(by simpa[ByteArray.size]using hkn)).toNat=l[k].toNat) (rfl);generalize h1:(aN.ad (l.take k)).1=p at*;generalize h2:(aN.ad (l.take k)).2=q at*;have H1:=qH h1;have H2:=qH h2;clear h1 h2;go_wp2;go_round;case rel=>
    refine⟨k+1,by omega,by go_num,?_,?_⟩;·rw[HA.o];unfold aN.rR;rw[H1.o,←HE.o];go_num
    ·rw[HA.o];unfold aN.rR;rw[H1.o,H2.o,←HE.o];go_num
   case measure=>simp[intOf];omega
  ·have hkk:l.take k=l:=List.take_of_length_le (by omega);rw[hkk]at hlt1 hlt2⊢;go_wp2;go_ret;refine⟨aQ ?_,rfl⟩;unfold aN.uk;go_num
def uV:Nat→Nat→List UInt8|0,_=>[]|i+1,n=>aN.u8 (n/256^i)::uV i n
theorem XU(n:Nat):uV 3 n=aN.be3 n:=by simp[uV,aN.be3]
theorem XT(n:Nat):uV 4 n=aN.be4 n:=by simp[uV,aN.be4]
theorem E5(i n:Nat):(uV i n).length=i:=by induction i with|zero=>rfl|succ i ih=>simp[uV,ih]
theorem U6(x:Nat):UInt8.ofNat (x%256)=aN.u8 x:=by unfold aN.u8;apply UInt8.toNat_inj.1;simp
theorem JZ(w:World)(n s:Nat)(hn:n<4294967296)(hs:s≤4):Calls Tryz.prog 139 #[.int .i64 n,.int .i64 s] w fun e w'=>e=.returned (.string ⟨(uV s n).toArray⟩)∧Below w.heap.size w w':=by
 have kc:=conv1;go_enter Tryz.func139,Tryz.ntmps139;go_wp2;go_loopw[0,5,6](fun m t i wr=> ∃k:Nat,k≤s∧i=.int .i64 k∧m=.int .i64 (n/256^k:Nat)∧t=.string ⟨(uV k n).toArray⟩∧Below w.heap.size w wr)(fun _ _ i _=>s-(intOf i).toNat);case atStart=>exact⟨0,Nat.zero_le _,rfl,by simp,rfl,Below.refl _ _⟩
 case round=>
  obtain⟨k,hk,rfl,rfl,rfl,hb⟩:=hrel;have hdiv:n/256^k≤n:=Nat.div_le_self _ _;by_cases hkn:k<s
  ·have HD:=qS (n/256^(k+1)=n/256^k/256) (by rw[Nat.pow_succ,Nat.div_div_eq_div_mul]);have HL:=qS (uV (k+1) n=aN.u8 (n/256^k)::uV k n) (rfl);generalize hx:n/256^k=x at*;clear hx;have hll:(uV k n).length≤4:=by rw[E5];omega
   go_wp2;go_roundw;case rel=>refine⟨k+1,by omega,by go_num,by rw[HD.o];go_num,?_,hb.alloc hb.size _⟩;have:=eH [UInt8.ofNat (x%256)] (uV k n);rw[HL.o,←U6];exact congrArg Value.string this
   case measure=>simp[intOf];omega
  ·obtain rfl:k=s:=by omega
   go_wp2;go_ret;exact⟨rfl,hb⟩
theorem VI(w:World)(x y z:Int):(convert 32 9 (.slice (some ⟨w.heap.size,0,none⟩) 3 3)).run Tryz.prog (w.alloc (.cells #[.int .u8 x,.int .u8 y,.int .u8 z] 5)).drew=.ok (.string ⟨[UInt8.ofNat x.toNat,UInt8.ofNat y.toNat,UInt8.ofNat z.toNat].toArray⟩) (w.alloc (.cells #[.int .u8 x,.int .u8 y,.int .u8 z] 5)).drew:=by
 have:=run_convert_bytes_arg (P:=Tryz.prog) (w.alloc (.cells #[.int .u8 x,.int .u8 y,.int .u8 z] 5)).drew 32 5 Tryz.underlying32 Tryz.underlying5 w.heap.size 0 3 3 [x,y,z] rfl (fun i hi=>by
  show(w.alloc (.cells #[.int .u8 x,.int .u8 y,.int .u8 z] 5)).cell? _=_;rw[cell_of_row _ w.heap.size _ #[.int .u8 x,.int .u8 y,.int .u8 z] 5 (0,0) (heap_alloc_new w _)];have:i=0∨i=1∨i=2:=by omega
  rcases this with rfl|rfl|rfl<;>rfl) 9 Tryz.underlying9;rw[this];simp[strOfNums]
theorem mG(a:UInt8):UInt8.ofNat (255-a.toNat)=255-a:=by apply UInt8.toNat_inj.1;have:=a.toNat_lt;rw[aN.sub255];simp;omega
theorem uL(w:World)(l:List UInt8)(hn:l.length≤65536):Calls Tryz.prog 79 #[.string ⟨l.toArray⟩] w fun e w'=>e=.returned (.tuple #[.string ⟨(aN.bZ l).toArray⟩,.bool true])∧Below w.heap.size w w':=by
 have kc:=fun w x y z=>VI w x y z;have d1:decide (65536<(l.length:Int))=false:=decide_eq_false (by omega);go_enter Tryz.func79,Tryz.ntmps79;go_wp2_with fail;refine(JZ w l.length 3 (by omega) (by omega)).mono ?_;rintro e w1⟨rfl,hb1⟩;have hf:aN.front l=[aN.u8 (l.length/65536),aN.u8 (l.length/256),aN.u8 l.length]++[255-aN.u8 (l.length/65536),255-aN.u8 (l.length/256),255-aN.u8 l.length]++l:=rfl;rw[XU];unfold aN.be3;generalize aN.u8 (l.length/65536)=a at*;generalize aN.u8 (l.length/256)=b at*;generalize aN.u8 l.length=c at*;have HF:=qH hf;clear hf;have ha:=a.toNat_lt;have hb:=b.toNat_lt;have hc:=c.toNat_lt;have g0:(⟨#[a,b,c]⟩:ByteArray)[0]'(by show 0<3;decide)=a:=rfl;have g1:(⟨#[a,b,c]⟩:ByteArray)[1]'(by show 1<3;decide)=b:=rfl;have g2:(⟨#[a,b,c]⟩:ByteArray)[2]'(by show 2<3;decide)=c:=rfl;go_wp2_with fail;go_region;have hs:(⟨#[a,b,c]⟩:ByteArray)++⟨#[UInt8.ofNat (255-a.toNat),UInt8.ofNat (255-b.toNat),UInt8.ofNat (255-c.toNat)]⟩++⟨l.toArray⟩=⟨(aN.front l).toArray⟩:=by have e1:=eH [a,b,c] [255-a,255-b,255-c];have e2:=eH ([a,b,c]++[255-a,255-b,255-c]) l;rw[HF.o,←e2,←e1,mG,mG,mG]
 rw[hs];have hfl:=aN.eT l;have hlt:=aN.CW (aN.front l);have zK:=qH hfl;have abG:(aN.front l).length≤65542:=by omega
 clear hfl g0 g1 g2 kc hs;have hb2:Below w.heap.size w (w1.alloc (Obj.cells #[Value.int IntKind.u8 (255- ↑a.toNat),Value.int IntKind.u8 (255- ↑b.toNat),Value.int IntKind.u8 (255- ↑c.toNat)] 5)).drew:=(hb1.alloc hb1.size _).drew;generalize(w1.alloc (Obj.cells #[Value.int IntKind.u8 (255- ↑a.toNat),Value.int IntKind.u8 (255- ↑b.toNat),Value.int IntKind.u8 (255- ↑c.toNat)] 5)).drew=w2 at*;go_wp2_with fail;refine(NV w2 (aN.front l) (by omega)).mono ?_;rintro e w3⟨rfl,rfl⟩;go_wp2_with fail;refine(JZ w2 (aN.uk (aN.front l)) 4 hlt (by omega)).mono ?_;rintro e w3⟨rfl,hb3⟩;rw[XT];have h4:(aN.be4 (aN.uk (aN.front l))).length=4:=rfl;go_wp2;go_ret2;refine⟨?_,hb2.trans (hb3.mono hb2.size)⟩;have:=eH (aN.front l) (aN.be4 (aN.uk (aN.front l)));unfold aN.bZ;rw[←this];rfl
def lv30:List UInt8:=[115,110,97,112,115,104,111,116,32,55,10,115,108,97,99,107,32,51,10,105,100,108,101,32,48,10,99,108,111,99,107,32,49,53,10,99,108,111,99]++[107,32,51,32,48,32,48,32,45,49,10,104,97,100,32,49,10,0,116,97,107,101,110,32,48,10,108,97,116,101,32,48,10,103,111,110,101,32,48,10]
theorem MC{x:ay}(h:x.gone=[]):ko x=[]:=(nu (x:=x) (r:=[]) ⟨List.Pairwise.nil,by simp[h]⟩).symm
theorem mY(n:Nat)(h:n<10):Lib.itoa (n:Int)=[UInt8.ofNat (48+n)]:=by unfold Lib.itoa;rw[if_neg (by omega)];show Lib.decDigits n=_;rw[Lib.decDigits,dif_pos h]
theorem VE:Lib.decDigits 15=[49,53]:=by rw[Lib.decDigits,dif_neg (by decide)];show Lib.decDigits 1++_=_;rw[Lib.decDigits,dif_pos (by decide)];rfl
theorem YJ(n:Nat)(h:n<10):Lib.decDigits n=[UInt8.ofNat (48+n)]:=by rw[Lib.decDigits,dif_pos h]
theorem OE:aX (aZ.new 3 0)=[99,108,111,99,107,32,51,32,48,32,48,32,45,49,10]:=by
 show aX ⟨3,0,0,-1,[]⟩=_;unfold aX ah dC fo;have h3:=mY 3 (by decide);have h0:=mY 0 (by decide);have h1:Lib.itoa (-1)=[45,49]:=by unfold Lib.itoa;rw[if_pos (by decide)];show 45::Lib.decDigits 1=_;rw[YJ 1 (by decide)];rfl
 simp only[List.flatMap_cons,List.flatMap_nil];rw[show(3:Int)=((3:Nat):Int)from rfl,show(0:Int)=((0:Nat):Int)from rfl,h3,h0,h1];rfl
theorem R9:jW 7 (ay.new 3 0)=lv30:=by
 unfold jW;rw[MC rfl];show AO 7 3 0 (aX (aZ.new 3 0)) (bV []) [] [] []=_;rw[OE];have hh:bV []=[0]:=by unfold bV;rw[jK (by decide)];rfl
 rw[hh];unfold AO ah dC;have h7:=mY 7 (by decide);have h3:=mY 3 (by decide);have h0:=mY 0 (by decide);have h1:=mY 1 (by decide);have h15:Lib.itoa ((15:Nat):Int)=[49,53]:=by unfold Lib.itoa;rw[if_neg (by omega)];exact VE
 simp only[List.flatMap_cons,List.flatMap_nil,List.length_cons,List.length_nil];rw[show(7:Int)=((7:Nat):Int)from rfl,show(3:Int)=((3:Nat):Int)from rfl,show(0:Int)=((0:Nat):Int)from rfl,show(((0+1+1+1+1+1+1+1+1+1+1+1+1+1+1+1:Nat)):Int)=((15:Nat):Int)from rfl,show((0+1:Nat):Int)=((1:Nat):Int)from rfl,h7,h3,h0,h1,h15];rfl
theorem yz(l:List UInt8)(h:l≠[])(hn:l.length≤65536):aD l=aN.bZ l:=by unfold aD;rw[ui l h,List.take_of_length_le hn,List.drop_eq_nil_of_le hn,Gd];simp[aN.zi]
theorem Eo(w:World)(l:List UInt8)(h:l≠[])(hn:l.length≤65536):Calls Tryz.prog 33 #[.string ⟨l.toArray⟩] w fun e w'=>e=.returned (.string ⟨(aD l).toArray⟩)∧Below w.heap.size w w':=by
 have d1:decide (65536<(l.length:Int))=false:=decide_eq_false (by omega);rw[yz l h hn];have hsl:=aN.eP l;have HR:=qH (uL w l hn);go_enter Tryz.func33,Tryz.ntmps33;go_wp2;go_loopw[0,3](fun tv vb W=>tv=.string ⟨l.toArray⟩∧vb=.string ⟨#[]⟩∧W=w)(fun _ _ _=>0);case atStart=>exact⟨rfl,rfl,rfl⟩
 case round=>
  obtain⟨rfl,rfl,rfl⟩:=hrel;go_wp2_with fail;with_reducible refine HR.o.mono ?_
  rintro r w1⟨rfl,hb1⟩;obtain⟨s,hs⟩: ∃s,s=aN.bZ l:=⟨_,rfl⟩;have bS:=qH hs;rw[←hs]at hsl⊢;clear hs;have HE:=qS ((⟨#[]⟩:ByteArray)++⟨s.toArray⟩=⟨(aN.bZ l).toArray⟩) (by rw[←bS.o];apply ByteArray.ext;simp);have d2: ¬9223372036854775807<s.length:=by omega
  have HB:=qH hb1;clear hb1;go_wp2;go_ret;exact⟨congrArg (fun b=>Ending.returned (.string b)) HE.o,HB.o⟩
theorem pF(w:World)(hmx:bf w)(xB:dV w)(htab:Lib.TabBelow Tryz.prog w.heap.size w "internal/strconv.uint64pow10" .u64 Lib.pow10Tab):Calls Tryz.prog 10 #[] w (Says true w):=by
 have jS:=qH hmx;have JD:=qH xB;have HT:=qH htab;clear hmx xB htab;go_enter Tryz.func10,Tryz.ntmps10;go_wp2_with fail;refine(rJ w 3 0).mono ?_;rintro r w1⟨bi,F1,rfl,hI1,hb1,hF1⟩;have HI1:=qH hI1;have NG:=qS (bY 0 (ay.new 3 0)) (bY.grown (aa:=3) (idle:=0) (ds:=[]) hI1 (Nat.le_refl _));have HB1:=qH hb1;clear hI1 hF1 hb1;go_wp2_with fail;with_reducible refine(iN w1 F1 bi 0 _ HI1.o NG.o (by omega) 7 (by omega) (by omega) (jS.o.up HB1.o) (fe HT.o HB1.o)).mono ?_
 rintro r w2⟨v2,rfl,ho2,hb2⟩;obtain⟨A2,c2,rfl⟩:=ho2.form;have HB2:=qH (HB1.o.trans (hb2.mono HB1.o.size));have dW:=qH ho2;have gJ:=qH ho2.oF;clear hb2 ho2;go_wp2_with fail;with_reducible refine(wh w2 A2 _ c2 _ 7 0 gJ.o NG.o (by omega) (by omega) (by omega) (jS.o.up HB2.o) (JD.o.up HB2.o) (fe HT.o HB2.o)).mono ?_
 rintro r w3⟨b3,F3,rfl,hI3,hb3,hF3⟩;have HB3:=qH (HB2.o.trans (hb3.mono HB2.o.size));have vX:=qH (ax (Below.refl w3.heap.size w3));have bS:=qS (∀W,Below w3.heap.size w3 W→(convert 32 9 (.slice A2 (aD (jW 7 (ay.new 3 0))).length c2)).run Tryz.prog W=.ok (.string ⟨(aD (jW 7 (ay.new 3 0))).toArray⟩) W) (fun W hW=>(((gJ.o.below hb3).more hb3.size).below hW).str (P:=Tryz.prog) 32 5 9 Tryz.underlying32 Tryz.underlying5 Tryz.underlying9);have Ny:=qS (∀W,Calls Tryz.prog 33 #[.string ⟨#[115,110,97,112,115,104,111,116,32,55,10,115,108,97,99,107,32,51,10,105,100,108,101,32,48,10,99,108,111,99,107,32,49,53,10,99,108,111,99,107,32,51,32,48,32,48,32,45,49,10,104,97,100,32,49,10,0,116,97,107,101,110,32,48,10,108,97,116,101,32,48,10,103,111,110,101,32,48,10]⟩] W (fun e w'=>e=.returned (.string ⟨(aD (jW 7 (ay.new 3 0))).toArray⟩)∧Below W.heap.size W w')) (fun W=>by rw[R9];exact Eo W lv30 (by decide) (by decide));generalize aD (jW 7 (ay.new 3 0))=l at*;clear hI3 hb3 hF3 HI1 NG gJ dW jS JD HT HB1 HB2;go_upto_region 6 with fail;go_region_held3(fun W=>(convert 32 9 (.slice A2 l.length c2)).run Tryz.prog W=.ok (.string ⟨l.toArray⟩) W)(first|with_reducible assumption|with_reducible exact bS.o _ vX.o)(first|(go_at_call 33;(with_reducible refine(Ny.o _).mono ?_);rintro r wx⟨rfl,hb⟩;have bR:=qH (vX.o.trans (hb.mono vX.o.size));clear vX;have vX:=bR;clear bR hb));all_goals go_wp2;go_ret;exact⟨rfl,HB3.o.trans (vX.o.mono HB3.o.size)⟩
end Go.Proofs.YtbejfgmdkmddnaaGreatDoor
