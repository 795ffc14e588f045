/-
  Layer 5: a journal's fail, sync.
-/
import Derived.Test.YtajihpcdplpcdaaGreatDoorTEvLen
import Derived.Lib.AppendZeros
import Derived.Deep.DeepCutAuto
import Derived.Test.YtajihpcdplpcdaaGreatDoorTWhole
import Derived.Test.YtajihpcdplpcdaaGreatDoorTJl
import Derived.StillTailTactics
import Derived.Deep.RegionHeld3
set_option maxRecDepth 100000
set_option maxHeartbeats 16000000
namespace Go.Proofs.YtajihpcdplpcdaaGreatDoor
open Go.RowKit Go.Maps Go.Sort
theorem and127(x:Nat)(h:x<4611686018427387904):bits .and .i64 (x:Int) 127=((x%128:Nat):Int):=by
 show IntKind.i64.wrap ((BitVec.ofInt 64 (x:Int)&&&BitVec.ofInt 64 ((127:Nat):Int)).toNat:Int)=_;have e:(BitVec.ofInt 64 (x:Int)&&&BitVec.ofInt 64 ((127:Nat):Int)).toNat=x%128:=by rw[BitVec.toNat_and,BitVec.ofInt_natCast,BitVec.ofInt_natCast,BitVec.toNat_ofNat,BitVec.toNat_ofNat,Nat.mod_eq_of_lt (by omega:x<2^64)];exact Nat.and_two_pow_sub_one_eq_mod x 7
 rw[e];simp[IntKind.wrap,IntKind.bits,IntKind.signed];omega
theorem evnum_any(w:World)(base:Nat)(v:Value)(l:List UInt8)(ho:OwnB w base v l)(hb:base≤w.heap.size)(n:Nat)(hn:n<4611686018427387904)(hl:l.length≤200000000000):Calls Tryz.prog 157 #[v,.int .i64 n] w (PnPost w base v (l++numB n)):=by
 have hn8:=numB_len8 hn;have HST:=qH (show PnRel w base v (l++numB n) v (.int .i64 n) w from⟨n,l,rfl,hn,rfl,ho,Keep.refl _ _,fun b hb=>.inl hb⟩);have hll:(l++numB n).length≤200000000009:=by simp;omega
 generalize l++numB n=L at*;clear ho hn8;go_enter Tryz.func157,Tryz.ntmps157;go_wp2;go_loopw[0,1](fun v' q wr=>PnRel w base v L v' q wr)(fun _ q _=>(intOf q).toNat);case atStart=>exact HST.out
 case round=>
  obtain⟨q,l',rfl,hq,hL,hm⟩:=hrel;have HL:=qH hL;have HM:=qH hm;have hl':l'.length≤200000000009:=by have:=congrArg List.length hL;simp at this;omega
  have hsr:=hm.keep.size;clear hL hm;by_cases hlo:q<128
  ·have t1: ¬(128:Int)≤q:=by omega
   have HB:=qH (show L=l'++[UInt8.ofNat q]by rw[←HL.out,numB_lo hlo]);go_wp2_with(at_builtin;refine wpList_app8 rfl (.tmp 16) (.tmp 19) rfl base _ l' rfl ?c1 (wr.heap.size+1) _ _ _ [UInt8.ofNat q] rfl ?c2 ?c3 ?c4 ?_);case c1=>exact OwnB.alloc HM.out.own _
   case c2=>exact Byt.new wr _ _ [UInt8.ofNat q] (by simp;omega) 1 rfl (by unfold maxLen;omega)
   case c3=>first|omega|(simp;omega)
   case c4=>first|omega|(simp;omega)
   intro v2 w2 ho2 hg2 hv2;have HR:=qH (show PnPost w base v L (.returned v2) w2 from⟨v2,rfl,HM.out.app _ (by rw[HB.out];exact ho2) hg2 hv2⟩);clear ho2 hg2 hv2;go_wp2;go_ret;exact HR.out
  ·have t1:(128:Int)≤q:=by omega
   have HB:=qH (show L=l'++[UInt8.ofNat (q%128+128)]++numB (q/128)by rw[←HL.out,numB_hi hlo];simp);have eo:bits .or .u8 (bits .and .i64 (q:Int) 127%256) 128=((q%128+128:Nat):Int):=by have:=or128 (q%128) (by omega);rw[and127 q (by omega),show(((q%128:Nat):Int))%256=((q%128:Nat):Int)by omega,this];congr 1;omega
   generalize hc:q%128+128=cN at*;have hcl:cN<256:=by omega
   clear hc;go_wp2_with(at_builtin;refine wpList_app8 rfl (.tmp 7) (.tmp 12) rfl base _ l' rfl ?c1 (wr.heap.size+1) _ _ _ [UInt8.ofNat cN] rfl ?c2 ?c3 ?c4 ?_);case c1=>exact OwnB.alloc HM.out.own _
   case c2=>exact Byt.new wr _ _ [UInt8.ofNat cN] (by simp;omega) 1 rfl (by unfold maxLen;omega)
   case c3=>first|omega|(simp;omega)
   case c4=>first|omega|(simp;omega)
   intro v2 w2 ho2 hg2 hv2;have HR:=qH (show PnRel w base v L v2 (.int .i64 ((q/128:Nat):Int)) w2 from⟨q/128,l'++[UInt8.ofNat cN],rfl,by omega,HB.out.symm,HM.out.app _ ho2 hg2 hv2⟩);clear ho2 hg2 hv2 eo;go_wp2;go_roundw;case rel=>exact HR.out
   case measure=>simp[intOf];omega
theorem evtext_any(w:World)(base:Nat)(v:Value)(l:List UInt8)(ho:OwnB w base v l)(hb:base≤w.heap.size)(s:List UInt8)(hs:s.length≤4096)(hl:l.length≤200000000000):Calls Tryz.prog 156 #[v,.string ⟨s.toArray⟩] w (PnPost w base v (l++textB s)):=by
 have HM:=qH (show PnM w base v l v w from⟨ho,Keep.refl _ _,fun b hb=>.inl hb⟩);clear ho;go_enter Tryz.func156,Tryz.ntmps156;go_wp2_with(at_builtin;refine wpList_app8 rfl (.tmp 5) (.tmp 9) rfl base _ l rfl ?c1 (w.heap.size+1) _ _ _ [UInt8.ofNat s.length] rfl ?c2 ?c3 ?c4 ?_);case c1=>exact OwnB.alloc HM.out.own _
 case c2=>exact Byt.new w _ _ [UInt8.ofNat s.length] (by simp) 1 rfl (by unfold maxLen;omega)
 case c3=>first|omega|(simp;omega)
 case c4=>first|omega|(simp;omega)
 intro v5 w5 ho5 hg5 hv5;have HM5:=qH (HM.out.app _ ho5 hg5 hv5);clear ho5 hg5 hv5 HM;have hs5:=HM5.out.keep.size;obtain⟨v6,w6,hr6,ho6,hg6,hv6⟩:=app_str w5 base v5 (l++[UInt8.ofNat s.length]) s HM5.out.own (by simp) (by omega) (by simp;omega) 22;have HR6:=qH hr6;have HM6:=qH (show PnPost w base v (l++textB s) (.returned v6) w6 from⟨v6,rfl,by have:=HM5.out.str ho6 hg6 hv6;rw[List.append_assoc]at this;exact this⟩);clear hr6 ho6 hg6 hv6;go_wp2_with(at_builtin;refine Lib.wpList_append_run _ rfl (.tmp 11) (.tmp 12) _ _ rfl _ _ rfl rfl _ _ HR6.out ?_);go_wp2;go_ret;exact HM6.out
theorem EvIn.keepB{w w':World}{b:Nat}{e:Ev}(h:EvIn w b e)(hb:w'.heap[b]?=w.heap[b]?):EvIn w' b e:=by obtain⟨h0,h1,h2,h3,h4,h5,h6,h7⟩:=h;have key: ∀(o:Nat)u,w.cell? ⟨b,o,none⟩=some u→w'.cell? ⟨b,o,none⟩=some u:=fun o u hu=>(World.cell?_of_block (w:=w) (a:=⟨b,o,none⟩) hb).trans hu;exact⟨key _ _ h0,key _ _ h1,key _ _ h2,key _ _ h3,key _ _ h4,key _ _ h5,key _ _ h6,key _ _ h7⟩
structure EnM(w:World)(be:Nat)(e:Ev)(v:Value)(l:List UInt8)(w':World):Prop where
 own:OwnB w' w.heap.size v l
 ne: ∀b,v.ownBlock=some b→b≠be
 ev:EvIn w' be e
 bel:Below w.heap.size w w'
 lt:be<w'.heap.size
 ge:w.heap.size≤be
theorem EnM.next{w w' w2:World}{be:Nat}{e:Ev}{v v2:Value}{l l2:List UInt8}(h:EnM w be e v l w')(h2:PnM w' w.heap.size v l2 v2 w2):EnM w be e v2 l2 w2:=by
 have hs:=h2.keep.size;have hs0:=h.bel.size;refine⟨h2.own,fun b hb e'=>?_,h.ev.keepB (h2.keep.block be h.lt (fun hb=>h.ne _ hb rfl)),h.bel.trans (h2.keep.below hs0 (fun k hk hv=>by have:=h.own.lt k hv;omega)),by have:=h.lt;omega,h.ge⟩;rcases h2.blk b hb with h'|h';·exact h.ne b h' e'
 ·have:=h.lt;omega
def EncP(w:World)(l:List UInt8)(er:Int)(e:Ending)(w':World):Prop:= ∃v,e=.returned (.tuple #[v,.int .i64 er])∧OwnB w' w.heap.size v l∧Below w.heap.size w w'
theorem evenc_any(w:World)(e:Ev)(hm:mayB e=true)(hmx:MaxAt w):Calls Tryz.prog 120 #[e.agg] w (EncP w (encE e) 0):=by
 have hf:=mayB_fit hm;have HL:=qH hf.len;have hsm:=hf.small;obtain⟨a1,a2,a3,a4,a5,a6,a7,a8,a9,a10,a11,a12⟩:=hf;have hmay:=may_any (w.alloc (evObj e)) e hsm (hmx.up ((Below.refl _ _).alloc (Nat.le_refl _) _));rw[hm]at hmay;have hE:encE e=UInt8.ofNat e.kind.toNat::(textB e.src++numB e.num.toNat++numB e.at_.toNat++textB e.per++textB e.item++numB e.val.toNat++textB e.text):=rfl;have hin:=EvIn.new w e;have hb0:Below w.heap.size w (w.alloc (evObj e)):=(Below.refl _ _).alloc (Nat.le_refl _) _;clear hm hmx hsm;have hagg:e.agg=.agg #[.string ⟨e.src.toArray⟩,.int .i64 e.num,.int .i64 e.at_,.int .i64 e.kind,.string ⟨e.per.toArray⟩,.string ⟨e.item.toArray⟩,.int .i64 e.val,.string ⟨e.text.toArray⟩]:=rfl;have HY:=qH hmay;clear hmay;obtain⟨src,num,at_,kind,per,item,val,text⟩:=e;simp only at*;obtain⟨n,rfl⟩:=Int.eq_ofNat_of_zero_le (show 0≤num by omega);obtain⟨a,rfl⟩:=Int.eq_ofNat_of_zero_le a7;obtain⟨k,rfl⟩:=Int.eq_ofNat_of_zero_le a11;obtain⟨vl,rfl⟩:=Int.eq_ofNat_of_zero_le a9;simp only[Int.toNat_natCast]at hE;obtain⟨L1,hL1⟩: ∃l,l=[UInt8.ofNat k]++textB src:=⟨_,rfl⟩;obtain⟨L2,hL2⟩: ∃l,l=L1++numB n:=⟨_,rfl⟩;obtain⟨L3,hL3⟩: ∃l,l=L2++numB a:=⟨_,rfl⟩;obtain⟨L4,hL4⟩: ∃l,l=L3++textB per:=⟨_,rfl⟩;obtain⟨L5,hL5⟩: ∃l,l=L4++textB item:=⟨_,rfl⟩;obtain⟨L6,hL6⟩: ∃l,l=L5++numB vl:=⟨_,rfl⟩;obtain⟨L7,hL7⟩: ∃l,l=L6++textB text:=⟨_,rfl⟩;have hEL:encE ⟨src,n,a,k,per,item,vl,text⟩=L7:=by rw[hE,hL7,hL6,hL5,hL4,hL3,hL2,hL1];simp
 rw[hEL]at HL⊢;have hlen:=HL.out;have e7:L6.length≤L7.length:=by rw[hL7];simp
 have e6:L5.length≤L6.length:=by rw[hL6];simp
 have e5:L4.length≤L5.length:=by rw[hL5];simp
 have e4:L3.length≤L4.length:=by rw[hL4];simp
 have e3:L2.length≤L3.length:=by rw[hL3];simp
 have e2:L1.length≤L2.length:=by rw[hL2];simp
 have H1:=qH hL1;have H2:=qH hL2;have H3:=qH hL3;have H4:=qH hL4;have H5:=qH hL5;have H6:=qH hL6;have H7:=qH hL7;clear hL1 hL2 hL3 hL4 hL5 hL6 hL7 hE hEL HL;rw[hagg];clear hagg;have HIN:=qH hin;have HB0:=qH hb0;clear hin hb0;go_enter Tryz.func120,Tryz.ntmps120;go_wp2_with fail;refine HY.out.mono ?_;rintro r w1⟨rfl,hb1⟩;have hin1:=HIN.out.below hb1 (by simp);have hbw1:Below w.heap.size w w1:=HB0.out.trans (hb1.mono HB0.out.size);have hs1:w.heap.size+1≤w1.heap.size:=by have:=hb1.size;simpa using this
 have HIN1:=qH hin1;have HBW1:=qH hbw1;obtain⟨f0,f1,f2,f3,f4,f5,f6,f7⟩:=hin1;clear hb1 hbw1 HIN HB0 HY;have hk:(k:Int)%256=(k:Int):=by omega
 have HM:=qH (show EnM w w.heap.size ⟨src,n,a,k,per,item,vl,text⟩ (.slice (some ⟨w1.heap.size,0,none⟩) 1 1) [UInt8.ofNat k] (w1.alloc (.cells #[.int .u8 k] 5))from by
  refine⟨?_,fun b hb e=>?_,HIN1.out.keepB (Below.heap_alloc _ _ _ (by omega)),HBW1.out.alloc HBW1.out.size _,by simp;omega,Nat.le_refl _⟩
  ·have:=World.ownsRow_lit (base:=w.heap.size) (e:=5) (size:=1) w1 #[.int .u8 k] 1 HBW1.out.size (by simp[maxLen]) rfl;unfold OwnB;have e:bvs [UInt8.ofNat k]=[.int .u8 k]:=by simp[bvs];omega
   rw[e];exact this
  ·simp[Value.ownBlock]at hb;omega);obtain⟨g0,_⟩:=HM.out.ev;clear f0 f1 f2 f4 f5 f6 f7 HIN1 HBW1;simp only at f3 g0;go_upto_region 4 with fail;clear f3;generalize w1.alloc (.cells #[.int .u8 k] 5)=w2 at*;clear hs1;go_wp2_with fail;with_reducible refine(evtext_any w2 w.heap.size (.slice (some ⟨w1.heap.size,0,none⟩) 1 1) [UInt8.ofNat k] HM.out.own HM.out.bel.size src (by omega) (by first|omega|simp)).mono ?_
 rintro r w3⟨v3,rfl,hp⟩;rw[←H1.out]at hp;replace HM:=qH (HM.out.next hp);clear hp g0;obtain⟨_,g1,_⟩:=HM.out.ev;simp only at g1;go_wp2_with fail;with_reducible refine(evnum_any w3 w.heap.size v3 L1 HM.out.own HM.out.bel.size n (by omega) (by first|omega|simp)).mono ?_
 rintro r w4⟨v4,rfl,hp⟩;rw[←H2.out]at hp;replace HM:=qH (HM.out.next hp);clear hp g1;obtain⟨_,_,g2,_⟩:=HM.out.ev;simp only at g2;go_wp2_with fail;with_reducible refine(evnum_any w4 w.heap.size v4 L2 HM.out.own HM.out.bel.size a (by omega) (by first|omega|simp)).mono ?_
 rintro r w5⟨v5,rfl,hp⟩;rw[←H3.out]at hp;replace HM:=qH (HM.out.next hp);clear hp g2;obtain⟨_,_,_,_,g4,_⟩:=HM.out.ev;simp only at g4;go_wp2_with fail;with_reducible refine(evtext_any w5 w.heap.size v5 L3 HM.out.own HM.out.bel.size per (by omega) (by first|omega|simp)).mono ?_
 rintro r w6⟨v6,rfl,hp⟩;rw[←H4.out]at hp;replace HM:=qH (HM.out.next hp);clear hp g4;obtain⟨_,_,_,_,_,g5,_⟩:=HM.out.ev;simp only at g5;go_wp2_with fail;with_reducible refine(evtext_any w6 w.heap.size v6 L4 HM.out.own HM.out.bel.size item (by omega) (by first|omega|simp)).mono ?_
 rintro r w7⟨v7,rfl,hp⟩;rw[←H5.out]at hp;replace HM:=qH (HM.out.next hp);clear hp g5;obtain⟨_,_,_,_,_,_,g6,_⟩:=HM.out.ev;simp only at g6;go_wp2_with fail;with_reducible refine(evnum_any w7 w.heap.size v7 L5 HM.out.own HM.out.bel.size vl (by omega) (by first|omega|simp)).mono ?_
 rintro r w8⟨v8,rfl,hp⟩;rw[←H6.out]at hp;replace HM:=qH (HM.out.next hp);clear hp g6;obtain⟨_,_,_,_,_,_,_,g7⟩:=HM.out.ev;simp only at g7;go_wp2_with fail;with_reducible refine(evtext_any w8 w.heap.size v8 L6 HM.out.own HM.out.bel.size text (by omega) (by first|omega|simp)).mono ?_
 rintro r w9⟨v9,rfl,hp⟩;rw[←H7.out]at hp;replace HM:=qH (HM.out.next hp);clear hp g7;obtain⟨A9,c9,hv9⟩:=HM.out.own.form;subst hv9;go_wp2;go_ret2;exact⟨_,rfl,HM.out.own,HM.out.bel⟩
theorem sum_any(w:World)(B:Nat)(A:Option Addr)(n c:Nat)(l:List UInt8)(h:Byt w B A n c l)(hn:n≤1000000):Calls Tryz.prog 154 #[.slice A n c] w fun e w'=>e=.returned (.int .u32 (Frm.asum l))∧w=w':=by
 obtain⟨hl,hcap,hmax,hcell⟩:=h;have HL:=qH hl;clear hl;have HC:=qH hcell;clear hcell;clear hmax;go_enter Tryz.func154,Tryz.ntmps154;go_wp2;go_loop[3,4,9](fun t s i=> ∃k:Nat,k≤n∧i=.int .i64 k∧t=.int .u32 (Frm.ad (l.take k)).1∧s=.int .u32 (Frm.ad (l.take k)).2)(fun _ _ i=>n-(intOf i).toNat);case atStart=>exact⟨0,Nat.zero_le _,rfl,rfl,rfl⟩
 case round=>
  obtain⟨k,hk,rfl,rfl,rfl⟩:=hrel;have hlt:=Frm.ad_lt (l.take k);obtain⟨hlt1,hlt2⟩:=hlt;by_cases hkn:k<n
  ·obtain⟨b,off,rfl,hb,hc⟩:=HC.out (by omega);have hk':k<l.length:=by rw[HL.out];exact hkn
   have hc':=hc k hk';have HA:=qH (Frm.ad_take l k hk');have hb8:(l[k]).toNat<256:=(l[k]).toNat_lt;generalize hx:(l[k]).toNat=x at*;have HX:=qH hx;clear hx hc;generalize h1:(Frm.ad (l.take k)).1=p at*;generalize h2:(Frm.ad (l.take k)).2=q at*;have H1:=qH h1;have H2:=qH h2;clear h1 h2;go_wp2;go_round;case rel=>
    refine⟨k+1,by omega,by go_num,?_,?_⟩;·rw[HA.out];unfold Frm.adStep;rw[H1.out,HX.out];go_num
    ·rw[HA.out];unfold Frm.adStep;rw[H1.out,H2.out,HX.out];go_num
   case measure=>simp[intOf];omega
  ·go_wp2;go_ret;refine⟨ret_int ?_,rfl⟩;have hkk:l.take k=l:=List.take_of_length_le (by rw[HL.out];omega);have hz:=Frm.ad_lt l;rw[hkk];rw[show(((Frm.ad l).2:Int)*65536)=(((Frm.ad l).2*65536:Nat):Int)by omega,u32_or_nat _ _ (by omega) (by omega),nat_join16 _ _ (by omega) (by omega)];rfl
def SealPost(w:World)(l:List UInt8)(e:Ending)(w':World):Prop:= ∃v,e=.returned (.tuple #[v,.int .i64 0])∧OwnB w' w.heap.size v (Frm.sealB l)∧Below w.heap.size w w'
theorem seal_any(w:World)(A:Option Addr)(n c:Nat)(l:List UInt8)(h:Byt w w.heap.size A n c l)(hn:n≤65536):Calls Tryz.prog 121 #[.slice A n c] w (SealPost w l):=by
 have HH:=qH h;clear h;obtain⟨i0,hi,hz0,hz1,hz2⟩:=info_parts u8_info;go_enter Tryz.func121,Tryz.ntmps121;go_wp2_with(at_make;refine wpList_make_own _ rfl _ _ 22 rfl w.heap.size 5 i0 (.int .u8 0) 1 Tryz.underlying22 hi hz0 hz1 _ _ _ (6+n+4) rfl rfl ?c1 ?c2 ?c3 (Nat.le_refl _) ?_);case c1=>omega
 case c2=>rw[hz2];omega
 case c3=>unfold maxLen;omega
 intro w1 hown1 hg1;have hsz:w.heap.size+1≤w1.heap.size:=(hown1.lt _ rfl).2;have HO1:=qH hown1;clear hown1;have HG1:=qH hg1;clear hg1;clear hi hz0 hz1 hz2;go_wp2_with(at_builtin;refine wpList_app8 rfl (.tmp 26) (.tmp 36) rfl w.heap.size _ [] rfl ?c1 (w1.heap.size+1) _ _ _ (Frm.be3 n++(Frm.be3 n).map (255- ·)) rfl ?c2 ?c3 ?c4 ?_);case c1=>exact OwnB.alloc (l:=[]) HO1.out _
 case c2=>exact Byt.new w1 _ _ _ (by simp[Frm.be3,Frm.u8_toNat,Frm.sub255];omega) 6 rfl (by unfold maxLen;omega)
 case c3=>simp
 case c4=>simp;omega
 intro v2 w2 hown2 hg2 _;have hb1:Below w.heap.size w w1:=Below.grown (Below.refl _ _) HG1.out (Nat.le_refl _) (by simp);have hb2:Below w.heap.size w w2:=Below.grown (hb1.alloc (by omega) _) hg2 (by simp;omega) (by intro k hk;simp[Value.ownBlock]at hk;omega);have HO2:=qH hown2;clear hown2 hg2;have hs2:=hb2.size;go_wp2_with(at_builtin;refine wpList_app8 rfl (.tmp 38) (.tmp 39) rfl w.heap.size _ _ rfl HO2.out w.heap.size _ _ _ l rfl (HH.out.below hb2) ?c3 hs2 ?_);case c3=>simp[Frm.be3];omega
 intro v3 w3 hown3 hg3 _;have hb3:Below w.heap.size w w3:=Below.grown hb2 hg3 hs2 HO2.out.lt;have hs3:=hb3.size;have hf:Frm.be3 n++((Frm.be3 n).map (255- ·)++l)=Frm.front l:=by unfold Frm.front;rw[HH.out.len,List.append_assoc]
 rw[hf]at hown3;obtain⟨A3,c3,hv3⟩:=hown3.form;have hl3:(Frm.front l).length=n+6:=by rw[Frm.front_length,HH.out.len]
 rw[hl3]at hv3;rw[hv3]at hown3⊢;have HO3:=qH hown3;clear hown3 hg3 hf hl3 hv3 HO2 hs2;have hlt:=Frm.asum_lt (Frm.front l);have hfl:=Frm.front_length l;have hll:=HH.out.len;have HFL:=qH hfl;have HLL:=qH hll;clear hfl hll;go_wp2_with fail;refine(sum_any w3 _ A3 (n+6) c3 (Frm.front l) HO3.out.byt (by omega)).mono ?_;rintro e w'⟨rfl,rfl⟩;generalize hs:Frm.asum (Frm.front l)=s at*;have HS:=qH hs;clear hs;go_wp2_with(at_builtin;refine wpList_app8 rfl (.tmp 43) (.tmp 55) rfl w.heap.size _ (Frm.front l) rfl ?c1 (w3.heap.size+1) _ _ _ (Frm.be4 s) rfl ?c2 ?c3 ?c4 ?_);case c1=>exact OwnB.alloc HO3.out _
 case c2=>exact Byt.new w3 _ _ _ (by simp[Frm.be4,Frm.u8_toNat];omega) 4 rfl (by unfold maxLen;omega)
 case c3=>rw[HFL.out,HLL.out];omega
 case c4=>simp;omega
 intro v4 w4 hown4 hg4 _;have hb4:Below w.heap.size w w4:=Below.grown (hb3.alloc hs3 _) hg4 (by simp;omega) HO3.out.lt;clear hg4;go_wp2;go_ret2;refine⟨v4,rfl,?_,hb4⟩;unfold Frm.sealB;rw[HS.out];exact hown4
def FilePostJ(w:World)(s:List UInt8)(e:Ending)(w':World):Prop:=e=.returned (.string ⟨s.toArray⟩)∧ ∃q,w'=w.drewN q
theorem jlfile_any(w:World)(bj:Nat)(s:List UInt8)(hc:w.cell? ⟨bj,1,none⟩=some (.string ⟨s.toArray⟩))(hs:s.length≤1000000)(k:Nat)(hk:k<100):Calls Tryz.prog 37 #[.pointer (some ⟨bj,0,none⟩),.int .i64 k] w (FilePostJ w (segF s k)):=by
 have HS:=qH (show(⟨s.toArray⟩:ByteArray)++⟨#[46]⟩++⟨(Lib.decDigits k).toArray⟩=⟨(segF s k).toArray⟩by have e:(⟨#[46]⟩:ByteArray)=⟨[(46:UInt8)].toArray⟩:=rfl;rw[e,str_app,str_app];simp[segF]);have t1: ¬9223372036854775807<s.length+1:=by omega
 have hd2:=(digits_two hk).2;have t2: ¬9223372036854775807<s.length+1+(Lib.decDigits k).length:=by omega
 go_enter Tryz.func37,Tryz.ntmps37;go_wp2;go_still_tail 8,(by kernel_rfl);still_call(Tryz.strconv_Itoa_small k hk _);repeat still_step
 refine wpStill_nil ?_;change wpList _ _ _ _ _ (w.drewN 1);go_wp2;go_ret;exact⟨congrArg (fun b=>Ending.returned (.string b)) HS.out,1,rfl⟩
abbrev entObj(x:Option Ev):Obj:=.cells #[.string ⟨(entE x).src.toArray⟩,.int .i64 (entE x).num,.int .i64 (entE x).at_,.int .i64 (entE x).kind,.string ⟨(entE x).per.toArray⟩,.string ⟨(entE x).item.toArray⟩,.int .i64 (entE x).val,.string ⟨(entE x).text.toArray⟩,.bool x.isNone] 110
def EntIn(w:World)(b:Nat)(x:Option Ev):Prop:=w.cell? ⟨b,0,none⟩=some (.string ⟨(entE x).src.toArray⟩)∧w.cell? ⟨b,1,none⟩=some (.int .i64 (entE x).num)∧w.cell? ⟨b,2,none⟩=some (.int .i64 (entE x).at_)∧w.cell? ⟨b,3,none⟩=some (.int .i64 (entE x).kind)∧w.cell? ⟨b,4,none⟩=some (.string ⟨(entE x).per.toArray⟩)∧w.cell? ⟨b,5,none⟩=some (.string ⟨(entE x).item.toArray⟩)∧w.cell? ⟨b,6,none⟩=some (.int .i64 (entE x).val)∧w.cell? ⟨b,7,none⟩=some (.string ⟨(entE x).text.toArray⟩)∧w.cell? ⟨b,8,none⟩=some (.bool x.isNone)
theorem EntIn.new(w:World)(x:Option Ev):EntIn (w.alloc (entObj x)) w.heap.size x:=by have key: ∀o,(w.alloc (entObj x)).cell? ⟨w.heap.size,o,none⟩=_:=fun o=>cell_of_row _ w.heap.size o _ _ (0,0) (heap_alloc_new w (entObj x));exact⟨(key 0).trans rfl,(key 1).trans rfl,(key 2).trans rfl,(key 3).trans rfl,(key 4).trans rfl,(key 5).trans rfl,(key 6).trans rfl,(key 7).trans rfl,(key 8).trans rfl⟩
theorem EntIn.keepB{w w':World}{b:Nat}{x:Option Ev}(h:EntIn w b x)(hb:w'.heap[b]?=w.heap[b]?):EntIn w' b x:=by obtain⟨h0,h1,h2,h3,h4,h5,h6,h7,h8⟩:=h;have key: ∀(o:Nat)u,w.cell? ⟨b,o,none⟩=some u→w'.cell? ⟨b,o,none⟩=some u:=fun o u hu=>(World.cell?_of_block (w:=w) (a:=⟨b,o,none⟩) hb).trans hu;exact⟨key _ _ h0,key _ _ h1,key _ _ h2,key _ _ h3,key _ _ h4,key _ _ h5,key _ _ h6,key _ _ h7,key _ _ h8⟩
def SealP(w:World)(l:List UInt8)(e:Ending)(w':World):Prop:= ∃v,e=.returned v∧OwnB w' w.heap.size v l∧Below w.heap.size w w'
theorem jseal_any(w:World)(x:Option Ev)(hx: ∀e,x=some e→mayB e=true)(hmx:MaxAt w):Calls Tryz.prog 77 #[entAgg x] w (SealP w (sealE x)):=by
 have HMX:=qH hmx;clear hmx;have hb0:Below w.heap.size w (w.alloc (entObj x)):=(Below.refl _ _).alloc (Nat.le_refl _) _;obtain⟨f0,f1,f2,f3,f4,f5,f6,f7,f8⟩:=EntIn.new w x;have HX:=qH hx;have HB0:=qH hb0;clear hx hb0;cases hxn:x.isNone
 ·obtain⟨e,rfl⟩: ∃e,x=some e:=by cases x with|none=>simp at hxn|some e=>exact⟨e,rfl⟩
  have hm:=HX.out e rfl;have HE:=qH (show Frm.sealB (encE e)=sealE (some e)from rfl);have hel:=(mayB_fit hm).len;have HEN:=qH (evenc_any (w.alloc (entObj (some e))) e hm (HMX.out.up HB0.out));have hagg:e.agg=.agg #[.string ⟨e.src.toArray⟩,.int .i64 e.num,.int .i64 e.at_,.int .i64 e.kind,.string ⟨e.per.toArray⟩,.string ⟨e.item.toArray⟩,.int .i64 e.val,.string ⟨e.text.toArray⟩]:=rfl;rw[hagg]at HEN;simp only[entE,Option.getD_some]at*;rw[hxn]at f8;clear hagg hm HX;go_enter Tryz.func77,Tryz.ntmps77;go_wp2_with fail;refine HEN.out.mono ?_;rintro r w1⟨v1,rfl,ho1,hb1⟩;have hbw1:Below w.heap.size w w1:=HB0.out.trans (hb1.mono HB0.out.size);obtain⟨A1,c1,hv1⟩:=ho1.form;subst hv1;have hby:=ho1.byt;have HBY:=qH hby;clear f0 f1 f2 f3 f4 f5 f6 f7 f8 hby ho1 hb1 HEN;go_wp2_with fail;with_reducible refine(seal_any w1 A1 _ c1 (encE e) HBY.out (by omega)).mono ?_
  rintro r w2⟨v2,rfl,ho2,hb2⟩;have HR:=qH (show SealP w (sealE (some e)) (.returned v2) w2 from⟨v2,rfl,by rw[←HE.out];exact ho2.base_le hbw1.size,hbw1.trans (hb2.mono hbw1.size)⟩);clear ho2 hb2;go_wp2;go_ret;exact HR.out
 ·obtain rfl:x=none:=by cases x with|none=>rfl|some e=>simp at hxn
  have HE:=qH (show Frm.sealB []=sealE none from rfl);rw[hxn]at f8;go_enter Tryz.func77,Tryz.ntmps77;clear f0 f1 f2 f3 f4 f5 f6 f7;go_wp2_with fail;refine(seal_any (w.alloc (entObj none)) none 0 0 [] (Byt.nil _ _ _ _ (by unfold maxLen;omega)) (by omega)).mono ?_;rintro r w2⟨v2,rfl,ho2,hb2⟩;have HR:=qH (show SealP w (sealE none) (.returned v2) w2 from⟨v2,rfl,by rw[←HE.out];exact ho2.base_le HB0.out.size,HB0.out.trans (hb2.mono HB0.out.size)⟩);clear ho2 hb2;go_wp2;go_ret;exact HR.out
section
variable{w w':World}{G F:Nat→Prop}{bj bd:Nat}{v:Value}{j:Jl}
theorem JlAt.ng(h:JlAt w G F bj bd v j): ¬G bj:=h.ap _ h.fj
theorem JlAt.disk{d':Dk}(h:JlAt w G F bj bd v j)(hd:DkD w G bd d' w'): ∃G',JlAt w' G' F bj bd v {j with dk:=d'}∧(∀b,G' b→G b∨w.heap.size≤b)∧Keep G w w':=by obtain⟨G',hi,hG,hk⟩:=hd;have hlt:=h.lt;refine⟨G',h.head hi hG ?_ rfl hk.size (fun b hb _=>hk.block b (hlt b hb) (h.ap b hb)),hG,hk⟩;exact(hk.block bj (hlt _ h.fj) h.ng).trans h.blk
theorem JlAt.setc{o:Nat}{u:Value}{j':Jl}(h:JlAt w G F bj bd v j)(hd:j'.dk=j.dk)(he:j'.es=j.es)(hb:(w.setCell ⟨bj,o,none⟩ u).heap[bj]?=some (jlObj bd v j')):JlAt (w.setCell ⟨bj,o,none⟩ u) G F bj bd v j':=by have hk: ∀b,b≠bj→(w.setCell ⟨bj,o,none⟩ u).heap[b]?=w.heap[b]?:=fun b hb=>Below.heap_setCell _ _ _ _ hb;exact h.head (hd▸h.dk.keep (by simp[World.setCell]) (fun b hb=>hk b (fun e=>h.ng (e▸hb)))) (fun b hb=>.inl hb) hb he (by simp[World.setCell]) (fun b _ hne=>hk b hne)
end
def JlPost(w:World)(G F:Nat→Prop)(bj bd:Nat)(j':Jl)(er:Int)(e:Ending)(w':World):Prop:=e=.returned (.int .i64 er)∧JlD w G F bj bd j' w'
theorem jlfail_any(w:World)(bj:Nat)(u:Value)(hc:w.cell? ⟨bj,6,none⟩=some u)(hf:w.frozen? ⟨bj,6,none⟩=false)(er:Int):Calls Tryz.prog 78 #[.pointer (some ⟨bj,0,none⟩),.int .i64 er] w fun e w'=>e=.returned (.int .i64 er)∧w'=w.setCell ⟨bj,6,none⟩ (.int .i64 er):=by go_enter Tryz.func78,Tryz.ntmps78;go_wp2;go_ret;exact⟨rfl,rfl⟩
theorem jlsync_any(w:World)(G F:Nat→Prop)(bj bd:Nat)(j:Jl)(h:JlIn w G F bj bd j)(hn:j.files≤99):Calls Tryz.prog 75 #[.pointer (some ⟨bj,0,none⟩)] w (JlPost w G F bj bd j.sync j.syncE):=by
 have HI:=qH h;obtain⟨ho,v,h⟩:=h;obtain⟨c0,c1,c2,c3,c4,c5,c6⟩:=h.cells;have HH:=qH h;have HO:=qH ho;have hnm:=ho.nm;clear h ho c2 c4 c5 c6;by_cases h0:j.files=0
 ·have HR:=qH (show JlPost w G F bj bd j.sync j.syncE (.returned (.int .i64 0)) w from by
   have e1:j.sync=j:=by unfold Jl.sync;rw[if_pos h0]
   have e2:j.syncE=0:=by unfold Jl.syncE;rw[if_pos h0]
   rw[e1,e2];exact⟨rfl,JlD.refl HI.out⟩);rw[h0]at c3;go_enter Tryz.func75,Tryz.ntmps75;go_wp2;go_ret;exact HR.out
 ·obtain⟨m,hm⟩: ∃m,j.files=m+1:=⟨j.files-1,by omega⟩;have hlast:j.last=segF j.name m:=by unfold Jl.last;rw[hm];rfl
  have HS:=qH (show j.sync=(if j.dk.syncE (segF j.name m)≠0 then{j with dk:=j.dk.sync (segF j.name m),stuck:=j.dk.syncE (segF j.name m)}else{j with dk:=j.dk.sync (segF j.name m),lasts:=j.es.length})by unfold Jl.sync;rw[if_neg h0,hlast]);have HE:=qH (show j.syncE=j.dk.syncE (segF j.name m)by unfold Jl.syncE;rw[if_neg h0,hlast]);have hm2:m<100:=by omega
  have hsl:=(segF_len j.name hm2).2;rw[show((j.files:Nat):Int)=(m:Int)+1 by omega]at c3;clear hlast h0 hn;have t1:((m:Int)+1==0)=false:=by simp;omega
  have HDS:=qH (show∀q,Calls Tryz.prog 40 #[.pointer (some ⟨bd,0,none⟩),.string ⟨(segF j.name m).toArray⟩] (w.drewN q) (DkPost (w.drewN q) G bd (j.dk.sync (segF j.name m)) (j.dk.syncE (segF j.name m)))from fun q=>dksync_any (w.drewN q) G bd j.dk (HH.out.dk.up (below_drewN (Below.refl _ _) q)) _ (by omega));have HJ:=qH (show∀q w3,DkD (w.drewN q) G bd (j.dk.sync (segF j.name m)) w3→ ∃G',JlAt w3 G' F bj bd v {j with dk:=j.dk.sync (segF j.name m)}∧(∀b,G' b→G b∨w.heap.size≤b)∧Keep G w w3 from fun q w3 hd=>by obtain⟨G',a,b,c⟩:=(HH.out.up (below_drewN (Below.refl _ _) q)).disk hd;exact⟨G',a,b,⟨c.os,c.tape,c.output,c.size,c.block⟩⟩);have HSS:=qH (show∀q w3,DkD (w.drewN q) G bd (j.dk.sync (segF j.name m)) w3→w3.cell? ⟨bj,0,none⟩=some (.pointer (some ⟨bd,0,none⟩))∧w3.cell? ⟨bj,3,none⟩=some (.int .i64 ((m:Int)+1))from fun q w3 hd=>by
   obtain⟨G',a,_,_⟩:=HJ.out q w3 hd;have hc:=a.cells;have e:((j.files:Nat):Int)=(m:Int)+1:=by omega
   exact⟨hc.1,by rw[←e];exact hc.2.2.2.1⟩);clear hm;have HFL:=qH (show∀W,W.cell? ⟨bj,1,none⟩=some (.string ⟨j.name.toArray⟩)→Calls Tryz.prog 37 #[.pointer (some ⟨bj,0,none⟩),.int .i64 (IntKind.i64.wrap (m:Int))] W (FilePostJ W (segF j.name m))from fun W hW=>by rw[show IntKind.i64.wrap (m:Int)=(m:Int)by rw[IntKind.wrap_i64];omega];exact jlfile_any W bj j.name hW (by omega) m hm2);go_enter Tryz.func75,Tryz.ntmps75;go_wp2;go_region_held3(fun W=>W.cell? ⟨bj,0,none⟩=some (.pointer (some ⟨bd,0,none⟩))∧W.cell? ⟨bj,3,none⟩=some (.int .i64 ((m:Int)+1)))(first|assumption|go_keep)(first|(go_at_call 37;(with_reducible refine(HFL.out _ ?_).mono ?_);(first|assumption|exact c1);rintro r9 w2⟨rfl,q,rfl⟩)|(go_at_call 40;(with_reducible refine(HDS.out _).mono ?_);rintro r9 w3⟨rfl,hd3⟩;have hS:=HSS.out _ _ hd3;have HD3:=qH hd3;clear hd3));obtain⟨G3,hj3,hG3,hk3⟩:=HJ.out _ _ HD3.out;have HJ3:=qH hj3;have HG3:=qH hG3;have HK3:=qH hk3;obtain⟨d0,d1,d2,d3,d4,d5,d6⟩:=hj3.cells;have d5f:=hj3.frozen 5;have d6f:=hj3.frozen 6;obtain⟨A,cp,hv⟩:=ownsRow_form hj3.own;clear hj3 hG3 hk3 HD3 HDS HFL HJ HSS hS c0 c1 c3 t1;by_cases hE0:j.dk.syncE (segF j.name m)=0
  ·have HR:=qH (show JlPost w G F bj bd j.sync j.syncE (.returned (.int .i64 0)) (w3.setCell ⟨bj,5,none⟩ (.int .i64 j.es.length))from by
    rw[HS.out,HE.out,hE0,if_neg (by simp)];refine⟨rfl,G3,F,⟨?_,v,HJ3.out.setc rfl rfl ?_⟩,HG3.out,fun _ h=>.inl h,(HK3.out.mono (fun b _ h=>.inl h)).setCell (p:=⟨bj,5,none⟩) (fun _=>.inr HH.out.fj) _⟩;·exact⟨HO.out.per1,HO.out.per2,HO.out.nm,HO.out.num,HO.out.fl,Nat.le_refl _,HO.out.may⟩
    ·rw[heap_set_row HJ3.out.blk];rfl);rw[hv]at d4;rw[hE0];clear d0 d1 d2 d3 d6 d6f hE0 hv;go_wp2;go_ret;exact HR.out
  ·have HR:=qH (show JlPost w G F bj bd j.sync j.syncE (.returned (.int .i64 (j.dk.syncE (segF j.name m)))) (w3.setCell ⟨bj,6,none⟩ (.int .i64 (j.dk.syncE (segF j.name m))))from by
    rw[HS.out,HE.out,if_pos hE0];refine⟨rfl,G3,F,⟨?_,v,HJ3.out.setc rfl rfl ?_⟩,HG3.out,fun _ h=>.inl h,(HK3.out.mono (fun b _ h=>.inl h)).setCell (p:=⟨bj,6,none⟩) (fun _=>.inr HH.out.fj) _⟩;·exact⟨HO.out.per1,HO.out.per2,HO.out.nm,HO.out.num,HO.out.fl,HO.out.las,HO.out.may⟩
    ·rw[heap_set_row HJ3.out.blk];rfl);clear d0 d1 d2 d3 d4 d5 d5f hv;generalize j.dk.syncE (segF j.name m)=er at*;go_wp2_with fail;with_reducible refine(jlfail_any w3 bj _ d6 d6f er).mono ?_
   rintro r w4⟨rfl,rfl⟩;go_wp2;go_ret;exact HR.out
end Go.Proofs.YtajihpcdplpcdaaGreatDoor
