/-
  Layer 30: the text of an intake's parts: its lines.
-/
import Derived.Test.YtbejfgmdkmddnaaGreatDoorVSnPlain
set_option maxRecDepth 100000
set_option maxHeartbeats 16000000
namespace Go.Proofs.YtbejfgmdkmddnaaGreatDoor
open Go.RowKit Go.Maps Go.Sort
theorem and127(x:Nat)(h:x<4611686018427387904):bits .and .i64 (x:Int) 127=((x%128:Nat):Int):=by
 show IntKind.i64.wrap ((BitVec.ofInt 64 (x:Int)&&&BitVec.ofInt 64 ((127:Nat):Int)).toNat:Int)=_;have e:(BitVec.ofInt 64 (x:Int)&&&BitVec.ofInt 64 ((127:Nat):Int)).toNat=x%128:=by rw[BitVec.toNat_and,BitVec.ofInt_natCast,BitVec.ofInt_natCast,BitVec.toNat_ofNat,BitVec.toNat_ofNat,Nat.mod_eq_of_lt (by omega:x<2^64)];exact Nat.and_two_pow_sub_one_eq_mod x 7
 rw[e];simp[IntKind.wrap,IntKind.bits,IntKind.signed];omega
theorem vC(w:World)(base:Nat)(v:Value)(l:List UInt8)(ho:aK w base v l)(hb:base≤w.heap.size)(n:Nat)(hn:n<4611686018427387904)(hl:l.length≤200000000000):Calls Tryz.prog 154 #[v,.int .i64 n] w (vP w base v (l++aJ n)):=by
 have hn8:=uT hn;have HST:=qS (BI w base v (l++aJ n) v (.int .i64 n) w) (⟨n,l,rfl,hn,rfl,ho,ak.refl _ _,fun b hb=>.inl hb⟩);have hll:(l++aJ n).length≤200000000009:=by simp;omega
 generalize l++aJ n=L at*;clear ho hn8;go_enter Tryz.func154,Tryz.ntmps154;go_wp2;go_loopw[0,1](fun v' q wr=>BI w base v L v' q wr)(fun _ q _=>(intOf q).toNat);case atStart=>exact HST.o
 case round=>
  obtain⟨q,l',rfl,hq,hL,hm⟩:=hrel;have HL:=qH hL;have HM:=qH hm;have hl':l'.length≤200000000009:=by have:=congrArg List.length hL;simp at this;omega
  have zW:=hm.keep.size;clear hL hm;by_cases hlo:q<128
  ·have t1: ¬(128:Int)≤q:=by omega
   have HB:=qS (L=l'++[UInt8.ofNat q]) (by rw[←HL.o,jK hlo]);go_wp2_with(at_builtin;refine aG rfl (.tmp 16) (.tmp 19) rfl base _ l' rfl ?c1 (wr.heap.size+1) _ _ _ [UInt8.ofNat q] rfl ?c2 ?c3 ?c4 ?_);case c1=>exact aK.alloc HM.o.own _
   case c2=>exact bU.new wr _ _ [UInt8.ofNat q] (by simp;omega) 1 rfl (by unfold maxLen;omega)
   case c3=>first|omega|(simp;omega)
   case c4=>first|omega|(simp;omega)
   intro v2 w2 ho2 hg2 hv2;have HR:=qS (vP w base v L (.returned v2) w2) (⟨v2,rfl,HM.o.app _ (by rw[HB.o];exact ho2) hg2 hv2⟩);clear ho2 hg2 hv2;go_wp2;go_ret;exact HR.o
  ·have t1:(128:Int)≤q:=by omega
   have HB:=qS (L=l'++[UInt8.ofNat (q%128+128)]++aJ (q/128)) (by rw[←HL.o,ma hlo];simp);have eo:bits .or .u8 (bits .and .i64 (q:Int) 127%256) 128=((q%128+128:Nat):Int):=by have:=or128 (q%128) (by omega);rw[and127 q (by omega),show(((q%128:Nat):Int))%256=((q%128:Nat):Int)by omega,this];congr 1;omega
   generalize hc:q%128+128=cN at*;have hcl:cN<256:=by omega
   clear hc;go_wp2_with(at_builtin;refine aG rfl (.tmp 7) (.tmp 12) rfl base _ l' rfl ?c1 (wr.heap.size+1) _ _ _ [UInt8.ofNat cN] rfl ?c2 ?c3 ?c4 ?_);case c1=>exact aK.alloc HM.o.own _
   case c2=>exact bU.new wr _ _ [UInt8.ofNat cN] (by simp;omega) 1 rfl (by unfold maxLen;omega)
   case c3=>first|omega|(simp;omega)
   case c4=>first|omega|(simp;omega)
   intro v2 w2 ho2 hg2 hv2;have HR:=qS (BI w base v L v2 (.int .i64 ((q/128:Nat):Int)) w2) (⟨q/128,l'++[UInt8.ofNat cN],rfl,by omega,HB.o.symm,HM.o.app _ ho2 hg2 hv2⟩);clear ho2 hg2 hv2 eo;go_wp2;go_roundw;case rel=>exact HR.o
   case measure=>simp[intOf];omega
theorem nX(w:World)(base:Nat)(v:Value)(l:List UInt8)(ho:aK w base v l)(hb:base≤w.heap.size)(s:List UInt8)(hs:s.length≤4096)(hl:l.length≤200000000000):Calls Tryz.prog 153 #[v,.string ⟨s.toArray⟩] w (vP w base v (l++aR s)):=by
 have HM:=qS (BJ w base v l v w) (⟨ho,ak.refl _ _,fun b hb=>.inl hb⟩);clear ho;go_enter Tryz.func153,Tryz.ntmps153;go_wp2_with(at_builtin;refine aG rfl (.tmp 5) (.tmp 9) rfl base _ l rfl ?c1 (w.heap.size+1) _ _ _ [UInt8.ofNat s.length] rfl ?c2 ?c3 ?c4 ?_);case c1=>exact aK.alloc HM.o.own _
 case c2=>exact bU.new w _ _ [UInt8.ofNat s.length] (by simp) 1 rfl (by unfold maxLen;omega)
 case c3=>first|omega|(simp;omega)
 case c4=>first|omega|(simp;omega)
 intro v5 w5 ho5 hg5 hv5;have UG:=qH (HM.o.app _ ho5 hg5 hv5);clear ho5 hg5 hv5 HM;have hs5:=UG.o.keep.size;obtain⟨v6,w6,hr6,ho6,hg6,hv6⟩:=CX w5 base v5 (l++[UInt8.ofNat s.length]) s UG.o.own (by simp) (by omega) (by simp;omega) 32;have TA:=qH hr6;have Dx:=qS (vP w base v (l++aR s) (.returned v6) w6) (⟨v6,rfl,by have:=UG.o.str ho6 hg6 hv6;rw[List.append_assoc]at this;exact this⟩);clear hr6 ho6 hg6 hv6;go_wp2_with(at_builtin;refine Lib.wpList_append_run _ rfl (.tmp 11) (.tmp 12) _ _ rfl _ _ rfl rfl _ _ TA.o ?_);go_wp2;go_ret;exact Dx.o
theorem dO.bT{w w':World}{b:Nat}{e:Ev}(h:dO w b e)(hb:w'.heap[b]?=w.heap[b]?):dO w' b e:=by obtain⟨h0,h1,h2,h3,h4,h5,h6,h7⟩:=h;have key: ∀(o:Nat)u,w.cell? ⟨b,o,none⟩=some u→w'.cell? ⟨b,o,none⟩=some u:=fun o u hu=>(World.cell?_of_block (w:=w) (a:=⟨b,o,none⟩) hb).trans hu;exact⟨key _ _ h0,key _ _ h1,key _ _ h2,key _ _ h3,key _ _ h4,key _ _ h5,key _ _ h6,key _ _ h7⟩
structure NH(w:World)(be:Nat)(e:Ev)(v:Value)(l:List UInt8)(w':World):Prop where
 own:aK w' w.heap.size v l
 ne: ∀b,v.ownBlock=some b→b≠be
 ev:dO w' be e
 bN:Below w.heap.size w w'
 lt:be<w'.heap.size
 ge:w.heap.size≤be
theorem NH.next{w w' w2:World}{be:Nat}{e:Ev}{v v2:Value}{l l2:List UInt8}(h:NH w be e v l w')(h2:BJ w' w.heap.size v l2 v2 w2):NH w be e v2 l2 w2:=by
 have hs:=h2.keep.size;have hs0:=h.bN.size;refine⟨h2.own,fun b hb e'=>?_,h.ev.bT (h2.keep.block be h.lt (fun hb=>h.ne _ hb rfl)),h.bN.trans (h2.keep.below hs0 (fun k hk hv=>by have:=h.own.lt k hv;omega)),by have:=h.lt;omega,h.ge⟩;rcases h2.blk b hb with h'|h';·exact h.ne b h' e'
 ·have:=h.lt;omega
def abo(w:World)(l:List UInt8)(er:Int)(e:Ending)(w':World):Prop:= ∃v,e=.returned (.tuple #[v,.int .i64 er])∧aK w' w.heap.size v l∧Below w.heap.size w w'
theorem MI(w:World)(e:Ev)(hm:bA e=true)(hmx:bf w):Calls Tryz.prog 95 #[e.agg] w (abo w (ik e) 0):=by
 have hf:=kY hm;have HL:=qH hf.len;have hsm:=hf.small;obtain⟨a1,a2,a3,a4,a5,a6,a7,a8,a9,a10,a11,a12⟩:=hf;have nV:=tH (w.alloc (ai e)) e hsm (hmx.up ((Below.refl _ _).alloc (Nat.le_refl _) _));rw[hm]at nV;have hE:ik e=UInt8.ofNat e.kind.toNat::(aR e.src++aJ e.num.toNat++aJ e.at_.toNat++aR e.per++aR e.item++aJ e.val.toNat++aR e.text):=rfl;have hin:=dO.new w e;have hb0:Below w.heap.size w (w.alloc (ai e)):=(Below.refl _ _).alloc (Nat.le_refl _) _;clear hm hmx hsm;have hagg:e.agg=.agg #[.string ⟨e.src.toArray⟩,.int .i64 e.num,.int .i64 e.at_,.int .i64 e.kind,.string ⟨e.per.toArray⟩,.string ⟨e.item.toArray⟩,.int .i64 e.val,.string ⟨e.text.toArray⟩]:=rfl;have HY:=qH nV;clear nV;obtain⟨src,num,at_,kind,per,item,val,text⟩:=e;simp only at*;obtain⟨n,rfl⟩:=Int.eq_ofNat_of_zero_le (show 0≤num by omega);obtain⟨a,rfl⟩:=Int.eq_ofNat_of_zero_le a7;obtain⟨k,rfl⟩:=Int.eq_ofNat_of_zero_le a11;obtain⟨vl,rfl⟩:=Int.eq_ofNat_of_zero_le a9;simp only[Int.toNat_natCast]at hE;obtain⟨L1,hL1⟩: ∃l,l=[UInt8.ofNat k]++aR src:=⟨_,rfl⟩;obtain⟨L2,hL2⟩: ∃l,l=L1++aJ n:=⟨_,rfl⟩;obtain⟨L3,hL3⟩: ∃l,l=L2++aJ a:=⟨_,rfl⟩;obtain⟨L4,hL4⟩: ∃l,l=L3++aR per:=⟨_,rfl⟩;obtain⟨L5,hL5⟩: ∃l,l=L4++aR item:=⟨_,rfl⟩;obtain⟨L6,hL6⟩: ∃l,l=L5++aJ vl:=⟨_,rfl⟩;obtain⟨L7,hL7⟩: ∃l,l=L6++aR text:=⟨_,rfl⟩;have YD:ik ⟨src,n,a,k,per,item,vl,text⟩=L7:=by rw[hE,hL7,hL6,hL5,hL4,hL3,hL2,hL1];simp
 rw[YD]at HL⊢;have hlen:=HL.o;have e7:L6.length≤L7.length:=by rw[hL7];simp
 have e6:L5.length≤L6.length:=by rw[hL6];simp
 have e5:L4.length≤L5.length:=by rw[hL5];simp
 have e4:L3.length≤L4.length:=by rw[hL4];simp
 have e3:L2.length≤L3.length:=by rw[hL3];simp
 have e2:L1.length≤L2.length:=by rw[hL2];simp
 have H1:=qH hL1;have H2:=qH hL2;have H3:=qH hL3;have H4:=qH hL4;have H5:=qH hL5;have H6:=qH hL6;have H7:=qH hL7;clear hL1 hL2 hL3 hL4 hL5 hL6 hL7 hE YD HL;rw[hagg];clear hagg;have NC:=qH hin;have HB0:=qH hb0;clear hin hb0;go_enter Tryz.func95,Tryz.ntmps95;go_wp2_with fail;refine HY.o.mono ?_;rintro r w1⟨rfl,hb1⟩;have hin1:=NC.o.below hb1 (by simp);have hbw1:Below w.heap.size w w1:=HB0.o.trans (hb1.mono HB0.o.size);have hs1:w.heap.size+1≤w1.heap.size:=by have:=hb1.size;simpa using this
 have ZG:=qH hin1;have TW:=qH hbw1;obtain⟨f0,f1,f2,f3,f4,f5,f6,f7⟩:=hin1;clear hb1 hbw1 NC HB0 HY;have hk:(k:Int)%256=(k:Int):=by omega
 have HM:=qS (NH w w.heap.size ⟨src,n,a,k,per,item,vl,text⟩ (.slice (some ⟨w1.heap.size,0,none⟩) 1 1) [UInt8.ofNat k] (w1.alloc (.cells #[.int .u8 k] 5))) (by
  refine⟨?_,fun b hb e=>?_,ZG.o.bT (Below.heap_alloc _ _ _ (by omega)),TW.o.alloc TW.o.size _,by simp;omega,Nat.le_refl _⟩
  ·have:=World.ownsRow_lit (base:=w.heap.size) (e:=5) (size:=1) w1 #[.int .u8 k] 1 TW.o.size (by simp[maxLen]) rfl;unfold aK;have e:uD [UInt8.ofNat k]=[.int .u8 k]:=by simp[uD];omega
   rw[e];exact this
  ·simp[Value.ownBlock]at hb;omega);obtain⟨g0,_⟩:=HM.o.ev;clear f0 f1 f2 f4 f5 f6 f7 ZG TW;simp only at f3 g0;go_upto_region 4 with fail;clear f3;generalize w1.alloc (.cells #[.int .u8 k] 5)=w2 at*;clear hs1;go_wp2_with fail;with_reducible refine(nX w2 w.heap.size (.slice (some ⟨w1.heap.size,0,none⟩) 1 1) [UInt8.ofNat k] HM.o.own HM.o.bN.size src (by omega) (by first|omega|simp)).mono ?_
 rintro r w3⟨v3,rfl,hp⟩;rw[←H1.o]at hp;replace HM:=qH (HM.o.next hp);clear hp g0;obtain⟨_,g1,_⟩:=HM.o.ev;simp only at g1;go_wp2_with fail;with_reducible refine(vC w3 w.heap.size v3 L1 HM.o.own HM.o.bN.size n (by omega) (by first|omega|simp)).mono ?_
 rintro r w4⟨v4,rfl,hp⟩;rw[←H2.o]at hp;replace HM:=qH (HM.o.next hp);clear hp g1;obtain⟨_,_,g2,_⟩:=HM.o.ev;simp only at g2;go_wp2_with fail;with_reducible refine(vC w4 w.heap.size v4 L2 HM.o.own HM.o.bN.size a (by omega) (by first|omega|simp)).mono ?_
 rintro r w5⟨v5,rfl,hp⟩;rw[←H3.o]at hp;replace HM:=qH (HM.o.next hp);clear hp g2;obtain⟨_,_,_,_,g4,_⟩:=HM.o.ev;simp only at g4;go_wp2_with fail;with_reducible refine(nX w5 w.heap.size v5 L3 HM.o.own HM.o.bN.size per (by omega) (by first|omega|simp)).mono ?_
 rintro r w6⟨v6,rfl,hp⟩;rw[←H4.o]at hp;replace HM:=qH (HM.o.next hp);clear hp g4;obtain⟨_,_,_,_,_,g5,_⟩:=HM.o.ev;simp only at g5;go_wp2_with fail;with_reducible refine(nX w6 w.heap.size v6 L4 HM.o.own HM.o.bN.size item (by omega) (by first|omega|simp)).mono ?_
 rintro r w7⟨v7,rfl,hp⟩;rw[←H5.o]at hp;replace HM:=qH (HM.o.next hp);clear hp g5;obtain⟨_,_,_,_,_,_,g6,_⟩:=HM.o.ev;simp only at g6;go_wp2_with fail;with_reducible refine(vC w7 w.heap.size v7 L5 HM.o.own HM.o.bN.size vl (by omega) (by first|omega|simp)).mono ?_
 rintro r w8⟨v8,rfl,hp⟩;rw[←H6.o]at hp;replace HM:=qH (HM.o.next hp);clear hp g6;obtain⟨_,_,_,_,_,_,_,g7⟩:=HM.o.ev;simp only at g7;go_wp2_with fail;with_reducible refine(nX w8 w.heap.size v8 L6 HM.o.own HM.o.bN.size text (by omega) (by first|omega|simp)).mono ?_
 rintro r w9⟨v9,rfl,hp⟩;rw[←H7.o]at hp;replace HM:=qH (HM.o.next hp);clear hp g7;obtain⟨A9,c9,hv9⟩:=HM.o.own.form;subst hv9;go_wp2;go_ret2;exact⟨_,rfl,HM.o.own,HM.o.bN⟩
theorem iF.up{w W V:World}{base bx:Nat}{l:List UInt8}{v:Value}(h:iF w base bx l v W)(hb:Below W.heap.size W V)(hB:base≤W.heap.size):iF w base bx l v V:=⟨aK.below h.own hb (Nat.le_refl _),(hb.block _ h.blt).trans h.box,h.bN.trans (hb.mono hB),h.kept.trans fun k _ ho _ _=>(hb.block k (Array.getElem?_eq_some_iff.1 ho).1).trans ho⟩
theorem rq(w:World)(base bx:Nat)(l:List UInt8)(v:Value)(ho:aK w base v l)(nW:w.heap[bx]?=some (fB v))(hbx:base≤bx)(s:List UInt8)(n:Int)(h0: -9223372036854775808≤n)(h1:n≤9223372036854775807)(hl:l.length+s.length≤100000000)(htab:Lib.TabBelow Tryz.prog base w "internal/strconv.uint64pow10" .u64 Lib.pow10Tab):Calls Tryz.prog 91 #[.string ⟨s.toArray⟩,.int .i64 n,.pointer (some ⟨bx,0,none⟩)] w (mK w base bx (l++ah s [n])):=by
 have hblt:bx<w.heap.size:=(Array.getElem?_eq_some_iff.1 nW).1;have hbase:base≤w.heap.size:=by omega
 have HST:=qS (iF w base bx l v w) (⟨ho,nW,Below.refl _ _,Lib.OthersKept.refl _ _ _⟩);have HT:=qH htab;have mO:=qS (l++ah s [n]=l++s++[32]++Lib.itoa n++[10]) (by unfold ah dC;simp);clear ho nW htab;obtain⟨c0,f0⟩:=HST.o.cell;obtain⟨v1,w1,hr1,ho1,hg1⟩:=zm w base v l s HST.o.own hbase (by omega) 32;obtain⟨A1,k1,rfl⟩:=ho1.wS;have HR1:=qH hr1;have ky:=qH (HST.o.str hbase ho1 hg1 hbx);obtain⟨c1,f1⟩:=HST.o.mid0 hg1;have hil:=Lib.itoa_length_le n h0 h1;clear hr1 ho1 hg1 HST;go_enter Tryz.func91,Tryz.ntmps91;go_upto_region 1 with(at_builtin;refine Lib.wpList_append_run _ rfl (.tmp 5) (.tmp 6) _ _ rfl _ _ rfl rfl _ _ HR1.o ?_);clear c0 f0 c1 f1 HR1;generalize w1.setCell ⟨bx,0,none⟩ (.slice A1 (l.length+s.length) k1)=w2 at*;have TI:=qS ((l++s).length=l.length+s.length) (List.length_append);generalize l++s=P at*;obtain⟨c0,f0⟩:=ky.o.cell;have hs2:=ky.o.bN.size;have hpl:=TI.o;go_wp2_with(at_builtin;refine aG rfl (.tmp 8) (.tmp 9) rfl base _ P rfl ?c1 (w2.heap.size+1) _ _ _ [32] rfl ?c2 ?c3 ?c4 ?_);case c1=>exact aK.alloc ky.o.own _
 case c2=>exact bU.new w2 _ _ [32] rfl 1 rfl (by unfold maxLen;omega)
 case c3=>have:=TI.o;first|omega|(simp;omega)
 case c4=>first|omega|(simp;omega)
 intro v2 w3 ho2 hg2 hv2;obtain⟨A2,k2,rfl⟩:=ho2.FP;obtain⟨c2,f2⟩:=ky.o.mid _ hg2;have HS2:=qH (ky.o.app (by omega) _ ho2 hg2 hbx);clear ho2 hg2 c0 f0 ky;go_upto_region 2 with fail;rw[←hpl];clear hpl;have TC:=qS ((P++[32]).length=P.length+1) (by simp);generalize P++[32]=P2 at*;generalize w3.setCell ⟨bx,0,none⟩ (.slice A2 (P.length+1) k2)=w4 at*;obtain⟨c0,f0⟩:=HS2.o.cell;have hs4:=HS2.o.bN.size;have QQ:=qH (zl w4 base _ P2 HS2.o.own (by omega) n (by omega) (by omega) (by have:=TC.o;have:=TI.o;omega) (HT.o.on HS2.o.bN));clear c2 f2;go_wp2_with fail;with_reducible refine QQ.o.mono ?_
 rintro r w5⟨v5,rfl,ho5,hb5,hk5⟩;obtain⟨A5,k5,rfl⟩:=ho5.wS;obtain⟨c5,f5⟩:=HS2.o.XQ hk5;have xK:=qH (HS2.o.put ho5 hb5 hk5 hbx);have Wl:=qS ((P2++Lib.itoa n).length=P2.length+(Lib.itoa n).length) (List.length_append);clear ho5 hb5 hk5 QQ c0 f0 HS2;go_upto_region 3 with fail;rw[←Wl.o];clear c5 f5;generalize hq:w5.setCell ⟨bx,0,none⟩ (.slice A5 (P2++Lib.itoa n).length k5)=w6 at*;rw[←Wl.o,hq]at xK;clear hq;generalize P2++Lib.itoa n=P5 at*;obtain⟨c0,f0⟩:=xK.o.cell;have hs6:=xK.o.bN.size;go_wp2_with(at_builtin;refine aG rfl (.tmp 14) (.tmp 15) rfl base _ P5 rfl ?c1 (w6.heap.size+1) _ _ _ [10] rfl ?c2 ?c3 ?c4 ?_);case c1=>exact aK.alloc xK.o.own _
 case c2=>exact bU.new w6 _ _ [10] rfl 1 rfl (by unfold maxLen;omega)
 case c3=>have:=Wl.o;have:=TC.o;have:=TI.o;first|omega|(simp;omega)
 case c4=>first|omega|(simp;omega)
 intro v7 w7 ho7 hg7 hv7;obtain⟨A7,k7,rfl⟩:=ho7.FP;obtain⟨c7,f7⟩:=xK.o.mid _ hg7;have Wh:=qH (xK.o.app (by omega) _ ho7 hg7 hbx);clear ho7 hg7 c0 f0 xK;have HE:=qS (mK w base bx (P5++[10]) (.returned (.tuple #[])) _) (⟨rfl,_,Wh.o⟩);rw[mO.o];clear hv2 hv7;go_wp2;go_end0;exact HE.o
abbrev wJ(bx:Nat):Obj:=.cells #[.func (Fn.func 91) #[] #[.pointer (some ⟨bx,0,none⟩)]] 148
theorem iF.line{w W:World}{base bx bl:Nat}{l:List UInt8}{v:Value}(h:iF w base bx l v W)(hl:w.heap[bl]?=some (wJ bx))(hb:w.heap[bx]?=some (fB v)∨bl≠bx):W.heap[bl]?=some (wJ bx):=by
 refine h.kept bl _ hl (fun e=>?_) (fun c fz e=>by injection e with _ e;exact absurd e (by decide));injection e with e;rcases hb with hb|hb;·rw[←e,hl]at hb;injection hb with hb;injection hb with _ hb;exact absurd hb (by decide)
 ·first|exact hb e|exact hb e.symm
theorem G7(w:World)(base bx bl:Nat)(l:List UInt8)(v:Value)(ho:aK w base v l)(nW:w.heap[bx]?=some (fB v))(hbx:base≤bx)(FH:w.heap[bl]?=some (wJ bx))(s d:List UInt8)(A:Option Addr)(n c:Nat)(hd:bU w base A n c d)(hn:n≤1000000000)(hl:l.length+s.length+n≤50000000)(htab:Lib.TabBelow Tryz.prog base w "internal/strconv.uint64pow10" .u64 Lib.pow10Tab):Calls Tryz.prog 93 #[.string ⟨s.toArray⟩,.slice A n c,.pointer (some ⟨bl,0,none⟩),.pointer (some ⟨bx,0,none⟩)] w (mK w base bx (l++ah s [(n:Int)]++d)):=by
 obtain rfl:d.length=n:=hd.len;have wZ:=qH (rq w base bx l v ho nW hbx s d.length (by omega) (by omega) (by omega) htab);have HD:=qH hd;have hblt:bx<w.heap.size:=(Array.getElem?_eq_some_iff.1 nW).1;have c0:w.cell? ⟨bl,0,none⟩=some (.func (Fn.func 91) #[] #[.pointer (some ⟨bx,0,none⟩)]):=(cell_of_row w bl 0 _ _ (0,0) FH).trans rfl;have hll:=Lib.itoa_length_le d.length (by omega) (by omega);have nJ:=qS ((l++ah s [(d.length:Int)]).length≤60000000) (by unfold ah dC;simp;omega);clear hd htab FH ho nW;go_enter Tryz.func93,Tryz.ntmps93;go_wp2_with fail;with_reducible refine wZ.o.mono ?_
 rintro r w1⟨rfl,v1,h1⟩;have HS:=qH h1;clear h1 c0 wZ;generalize l++ah s [(d.length:Int)]=P at*;obtain⟨A1,k1,rfl⟩:=HS.o.own.form;obtain⟨c1,f1⟩:=HS.o.cell;have hs1:=HS.o.bN.size;have hpl:=nJ.o;go_wp2_with(at_builtin;refine aG rfl (.tmp 11) (.tmp 12) rfl base _ P rfl HS.o.own base _ _ _ d rfl (HD.o.below HS.o.bN) ?c3 ?c4 ?_);case c3=>omega
 case c4=>omega
 intro v2 w2 ho2 hg2 hv2;obtain⟨A2,k2,rfl⟩:=ho2.wS;obtain⟨c2,f2⟩:=HS.o.mid0 hg2;have HE:=qS (mK w base bx (P++d) (.returned (.tuple #[])) _) (⟨rfl,_,HS.o.str (by omega) ho2 hg2 hbx⟩);clear ho2 hg2 hv2 c1 f1 HS;go_wp2;go_end0;exact HE.o
theorem Bv(es:List Ev)(k:Nat)(hk:k<es.length):dG (es.take (k+1))=dG (es.take k)++ik es[k]:=by unfold dG;rw[List.take_add_one,List.getElem?_eq_getElem hk,Option.toList_some,List.flatMap_append];simp
theorem iK(es:List Ev)(h: ∀e∈es,bA e=true):(dG es).length≤1229*es.length:=by
 induction es with
  |nil=>simp[dG]
  |cons e es ih=>
   have h1:=ih fun x hx=>h x (List.mem_cons_of_mem _ hx);have h2:=(kY (h e (List.mem_cons_self))).len;have h3:dG (e::es)=ik e++dG es:=by simp[dG]
   rw[h3,List.length_append,List.length_cons];omega
def Qe(w:World)(base bx:Nat)(L:List UInt8)(es:List Ev)(i:Value)(wr:World):Prop:= ∃(k:Nat)(v:Value),i=.int .i64 k∧k≤es.length∧iF w base bx (L++dG (es.take k)) v wr
theorem Lg(w:World)(base bx bl:Nat)(l:List UInt8)(v:Value)(ho:aK w base v l)(nW:w.heap[bx]?=some (fB v))(hbx:base≤bx)(FH:w.heap[bl]?=some (wJ bx))(s:List UInt8)(es:List Ev)(A:Option Addr)(n c:Nat)(hd:fV w base A n c es)(hm: ∀e∈es,bA e=true)(hn:n≤10000)(hl:l.length+s.length≤50000000)(hmx: ∀W,Below base w W→bf W)(htab:Lib.TabBelow Tryz.prog base w "internal/strconv.uint64pow10" .u64 Lib.pow10Tab):Calls Tryz.prog 94 #[.string ⟨s.toArray⟩,.slice A n c,.pointer (some ⟨bl,0,none⟩),.pointer (some ⟨bx,0,none⟩)] w (mK w base bx (l++ah s [(n:Int)]++dG es)):=by
 obtain rfl:es.length=n:=hd.len;have wZ:=qH (rq w base bx l v ho nW hbx s es.length (by omega) (by omega) (by omega) htab);have HD:=qH hd;have HM:=qH hm;have jS:=qH hmx;have hblt:bx<w.heap.size:=(Array.getElem?_eq_some_iff.1 nW).1;have c0:w.cell? ⟨bl,0,none⟩=some (.func (Fn.func 91) #[] #[.pointer (some ⟨bx,0,none⟩)]):=(cell_of_row w bl 0 _ _ (0,0) FH).trans rfl;have hll:=Lib.itoa_length_le es.length (by omega) (by omega);have nJ:=qS ((l++ah s [(es.length:Int)]).length≤60000000) (by unfold ah dC;simp;omega);have Jp:=qS (∀k,(dG (es.take k)).length≤1229*10000) (fun k=>by
  have h1:=iK (es.take k) fun e he=>hm e (List.mem_of_mem_take he);have h2:(es.take k).length≤es.length:=by rw[List.length_take];omega
  omega);clear hd hm hmx htab FH ho nW;go_enter Tryz.func94,Tryz.ntmps94;go_wp2_with fail;with_reducible refine wZ.o.mono ?_
 rintro r w1⟨rfl,v1,h1⟩;have Gt:=qS (Qe w base bx (l++ah s [(es.length:Int)]) es (.int .i64 ((0:Nat):Int)) w1) (⟨0,v1,rfl,Nat.zero_le _,by simpa[dG]using h1⟩);clear h1 c0 wZ;generalize l++ah s [(es.length:Int)]=P at*;go_wp2;go_loopw[17](fun i wr=>Qe w base bx P es i wr)(fun i _=>es.length-(intOf i).toNat);case atStart=>exact Gt.o
 case round=>
  obtain⟨k,vk,rfl,hk,hst⟩:=hrel;have HS:=qH hst;have zW:=hst.bN.size;have zy:=qS ((P++dG (es.take k)).length≤80000000) (by have:=nJ.o;have:=Jp.o k;rw[List.length_append];omega);clear hst Gt;by_cases hkn:k<es.length
  ·have t1:(k:Int)<es.length:=by omega
   obtain⟨b,off,hA,hb,hev⟩:=(show fV wr base A es.length c es from az.below HD.o HS.o.bN).ev k hkn;obtain⟨e0,e1,e2,e3,e4,e5,e6,e7⟩:=hev;have Ws:=qH (HM.o _ (List.getElem_mem hkn));have dx:=qH (Bv es k hkn);generalize es[k]=e at*;subst hA;go_upto_region 4 with fail;have bJ:Below wr.heap.size wr (wr.alloc (ai e)):=(Below.refl _ _).alloc (Nat.le_refl _) _;have wX:=qH (HS.o.up bJ (by omega));have HEI:=qH (dO.new wr e);have HMW:=qH (jS.o _ wX.o.bN);have hsA:=bJ.size;have KX:=qS ((P++dG (es.take k))++ik e=P++dG (es.take (k+1))) (by rw[dx.o];simp);have hel:=(kY Ws.o).len;clear e0 e1 e2 e3 e4 e5 e6 e7 bJ dx HS;generalize wr.alloc (ai e)=w2 at*;generalize P++dG (es.take k)=Q at*;obtain⟨e0,e1,e2,e3,e4,e5,e6,e7⟩:=HEI.o;have UL:=qH (MI w2 e Ws.o HMW.o);unfold Ev.agg at UL;go_wp2_with fail;with_reducible refine UL.o.mono ?_
   rintro r w3⟨v3,rfl,ho3,hb3⟩;obtain⟨A3,k3,rfl⟩:=ho3.form;have HB3:=qH ho3.oF;have Nb:=qH (wX.o.up hb3 (by omega));obtain⟨A4,k4,rfl⟩:=Nb.o.own.form;obtain⟨c1,f1⟩:=Nb.o.cell;have hs3:=Nb.o.bN.size;have hpl:=zy.o;clear ho3 hb3 UL e0 e1 e2 e3 e4 e5 e6 e7 HEI wX;go_wp2_with(at_builtin;refine aG rfl (.tmp 26) (.tmp 27) rfl base _ Q rfl Nb.o.own w3.heap.size _ _ _ (ik e) rfl HB3.o ?c3 ?c4 ?_);case c3=>omega
   case c4=>omega
   intro v5 w5 ho5 hg5 hv5;obtain⟨A5,k5,rfl⟩:=ho5.wS;obtain⟨c2,f2⟩:=Nb.o.mid0 hg5;have xK:=qH (Nb.o.str (by omega) ho5 hg5 hbx);rw[KX.o]at xK;have TB:=qS (Qe w base bx P es (.int .i64 ((k+1:Nat):Int)) _) (⟨k+1,_,rfl,hkn,xK.o⟩);clear ho5 hg5 hv5 c1 f1 Nb xK hel;go_wp2;go_roundw;case rel=>exact TB.o
   case measure=>simp[intOf];omega
  ·have t1: ¬(k:Int)<es.length:=by omega
   have hkl:k=es.length:=by omega
   have HE:=qS (mK w base bx (P++dG es) (.returned (.tuple #[])) wr) (⟨rfl,_,by have h:=HS.o;rw[hkl,List.take_length]at h;exact h⟩);clear hkl HS;go_wp2;go_end0;exact HE.o
end Go.Proofs.YtbejfgmdkmddnaaGreatDoor
