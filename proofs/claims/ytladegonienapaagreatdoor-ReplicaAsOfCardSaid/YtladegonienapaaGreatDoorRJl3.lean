/-
  Layer 5: a journal's fail, sync.
-/
import Derived.Deep.DeepCutAuto
import Derived.Test.YtladegonienapaaGreatDoorRJl
set_option maxRecDepth 100000
set_option maxHeartbeats 16000000
namespace Go.Proofs.YtladegonienapaaGreatDoor
open Go.RowKit Go.Maps Go.Sort
theorem and127(x:Nat)(h:x<4611686018427387904):bits .and .i64 (x:Int) 127=((x%128:Nat):Int):=by
 show IntKind.i64.wrap ((BitVec.ofInt 64 (x:Int)&&&BitVec.ofInt 64 ((127:Nat):Int)).toNat:Int)=_;have e:(BitVec.ofInt 64 (x:Int)&&&BitVec.ofInt 64 ((127:Nat):Int)).toNat=x%128:=by rw[BitVec.toNat_and,BitVec.ofInt_natCast,BitVec.ofInt_natCast,BitVec.toNat_ofNat,BitVec.toNat_ofNat,Nat.mod_eq_of_lt (by omega:x<2^64)];exact Nat.and_two_pow_sub_one_eq_mod x 7
 rw[e];simp[IntKind.wrap,IntKind.bits,IntKind.signed];omega
theorem pK(w:World)(base:Nat)(v:Value)(l:List UInt8)(ho:aL w base v l)(hb:base≤w.heap.size)(n:Nat)(hn:n<4611686018427387904)(hl:l.length≤200000000000):Calls Tryz.prog 189 #[v,.int .i64 n] w (p8 w base v (l++bI n)):=by
 have hn8:=vz hn;have HST:=qS (vQ w base v (l++bI n) v (.int .i64 n) w) (⟨n,l,rfl,hn,rfl,ho,ai.refl _ _,fun b hb=>.inl hb⟩);have hll:(l++bI n).length≤200000000009:=by simp;omega
 generalize l++bI n=L at*;clear ho hn8;go_enter Tryz.func189,Tryz.ntmps189;go_wp2;go_loopw[0,1](fun v' q wr=>vQ w base v L v' q wr)(fun _ q _=>(intOf q).toNat);case atStart=>exact HST.o
 case round=>
  obtain⟨q,l',rfl,hq,hL,hm⟩:=hrel;have HL:=qH hL;have HM:=qH hm;have hl':l'.length≤200000000009:=by have:=congrArg List.length hL;simp at this;omega
  have qX:=hm.keep.size;clear hL hm;by_cases hlo:q<128
  ·have t1: ¬(128:Int)≤q:=by omega
   have HB:=qS (L=l'++[UInt8.ofNat q]) (by rw[←HL.o,jR hlo]);go_wp2_with(at_builtin;refine bB rfl (.tmp 16) (.tmp 19) rfl base _ l' rfl ?c1 (wr.heap.size+1) _ _ _ [UInt8.ofNat q] rfl ?c2 ?c3 ?c4 ?_);case c1=>exact aL.alloc HM.o.own _
   case c2=>exact dP.new wr _ _ [UInt8.ofNat q] (by simp;omega) 1 rfl (by unfold maxLen;omega)
   case c3=>first|omega|(simp;omega)
   case c4=>first|omega|(simp;omega)
   intro v2 w2 ho2 hg2 hv2;have HR:=qS (p8 w base v L (.returned v2) w2) (⟨v2,rfl,HM.o.app _ (by rw[HB.o];exact ho2) hg2 hv2⟩);clear ho2 hg2 hv2;go_wp2;go_ret;exact HR.o
  ·have t1:(128:Int)≤q:=by omega
   have HB:=qS (L=l'++[UInt8.ofNat (q%128+128)]++bI (q/128)) (by rw[←HL.o,lT hlo];simp);have eo:bits .or .u8 (bits .and .i64 (q:Int) 127%256) 128=((q%128+128:Nat):Int):=by have:=or128 (q%128) (by omega);rw[and127 q (by omega),show(((q%128:Nat):Int))%256=((q%128:Nat):Int)by omega,this];congr 1;omega
   generalize hc:q%128+128=cN at*;have hcl:cN<256:=by omega
   clear hc;go_wp2_with(at_builtin;refine bB rfl (.tmp 7) (.tmp 12) rfl base _ l' rfl ?c1 (wr.heap.size+1) _ _ _ [UInt8.ofNat cN] rfl ?c2 ?c3 ?c4 ?_);case c1=>exact aL.alloc HM.o.own _
   case c2=>exact dP.new wr _ _ [UInt8.ofNat cN] (by simp;omega) 1 rfl (by unfold maxLen;omega)
   case c3=>first|omega|(simp;omega)
   case c4=>first|omega|(simp;omega)
   intro v2 w2 ho2 hg2 hv2;have HR:=qS (vQ w base v L v2 (.int .i64 ((q/128:Nat):Int)) w2) (⟨q/128,l'++[UInt8.ofNat cN],rfl,by omega,HB.o.symm,HM.o.app _ ho2 hg2 hv2⟩);clear ho2 hg2 hv2 eo;go_wp2;go_roundw;case rel=>exact HR.o
   case measure=>simp[intOf];omega
theorem jW(w:World)(base:Nat)(v:Value)(l:List UInt8)(ho:aL w base v l)(hb:base≤w.heap.size)(s:List UInt8)(hs:s.length≤4096)(hl:l.length≤200000000000):Calls Tryz.prog 188 #[v,.string ⟨s.toArray⟩] w (p8 w base v (l++iq s)):=by
 have HM:=qS (vR w base v l v w) (⟨ho,ai.refl _ _,fun b hb=>.inl hb⟩);clear ho;go_enter Tryz.func188,Tryz.ntmps188;go_wp2_with(at_builtin;refine bB rfl (.tmp 5) (.tmp 9) rfl base _ l rfl ?c1 (w.heap.size+1) _ _ _ [UInt8.ofNat s.length] rfl ?c2 ?c3 ?c4 ?_);case c1=>exact aL.alloc HM.o.own _
 case c2=>exact dP.new w _ _ [UInt8.ofNat s.length] (by simp) 1 rfl (by unfold maxLen;omega)
 case c3=>first|omega|(simp;omega)
 case c4=>first|omega|(simp;omega)
 intro v5 w5 ho5 hg5 hv5;have Ls:=qH (HM.o.app _ ho5 hg5 hv5);clear ho5 hg5 hv5 HM;have hs5:=Ls.o.keep.size;obtain⟨v6,w6,hr6,ho6,hg6,hv6⟩:=CS w5 base v5 (l++[UInt8.ofNat s.length]) s Ls.o.own (by simp) (by omega) (by simp;omega) 93;have xS:=qH hr6;have Dh:=qS (p8 w base v (l++iq s) (.returned v6) w6) (⟨v6,rfl,by have:=Ls.o.str ho6 hg6 hv6;rw[List.append_assoc]at this;exact this⟩);clear hr6 ho6 hg6 hv6;go_wp2_with(at_builtin;refine Lib.wpList_append_run _ rfl (.tmp 11) (.tmp 12) _ _ rfl _ _ rfl rfl _ _ xS.o ?_);go_wp2;go_ret;exact Dh.o
theorem dK.bF{w w':World}{b:Nat}{e:Ev}(h:dK w b e)(hb:w'.heap[b]?=w.heap[b]?):dK w' b e:=by obtain⟨h0,h1,h2,h3,h4,h5,h6,h7⟩:=h;have key: ∀(o:Nat)u,w.cell? ⟨b,o,none⟩=some u→w'.cell? ⟨b,o,none⟩=some u:=fun o u hu=>(World.cell?_of_block (w:=w) (a:=⟨b,o,none⟩) hb).trans hu;exact⟨key _ _ h0,key _ _ h1,key _ _ h2,key _ _ h3,key _ _ h4,key _ _ h5,key _ _ h6,key _ _ h7⟩
structure Q3(w:World)(be:Nat)(e:Ev)(v:Value)(l:List UInt8)(w':World):Prop where
 own:aL w' w.heap.size v l
 ne: ∀b,v.ownBlock=some b→b≠be
 ev:dK w' be e
 fw:Below w.heap.size w w'
 lt:be<w'.heap.size
 ge:w.heap.size≤be
theorem Q3.next{w w' w2:World}{be:Nat}{e:Ev}{v v2:Value}{l l2:List UInt8}(h:Q3 w be e v l w')(h2:vR w' w.heap.size v l2 v2 w2):Q3 w be e v2 l2 w2:=by
 have hs:=h2.keep.size;have hs0:=h.fw.size;refine⟨h2.own,fun b hb e'=>?_,h.ev.bF (h2.keep.block be h.lt (fun hb=>h.ne _ hb rfl)),h.fw.trans (h2.keep.below hs0 (fun k hk hv=>by have:=h.own.lt k hv;omega)),by have:=h.lt;omega,h.ge⟩;rcases h2.blk b hb with h'|h';·exact h.ne b h' e'
 ·have:=h.lt;omega
def TP(w:World)(l:List UInt8)(er:Int)(e:Ending)(w':World):Prop:= ∃v,e=.returned (.tuple #[v,.int .i64 er])∧aL w' w.heap.size v l∧Below w.heap.size w w'
theorem EA(w:World)(e:Ev)(hm:aB e=true)(hmx:aM w):Calls Tryz.prog 128 #[e.agg] w (TP w (uH e) 0):=by
 have hf:=iD hm;have HL:=qH hf.len;have hsm:=hf.small;obtain⟨a1,a2,a3,a4,a5,a6,a7,a8,a9,a10,a11,a12⟩:=hf;have l8:=nU (w.alloc (aj e)) e hsm (hmx.up ((Below.refl _ _).alloc (Nat.le_refl _) _));rw[hm]at l8;have hE:uH e=UInt8.ofNat e.kind.toNat::(iq e.src++bI e.num.toNat++bI e.at_.toNat++iq e.per++iq e.item++bI e.val.toNat++iq e.text):=rfl;have hin:=dK.new w e;have hb0:Below w.heap.size w (w.alloc (aj e)):=(Below.refl _ _).alloc (Nat.le_refl _) _;clear hm hmx hsm;have hagg:e.agg=.agg #[.string ⟨e.src.toArray⟩,.int .i64 e.num,.int .i64 e.at_,.int .i64 e.kind,.string ⟨e.per.toArray⟩,.string ⟨e.item.toArray⟩,.int .i64 e.val,.string ⟨e.text.toArray⟩]:=rfl;have HY:=qH l8;clear l8;obtain⟨src,num,at_,kind,per,item,val,text⟩:=e;simp only at*;obtain⟨n,rfl⟩:=Int.eq_ofNat_of_zero_le (show 0≤num by omega);obtain⟨a,rfl⟩:=Int.eq_ofNat_of_zero_le a7;obtain⟨k,rfl⟩:=Int.eq_ofNat_of_zero_le a11;obtain⟨vl,rfl⟩:=Int.eq_ofNat_of_zero_le a9;simp only[Int.toNat_natCast]at hE;obtain⟨L1,hL1⟩: ∃l,l=[UInt8.ofNat k]++iq src:=⟨_,rfl⟩;obtain⟨L2,hL2⟩: ∃l,l=L1++bI n:=⟨_,rfl⟩;obtain⟨L3,hL3⟩: ∃l,l=L2++bI a:=⟨_,rfl⟩;obtain⟨L4,hL4⟩: ∃l,l=L3++iq per:=⟨_,rfl⟩;obtain⟨L5,hL5⟩: ∃l,l=L4++iq item:=⟨_,rfl⟩;obtain⟨L6,hL6⟩: ∃l,l=L5++bI vl:=⟨_,rfl⟩;obtain⟨L7,hL7⟩: ∃l,l=L6++iq text:=⟨_,rfl⟩;have UA:uH ⟨src,n,a,k,per,item,vl,text⟩=L7:=by rw[hE,hL7,hL6,hL5,hL4,hL3,hL2,hL1];simp
 rw[UA]at HL⊢;have hlen:=HL.o;have e7:L6.length≤L7.length:=by rw[hL7];simp
 have e6:L5.length≤L6.length:=by rw[hL6];simp
 have e5:L4.length≤L5.length:=by rw[hL5];simp
 have e4:L3.length≤L4.length:=by rw[hL4];simp
 have e3:L2.length≤L3.length:=by rw[hL3];simp
 have e2:L1.length≤L2.length:=by rw[hL2];simp
 have H1:=qH hL1;have H2:=qH hL2;have H3:=qH hL3;have H4:=qH hL4;have H5:=qH hL5;have H6:=qH hL6;have H7:=qH hL7;clear hL1 hL2 hL3 hL4 hL5 hL6 hL7 hE UA HL;rw[hagg];clear hagg;have I7:=qH hin;have HB0:=qH hb0;clear hin hb0;go_enter Tryz.func128,Tryz.ntmps128;go_wp2_with fail;refine HY.o.mono ?_;rintro r w1⟨rfl,hb1⟩;have hin1:=I7.o.below hb1 (by simp);have hbw1:Below w.heap.size w w1:=HB0.o.trans (hb1.mono HB0.o.size);have hs1:w.heap.size+1≤w1.heap.size:=by have:=hb1.size;simpa using this
 have KC:=qH hin1;have KJ:=qH hbw1;obtain⟨f0,f1,f2,f3,f4,f5,f6,f7⟩:=hin1;clear hb1 hbw1 I7 HB0 HY;have hk:(k:Int)%256=(k:Int):=by omega
 have HM:=qS (Q3 w w.heap.size ⟨src,n,a,k,per,item,vl,text⟩ (.slice (some ⟨w1.heap.size,0,none⟩) 1 1) [UInt8.ofNat k] (w1.alloc (.cells #[.int .u8 k] 5))) (by
  refine⟨?_,fun b hb e=>?_,KC.o.bF (Below.heap_alloc _ _ _ (by omega)),KJ.o.alloc KJ.o.size _,by simp;omega,Nat.le_refl _⟩
  ·have:=World.ownsRow_lit (base:=w.heap.size) (e:=5) (size:=1) w1 #[.int .u8 k] 1 KJ.o.size (by simp[maxLen]) rfl;unfold aL;have e:uo [UInt8.ofNat k]=[.int .u8 k]:=by simp[uo];omega
   rw[e];exact this
  ·simp[Value.ownBlock]at hb;omega);obtain⟨g0,_⟩:=HM.o.ev;clear f0 f1 f2 f4 f5 f6 f7 KC KJ;simp only at f3 g0;go_upto_region 4 with fail;clear f3;generalize w1.alloc (.cells #[.int .u8 k] 5)=w2 at*;clear hs1;go_wp2_with fail;with_reducible refine(jW w2 w.heap.size (.slice (some ⟨w1.heap.size,0,none⟩) 1 1) [UInt8.ofNat k] HM.o.own HM.o.fw.size src (by omega) (by first|omega|simp)).mono ?_
 rintro r w3⟨v3,rfl,hp⟩;rw[←H1.o]at hp;replace HM:=qH (HM.o.next hp);clear hp g0;obtain⟨_,g1,_⟩:=HM.o.ev;simp only at g1;go_wp2_with fail;with_reducible refine(pK w3 w.heap.size v3 L1 HM.o.own HM.o.fw.size n (by omega) (by first|omega|simp)).mono ?_
 rintro r w4⟨v4,rfl,hp⟩;rw[←H2.o]at hp;replace HM:=qH (HM.o.next hp);clear hp g1;obtain⟨_,_,g2,_⟩:=HM.o.ev;simp only at g2;go_wp2_with fail;with_reducible refine(pK w4 w.heap.size v4 L2 HM.o.own HM.o.fw.size a (by omega) (by first|omega|simp)).mono ?_
 rintro r w5⟨v5,rfl,hp⟩;rw[←H3.o]at hp;replace HM:=qH (HM.o.next hp);clear hp g2;obtain⟨_,_,_,_,g4,_⟩:=HM.o.ev;simp only at g4;go_wp2_with fail;with_reducible refine(jW w5 w.heap.size v5 L3 HM.o.own HM.o.fw.size per (by omega) (by first|omega|simp)).mono ?_
 rintro r w6⟨v6,rfl,hp⟩;rw[←H4.o]at hp;replace HM:=qH (HM.o.next hp);clear hp g4;obtain⟨_,_,_,_,_,g5,_⟩:=HM.o.ev;simp only at g5;go_wp2_with fail;with_reducible refine(jW w6 w.heap.size v6 L4 HM.o.own HM.o.fw.size item (by omega) (by first|omega|simp)).mono ?_
 rintro r w7⟨v7,rfl,hp⟩;rw[←H5.o]at hp;replace HM:=qH (HM.o.next hp);clear hp g5;obtain⟨_,_,_,_,_,_,g6,_⟩:=HM.o.ev;simp only at g6;go_wp2_with fail;with_reducible refine(pK w7 w.heap.size v7 L5 HM.o.own HM.o.fw.size vl (by omega) (by first|omega|simp)).mono ?_
 rintro r w8⟨v8,rfl,hp⟩;rw[←H6.o]at hp;replace HM:=qH (HM.o.next hp);clear hp g6;obtain⟨_,_,_,_,_,_,_,g7⟩:=HM.o.ev;simp only at g7;go_wp2_with fail;with_reducible refine(jW w8 w.heap.size v8 L6 HM.o.own HM.o.fw.size text (by omega) (by first|omega|simp)).mono ?_
 rintro r w9⟨v9,rfl,hp⟩;rw[←H7.o]at hp;replace HM:=qH (HM.o.next hp);clear hp g7;obtain⟨A9,c9,hv9⟩:=HM.o.own.form;subst hv9;go_wp2;go_ret2;exact⟨_,rfl,HM.o.own,HM.o.fw⟩
theorem Je(w:World)(B:Nat)(A:Option Addr)(n c:Nat)(l:List UInt8)(h:dP w B A n c l)(hn:n≤1000000):Calls Tryz.prog 190 #[.slice A n c] w fun e w'=>e=.returned (.int .u32 (jk.EH l))∧w=w':=by
 obtain⟨hl,hcap,hmax,hcell⟩:=h;have HL:=qH hl;clear hl;have HC:=qH hcell;clear hcell;clear hmax;go_enter Tryz.func190,Tryz.ntmps190;go_wp2;go_loop[3,4,9](fun t s i=> ∃k:Nat,k≤n∧i=.int .i64 k∧t=.int .u32 (jk.ad (l.take k)).1∧s=.int .u32 (jk.ad (l.take k)).2)(fun _ _ i=>n-(intOf i).toNat);case atStart=>exact⟨0,Nat.zero_le _,rfl,rfl,rfl⟩
 case round=>
  obtain⟨k,hk,rfl,rfl,rfl⟩:=hrel;have hlt:=jk.Hw (l.take k);obtain⟨hlt1,hlt2⟩:=hlt;by_cases hkn:k<n
  ·obtain⟨b,off,rfl,hb,hc⟩:=HC.o (by omega);have hk':k<l.length:=by rw[HL.o];exact hkn
   have hc':=hc k hk';have HA:=qH (jk.J8 l k hk');have hb8:(l[k]).toNat<256:=(l[k]).toNat_lt;generalize hx:(l[k]).toNat=x at*;have HX:=qH hx;clear hx hc;generalize h1:(jk.ad (l.take k)).1=p at*;generalize h2:(jk.ad (l.take k)).2=q at*;have H1:=qH h1;have H2:=qH h2;clear h1 h2;go_wp2;go_round;case rel=>
    refine⟨k+1,by omega,by go_num,?_,?_⟩;·rw[HA.o];unfold jk.tN;rw[H1.o,HX.o];go_num
    ·rw[HA.o];unfold jk.tN;rw[H1.o,H2.o,HX.o];go_num
   case measure=>simp[intOf];omega
  ·go_wp2;go_ret;refine⟨dB ?_,rfl⟩;have hkk:l.take k=l:=List.take_of_length_le (by rw[HL.o];omega);have hz:=jk.Hw l;rw[hkk];rw[show(((jk.ad l).2:Int)*65536)=(((jk.ad l).2*65536:Nat):Int)by omega,u32_or_nat _ _ (by omega) (by omega),nat_join16 _ _ (by omega) (by omega)];rfl
def Ib(w:World)(l:List UInt8)(e:Ending)(w':World):Prop:= ∃v,e=.returned (.tuple #[v,.int .i64 0])∧aL w' w.heap.size v (jk.rM l)∧Below w.heap.size w w'
theorem yh(w:World)(A:Option Addr)(n c:Nat)(l:List UInt8)(h:dP w w.heap.size A n c l)(hn:n≤65536):Calls Tryz.prog 129 #[.slice A n c] w (Ib w l):=by
 have HH:=qH h;clear h;obtain⟨i0,hi,hz0,hz1,hz2⟩:=info_parts qU;go_enter Tryz.func129,Tryz.ntmps129;go_wp2_with(at_make;refine wpList_make_own _ rfl _ _ 93 rfl w.heap.size 5 i0 (.int .u8 0) 1 Tryz.underlying93 hi hz0 hz1 _ _ _ (6+n+4) rfl rfl ?c1 ?c2 ?c3 (Nat.le_refl _) ?_);case c1=>omega
 case c2=>rw[hz2];omega
 case c3=>unfold maxLen;omega
 intro w1 hown1 hg1;have hsz:w.heap.size+1≤w1.heap.size:=(hown1.lt _ rfl).2;have Fj:=qH hown1;clear hown1;have Ab:=qH hg1;clear hg1;clear hi hz0 hz1 hz2;go_wp2_with(at_builtin;refine bB rfl (.tmp 26) (.tmp 36) rfl w.heap.size _ [] rfl ?c1 (w1.heap.size+1) _ _ _ (jk.be3 n++(jk.be3 n).map (255- ·)) rfl ?c2 ?c3 ?c4 ?_);case c1=>exact aL.alloc (l:=[]) Fj.o _
 case c2=>exact dP.new w1 _ _ _ (by simp[jk.be3,jk.xX,jk.sub255];omega) 6 rfl (by unfold maxLen;omega)
 case c3=>simp
 case c4=>simp;omega
 intro v2 w2 hown2 hg2 _;have hb1:Below w.heap.size w w1:=Below.grown (Below.refl _ _) Ab.o (Nat.le_refl _) (by simp);have hb2:Below w.heap.size w w2:=Below.grown (hb1.alloc (by omega) _) hg2 (by simp;omega) (by intro k hk;simp[Value.ownBlock]at hk;omega);have dE:=qH hown2;clear hown2 hg2;have hs2:=hb2.size;go_wp2_with(at_builtin;refine bB rfl (.tmp 38) (.tmp 39) rfl w.heap.size _ _ rfl dE.o w.heap.size _ _ _ l rfl (HH.o.below hb2) ?c3 hs2 ?_);case c3=>simp[jk.be3];omega
 intro v3 w3 hown3 hg3 _;have hb3:Below w.heap.size w w3:=Below.grown hb2 hg3 hs2 dE.o.lt;have hs3:=hb3.size;have hf:jk.be3 n++((jk.be3 n).map (255- ·)++l)=jk.front l:=by unfold jk.front;rw[HH.o.len,List.append_assoc]
 rw[hf]at hown3;obtain⟨A3,c3,hv3⟩:=hown3.form;have hl3:(jk.front l).length=n+6:=by rw[jk.jV,HH.o.len]
 rw[hl3]at hv3;rw[hv3]at hown3⊢;have uK:=qH hown3;clear hown3 hg3 hf hl3 hv3 dE hs2;have hlt:=jk.J5 (jk.front l);have hfl:=jk.jV l;have hll:=HH.o.len;have tZ:=qH hfl;have Di:=qH hll;clear hfl hll;go_wp2_with fail;refine(Je w3 _ A3 (n+6) c3 (jk.front l) uK.o.J4 (by omega)).mono ?_;rintro e w'⟨rfl,rfl⟩;generalize hs:jk.EH (jk.front l)=s at*;have HS:=qH hs;clear hs;go_wp2_with(at_builtin;refine bB rfl (.tmp 43) (.tmp 55) rfl w.heap.size _ (jk.front l) rfl ?c1 (w3.heap.size+1) _ _ _ (jk.be4 s) rfl ?c2 ?c3 ?c4 ?_);case c1=>exact aL.alloc uK.o _
 case c2=>exact dP.new w3 _ _ _ (by simp[jk.be4,jk.xX];omega) 4 rfl (by unfold maxLen;omega)
 case c3=>rw[tZ.o,Di.o];omega
 case c4=>simp;omega
 intro v4 w4 hown4 hg4 _;have hb4:Below w.heap.size w w4:=Below.grown (hb3.alloc hs3 _) hg4 (by simp;omega) uK.o.lt;clear hg4;go_wp2;go_ret2;refine⟨v4,rfl,?_,hb4⟩;unfold jk.rM;rw[HS.o];exact hown4
def wh(w:World)(s:List UInt8)(e:Ending)(w':World):Prop:=e=.returned (.string ⟨s.toArray⟩)∧ ∃q,w'=w.drewN q
theorem su(w:World)(bj:Nat)(s:List UInt8)(hc:w.cell? ⟨bj,1,none⟩=some (.string ⟨s.toArray⟩))(hs:s.length≤1000000)(k:Nat)(hk:k<100):Calls Tryz.prog 70 #[.pointer (some ⟨bj,0,none⟩),.int .i64 k] w (wh w (bP s k)):=by
 have HS:=qS ((⟨s.toArray⟩:ByteArray)++⟨#[46]⟩++⟨(Lib.decDigits k).toArray⟩=⟨(bP s k).toArray⟩) (by have e:(⟨#[46]⟩:ByteArray)=⟨[(46:UInt8)].toArray⟩:=rfl;rw[e,Cn,Cn];simp[bP]);have t1: ¬9223372036854775807<s.length+1:=by omega
 have hd2:=(tu hk).2;have t2: ¬9223372036854775807<s.length+1+(Lib.decDigits k).length:=by omega
 go_enter Tryz.func70,Tryz.ntmps70;go_wp2;go_still_tail 8,(by kernel_rfl);still_call(Tryz.strconv_Itoa_small k hk _);repeat still_step
 refine wpStill_nil ?_;change wpList _ _ _ _ _ (w.drewN 1);go_wp2;go_ret;exact⟨congrArg (fun b=>Ending.returned (.string b)) HS.o,1,rfl⟩
abbrev bT(x:Option Ev):Obj:=.cells #[.string ⟨(bK x).src.toArray⟩,.int .i64 (bK x).num,.int .i64 (bK x).at_,.int .i64 (bK x).kind,.string ⟨(bK x).per.toArray⟩,.string ⟨(bK x).item.toArray⟩,.int .i64 (bK x).val,.string ⟨(bK x).text.toArray⟩,.bool x.isNone] 91
def lJ(w:World)(b:Nat)(x:Option Ev):Prop:=w.cell? ⟨b,0,none⟩=some (.string ⟨(bK x).src.toArray⟩)∧w.cell? ⟨b,1,none⟩=some (.int .i64 (bK x).num)∧w.cell? ⟨b,2,none⟩=some (.int .i64 (bK x).at_)∧w.cell? ⟨b,3,none⟩=some (.int .i64 (bK x).kind)∧w.cell? ⟨b,4,none⟩=some (.string ⟨(bK x).per.toArray⟩)∧w.cell? ⟨b,5,none⟩=some (.string ⟨(bK x).item.toArray⟩)∧w.cell? ⟨b,6,none⟩=some (.int .i64 (bK x).val)∧w.cell? ⟨b,7,none⟩=some (.string ⟨(bK x).text.toArray⟩)∧w.cell? ⟨b,8,none⟩=some (.bool x.isNone)
theorem lJ.new(w:World)(x:Option Ev):lJ (w.alloc (bT x)) w.heap.size x:=by have key: ∀o,(w.alloc (bT x)).cell? ⟨w.heap.size,o,none⟩=_:=fun o=>cell_of_row _ w.heap.size o _ _ (0,0) (heap_alloc_new w (bT x));exact⟨(key 0).trans rfl,(key 1).trans rfl,(key 2).trans rfl,(key 3).trans rfl,(key 4).trans rfl,(key 5).trans rfl,(key 6).trans rfl,(key 7).trans rfl,(key 8).trans rfl⟩
theorem lJ.bF{w w':World}{b:Nat}{x:Option Ev}(h:lJ w b x)(hb:w'.heap[b]?=w.heap[b]?):lJ w' b x:=by obtain⟨h0,h1,h2,h3,h4,h5,h6,h7,h8⟩:=h;have key: ∀(o:Nat)u,w.cell? ⟨b,o,none⟩=some u→w'.cell? ⟨b,o,none⟩=some u:=fun o u hu=>(World.cell?_of_block (w:=w) (a:=⟨b,o,none⟩) hb).trans hu;exact⟨key _ _ h0,key _ _ h1,key _ _ h2,key _ _ h3,key _ _ h4,key _ _ h5,key _ _ h6,key _ _ h7,key _ _ h8⟩
def CY(w:World)(l:List UInt8)(e:Ending)(w':World):Prop:= ∃v,e=.returned v∧aL w' w.heap.size v l∧Below w.heap.size w w'
theorem Ed(w:World)(x:Option Ev)(hx: ∀e,x=some e→aB e=true)(hmx:aM w):Calls Tryz.prog 83 #[wY x] w (CY w (aW x)):=by
 have dO:=qH hmx;clear hmx;have hb0:Below w.heap.size w (w.alloc (bT x)):=(Below.refl _ _).alloc (Nat.le_refl _) _;obtain⟨f0,f1,f2,f3,f4,f5,f6,f7,f8⟩:=lJ.new w x;have HX:=qH hx;have HB0:=qH hb0;clear hx hb0;cases zX:x.isNone
 ·obtain⟨e,rfl⟩: ∃e,x=some e:=by cases x with|none=>simp at zX|some e=>exact⟨e,rfl⟩
  have hm:=HX.o e rfl;have HE:=qS (jk.rM (uH e)=aW (some e)) (rfl);have hel:=(iD hm).len;have Qj:=qH (EA (w.alloc (bT (some e))) e hm (dO.o.up HB0.o));have hagg:e.agg=.agg #[.string ⟨e.src.toArray⟩,.int .i64 e.num,.int .i64 e.at_,.int .i64 e.kind,.string ⟨e.per.toArray⟩,.string ⟨e.item.toArray⟩,.int .i64 e.val,.string ⟨e.text.toArray⟩]:=rfl;rw[hagg]at Qj;simp only[bK,Option.getD_some]at*;rw[zX]at f8;clear hagg hm HX;go_enter Tryz.func83,Tryz.ntmps83;go_wp2_with fail;refine Qj.o.mono ?_;rintro r w1⟨v1,rfl,ho1,hb1⟩;have hbw1:Below w.heap.size w w1:=HB0.o.trans (hb1.mono HB0.o.size);obtain⟨A1,c1,hv1⟩:=ho1.form;subst hv1;have hby:=ho1.J4;have fe:=qH hby;clear f0 f1 f2 f3 f4 f5 f6 f7 f8 hby ho1 hb1 Qj;go_wp2_with fail;with_reducible refine(yh w1 A1 _ c1 (uH e) fe.o (by omega)).mono ?_
  rintro r w2⟨v2,rfl,ho2,hb2⟩;have HR:=qS (CY w (aW (some e)) (.returned v2) w2) (⟨v2,rfl,by rw[←HE.o];exact ho2.dR hbw1.size,hbw1.trans (hb2.mono hbw1.size)⟩);clear ho2 hb2;go_wp2;go_ret;exact HR.o
 ·obtain rfl:x=none:=by cases x with|none=>rfl|some e=>simp at zX
  have HE:=qS (jk.rM []=aW none) (rfl);rw[zX]at f8;go_enter Tryz.func83,Tryz.ntmps83;clear f0 f1 f2 f3 f4 f5 f6 f7;go_wp2_with fail;refine(yh (w.alloc (bT none)) none 0 0 [] (dP.nil _ _ _ _ (by unfold maxLen;omega)) (by omega)).mono ?_;rintro r w2⟨v2,rfl,ho2,hb2⟩;have HR:=qS (CY w (aW none) (.returned v2) w2) (⟨v2,rfl,by rw[←HE.o];exact ho2.dR HB0.o.size,HB0.o.trans (hb2.mono HB0.o.size)⟩);clear ho2 hb2;go_wp2;go_ret;exact HR.o
section
variable{w w':World}{G F:Nat→Prop}{bj bd:Nat}{v:Value}{j:Jl}
theorem fO.ng(h:fO w G F bj bd v j): ¬G bj:=h.ap _ h.fj
theorem fO.disk{d':Dk}(h:fO w G F bj bd v j)(hd:IW w G bd d' w'): ∃G',fO w' G' F bj bd v {j with dk:=d'}∧(∀b,G' b→G b∨w.heap.size≤b)∧ai G w w':=by obtain⟨G',hi,hG,hk⟩:=hd;have hlt:=h.lt;refine⟨G',h.head hi hG ?_ rfl hk.size (fun b hb _=>hk.block b (hlt b hb) (h.ap b hb)),hG,hk⟩;exact(hk.block bj (hlt _ h.fj) h.ng).trans h.blk
theorem fO.DF{o:Nat}{u:Value}{j':Jl}(h:fO w G F bj bd v j)(hd:j'.dk=j.dk)(he:j'.es=j.es)(hb:(w.setCell ⟨bj,o,none⟩ u).heap[bj]?=some (sD bd v j')):fO (w.setCell ⟨bj,o,none⟩ u) G F bj bd v j':=by have hk: ∀b,b≠bj→(w.setCell ⟨bj,o,none⟩ u).heap[b]?=w.heap[b]?:=fun b hb=>Below.heap_setCell _ _ _ _ hb;exact h.head (hd▸h.dk.keep (by simp[World.setCell]) (fun b hb=>hk b (fun e=>h.ng (e▸hb)))) (fun b hb=>.inl hb) hb he (by simp[World.setCell]) (fun b _ hne=>hk b hne)
end
def lG(w:World)(G F:Nat→Prop)(bj bd:Nat)(j':Jl)(er:Int)(e:Ending)(w':World):Prop:=e=.returned (.int .i64 er)∧xP w G F bj bd j' w'
theorem sw(w:World)(bj:Nat)(u:Value)(hc:w.cell? ⟨bj,6,none⟩=some u)(hf:w.frozen? ⟨bj,6,none⟩=false)(er:Int):Calls Tryz.prog 84 #[.pointer (some ⟨bj,0,none⟩),.int .i64 er] w fun e w'=>e=.returned (.int .i64 er)∧w'=w.setCell ⟨bj,6,none⟩ (.int .i64 er):=by go_enter Tryz.func84,Tryz.ntmps84;go_wp2;go_ret;exact⟨rfl,rfl⟩
theorem AY(w:World)(G F:Nat→Prop)(bj bd:Nat)(j:Jl)(h:fo w G F bj bd j)(hn:j.files≤99):Calls Tryz.prog 81 #[.pointer (some ⟨bj,0,none⟩)] w (lG w G F bj bd j.sync j.bu):=by
 have HI:=qH h;obtain⟨ho,v,h⟩:=h;obtain⟨c0,c1,c2,c3,c4,c5,c6⟩:=h.cells;have HH:=qH h;have HO:=qH ho;have hnm:=ho.nm;clear h ho c2 c4 c5 c6;by_cases h0:j.files=0
 ·have HR:=qS (lG w G F bj bd j.sync j.bu (.returned (.int .i64 0)) w) (by
   have e1:j.sync=j:=by unfold Jl.sync;rw[if_pos h0]
   have e2:j.bu=0:=by unfold Jl.bu;rw[if_pos h0]
   rw[e1,e2];exact⟨rfl,xP.refl HI.o⟩);rw[h0]at c3;go_enter Tryz.func81,Tryz.ntmps81;go_wp2;go_ret;exact HR.o
 ·obtain⟨m,hm⟩: ∃m,j.files=m+1:=⟨j.files-1,by omega⟩;have hlast:j.last=bP j.name m:=by unfold Jl.last;rw[hm];rfl
  have HS:=qS (j.sync=(if j.dk.bu (bP j.name m)≠0 then{j with dk:=j.dk.sync (bP j.name m),stuck:=j.dk.bu (bP j.name m)}else{j with dk:=j.dk.sync (bP j.name m),lasts:=j.es.length})) (by unfold Jl.sync;rw[if_neg h0,hlast]);have HE:=qS (j.bu=j.dk.bu (bP j.name m)) (by unfold Jl.bu;rw[if_neg h0,hlast]);have hm2:m<100:=by omega
  have hsl:=(nO j.name hm2).2;rw[show((j.files:Nat):Int)=(m:Int)+1 by omega]at c3;clear hlast h0 hn;have t1:((m:Int)+1==0)=false:=by simp;omega
  have IK:=qS (∀q,Calls Tryz.prog 73 #[.pointer (some ⟨bd,0,none⟩),.string ⟨(bP j.name m).toArray⟩] (w.drewN q) (j4 (w.drewN q) G bd (j.dk.sync (bP j.name m)) (j.dk.bu (bP j.name m)))) (fun q=>Bu (w.drewN q) G bd j.dk (HH.o.dk.up (below_drewN (Below.refl _ _) q)) _ (by omega));have HJ:=qS (∀q w3,IW (w.drewN q) G bd (j.dk.sync (bP j.name m)) w3→ ∃G',fO w3 G' F bj bd v {j with dk:=j.dk.sync (bP j.name m)}∧(∀b,G' b→G b∨w.heap.size≤b)∧ai G w w3) (fun q w3 hd=>by obtain⟨G',a,b,c⟩:=(HH.o.up (below_drewN (Below.refl _ _) q)).disk hd;exact⟨G',a,b,⟨c.os,c.tape,c.output,c.size,c.block⟩⟩);have eZ:=qS (∀q w3,IW (w.drewN q) G bd (j.dk.sync (bP j.name m)) w3→w3.cell? ⟨bj,0,none⟩=some (.pointer (some ⟨bd,0,none⟩))∧w3.cell? ⟨bj,3,none⟩=some (.int .i64 ((m:Int)+1))) (fun q w3 hd=>by
   obtain⟨G',a,_,_⟩:=HJ.o q w3 hd;have hc:=a.cells;have e:((j.files:Nat):Int)=(m:Int)+1:=by omega
   exact⟨hc.1,by rw[←e];exact hc.2.2.2.1⟩);clear hm;have tZ:=qS (∀W,W.cell? ⟨bj,1,none⟩=some (.string ⟨j.name.toArray⟩)→Calls Tryz.prog 70 #[.pointer (some ⟨bj,0,none⟩),.int .i64 (IntKind.i64.wrap (m:Int))] W (wh W (bP j.name m))) (fun W hW=>by rw[show IntKind.i64.wrap (m:Int)=(m:Int)by rw[IntKind.wrap_i64];omega];exact su W bj j.name hW (by omega) m hm2);go_enter Tryz.func81,Tryz.ntmps81;go_wp2;go_region_held3(fun W=>W.cell? ⟨bj,0,none⟩=some (.pointer (some ⟨bd,0,none⟩))∧W.cell? ⟨bj,3,none⟩=some (.int .i64 ((m:Int)+1)))(first|assumption|go_keep)(first|(go_at_call 70;(with_reducible refine(tZ.o _ ?_).mono ?_);(first|assumption|exact c1);rintro r9 w2⟨rfl,q,rfl⟩)|(go_at_call 73;(with_reducible refine(IK.o _).mono ?_);rintro r9 w3⟨rfl,hd3⟩;have hS:=eZ.o _ _ hd3;have HD3:=qH hd3;clear hd3));obtain⟨G3,hj3,hG3,hk3⟩:=HJ.o _ _ HD3.o;have QV:=qH hj3;have Fy:=qH hG3;have Lu:=qH hk3;obtain⟨d0,d1,d2,d3,d4,d5,d6⟩:=hj3.cells;have WG:=hj3.frozen 5;have O4:=hj3.frozen 6;obtain⟨A,cp,hv⟩:=ownsRow_form hj3.own;clear hj3 hG3 hk3 HD3 IK tZ HJ eZ hS c0 c1 c3 t1;by_cases hE0:j.dk.bu (bP j.name m)=0
  ·have HR:=qS (lG w G F bj bd j.sync j.bu (.returned (.int .i64 0)) (w3.setCell ⟨bj,5,none⟩ (.int .i64 j.es.length))) (by
    rw[HS.o,HE.o,hE0,if_neg (by simp)];refine⟨rfl,G3,F,⟨?_,v,QV.o.DF rfl rfl ?_⟩,Fy.o,fun _ h=>.inl h,(Lu.o.mono (fun b _ h=>.inl h)).setCell (p:=⟨bj,5,none⟩) (fun _=>.inr HH.o.fj) _⟩;·exact⟨HO.o.per1,HO.o.per2,HO.o.nm,HO.o.num,HO.o.fl,Nat.le_refl _,HO.o.may⟩
    ·rw[af QV.o.blk];rfl);rw[hv]at d4;rw[hE0];clear d0 d1 d2 d3 d6 O4 hE0 hv;go_wp2;go_ret;exact HR.o
  ·have HR:=qS (lG w G F bj bd j.sync j.bu (.returned (.int .i64 (j.dk.bu (bP j.name m)))) (w3.setCell ⟨bj,6,none⟩ (.int .i64 (j.dk.bu (bP j.name m))))) (by
    rw[HS.o,HE.o,if_pos hE0];refine⟨rfl,G3,F,⟨?_,v,QV.o.DF rfl rfl ?_⟩,Fy.o,fun _ h=>.inl h,(Lu.o.mono (fun b _ h=>.inl h)).setCell (p:=⟨bj,6,none⟩) (fun _=>.inr HH.o.fj) _⟩;·exact⟨HO.o.per1,HO.o.per2,HO.o.nm,HO.o.num,HO.o.fl,HO.o.KW,HO.o.may⟩
    ·rw[af QV.o.blk];rfl);clear d0 d1 d2 d3 d4 d5 WG hv;generalize j.dk.bu (bP j.name m)=er at*;go_wp2_with fail;with_reducible refine(sw w3 bj _ d6 O4 er).mono ?_
   rintro r w4⟨rfl,rfl⟩;go_wp2;go_ret;exact HR.o
end Go.Proofs.YtladegonienapaaGreatDoor
