/-
  Layer 5: a journal's fail, sync.
-/
import Derived.Test.YtladegonienapaaGreatDoorUDk8
set_option maxRecDepth 100000
set_option maxHeartbeats 16000000
namespace Go.Proofs.YtladegonienapaaGreatDoor
open Go.RowKit Go.Maps Go.Sort
def Ev.zero:Ev:=⟨[],0,0,0,[],[],0,[]⟩
def jZ:Option Ev→List Value|none=>Ev.zero.cells++[.bool true]|some e=>e.cells++[.bool false]
def dw(x:Option Ev):Ev:=x.getD Ev.zero
def av(es:List (Option Ev)):List Value:=es.flatMap jZ
theorem vW(x:Option Ev):jZ x=(dw x).cells++[.bool x.isNone]:=by cases x<;>rfl
theorem jo(x:Option Ev):(jZ x).length=9:=by cases x<;>rfl
theorem bB(es:List (Option Ev)):(av es).length=es.length*9:=by induction es with|nil=>rfl|cons e es ih=>simp only[av,List.flatMap_cons,List.length_append,List.length_cons,jo]at*;rw[ih];omega
theorem mX(a b:List (Option Ev)):av (a++b)=av a++av b:=by simp[av]
theorem rQ(es:List (Option Ev))(x:Option Ev):av (es++[x])=av es++jZ x:=by simp[av]
theorem Bi(es:List (Option Ev))(k j:Nat)(hk:k<es.length)(hj:j<9):(av es)[k*9+j]?=(jZ es[k])[j]?:=by induction es generalizing k with|nil=>simp at hk|cons e es ih=>have hc:=jo e;simp only[av,List.flatMap_cons];cases k with|zero=>rw[Nat.zero_mul,Nat.zero_add,List.getElem?_append_left (by omega)];rfl|succ k=>rw[List.getElem?_append_right (by omega),hc,show(k+1)*9+j-9=k*9+j by omega];exact ih k (by simpa using hk)
theorem rR(x:Option Ev): ∀u∈jZ x,u.oneCell'=true:=by
 intro u hu;rw[vW]at hu;rcases List.mem_append.1 hu with h|h;·exact cells_one _ u h
 ·simp at h;subst h;rfl
abbrev xO(x:Option Ev):Value:=.agg #[.string ⟨(dw x).src.toArray⟩,.int .i64 (dw x).num,.int .i64 (dw x).at_,.int .i64 (dw x).kind,.string ⟨(dw x).per.toArray⟩,.string ⟨(dw x).item.toArray⟩,.int .i64 (dw x).val,.string ⟨(dw x).text.toArray⟩,.bool x.isNone]
theorem Eh:(Tryz.prog.info? 91).map (fun i=>(i.zero,i.size,i.bytes))=some (some (.agg #[.string ByteArray.empty,.int .i64 0,.int .i64 0,.int .i64 0,.string ByteArray.empty,.string ByteArray.empty,.int .i64 0,.string ByteArray.empty,.bool false]),9,104):=by kernel_rfl
def iR(w:World)(base:Nat)(v:Value)(es:List (Option Ev)):Prop:=w.ownsRow base 91 9 v es.length (av es)
abbrev xx(bd:Nat)(v:Value)(j:Jl):Obj:=.cells #[.pointer (some ⟨bd,0,none⟩),.string ⟨j.name.toArray⟩,.int .i64 j.per,.int .i64 j.files,v,.int .i64 j.lasts,.int .i64 j.stuck] 88
structure Jl.Ok(j:Jl):Prop where
 per1:1≤j.per
 per2:j.per≤4096
 nm:j.name.length≤24
 num:j.es.length≤100000
 fl:j.files≤j.es.length+1
 O5:j.lasts≤j.es.length
 may: ∀e,some e∈j.es→aK e=true
structure gN(w:World)(G F:Nat→Prop)(bj bd:Nat)(v:Value)(j:Jl):Prop where
 dk:mU w G bd j.dk
 blk:w.heap[bj]?=some (xx bd v j)
 own:iR w 0 v j.es
 fj:F bj
 fv: ∀b,v.ownBlock=some b→F b∧b≠bj
 ap: ∀b,F b→ ¬G b
 lt: ∀b,F b→b<w.heap.size
def gT(w:World)(G F:Nat→Prop)(bj bd:Nat)(j:Jl):Prop:=j.Ok∧ ∃v,gN w G F bj bd v j
def BS(w:World)(G F:Nat→Prop)(bj bd:Nat)(j':Jl)(w':World):Prop:= ∃G' F',gT w' G' F' bj bd j'∧(∀b,G' b→G b∨w.heap.size≤b)∧(∀b,F' b→F b∨w.heap.size≤b)∧ah (fun b=>G b∨F b) w w'
section
variable{w w':World}{G F:Nat→Prop}{bj bd:Nat}{v:Value}{j:Jl}
theorem iR.aN{w w':World}{base:Nat}{v:Value}{l:List (Option Ev)}(h:iR w base v l)(hb: ∀b,v.ownBlock=some b→w'.heap[b]?=w.heap[b]?):iR w' base v l:=by
 refine⟨h.1,?_⟩;rcases h.2 with⟨e,hl⟩|⟨g,cap,cur,e,hb',hg,hr⟩;·exact .inl ⟨e,hl⟩
 ·exact .inr ⟨g,cap,cur,e,hb',(hb g (by rw[e];rfl)).trans hg,hr⟩
theorem gN.keep(h:gN w G F bj bd v j)(hsz:w.heap.size≤w'.heap.size)(hk: ∀b,G b∨F b→w'.heap[b]?=w.heap[b]?):gN w' G F bj bd v j:=⟨h.dk.keep hsz (fun b hb=>hk b (.inl hb)),(hk _ (.inr h.fj)).trans h.blk,h.own.aN fun b hb=>hk b (.inr (h.fv b hb).1),h.fj,h.fv,h.ap,fun b hb=>Nat.lt_of_lt_of_le (h.lt b hb) hsz⟩
theorem gN.up(h:gN w G F bj bd v j)(hb:Below w.heap.size w w'):gN w' G F bj bd v j:=h.keep hb.size fun b hg=>hb.block b (hg.elim (h.dk.lt b) (h.lt b))
theorem gT.up(h:gT w G F bj bd j)(hb:Below w.heap.size w w'):gT w' G F bj bd j:=⟨h.1,h.2.choose,h.2.choose_spec.up hb⟩
theorem gT.keep(h:gT w G F bj bd j)(hsz:w.heap.size≤w'.heap.size)(hk: ∀b,G b∨F b→w'.heap[b]?=w.heap[b]?):gT w' G F bj bd j:=⟨h.1,h.2.choose,h.2.choose_spec.keep hsz hk⟩
theorem gT.dk(h:gT w G F bj bd j):mU w G bd j.dk:=h.2.choose_spec.dk
theorem gT.lt(h:gT w G F bj bd j): ∀b,G b∨F b→b<w.heap.size:=fun b hb=>hb.elim (h.dk.lt b) (h.2.choose_spec.lt b)
theorem BS.refl(h:gT w G F bj bd j):BS w G F bj bd j w:=⟨G,F,h,fun _ h=>.inl h,fun _ h=>.inl h,ah.refl _ _⟩
theorem gN.cells(h:gN w G F bj bd v j):w.cell? ⟨bj,0,none⟩=some (.pointer (some ⟨bd,0,none⟩))∧w.cell? ⟨bj,1,none⟩=some (.string ⟨j.name.toArray⟩)∧w.cell? ⟨bj,2,none⟩=some (.int .i64 j.per)∧w.cell? ⟨bj,3,none⟩=some (.int .i64 j.files)∧w.cell? ⟨bj,4,none⟩=some v∧w.cell? ⟨bj,5,none⟩=some (.int .i64 j.lasts)∧w.cell? ⟨bj,6,none⟩=some (.int .i64 j.stuck):=by have key: ∀o,w.cell? ⟨bj,o,none⟩=_:=fun o=>cell_of_row w bj o _ _ (0,0) h.blk;exact⟨(key 0).trans rfl,(key 1).trans rfl,(key 2).trans rfl,(key 3).trans rfl,(key 4).trans rfl,(key 5).trans rfl,(key 6).trans rfl⟩
theorem gN.frozen(h:gN w G F bj bd v j)(o:Nat):w.frozen? ⟨bj,o,none⟩=false:=frozen_of_row w bj o _ _ h.blk
theorem gN.head{G':Nat→Prop}{j':Jl}(h:gN w G F bj bd v j)(hd:mU w' G' bd j'.dk)(hG: ∀b,G' b→G b∨w.heap.size≤b)(hb:w'.heap[bj]?=some (xx bd v j'))(he:j'.es=j.es)(hsz:w.heap.size≤w'.heap.size)(hk: ∀b,F b→b≠bj→w'.heap[b]?=w.heap[b]?):gN w' G' F bj bd v j':=⟨hd,hb,he▸h.own.aN fun b hb=>hk b (h.fv b hb).1 (h.fv b hb).2,h.fj,h.fv,fun b hb hg=>(hG b hg).elim (h.ap b hb) (fun hs=>by have:=h.lt b hb;omega),fun b hb=>Nat.lt_of_lt_of_le (h.lt b hb) hsz⟩
end
theorem and127(x:Nat)(h:x<4611686018427387904):bits .and .i64 (x:Int) 127=((x%128:Nat):Int):=by
 show IntKind.i64.wrap ((BitVec.ofInt 64 (x:Int)&&&BitVec.ofInt 64 ((127:Nat):Int)).toNat:Int)=_;have e:(BitVec.ofInt 64 (x:Int)&&&BitVec.ofInt 64 ((127:Nat):Int)).toNat=x%128:=by rw[BitVec.toNat_and,BitVec.ofInt_natCast,BitVec.ofInt_natCast,BitVec.toNat_ofNat,BitVec.toNat_ofNat,Nat.mod_eq_of_lt (by omega:x<2^64)];exact Nat.and_two_pow_sub_one_eq_mod x 7
 rw[e];simp[IntKind.wrap,IntKind.bits,IntKind.signed];omega
theorem tN(w:World)(base:Nat)(v:Value)(l:List UInt8)(ho:aR w base v l)(hb:base≤w.heap.size)(n:Nat)(hn:n<4611686018427387904)(hl:l.length≤200000000000):Calls Tryz.prog 189 #[v,.int .i64 n] w (uh w base v (l++aV n)):=by
 have hn8:=zx hn;have HST:=qS (zU w base v (l++aV n) v (.int .i64 n) w) (⟨n,l,rfl,hn,rfl,ho,ah.refl _ _,fun b hb=>.inl hb⟩);have hll:(l++aV n).length≤200000000009:=by simp;omega
 generalize l++aV n=L at*;clear ho hn8;go_enter Tryz.func189,Tryz.ntmps189;go_wp2;go_loopw[0,1](fun v' q wr=>zU w base v L v' q wr)(fun _ q _=>(intOf q).toNat);case atStart=>exact HST.o
 case round=>
  obtain⟨q,l',rfl,hq,hL,hm⟩:=hrel;have HL:=qH hL;have HM:=qH hm;have hl':l'.length≤200000000009:=by have:=congrArg List.length hL;simp at this;omega
  have yF:=hm.keep.size;clear hL hm;by_cases hlo:q<128
  ·have t1: ¬(128:Int)≤q:=by omega
   have HB:=qS (L=l'++[UInt8.ofNat q]) (by rw[←HL.o,kU hlo]);go_wp2_with(at_builtin;refine bJ rfl (.tmp 16) (.tmp 19) rfl base _ l' rfl ?c1 (wr.heap.size+1) _ _ _ [UInt8.ofNat q] rfl ?c2 ?c3 ?c4 ?_);case c1=>exact aR.alloc HM.o.own _
   case c2=>exact fA.new wr _ _ [UInt8.ofNat q] (by simp;omega) 1 rfl (by unfold maxLen;omega)
   case c3=>first|omega|(simp;omega)
   case c4=>first|omega|(simp;omega)
   intro v2 w2 ho2 hg2 hv2;have HR:=qS (uh w base v L (.returned v2) w2) (⟨v2,rfl,HM.o.app _ (by rw[HB.o];exact ho2) hg2 hv2⟩);clear ho2 hg2 hv2;go_wp2;go_ret;exact HR.o
  ·have t1:(128:Int)≤q:=by omega
   have HB:=qS (L=l'++[UInt8.ofNat (q%128+128)]++aV (q/128)) (by rw[←HL.o,mr hlo];simp);have eo:bits .or .u8 (bits .and .i64 (q:Int) 127%256) 128=((q%128+128:Nat):Int):=by have:=or128 (q%128) (by omega);rw[and127 q (by omega),show(((q%128:Nat):Int))%256=((q%128:Nat):Int)by omega,this];congr 1;omega
   generalize hc:q%128+128=cN at*;have hcl:cN<256:=by omega
   clear hc;go_wp2_with(at_builtin;refine bJ rfl (.tmp 7) (.tmp 12) rfl base _ l' rfl ?c1 (wr.heap.size+1) _ _ _ [UInt8.ofNat cN] rfl ?c2 ?c3 ?c4 ?_);case c1=>exact aR.alloc HM.o.own _
   case c2=>exact fA.new wr _ _ [UInt8.ofNat cN] (by simp;omega) 1 rfl (by unfold maxLen;omega)
   case c3=>first|omega|(simp;omega)
   case c4=>first|omega|(simp;omega)
   intro v2 w2 ho2 hg2 hv2;have HR:=qS (zU w base v L v2 (.int .i64 ((q/128:Nat):Int)) w2) (⟨q/128,l'++[UInt8.ofNat cN],rfl,by omega,HB.o.symm,HM.o.app _ ho2 hg2 hv2⟩);clear ho2 hg2 hv2 eo;go_wp2;go_roundw;case rel=>exact HR.o
   case measure=>simp[intOf];omega
theorem mI(w:World)(base:Nat)(v:Value)(l:List UInt8)(ho:aR w base v l)(hb:base≤w.heap.size)(s:List UInt8)(hs:s.length≤4096)(hl:l.length≤200000000000):Calls Tryz.prog 188 #[v,.string ⟨s.toArray⟩] w (uh w base v (l++jQ s)):=by
 have HM:=qS (zV w base v l v w) (⟨ho,ah.refl _ _,fun b hb=>.inl hb⟩);clear ho;go_enter Tryz.func188,Tryz.ntmps188;go_wp2_with(at_builtin;refine bJ rfl (.tmp 5) (.tmp 9) rfl base _ l rfl ?c1 (w.heap.size+1) _ _ _ [UInt8.ofNat s.length] rfl ?c2 ?c3 ?c4 ?_);case c1=>exact aR.alloc HM.o.own _
 case c2=>exact fA.new w _ _ [UInt8.ofNat s.length] (by simp) 1 rfl (by unfold maxLen;omega)
 case c3=>first|omega|(simp;omega)
 case c4=>first|omega|(simp;omega)
 intro v5 w5 ho5 hg5 hv5;have Sq:=qH (HM.o.app _ ho5 hg5 hv5);clear ho5 hg5 hv5 HM;have hs5:=Sq.o.keep.size;obtain⟨v6,w6,hr6,ho6,hg6,hv6⟩:=IL w5 base v5 (l++[UInt8.ofNat s.length]) s Sq.o.own (by simp) (by omega) (by simp;omega) 93;have Vl:=qH hr6;have Jd:=qS (uh w base v (l++jQ s) (.returned v6) w6) (⟨v6,rfl,by have:=Sq.o.str ho6 hg6 hv6;rw[List.append_assoc]at this;exact this⟩);clear hr6 ho6 hg6 hv6;go_wp2_with(at_builtin;refine Lib.wpList_append_run _ rfl (.tmp 11) (.tmp 12) _ _ rfl _ _ rfl rfl _ _ Vl.o ?_);go_wp2;go_ret;exact Jd.o
theorem eD.aN{w w':World}{b:Nat}{e:Ev}(h:eD w b e)(hb:w'.heap[b]?=w.heap[b]?):eD w' b e:=by obtain⟨h0,h1,h2,h3,h4,h5,h6,h7⟩:=h;have key: ∀(o:Nat)u,w.cell? ⟨b,o,none⟩=some u→w'.cell? ⟨b,o,none⟩=some u:=fun o u hu=>(World.cell?_of_block (w:=w) (a:=⟨b,o,none⟩) hb).trans hu;exact⟨key _ _ h0,key _ _ h1,key _ _ h2,key _ _ h3,key _ _ h4,key _ _ h5,key _ _ h6,key _ _ h7⟩
structure YT(w:World)(be:Nat)(e:Ev)(v:Value)(l:List UInt8)(w':World):Prop where
 own:aR w' w.heap.size v l
 ne: ∀b,v.ownBlock=some b→b≠be
 ev:eD w' be e
 jB:Below w.heap.size w w'
 lt:be<w'.heap.size
 ge:w.heap.size≤be
theorem YT.next{w w' w2:World}{be:Nat}{e:Ev}{v v2:Value}{l l2:List UInt8}(h:YT w be e v l w')(h2:zV w' w.heap.size v l2 v2 w2):YT w be e v2 l2 w2:=by
 have hs:=h2.keep.size;have hs0:=h.jB.size;refine⟨h2.own,fun b hb e'=>?_,h.ev.aN (h2.keep.block be h.lt (fun hb=>h.ne _ hb rfl)),h.jB.trans (h2.keep.below hs0 (fun k hk hv=>by have:=h.own.lt k hv;omega)),by have:=h.lt;omega,h.ge⟩;rcases h2.blk b hb with h'|h';·exact h.ne b h' e'
 ·have:=h.lt;omega
def aaC(w:World)(l:List UInt8)(er:Int)(e:Ending)(w':World):Prop:= ∃v,e=.returned (.tuple #[v,.int .i64 er])∧aR w' w.heap.size v l∧Below w.heap.size w w'
theorem KE(w:World)(e:Ev)(hm:aK e=true)(hmx:aW w):Calls Tryz.prog 128 #[e.agg] w (aaC w (yL e) 0):=by
 have hf:=jk hm;have HL:=qH hf.len;have hsm:=hf.small;obtain⟨a1,a2,a3,a4,a5,a6,a7,a8,a9,a10,a11,a12⟩:=hf;have mG:=rD (w.alloc (au e)) e hsm (hmx.up ((Below.refl _ _).alloc (Nat.le_refl _) _));rw[hm]at mG;have hE:yL e=UInt8.ofNat e.kind.toNat::(jQ e.src++aV e.num.toNat++aV e.at_.toNat++jQ e.per++jQ e.item++aV e.val.toNat++jQ e.text):=rfl;have hin:=eD.new w e;have hb0:Below w.heap.size w (w.alloc (au e)):=(Below.refl _ _).alloc (Nat.le_refl _) _;clear hm hmx hsm;have hagg:e.agg=.agg #[.string ⟨e.src.toArray⟩,.int .i64 e.num,.int .i64 e.at_,.int .i64 e.kind,.string ⟨e.per.toArray⟩,.string ⟨e.item.toArray⟩,.int .i64 e.val,.string ⟨e.text.toArray⟩]:=rfl;have HY:=qH mG;clear mG;obtain⟨src,num,at_,kind,per,item,val,text⟩:=e;simp only at*;obtain⟨n,rfl⟩:=Int.eq_ofNat_of_zero_le (show 0≤num by omega);obtain⟨a,rfl⟩:=Int.eq_ofNat_of_zero_le a7;obtain⟨k,rfl⟩:=Int.eq_ofNat_of_zero_le a11;obtain⟨vl,rfl⟩:=Int.eq_ofNat_of_zero_le a9;simp only[Int.toNat_natCast]at hE;obtain⟨L1,hL1⟩: ∃l,l=[UInt8.ofNat k]++jQ src:=⟨_,rfl⟩;obtain⟨L2,hL2⟩: ∃l,l=L1++aV n:=⟨_,rfl⟩;obtain⟨L3,hL3⟩: ∃l,l=L2++aV a:=⟨_,rfl⟩;obtain⟨L4,hL4⟩: ∃l,l=L3++jQ per:=⟨_,rfl⟩;obtain⟨L5,hL5⟩: ∃l,l=L4++jQ item:=⟨_,rfl⟩;obtain⟨L6,hL6⟩: ∃l,l=L5++aV vl:=⟨_,rfl⟩;obtain⟨L7,hL7⟩: ∃l,l=L6++jQ text:=⟨_,rfl⟩;have hEL:yL ⟨src,n,a,k,per,item,vl,text⟩=L7:=by rw[hE,hL7,hL6,hL5,hL4,hL3,hL2,hL1];simp
 rw[hEL]at HL⊢;have hlen:=HL.o;have e7:L6.length≤L7.length:=by rw[hL7];simp
 have e6:L5.length≤L6.length:=by rw[hL6];simp
 have e5:L4.length≤L5.length:=by rw[hL5];simp
 have e4:L3.length≤L4.length:=by rw[hL4];simp
 have e3:L2.length≤L3.length:=by rw[hL3];simp
 have e2:L1.length≤L2.length:=by rw[hL2];simp
 have H1:=qH hL1;have H2:=qH hL2;have H3:=qH hL3;have H4:=qH hL4;have H5:=qH hL5;have H6:=qH hL6;have H7:=qH hL7;clear hL1 hL2 hL3 hL4 hL5 hL6 hL7 hE hEL HL;rw[hagg];clear hagg;have Sv:=qH hin;have HB0:=qH hb0;clear hin hb0;go_enter Tryz.func128,Tryz.ntmps128;go_wp2_with fail;refine HY.o.mono ?_;rintro r w1⟨rfl,hb1⟩;have hin1:=Sv.o.below hb1 (by simp);have hbw1:Below w.heap.size w w1:=HB0.o.trans (hb1.mono HB0.o.size);have hs1:w.heap.size+1≤w1.heap.size:=by have:=hb1.size;simpa using this
 have XK:=qH hin1;have Rn:=qH hbw1;obtain⟨f0,f1,f2,f3,f4,f5,f6,f7⟩:=hin1;clear hb1 hbw1 Sv HB0 HY;have hk:(k:Int)%256=(k:Int):=by omega
 have HM:=qS (YT w w.heap.size ⟨src,n,a,k,per,item,vl,text⟩ (.slice (some ⟨w1.heap.size,0,none⟩) 1 1) [UInt8.ofNat k] (w1.alloc (.cells #[.int .u8 k] 5))) (by
  refine⟨?_,fun b hb e=>?_,XK.o.aN (Below.heap_alloc _ _ _ (by omega)),Rn.o.alloc Rn.o.size _,by simp;omega,Nat.le_refl _⟩
  ·have:=World.ownsRow_lit (base:=w.heap.size) (e:=5) (size:=1) w1 #[.int .u8 k] 1 Rn.o.size (by simp[maxLen]) rfl;unfold aR;have e:yz [UInt8.ofNat k]=[.int .u8 k]:=by simp[yz];omega
   rw[e];exact this
  ·simp[Value.ownBlock]at hb;omega);obtain⟨g0,_⟩:=HM.o.ev;clear f0 f1 f2 f4 f5 f6 f7 XK Rn;simp only at f3 g0;go_upto_region 4 with fail;clear f3;generalize w1.alloc (.cells #[.int .u8 k] 5)=w2 at*;clear hs1;go_wp2_with fail;with_reducible refine(mI w2 w.heap.size (.slice (some ⟨w1.heap.size,0,none⟩) 1 1) [UInt8.ofNat k] HM.o.own HM.o.jB.size src (by omega) (by first|omega|simp)).mono ?_
 rintro r w3⟨v3,rfl,hp⟩;rw[←H1.o]at hp;replace HM:=qH (HM.o.next hp);clear hp g0;obtain⟨_,g1,_⟩:=HM.o.ev;simp only at g1;go_wp2_with fail;with_reducible refine(tN w3 w.heap.size v3 L1 HM.o.own HM.o.jB.size n (by omega) (by first|omega|simp)).mono ?_
 rintro r w4⟨v4,rfl,hp⟩;rw[←H2.o]at hp;replace HM:=qH (HM.o.next hp);clear hp g1;obtain⟨_,_,g2,_⟩:=HM.o.ev;simp only at g2;go_wp2_with fail;with_reducible refine(tN w4 w.heap.size v4 L2 HM.o.own HM.o.jB.size a (by omega) (by first|omega|simp)).mono ?_
 rintro r w5⟨v5,rfl,hp⟩;rw[←H3.o]at hp;replace HM:=qH (HM.o.next hp);clear hp g2;obtain⟨_,_,_,_,g4,_⟩:=HM.o.ev;simp only at g4;go_wp2_with fail;with_reducible refine(mI w5 w.heap.size v5 L3 HM.o.own HM.o.jB.size per (by omega) (by first|omega|simp)).mono ?_
 rintro r w6⟨v6,rfl,hp⟩;rw[←H4.o]at hp;replace HM:=qH (HM.o.next hp);clear hp g4;obtain⟨_,_,_,_,_,g5,_⟩:=HM.o.ev;simp only at g5;go_wp2_with fail;with_reducible refine(mI w6 w.heap.size v6 L4 HM.o.own HM.o.jB.size item (by omega) (by first|omega|simp)).mono ?_
 rintro r w7⟨v7,rfl,hp⟩;rw[←H5.o]at hp;replace HM:=qH (HM.o.next hp);clear hp g5;obtain⟨_,_,_,_,_,_,g6,_⟩:=HM.o.ev;simp only at g6;go_wp2_with fail;with_reducible refine(tN w7 w.heap.size v7 L5 HM.o.own HM.o.jB.size vl (by omega) (by first|omega|simp)).mono ?_
 rintro r w8⟨v8,rfl,hp⟩;rw[←H6.o]at hp;replace HM:=qH (HM.o.next hp);clear hp g6;obtain⟨_,_,_,_,_,_,_,g7⟩:=HM.o.ev;simp only at g7;go_wp2_with fail;with_reducible refine(mI w8 w.heap.size v8 L6 HM.o.own HM.o.jB.size text (by omega) (by first|omega|simp)).mono ?_
 rintro r w9⟨v9,rfl,hp⟩;rw[←H7.o]at hp;replace HM:=qH (HM.o.next hp);clear hp g7;obtain⟨A9,c9,hv9⟩:=HM.o.own.form;subst hv9;go_wp2;go_ret2;exact⟨_,rfl,HM.o.own,HM.o.jB⟩
theorem Pz(w:World)(B:Nat)(A:Option Addr)(n c:Nat)(l:List UInt8)(h:fA w B A n c l)(hn:n≤1000000):Calls Tryz.prog 190 #[.slice A n c] w fun e w'=>e=.returned (.int .u32 (ky.KQ l))∧w=w':=by
 obtain⟨hl,hcap,hmax,hcell⟩:=h;have HL:=qH hl;clear hl;have HC:=qH hcell;clear hcell;clear hmax;go_enter Tryz.func190,Tryz.ntmps190;go_wp2;go_loop[3,4,9](fun t s i=> ∃k:Nat,k≤n∧i=.int .i64 k∧t=.int .u32 (ky.ad (l.take k)).1∧s=.int .u32 (ky.ad (l.take k)).2)(fun _ _ i=>n-(intOf i).toNat);case atStart=>exact⟨0,Nat.zero_le _,rfl,rfl,rfl⟩
 case round=>
  obtain⟨k,hk,rfl,rfl,rfl⟩:=hrel;have hlt:=ky.NZ (l.take k);obtain⟨hlt1,hlt2⟩:=hlt;by_cases hkn:k<n
  ·obtain⟨b,off,rfl,hb,hc⟩:=HC.o (by omega);have hk':k<l.length:=by rw[HL.o];exact hkn
   have hc':=hc k hk';have HA:=qH (ky.QO l k hk');have hb8:(l[k]).toNat<256:=(l[k]).toNat_lt;generalize hx:(l[k]).toNat=x at*;have HX:=qH hx;clear hx hc;generalize h1:(ky.ad (l.take k)).1=p at*;generalize h2:(ky.ad (l.take k)).2=q at*;have H1:=qH h1;have H2:=qH h2;clear h1 h2;go_wp2;go_round;case rel=>
    refine⟨k+1,by omega,by go_num,?_,?_⟩;·rw[HA.o];unfold ky.yg;rw[H1.o,HX.o];go_num
    ·rw[HA.o];unfold ky.yg;rw[H1.o,H2.o,HX.o];go_num
   case measure=>simp[intOf];omega
  ·go_wp2;go_ret;refine⟨aY ?_,rfl⟩;have hkk:l.take k=l:=List.take_of_length_le (by rw[HL.o];omega);have hz:=ky.NZ l;rw[hkk];rw[show(((ky.ad l).2:Int)*65536)=(((ky.ad l).2*65536:Nat):Int)by omega,u32_or_nat _ _ (by omega) (by omega),nat_join16 _ _ (by omega) (by omega)];rfl
def Od(w:World)(l:List UInt8)(e:Ending)(w':World):Prop:= ∃v,e=.returned (.tuple #[v,.int .i64 0])∧aR w' w.heap.size v (ky.wU l)∧Below w.heap.size w w'
theorem Cx(w:World)(A:Option Addr)(n c:Nat)(l:List UInt8)(h:fA w w.heap.size A n c l)(hn:n≤65536):Calls Tryz.prog 129 #[.slice A n c] w (Od w l):=by
 have HH:=qH h;clear h;obtain⟨i0,hi,hz0,hz1,hz2⟩:=info_parts vM;go_enter Tryz.func129,Tryz.ntmps129;go_wp2_with(at_make;refine wpList_make_own _ rfl _ _ 93 rfl w.heap.size 5 i0 (.int .u8 0) 1 Tryz.underlying93 hi hz0 hz1 _ _ _ (6+n+4) rfl rfl ?c1 ?c2 ?c3 (Nat.le_refl _) ?_);case c1=>omega
 case c2=>rw[hz2];omega
 case c3=>unfold maxLen;omega
 intro w1 hown1 hg1;have hsz:w.heap.size+1≤w1.heap.size:=(hown1.lt _ rfl).2;have Lx:=qH hown1;clear hown1;have EY:=qH hg1;clear hg1;clear hi hz0 hz1 hz2;go_wp2_with(at_builtin;refine bJ rfl (.tmp 26) (.tmp 36) rfl w.heap.size _ [] rfl ?c1 (w1.heap.size+1) _ _ _ (ky.be3 n++(ky.be3 n).map (255- ·)) rfl ?c2 ?c3 ?c4 ?_);case c1=>exact aR.alloc (l:=[]) Lx.o _
 case c2=>exact fA.new w1 _ _ _ (by simp[ky.be3,ky.Ch,ky.sub255];omega) 6 rfl (by unfold maxLen;omega)
 case c3=>simp
 case c4=>simp;omega
 intro v2 w2 hown2 hg2 _;have hb1:Below w.heap.size w w1:=Below.grown (Below.refl _ _) EY.o (Nat.le_refl _) (by simp);have hb2:Below w.heap.size w w2:=Below.grown (hb1.alloc (by omega) _) hg2 (by simp;omega) (by intro k hk;simp[Value.ownBlock]at hk;omega);have dA:=qH hown2;clear hown2 hg2;have hs2:=hb2.size;go_wp2_with(at_builtin;refine bJ rfl (.tmp 38) (.tmp 39) rfl w.heap.size _ _ rfl dA.o w.heap.size _ _ _ l rfl (HH.o.below hb2) ?c3 hs2 ?_);case c3=>simp[ky.be3];omega
 intro v3 w3 hown3 hg3 _;have hb3:Below w.heap.size w w3:=Below.grown hb2 hg3 hs2 dA.o.lt;have hs3:=hb3.size;have hf:ky.be3 n++((ky.be3 n).map (255- ·)++l)=ky.front l:=by unfold ky.front;rw[HH.o.len,List.append_assoc]
 rw[hf]at hown3;obtain⟨A3,c3,hv3⟩:=hown3.form;have hl3:(ky.front l).length=n+6:=by rw[ky.mH,HH.o.len]
 rw[hl3]at hv3;rw[hv3]at hown3⊢;have pK:=qH hown3;clear hown3 hg3 hf hl3 hv3 dA hs2;have hlt:=ky.QL (ky.front l);have hfl:=ky.mH l;have hll:=HH.o.len;have Ce:=qH hfl;have Je:=qH hll;clear hfl hll;go_wp2_with fail;refine(Pz w3 _ A3 (n+6) c3 (ky.front l) pK.o.Pb (by omega)).mono ?_;rintro e w'⟨rfl,rfl⟩;generalize hs:ky.KQ (ky.front l)=s at*;have HS:=qH hs;clear hs;go_wp2_with(at_builtin;refine bJ rfl (.tmp 43) (.tmp 55) rfl w.heap.size _ (ky.front l) rfl ?c1 (w3.heap.size+1) _ _ _ (ky.be4 s) rfl ?c2 ?c3 ?c4 ?_);case c1=>exact aR.alloc pK.o _
 case c2=>exact fA.new w3 _ _ _ (by simp[ky.be4,ky.Ch];omega) 4 rfl (by unfold maxLen;omega)
 case c3=>rw[Ce.o,Je.o];omega
 case c4=>simp;omega
 intro v4 w4 hown4 hg4 _;have hb4:Below w.heap.size w w4:=Below.grown (hb3.alloc hs3 _) hg4 (by simp;omega) pK.o.lt;clear hg4;go_wp2;go_ret2;refine⟨v4,rfl,?_,hb4⟩;unfold ky.wU;rw[HS.o];exact hown4
theorem aR.up{w w':World}{base:Nat}{v:Value}{l:List UInt8}(h:aR w base v l)(hb:Below w.heap.size w w'):aR w' base v l:=h.below hb (Nat.le_refl _)
def Ab(w:World)(s:List UInt8)(e:Ending)(w':World):Prop:=e=.returned (.string ⟨s.toArray⟩)∧ ∃q,w'=w.drewN q
theorem qF(w:World)(bj:Nat)(s:List UInt8)(hc:w.cell? ⟨bj,1,none⟩=some (.string ⟨s.toArray⟩))(hs:s.length≤1000000)(k:Nat)(hk:k<100):Calls Tryz.prog 70 #[.pointer (some ⟨bj,0,none⟩),.int .i64 k] w (Ab w (aO s k)):=by
 have HS:=qS ((⟨s.toArray⟩:ByteArray)++⟨#[46]⟩++⟨(Lib.decDigits k).toArray⟩=⟨(aO s k).toArray⟩) (by have e:(⟨#[46]⟩:ByteArray)=⟨[(46:UInt8)].toArray⟩:=rfl;rw[e,kN,kN];simp[aO]);have t1: ¬9223372036854775807<s.length+1:=by omega
 have hd2:=(xY hk).2;have t2: ¬9223372036854775807<s.length+1+(Lib.decDigits k).length:=by omega
 go_enter Tryz.func70,Tryz.ntmps70;go_wp2;go_still_tail 8,(by kernel_rfl);still_call(Tryz.strconv_Itoa_small k hk _);repeat still_step
 refine wpStill_nil ?_;change wpList _ _ _ _ _ (w.drewN 1);go_wp2;go_ret;exact⟨congrArg (fun b=>Ending.returned (.string b)) HS.o,1,rfl⟩
abbrev bR(x:Option Ev):Obj:=.cells #[.string ⟨(dw x).src.toArray⟩,.int .i64 (dw x).num,.int .i64 (dw x).at_,.int .i64 (dw x).kind,.string ⟨(dw x).per.toArray⟩,.string ⟨(dw x).item.toArray⟩,.int .i64 (dw x).val,.string ⟨(dw x).text.toArray⟩,.bool x.isNone] 91
def lD(w:World)(b:Nat)(x:Option Ev):Prop:=w.cell? ⟨b,0,none⟩=some (.string ⟨(dw x).src.toArray⟩)∧w.cell? ⟨b,1,none⟩=some (.int .i64 (dw x).num)∧w.cell? ⟨b,2,none⟩=some (.int .i64 (dw x).at_)∧w.cell? ⟨b,3,none⟩=some (.int .i64 (dw x).kind)∧w.cell? ⟨b,4,none⟩=some (.string ⟨(dw x).per.toArray⟩)∧w.cell? ⟨b,5,none⟩=some (.string ⟨(dw x).item.toArray⟩)∧w.cell? ⟨b,6,none⟩=some (.int .i64 (dw x).val)∧w.cell? ⟨b,7,none⟩=some (.string ⟨(dw x).text.toArray⟩)∧w.cell? ⟨b,8,none⟩=some (.bool x.isNone)
theorem lD.new(w:World)(x:Option Ev):lD (w.alloc (bR x)) w.heap.size x:=by have key: ∀o,(w.alloc (bR x)).cell? ⟨w.heap.size,o,none⟩=_:=fun o=>cell_of_row _ w.heap.size o _ _ (0,0) (heap_alloc_new w (bR x));exact⟨(key 0).trans rfl,(key 1).trans rfl,(key 2).trans rfl,(key 3).trans rfl,(key 4).trans rfl,(key 5).trans rfl,(key 6).trans rfl,(key 7).trans rfl,(key 8).trans rfl⟩
theorem lD.aN{w w':World}{b:Nat}{x:Option Ev}(h:lD w b x)(hb:w'.heap[b]?=w.heap[b]?):lD w' b x:=by obtain⟨h0,h1,h2,h3,h4,h5,h6,h7,h8⟩:=h;have key: ∀(o:Nat)u,w.cell? ⟨b,o,none⟩=some u→w'.cell? ⟨b,o,none⟩=some u:=fun o u hu=>(World.cell?_of_block (w:=w) (a:=⟨b,o,none⟩) hb).trans hu;exact⟨key _ _ h0,key _ _ h1,key _ _ h2,key _ _ h3,key _ _ h4,key _ _ h5,key _ _ h6,key _ _ h7,key _ _ h8⟩
def IV(w:World)(l:List UInt8)(e:Ending)(w':World):Prop:= ∃v,e=.returned v∧aR w' w.heap.size v l∧Below w.heap.size w w'
theorem zB(w:World)(x:Option Ev)(hx: ∀e,x=some e→aK e=true)(hmx:aW w):Calls Tryz.prog 83 #[xO x] w (IV w (aU x)):=by
 have kL:=qH hmx;clear hmx;have hb0:Below w.heap.size w (w.alloc (bR x)):=(Below.refl _ _).alloc (Nat.le_refl _) _;obtain⟨f0,f1,f2,f3,f4,f5,f6,f7,f8⟩:=lD.new w x;have HX:=qH hx;have HB0:=qH hb0;clear hx hb0;cases ER:x.isNone
 ·obtain⟨e,rfl⟩: ∃e,x=some e:=by cases x with|none=>simp at ER|some e=>exact⟨e,rfl⟩
  have hm:=HX.o e rfl;have HE:=qS (ky.wU (yL e)=aU (some e)) (rfl);have hel:=(jk hm).len;have Sz:=qH (KE (w.alloc (bR (some e))) e hm (kL.o.up HB0.o));have hagg:e.agg=.agg #[.string ⟨e.src.toArray⟩,.int .i64 e.num,.int .i64 e.at_,.int .i64 e.kind,.string ⟨e.per.toArray⟩,.string ⟨e.item.toArray⟩,.int .i64 e.val,.string ⟨e.text.toArray⟩]:=rfl;rw[hagg]at Sz;simp only[dw,Option.getD_some]at*;rw[ER]at f8;clear hagg hm HX;go_enter Tryz.func83,Tryz.ntmps83;go_wp2_with fail;refine Sz.o.mono ?_;rintro r w1⟨v1,rfl,ho1,hb1⟩;have hbw1:Below w.heap.size w w1:=HB0.o.trans (hb1.mono HB0.o.size);obtain⟨A1,c1,hv1⟩:=ho1.form;subst hv1;have hby:=ho1.Pb;have gK:=qH hby;clear f0 f1 f2 f3 f4 f5 f6 f7 f8 hby ho1 hb1 Sz;go_wp2_with fail;with_reducible refine(Cx w1 A1 _ c1 (yL e) gK.o (by omega)).mono ?_
  rintro r w2⟨v2,rfl,ho2,hb2⟩;have HR:=qS (IV w (aU (some e)) (.returned v2) w2) (⟨v2,rfl,by rw[←HE.o];exact ho2.eU hbw1.size,hbw1.trans (hb2.mono hbw1.size)⟩);clear ho2 hb2;go_wp2;go_ret;exact HR.o
 ·obtain rfl:x=none:=by cases x with|none=>rfl|some e=>simp at ER
  have HE:=qS (ky.wU []=aU none) (rfl);rw[ER]at f8;go_enter Tryz.func83,Tryz.ntmps83;clear f0 f1 f2 f3 f4 f5 f6 f7;go_wp2_with fail;refine(Cx (w.alloc (bR none)) none 0 0 [] (fA.nil _ _ _ _ (by unfold maxLen;omega)) (by omega)).mono ?_;rintro r w2⟨v2,rfl,ho2,hb2⟩;have HR:=qS (IV w (aU none) (.returned v2) w2) (⟨v2,rfl,by rw[←HE.o];exact ho2.eU HB0.o.size,HB0.o.trans (hb2.mono HB0.o.size)⟩);clear ho2 hb2;go_wp2;go_ret;exact HR.o
section
variable{w w':World}{G F:Nat→Prop}{bj bd:Nat}{v:Value}{j:Jl}
theorem gN.ng(h:gN w G F bj bd v j): ¬G bj:=h.ap _ h.fj
theorem gN.disk{d':Dk}(h:gN w G F bj bd v j)(hd:Ht w G bd d' w'): ∃G',gN w' G' F bj bd v {j with dk:=d'}∧(∀b,G' b→G b∨w.heap.size≤b)∧ah G w w':=by obtain⟨G',hi,hG,hk⟩:=hd;have hlt:=h.lt;refine⟨G',h.head hi hG ?_ rfl hk.size (fun b hb _=>hk.block b (hlt b hb) (h.ap b hb)),hG,hk⟩;exact(hk.block bj (hlt _ h.fj) h.ng).trans h.blk
theorem gN.Cv{o:Nat}{u:Value}{j':Jl}(h:gN w G F bj bd v j)(hd:j'.dk=j.dk)(he:j'.es=j.es)(hb:(w.setCell ⟨bj,o,none⟩ u).heap[bj]?=some (xx bd v j')):gN (w.setCell ⟨bj,o,none⟩ u) G F bj bd v j':=by have hk: ∀b,b≠bj→(w.setCell ⟨bj,o,none⟩ u).heap[b]?=w.heap[b]?:=fun b hb=>Below.heap_setCell _ _ _ _ hb;exact h.head (hd▸h.dk.keep (by simp[World.setCell]) (fun b hb=>hk b (fun e=>h.ng (e▸hb)))) (fun b hb=>.inl hb) hb he (by simp[World.setCell]) (fun b _ hne=>hk b hne)
end
def oG(w:World)(G F:Nat→Prop)(bj bd:Nat)(j':Jl)(er:Int)(e:Ending)(w':World):Prop:=e=.returned (.int .i64 er)∧BS w G F bj bd j' w'
theorem qG(w:World)(bj:Nat)(u:Value)(hc:w.cell? ⟨bj,6,none⟩=some u)(hf:w.frozen? ⟨bj,6,none⟩=false)(er:Int):Calls Tryz.prog 84 #[.pointer (some ⟨bj,0,none⟩),.int .i64 er] w fun e w'=>e=.returned (.int .i64 er)∧w'=w.setCell ⟨bj,6,none⟩ (.int .i64 er):=by go_enter Tryz.func84,Tryz.ntmps84;go_wp2;go_ret;exact⟨rfl,rfl⟩
theorem FW(w:World)(G F:Nat→Prop)(bj bd:Nat)(j:Jl)(h:gT w G F bj bd j)(hn:j.files≤99):Calls Tryz.prog 81 #[.pointer (some ⟨bj,0,none⟩)] w (oG w G F bj bd j.sync j.bT):=by
 have HI:=qH h;obtain⟨ho,v,h⟩:=h;obtain⟨c0,c1,c2,c3,c4,c5,c6⟩:=h.cells;have HH:=qH h;have HO:=qH ho;have hnm:=ho.nm;clear h ho c2 c4 c5 c6;by_cases h0:j.files=0
 ·have HR:=qS (oG w G F bj bd j.sync j.bT (.returned (.int .i64 0)) w) (by
   have e1:j.sync=j:=by unfold Jl.sync;rw[if_pos h0]
   have e2:j.bT=0:=by unfold Jl.bT;rw[if_pos h0]
   rw[e1,e2];exact⟨rfl,BS.refl HI.o⟩);rw[h0]at c3;go_enter Tryz.func81,Tryz.ntmps81;go_wp2;go_ret;exact HR.o
 ·obtain⟨m,hm⟩: ∃m,j.files=m+1:=⟨j.files-1,by omega⟩;have hlast:j.last=aO j.name m:=by unfold Jl.last;rw[hm];rfl
  have HS:=qS (j.sync=(if j.dk.bT (aO j.name m)≠0 then{j with dk:=j.dk.sync (aO j.name m),stuck:=j.dk.bT (aO j.name m)}else{j with dk:=j.dk.sync (aO j.name m),lasts:=j.es.length})) (by unfold Jl.sync;rw[if_neg h0,hlast]);have HE:=qS (j.bT=j.dk.bT (aO j.name m)) (by unfold Jl.bT;rw[if_neg h0,hlast]);have hm2:m<100:=by omega
  have hsl:=(lK j.name hm2).2;rw[show((j.files:Nat):Int)=(m:Int)+1 by omega]at c3;clear hlast h0 hn;have t1:((m:Int)+1==0)=false:=by simp;omega
  have OX:=qS (∀q,Calls Tryz.prog 73 #[.pointer (some ⟨bd,0,none⟩),.string ⟨(aO j.name m).toArray⟩] (w.drewN q) (gU (w.drewN q) G bd (j.dk.sync (aO j.name m)) (j.dk.bT (aO j.name m)))) (fun q=>Gm (w.drewN q) G bd j.dk (HH.o.dk.up (below_drewN (Below.refl _ _) q)) _ (by omega));have HJ:=qS (∀q w3,Ht (w.drewN q) G bd (j.dk.sync (aO j.name m)) w3→ ∃G',gN w3 G' F bj bd v {j with dk:=j.dk.sync (aO j.name m)}∧(∀b,G' b→G b∨w.heap.size≤b)∧ah G w w3) (fun q w3 hd=>by obtain⟨G',a,b,c⟩:=(HH.o.up (below_drewN (Below.refl _ _) q)).disk hd;exact⟨G',a,b,⟨c.os,c.tape,c.output,c.size,c.block⟩⟩);have di:=qS (∀q w3,Ht (w.drewN q) G bd (j.dk.sync (aO j.name m)) w3→w3.cell? ⟨bj,0,none⟩=some (.pointer (some ⟨bd,0,none⟩))∧w3.cell? ⟨bj,3,none⟩=some (.int .i64 ((m:Int)+1))) (fun q w3 hd=>by
   obtain⟨G',a,_,_⟩:=HJ.o q w3 hd;have hc:=a.cells;have e:((j.files:Nat):Int)=(m:Int)+1:=by omega
   exact⟨hc.1,by rw[←e];exact hc.2.2.2.1⟩);clear hm;have Ce:=qS (∀W,W.cell? ⟨bj,1,none⟩=some (.string ⟨j.name.toArray⟩)→Calls Tryz.prog 70 #[.pointer (some ⟨bj,0,none⟩),.int .i64 (IntKind.i64.wrap (m:Int))] W (Ab W (aO j.name m))) (fun W hW=>by rw[show IntKind.i64.wrap (m:Int)=(m:Int)by rw[IntKind.wrap_i64];omega];exact qF W bj j.name hW (by omega) m hm2);go_enter Tryz.func81,Tryz.ntmps81;go_wp2;go_region_held3(fun W=>W.cell? ⟨bj,0,none⟩=some (.pointer (some ⟨bd,0,none⟩))∧W.cell? ⟨bj,3,none⟩=some (.int .i64 ((m:Int)+1)))(first|assumption|go_keep)(first|(go_at_call 70;(with_reducible refine(Ce.o _ ?_).mono ?_);(first|assumption|exact c1);rintro r9 w2⟨rfl,q,rfl⟩)|(go_at_call 73;(with_reducible refine(OX.o _).mono ?_);rintro r9 w3⟨rfl,hd3⟩;have hS:=di.o _ _ hd3;have HD3:=qH hd3;clear hd3));obtain⟨G3,hj3,hG3,hk3⟩:=HJ.o _ _ HD3.o;have YK:=qH hj3;have LH:=qH hG3;have OO:=qH hk3;obtain⟨d0,d1,d2,d3,d4,d5,d6⟩:=hj3.cells;have Yz:=hj3.frozen 5;have RZ:=hj3.frozen 6;obtain⟨A,cp,hv⟩:=ownsRow_form hj3.own;clear hj3 hG3 hk3 HD3 OX Ce HJ di hS c0 c1 c3 t1;by_cases hE0:j.dk.bT (aO j.name m)=0
  ·have HR:=qS (oG w G F bj bd j.sync j.bT (.returned (.int .i64 0)) (w3.setCell ⟨bj,5,none⟩ (.int .i64 j.es.length))) (by
    rw[HS.o,HE.o,hE0,if_neg (by simp)];refine⟨rfl,G3,F,⟨?_,v,YK.o.Cv rfl rfl ?_⟩,LH.o,fun _ h=>.inl h,(OO.o.mono (fun b _ h=>.inl h)).setCell (p:=⟨bj,5,none⟩) (fun _=>.inr HH.o.fj) _⟩;·exact⟨HO.o.per1,HO.o.per2,HO.o.nm,HO.o.num,HO.o.fl,Nat.le_refl _,HO.o.may⟩
    ·rw[ae YK.o.blk];rfl);rw[hv]at d4;rw[hE0];clear d0 d1 d2 d3 d6 RZ hE0 hv;go_wp2;go_ret;exact HR.o
  ·have HR:=qS (oG w G F bj bd j.sync j.bT (.returned (.int .i64 (j.dk.bT (aO j.name m)))) (w3.setCell ⟨bj,6,none⟩ (.int .i64 (j.dk.bT (aO j.name m))))) (by
    rw[HS.o,HE.o,if_pos hE0];refine⟨rfl,G3,F,⟨?_,v,YK.o.Cv rfl rfl ?_⟩,LH.o,fun _ h=>.inl h,(OO.o.mono (fun b _ h=>.inl h)).setCell (p:=⟨bj,6,none⟩) (fun _=>.inr HH.o.fj) _⟩;·exact⟨HO.o.per1,HO.o.per2,HO.o.nm,HO.o.num,HO.o.fl,HO.o.O5,HO.o.may⟩
    ·rw[ae YK.o.blk];rfl);clear d0 d1 d2 d3 d4 d5 Yz hv;generalize j.dk.bT (aO j.name m)=er at*;go_wp2_with fail;with_reducible refine(qG w3 bj _ d6 RZ er).mono ?_
   rintro r w4⟨rfl,rfl⟩;go_wp2;go_ret;exact HR.o
end Go.Proofs.YtladegonienapaaGreatDoor
