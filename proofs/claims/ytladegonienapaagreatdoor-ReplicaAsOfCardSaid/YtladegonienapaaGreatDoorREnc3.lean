/-
  Layer 7: Encode.
-/
import Derived.Test.YtladegonienapaaGreatDoorRClkDec1
import Derived.Test.YtladegonienapaaGreatDoorRHad
import Derived.Deep.DeepCutAuto
import Derived.RegionTactic
import Derived.BigRegion
set_option maxRecDepth 100000
set_option maxHeartbeats 16000000
namespace Go.Proofs.YtladegonienapaaGreatDoor
open Go.RowKit Go.Maps Go.Sort
theorem jP(w:World)(base:Nat)(v:Value)(l:List UInt8)(ho:aL w base v l)(hb:base≤w.heap.size)(n:Nat)(hn:n<4611686018427387904)(hl:l.length≤200000000000):Calls Tryz.prog 91 #[v,.int .i64 n] w (p8 w base v (l++bI n)):=by
 have hn8:=vz hn;have HST:=qS (vQ w base v (l++bI n) v (.int .i64 n) w) (⟨n,l,rfl,hn,rfl,ho,ai.refl _ _,fun b hb=>.inl hb⟩);have hll:(l++bI n).length≤200000000009:=by simp;omega
 generalize l++bI n=L at*;clear ho hn8;go_enter Tryz.func91,Tryz.ntmps91;go_wp2;go_loopw[0,1](fun v' q wr=>vQ w base v L v' q wr)(fun _ q _=>(intOf q).toNat);case atStart=>exact HST.o
 case round=>
  obtain⟨q,l',rfl,hq,hL,hm⟩:=hrel;have HL:=qH hL;have HM:=qH hm;have hl':l'.length≤200000000009:=by have:=congrArg List.length hL;simp at this;omega
  have qX:=hm.keep.size;clear hL hm;by_cases hlo:q<128
  ·have t1: ¬(128:Int)≤q:=by omega
   have HB:=qS (L=l'++[UInt8.ofNat q]) (by rw[←HL.o,jR hlo]);go_wp2_with(at_builtin;refine bB rfl (.tmp 15) (.tmp 18) rfl base _ l' rfl ?c1 (wr.heap.size+1) _ _ _ [UInt8.ofNat q] rfl ?c2 ?c3 ?c4 ?_);case c1=>exact aL.alloc HM.o.own _
   case c2=>exact dP.new wr _ _ [UInt8.ofNat q] (by simp;omega) 1 rfl (by unfold maxLen;omega)
   case c3=>first|omega|(simp;omega)
   case c4=>first|omega|(simp;omega)
   intro v2 w2 ho2 hg2 hv2;have HR:=qS (p8 w base v L (.returned v2) w2) (⟨v2,rfl,HM.o.app _ (by rw[HB.o];exact ho2) hg2 hv2⟩);clear ho2 hg2 hv2;go_wp2;go_ret;exact HR.o
  ·have t1:(128:Int)≤q:=by omega
   have HB:=qS (L=l'++[UInt8.ofNat (q%128+128)]++bI (q/128)) (by rw[←HL.o,lT hlo];simp);have eo:bits .or .u8 ((q:Int)%256) 128=((q%128+128:Nat):Int):=by have:=or128 (q%256) (by omega);rw[show((q%256:Nat):Int)=(q:Int)%256 by omega]at this;rw[this];congr 1;omega
   generalize hc:q%128+128=cN at*;have hcl:cN<256:=by omega
   clear hc;go_wp2_with(at_builtin;refine bB rfl (.tmp 9) (.tmp 13) rfl base _ l' rfl ?c1 (wr.heap.size+1) _ _ _ [UInt8.ofNat cN] rfl ?c2 ?c3 ?c4 ?_);case c1=>exact aL.alloc HM.o.own _
   case c2=>exact dP.new wr _ _ [UInt8.ofNat cN] (by simp;omega) 1 rfl (by unfold maxLen;omega)
   case c3=>first|omega|(simp;omega)
   case c4=>first|omega|(simp;omega)
   intro v2 w2 ho2 hg2 hv2;have HR:=qS (vQ w base v L v2 (.int .i64 ((q/128:Nat):Int)) w2) (⟨q/128,l'++[UInt8.ofNat cN],rfl,by omega,HB.o.symm,HM.o.app _ ho2 hg2 hv2⟩);clear ho2 hg2 hv2 eo;go_wp2;go_roundw;case rel=>exact HR.o
   case measure=>simp[intOf];omega
open Go.Shelf
theorem yg(w:World)(G:Nat→Prop)(bs bm:Nat)(m:dV)(V:List UInt8→Value)(h:aX w G bs bm m V)(wQ:m.length≤100000):Calls Tryz.prog 92 #[.pointer (some ⟨bs,0,none⟩)] w (q9 w (m.map (·.1))):=by
 have c0:=h.cell;obtain⟨row,hrw⟩: ∃row:Row Value,row=m.map fun p=>(p.1,V p.1):=⟨_,rfl⟩;have HD:=qS (w.ownsMap Tryz.prog 9 raw bm row.length (mapD row)) (by rw[hrw];exact h.map);have hds:Maps.size (mapD row)=m.length:=by rw[hrw];simp[mapD,Maps.size]
 have HRW:=qS (row.map (·.1)=m.map (·.1)) (by rw[hrw];simp);clear hrw;have P7:=qH (kQ h.ok.up);have hnd:(m.map (·.1)).Nodup:=(List.pairwise_map.2 (h.ok.up.imp fun{a b}h e=>by rw[e,aV]at h;cases h));have Kr:=qH hnd;clear h hnd;refine(callsIn_wide (n:=6)).1 ?_;have Rp:Fence.wide.fn 143:=trivial;have Ro:Fence.wide.fn 39:=trivial;refine callsIn_of_wp Tryz.func92 rfl trivial ?_ rfl;simp only[Tryz.ntmps92,List.size_toArray,List.length_cons,List.length_nil,Nat.reduceAdd,Nat.reduceSub,Array.replicate_succ,Array.replicate_zero,List.push_toArray,List.append_toArray,List.nil_append,List.cons_append];have IK:=qH hds;clear hds;gi_wp2_with fail;refine(Tryz.uD _ _).mono ?_;rintro e w2⟨rfl,rfl⟩;gi_wp2_with fail;refine(Tryz.iN bm row.length (mapD row) raw w HD.o (by rw[IK.o];unfold maxLen;omega) (by rw[IK.o];omega)).mono ?_;rintro e w3⟨v,ss,rfl,hS,hrow,hnil,hb3⟩;clear c0;gi_wp2_with fail;go_ret;rw[jL]at hS;rw[HRW.o]at hS;have hr:=iW (hS.nodup_iff.2 Kr.o) (fun x=>hS.mem_iff);have he:=eT hr P7.o;rw[he]at hrow;have hl:ss.length=(m.map (·.1)).length:=hS.length_eq;rw[hl]at hrow;refine⟨v,rfl,?_,((Below.refl _ _).alloc (Nat.le_refl _) _).trans (hb3.mono (by simp))⟩;refine⟨hrow.1,?_⟩;rcases hrow.2 with⟨e,hl⟩|⟨g,cap,cur,e,hb',hg,hrr⟩;·exact .inl ⟨e,hl⟩
 ·exact .inr ⟨g,cap,cur,e,by simp at hb';omega,hg,hrr⟩
theorem vL(e:Int)(rs:Rg)(j:Nat)(hj:j<rs.length):bN e (rs.take (j+1))=rs[j].2:=by rw[List.take_add_one,List.getElem?_eq_getElem hj,Option.toList_some,jF]
theorem EC(e:Int)(rs:Rg)(j:Nat)(hj:j<rs.length):encR e (rs.take (j+1))=encR e (rs.take j)++(bI (rs[j].1-bN e (rs.take j)).toNat++bI (rs[j].2-rs[j].1).toNat):=by rw[List.take_add_one,List.getElem?_eq_getElem hj,Option.toList_some,vM]
theorem JX{rs:Rg}(h:RgOk rs)(j:Nat)(hj:j<rs.length):1≤bN 1 (rs.take j)∧bN 1 (rs.take j)≤rs[j].1:=by have h1:=h.each rs[j] (List.getElem_mem hj);cases j with|zero=>simp[bN];exact h1.1|succ i=>rw[vL 1 rs i (by omega)];have h2:=h.each (rs[i]'(by omega)) (List.getElem_mem _);have h3:=List.pairwise_iff_getElem.1 h.up i (i+1) (by omega) hj (by omega);omega
theorem GQ{p:List UInt8×Rg}(hn:ae p.1=true)(h:RgOk p.2)(hl:p.2.length≤90000):(encS p).length≤1500000:=by
 have h1:p.1.length≤24:=by unfold ae at hn;simp at hn;omega
 have h2:=bR (n:=p.2.length) (by omega);have h3:=zx p.2 h.each 1 (by omega);unfold encS;simp only[List.length_cons,List.length_append];omega
theorem zo{m:dV}(h:bV m)(hl: ∀p∈m,p.2.length≤90000)(k:Nat):((m.take k).flatMap encS).length≤1500000*k:=by
 have key: ∀l:dV,(∀p∈l,(encS p).length≤1500000)→(l.flatMap encS).length≤1500000*l.length:=fun l=>by induction l with|nil=>intro _;simp|cons p l ih=>intro hp;have:=ih (fun q hq=>hp q (by simp[hq]));have:=hp p (by simp);simp only[List.flatMap_cons,List.length_append,List.length_cons];omega
 have h1:=key (m.take k) (fun p hp=>GQ (h.each p (List.mem_of_mem_take hp)).1 (h.each p (List.mem_of_mem_take hp)).2.1 (hl p (List.mem_of_mem_take hp)));rw[List.length_take]at h1;have h2:1500000*min k m.length≤1500000*k:=Nat.mul_le_mul_left _ (by omega);omega
theorem Ey(m:dV)(k:Nat)(hk:k<m.length):(m.take (k+1)).flatMap encS=(m.take k).flatMap encS++encS m[k]:=by rw[List.take_add_one,List.getElem?_eq_getElem hk,Option.toList_some,List.flatMap_append];simp
def EK(S:Nat→Prop)(A:Option Addr)(n:Nat):Prop:= ∀a,A=some a→0<n→S a.block
theorem EK.mono{S T:Nat→Prop}{A:Option Addr}{n:Nat}(h:EK S A n)(hT: ∀b,S b→T b):EK T A n:=fun a ha hn=>hT _ (h a ha hn)
theorem aI.stay{w w':World}{B B' size n c:Nat}{A:Option Addr}{xs:List Value}{S:Nat→Prop}(h:aI w B size A n c xs)(hA:EK S A n)(hB:B≤B')(hk: ∀b off,S b→b<B→w'.cell? ⟨b,off,none⟩=w.cell? ⟨b,off,none⟩):aI w' B' size A n c xs:=⟨h.len,h.cap,h.max,fun hn=>by obtain⟨b,off,e,hb,hc⟩:=h.cell hn;exact⟨b,off,e,by omega,fun i u hi=>(hk b _ (hA _ e hn) hb).trans (hc i u hi)⟩⟩
theorem Mc{w:World}{base n:Nat}{e:TypeId}{size:Nat}{A:Option Addr}{c:Nat}{xs:List Value}(h:w.ownsRow base e size (.slice A n c) n xs):EK (fun b=>base≤b∧b<w.heap.size) A n:=by
 intro a ha hn;subst ha;rcases h.2 with⟨_,h'⟩|⟨g,cap,cur,e,hb,hg,_⟩;·omega
 ·injection e with e1;injection e1 with e1;subst e1;exact⟨hb,(Array.getElem?_eq_some_iff.1 hg).1⟩
def IU(w2:World)(base:Nat)(v3:Value)(m:dV)(b i:Value)(wr:World):Prop:= ∃k:Nat,i=.int .i64 k∧k≤m.length∧vR w2 base v3 (bI m.length++(m.take k).flatMap encS) b wr
def NA(w2:World)(base:Nat)(v3:Value)(pre:List UInt8)(rs:Rg)(b en i:Value)(wz:World):Prop:= ∃(j:Nat)(e:Int),i=.int .i64 j∧j≤rs.length∧en=.int .i64 e∧e=bN 1 (rs.take j)∧vR w2 base v3 (pre++encR 1 (rs.take j)) b wz
def Dp(w:World)(l:List UInt8)(e:Ending)(w':World):Prop:= ∃v,e=.returned v∧aL w' w.heap.size v l∧Below w.heap.size w w'
theorem nz(w:World)(G:Nat→Prop)(bs bm:Nat)(m:dV)(V:List UInt8→Value)(h:aX w G bs bm m V)(wQ:m.length≤90000)(hrl: ∀p∈m,p.2.length≤90000):Calls Tryz.prog 48 #[.pointer (some ⟨bs,0,none⟩)] w (Dp w (pM m)):=by
 have HH:=qH h;have xE:=qH hrl;have hlen: ∀ty,(Builtin.len_ #[148] ty #[.map (some bm)]).run Tryz.prog w=.ok (.int .i64 (m.length:Int)) w:=fun ty=>by have:=World.ownsMap.len (show w.ownsMap Tryz.prog 9 raw bm _ _ from h.map) Tryz.underlying148 ty;rw[this];simp[mapD,Maps.size]
 have c0:=h.cell;have Tt:=qS (pM m=bI m.length++m.flatMap encS) (rfl);have hn8:=bR (n:=m.length) (by omega);clear h hrl;go_enter Tryz.func48,Tryz.ntmps48;go_wp2_with fail;with_reducible refine(jP w w.heap.size (.slice none 0 0) [] (aL.nil w w.heap.size) (Nat.le_refl _) m.length (by omega) (by simp)).mono ?_
 rintro r w1⟨v3,rfl,hp1⟩;rw[List.nil_append]at hp1;have PK:=qH hp1;have hkb: ∀(l:List UInt8)(v':Value)(wx:World),vR w w.heap.size (.slice none 0 0) l v' wx→Below w.heap.size w wx:=fun _ _ _ hx=>hx.keep.below (Nat.le_refl _) (fun k _ e=>by cases e);have XG:=qH hkb;have hb1:Below w.heap.size w w1:=hkb _ _ _ hp1;have qR:=qH (HH.o.up hb1);clear hp1 hkb c0 hlen;go_wp2_with fail;with_reducible refine(yg w1 G bs bm m V qR.o (by omega)).mono ?_
 rintro r w2⟨vS,rfl,hS,hb2⟩;have Vj:=qH (PK.o.up hb2);have ky:=qH (qR.o.up hb2);obtain⟨AS,cS,QA⟩:=ownsRow_form hS;have RB:aI w2 w2.heap.size 1 AS (m.map (·.1)).length cS ((m.map (·.1)).map encStr):=by rw[QA]at hS;exact aI.bz hS
 have RD:EK (fun b=>w1.heap.size≤b) AS (m.map (·.1)).length:=by rw[QA]at hS;exact(Mc hS).mono (fun b h=>h.1)
 have hkl:(m.map (·.1)).length=m.length:=by simp
 rw[hkl]at QA RB RD;subst QA;have hv3: ∀b,v3.ownBlock=some b→w.heap.size≤b∧b<w1.heap.size:=fun b hb=>World.ownsRow.lt PK.o.own b hb;have Xg:=qH RB;have Xh:=qH RD;have Lg:=qH hv3;have Uw: ∀b,G b→b<w.heap.size:=HH.o.lt;have XV:=qH Uw;have hs12:=hb2.size;have hs01:=hb1.size;have HST:=qS (IU w2 w.heap.size v3 m v3 (.int .i64 ((0:Nat):Int)) w2) (⟨0,rfl,Nat.zero_le _,by simpa using Vj.o.own,ai.refl _ _,fun b hb=>.inl hb⟩);clear hS RB RD hv3 Uw hb2 hkl PK;go_wp2;go_loopw[3,19](fun b i wr=>IU w2 w.heap.size v3 m b i wr)(fun _ i _=>m.length-(intOf i).toNat);case atStart=>exact HST.o
 case round=>
  obtain⟨k,rfl,hk,hm⟩:=hrel;have HM:=qH hm;have qX:=hm.keep.size;clear hm;have hll:(bI m.length++(m.take k).flatMap encS).length≤140000000000:=by rw[List.length_append];have h2:=zo HH.o.ok xE.o k;have h3:1500000*k≤1500000*90000:=Nat.mul_le_mul_left _ (by omega);omega
  have hl0:0<(bI m.length++(m.take k).flatMap encS).length:=by
   rw[List.length_append];have:0<(bI m.length).length:=by
    by_cases h:m.length<128;·rw[jR h];simp
    ·rw[lT h];simp
   omega
  by_cases hkn:k<m.length
  ·have Su:=qS (∀wx,ai (fun b=>v3.ownBlock=some b) w2 wx→aI wx wx.heap.size 1 AS m.length cS ((m.map (·.1)).map encStr)) (fun wx hx=>aI.stay Xg.o Xh.o hx.size (fun b off hb hlt=>hx.cell (p:=⟨b,off,none⟩) hlt (fun e=>by have:=Lg.o b e;omega)));have Tf:=qS (∀wx,ai (fun b=>v3.ownBlock=some b) w2 wx→aX wx G bs bm m V) (fun wx hx=>ky.o.keep hx.size (fun b hb=>hx.block b (ky.o.lt b hb) (fun e=>by have:=Lg.o b e;have:=XV.o b hb;omega)));obtain⟨b,off,rfl,hb,hc⟩:=Strs.at_ (ss:=m.map (fun p:List UInt8×Rg=>p.1)) (Su.o wr HM.o.keep) k (by simpa using hkn);have hmk:(m.map (fun p:List UInt8×Rg=>p.1))[k]'(by simpa using hkn)=m[k].1:=by simp
   rw[hmk]at hc;have hpo:=HH.o.ok.each m[k] (List.getElem_mem hkn);have hpl:=xE.o m[k] (List.getElem_mem hkn);have Lx:=qH (Ey m k hkn);have hmem:m[k]∈m:=List.getElem_mem hkn;obtain⟨nm,rs,hmk2⟩: ∃nm rs,m[k]=(nm,rs):=⟨_,_,rfl⟩;rw[hmk2]at hc hpo hpl Lx hmem;simp only at hc hpo hpl;clear hmk hmk2;have I5:=qH hpo;have PX:=qH hmem;have hnm:nm.length≤24:=by have:=hpo.1;unfold ae at this;simp at this;omega
   have uw:=qS (encS (nm,rs)=UInt8.ofNat nm.length::(nm++bI rs.length++encR 1 rs)) (rfl);have zR:=qS (aC m nm=rs) (by unfold aC;rw[dY HH.o.ok.up hmem];rfl);generalize hL:bI m.length++(m.take k).flatMap encS=L at*;have HL:=qH hL;clear hL hpo hmem;have t1:(k:Int)<m.length:=by omega
   have e4:IntKind.u8.wrap (nm.length:Int)=(nm.length:Int):=by simp[IntKind.wrap,IntKind.bits,IntKind.signed];omega
   have hn24:(nm.length:Int)%256=nm.length:=by omega
   go_wp2_with(at_builtin;refine bB rfl (.tmp 23) (.tmp 27) rfl w.heap.size _ L rfl ?c1 (wr.heap.size+1) _ _ _ [UInt8.ofNat nm.length] rfl ?c2 ?c3 ?c4 ?_);case c1=>exact aL.alloc HM.o.own _
   case c2=>exact dP.new wr _ _ [UInt8.ofNat nm.length] (by simp;omega) 1 rfl (by unfold maxLen;omega)
   case c3=>first|omega|(simp;omega)
   case c4=>first|omega|(simp;omega)
   intro v5 w5 ho5 hg5 hv5;have Ls:=qH (HM.o.app _ ho5 hg5 hv5);clear ho5 hg5 hv5 HM e4 hn24;have hs5:=Ls.o.keep.size;obtain⟨v6,w6,hr6,ho6,hg6,hv6⟩:=CS w5 w.heap.size v5 (L++[UInt8.ofNat nm.length]) nm Ls.o.own (by simp) (by omega) (by simp;omega) 93;have xS:=qH hr6;have Dh:=qH (Ls.o.str ho6 hg6 hv6);have hs6:=Dh.o.keep.size;have hc0:=(Tf.o w6 Dh.o.keep).cell;obtain⟨vr,hlk,hor,_,TW⟩:=(Tf.o w6 Dh.o.keep).look nm (by omega);rw[zR.o]at hor;have TU:=TW rs (dY HH.o.ok.up PX.o);have WX:=qH TU;have hrs0:0<rs.length:=List.length_pos_iff.2 I5.o.2.2;obtain⟨g,cr,lW,_,hgl⟩:=World.ownsRow.form hor hrs0;subst lW;clear hr6 ho6 hg6 hv6 hor TW TU hc;go_wp2_with(at_builtin;refine Lib.wpList_append_run _ rfl (.tmp 29) (.tmp 30) _ _ rfl _ _ rfl rfl _ _ xS.o ?_);go_wp2_with fail;with_reducible refine(jP w6 w.heap.size v6 (L++[UInt8.ofNat nm.length]++nm) Dh.o.own (by omega) rs.length (by omega) (by simp;omega)).mono ?_
   rintro r w7⟨v7,rfl,hp7⟩;have SS:=qH (Dh.o.Cm hp7);obtain⟨pre,hpre⟩: ∃pre,pre=L++[UInt8.ofNat nm.length]++nm++bI rs.length:=⟨_,rfl⟩;have tX:=qS (pre++encR 1 rs=bI m.length++(m.take (k+1)).flatMap encS) (by rw[Lx.o,uw.o,hpre,←HL.o];simp);have Ud:pre.length≤150000000000:=by rw[hpre];have:=bR (n:=rs.length) (by omega);simp;omega
   rw[←hpre]at SS;clear hp7 hpre hc0 hlk Ls Dh xS uw Lx;have Xf:=qS (NA w2 w.heap.size v3 pre rs v7 (.int .i64 1) (.int .i64 ((0:Nat):Int)) w7) (⟨0,1,rfl,Nat.zero_le _,rfl,rfl,by simpa[encR]using SS.o⟩);clear SS;go_wp2;go_loopw[3,7,44](fun b en i wz=>NA w2 w.heap.size v3 pre rs b en i wz)(fun _ _ i _=>rs.length-(intOf i).toNat);case atStart=>exact Xf.o
   case round=>
    obtain⟨j,en,rfl,hj,rfl,hen,hmz⟩:=hrel;generalize wr=wz at*;have Lr:=qH hmz;have hsz:=hmz.keep.size;have Wh:(pre++encR 1 (rs.take j)).length≤160000000000:=by rw[List.length_append];have h1:=zx (rs.take j) (fun r hr=>I5.o.2.1.each r (List.mem_of_mem_take hr)) 1 (by omega);rw[List.length_take]at h1;omega
    clear hmz;by_cases hjn:j<rs.length
    ·have hle:=JX I5.o.2.1 j hjn;rw[←hen]at hle;have um:=I5.o.2.1.each rs[j] (List.getElem_mem hjn);have MS:=qH (EC 1 rs j hjn);have MR:=qH (vL 1 rs j hjn);have Ue:cZ wz (.slice (some ⟨g,0,none⟩) rs.length cr) rs:=by have:=(Tf.o wz Lr.o.keep).own (nm,rs) PX.o;rw[WX.o];exact this
     obtain⟨y0,y1,_,_⟩:=Ue.cell j hjn;rw[←hen]at MS;clear hen Ue;generalize rs[j]=r at*;obtain⟨ra,rb⟩:=r;simp only at hle um MS MR y0 y1;generalize hP:pre++encR 1 (rs.take j)=P at*;have HP:=qH hP;clear hP;have t2:(j:Int)<rs.length:=by omega
     have hbW:Below wz.heap.size wz (wz.alloc (.cells #[.int .i64 ra,.int .i64 rb] 153)):=(Below.refl _ _).alloc (Nat.le_refl _) _;have PZ:=qH (Lr.o.up hbW);have z0:(wz.alloc (.cells #[.int .i64 ra,.int .i64 rb] 153)).cell? ⟨wz.heap.size,0,none⟩=some (.int .i64 ra):=cell_of_row _ wz.heap.size 0 _ _ (0,0) (heap_alloc_new wz _);have z1:(wz.alloc (.cells #[.int .i64 ra,.int .i64 rb] 153)).cell? ⟨wz.heap.size,1,none⟩=some (.int .i64 rb):=cell_of_row _ wz.heap.size 1 _ _ (0,0) (heap_alloc_new wz _);have hsa:(wz.alloc (.cells #[.int .i64 ra,.int .i64 rb] 153)).heap.size=wz.heap.size+1:=by simp
     go_upto_region 13 with fail;clear hbW y0 y1;generalize wz.alloc (.cells #[.int .i64 ra,.int .i64 rb] 153)=wa at*;have hbx: ∀b,u3.ownBlock=some b→b≠wz.heap.size:=fun b hb e=>by have:=(World.ownsRow.lt Lr.o.own b hb).2;omega
     have aZ:=qH hbx;clear hbx Lr;have hN1:=jP wa w.heap.size u3 P PZ.o.own (by omega) (ra-en).toNat (by omega) (by omega);rw[Int.toNat_of_nonneg (by omega)]at hN1;have Vp:=qH hN1;clear hN1;go_wp2_with fail;with_reducible refine Vp.o.mono ?_
     rintro r8 w8⟨v8,rfl,hp8⟩;have Nb:=qH (PZ.o.Cm hp8);have hs8:=hp8.keep.size;have x0:w8.cell? ⟨wz.heap.size,0,none⟩=some (.int .i64 ra):=(hp8.keep.cell (p:=⟨wz.heap.size,0,none⟩) (by show wz.heap.size<_;omega) (fun e=>aZ.o _ e rfl)).trans z0;have x1:w8.cell? ⟨wz.heap.size,1,none⟩=some (.int .i64 rb):=(hp8.keep.cell (p:=⟨wz.heap.size,1,none⟩) (by show wz.heap.size<_;omega) (fun e=>aZ.o _ e rfl)).trans z1;have TE:=qS (∀b,v8.ownBlock=some b→b≠wz.heap.size) (fun b hb e=>by
      rcases hp8.blk b hb with h'|h';·exact aZ.o b h' e
      ·omega);have hla:=bR (n:=(ra-en).toNat) (by omega);clear hp8 z0 z1 PZ Vp;have RI:=jP w8 w.heap.size v8 (P++bI (ra-en).toNat) Nb.o.own (by omega) (rb-ra).toNat (by omega) (by simp;omega);rw[Int.toNat_of_nonneg (by omega)]at RI;have Fp:=qH RI;clear RI;go_wp2_with fail;with_reducible refine Fp.o.mono ?_
     rintro r9 w9⟨v9,rfl,hp9⟩;have XB:=qH (Nb.o.Cm hp9);have q1:w9.cell? ⟨wz.heap.size,1,none⟩=some (.int .i64 rb):=(hp9.keep.cell (p:=⟨wz.heap.size,1,none⟩) (by show wz.heap.size<_;omega) (fun e=>TE.o _ e rfl)).trans x1;have HR:=qS (NA w2 w.heap.size v3 pre rs v9 (.int .i64 rb) (.int .i64 ((j+1:Nat):Int)) w9) (⟨j+1,rb,rfl,by omega,rfl,MR.o.symm,by rw[MS.o,←List.append_assoc,HP.o,←List.append_assoc];exact XB.o⟩);clear hp9 x0 x1 Nb Fp;go_wp2;go_roundw;case rel=>exact HR.o
     case measure=>simp[intOf];omega
    ·have t2: ¬(j:Int)<rs.length:=by omega
     have HR:=qS (IU w2 w.heap.size v3 m u3 (.int .i64 ((k+1:Nat):Int)) wz) (⟨k+1,rfl,by omega,by have:=Lr.o;rw[List.take_of_length_le (by omega),tX.o]at this;exact this⟩);clear hen;go_wp2;go_roundw;case rel=>exact HR.o
     case measure=>simp[intOf];omega
  ·have t1: ¬(k:Int)<m.length:=by omega
   have HE:=qS (bI m.length++(m.take k).flatMap encS=pM m) (by rw[Tt.o,List.take_of_length_le (by omega)]);rw[HE.o]at HM;have HF:=qH (Vj.o.Cm HM.o);obtain⟨B,cB,hvB⟩:=HF.o.own.form;subst hvB;go_wp2;go_ret;exact⟨_,rfl,HF.o.own,XG.o _ _ _ HF.o⟩
end Go.Proofs.YtladegonienapaaGreatDoor
