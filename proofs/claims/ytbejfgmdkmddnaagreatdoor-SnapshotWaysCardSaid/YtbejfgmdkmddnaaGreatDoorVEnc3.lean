/-
  Layer 7: Encode.
-/
import Derived.Test.YtbejfgmdkmddnaaGreatDoorVRTxt2
set_option maxRecDepth 100000
set_option maxHeartbeats 16000000
namespace Go.Proofs.YtbejfgmdkmddnaaGreatDoor
open Go.RowKit Go.Maps Go.Sort
theorem nP(w:World)(base:Nat)(v:Value)(l:List UInt8)(ho:aK w base v l)(hb:base≤w.heap.size)(n:Nat)(hn:n<4611686018427387904)(hl:l.length≤200000000000):Calls Tryz.prog 109 #[v,.int .i64 n] w (vP w base v (l++aJ n)):=by
 have hn8:=uT hn;have HST:=qS (BI w base v (l++aJ n) v (.int .i64 n) w) (⟨n,l,rfl,hn,rfl,ho,ak.refl _ _,fun b hb=>.inl hb⟩);have hll:(l++aJ n).length≤200000000009:=by simp;omega
 generalize l++aJ n=L at*;clear ho hn8;go_enter Tryz.func109,Tryz.ntmps109;go_wp2;go_loopw[0,1](fun v' q wr=>BI w base v L v' q wr)(fun _ q _=>(intOf q).toNat);case atStart=>exact HST.o
 case round=>
  obtain⟨q,l',rfl,hq,hL,hm⟩:=hrel;have HL:=qH hL;have HM:=qH hm;have hl':l'.length≤200000000009:=by have:=congrArg List.length hL;simp at this;omega
  have zW:=hm.keep.size;clear hL hm;by_cases hlo:q<128
  ·have t1: ¬(128:Int)≤q:=by omega
   have HB:=qS (L=l'++[UInt8.ofNat q]) (by rw[←HL.o,jK hlo]);go_wp2_with(at_builtin;refine aG rfl (.tmp 15) (.tmp 18) rfl base _ l' rfl ?c1 (wr.heap.size+1) _ _ _ [UInt8.ofNat q] rfl ?c2 ?c3 ?c4 ?_);case c1=>exact aK.alloc HM.o.own _
   case c2=>exact bU.new wr _ _ [UInt8.ofNat q] (by simp;omega) 1 rfl (by unfold maxLen;omega)
   case c3=>first|omega|(simp;omega)
   case c4=>first|omega|(simp;omega)
   intro v2 w2 ho2 hg2 hv2;have HR:=qS (vP w base v L (.returned v2) w2) (⟨v2,rfl,HM.o.app _ (by rw[HB.o];exact ho2) hg2 hv2⟩);clear ho2 hg2 hv2;go_wp2;go_ret;exact HR.o
  ·have t1:(128:Int)≤q:=by omega
   have HB:=qS (L=l'++[UInt8.ofNat (q%128+128)]++aJ (q/128)) (by rw[←HL.o,ma hlo];simp);have eo:bits .or .u8 ((q:Int)%256) 128=((q%128+128:Nat):Int):=by have:=or128 (q%256) (by omega);rw[show((q%256:Nat):Int)=(q:Int)%256 by omega]at this;rw[this];congr 1;omega
   generalize hc:q%128+128=cN at*;have hcl:cN<256:=by omega
   clear hc;go_wp2_with(at_builtin;refine aG rfl (.tmp 9) (.tmp 13) rfl base _ l' rfl ?c1 (wr.heap.size+1) _ _ _ [UInt8.ofNat cN] rfl ?c2 ?c3 ?c4 ?_);case c1=>exact aK.alloc HM.o.own _
   case c2=>exact bU.new wr _ _ [UInt8.ofNat cN] (by simp;omega) 1 rfl (by unfold maxLen;omega)
   case c3=>first|omega|(simp;omega)
   case c4=>first|omega|(simp;omega)
   intro v2 w2 ho2 hg2 hv2;have HR:=qS (BI w base v L v2 (.int .i64 ((q/128:Nat):Int)) w2) (⟨q/128,l'++[UInt8.ofNat cN],rfl,by omega,HB.o.symm,HM.o.app _ ho2 hg2 hv2⟩);clear ho2 hg2 hv2 eo;go_wp2;go_roundw;case rel=>exact HR.o
   case measure=>simp[intOf];omega
open Go.Shelf
theorem Eb(w:World)(G:Nat→Prop)(bs bm:Nat)(m:eZ)(V:List UInt8→Value)(h:cO w G bs bm m V)(Kc:m.length≤100000):Calls Tryz.prog 110 #[.pointer (some ⟨bs,0,none⟩)] w (C8 w (m.map (·.1))):=by
 have c0:=h.cell;obtain⟨row,hrw⟩: ∃row:Row Value,row=m.map fun p=>(p.1,V p.1):=⟨_,rfl⟩;have HD:=qS (w.ownsMap Tryz.prog 9 raw bm row.length (mapD row)) (by rw[hrw];exact h.map);have hds:Maps.size (mapD row)=m.length:=by rw[hrw];simp[mapD,Maps.size]
 have HRW:=qS (row.map (·.1)=m.map (·.1)) (by rw[hrw];simp);clear hrw;have TM:=qH (wL h.ok.up);have hnd:(m.map (·.1)).Nodup:=(List.pairwise_map.2 (h.ok.up.imp fun{a b}h e=>by rw[e,aF]at h;cases h));have HND:=qH hnd;clear h hnd;refine(callsIn_wide (n:=6)).1 ?_;have hfK:Fence.wide.fn 168:=trivial;have hfS:Fence.wide.fn 111:=trivial;refine callsIn_of_wp Tryz.func110 rfl trivial ?_ rfl;simp only[Tryz.ntmps110,List.size_toArray,List.length_cons,List.length_nil,Nat.reduceAdd,Nat.reduceSub,Array.replicate_succ,Array.replicate_zero,List.push_toArray,List.append_toArray,List.nil_append,List.cons_append];have Z4:=qH hds;clear hds;gi_wp2_with fail;refine(Tryz.zQ _ _).mono ?_;rintro e w2⟨rfl,rfl⟩;gi_wp2_with fail;refine(Tryz.kL bm row.length (mapD row) raw w HD.o (by rw[Z4.o];unfold maxLen;omega) (by rw[Z4.o];omega)).mono ?_;rintro e w3⟨v,ss,rfl,hS,hrow,hnil,hb3⟩;clear c0;gi_wp2_with fail;go_ret;rw[sP]at hS;rw[HRW.o]at hS;have hr:=o7 (hS.nodup_iff.2 HND.o) (fun x=>hS.mem_iff);have he:=iI hr TM.o;rw[he]at hrow;have hl:ss.length=(m.map (·.1)).length:=hS.length_eq;rw[hl]at hrow;refine⟨v,rfl,?_,((Below.refl _ _).alloc (Nat.le_refl _) _).trans (hb3.mono (by simp))⟩;refine⟨hrow.1,?_⟩;rcases hrow.2 with⟨e,hl⟩|⟨g,cap,cur,e,hb',hg,hrr⟩;·exact .inl ⟨e,hl⟩
 ·exact .inr ⟨g,cap,cur,e,by simp at hb';omega,hg,hrr⟩
def QT(w2:World)(base:Nat)(v3:Value)(m:eZ)(b i:Value)(wr:World):Prop:= ∃k:Nat,i=.int .i64 k∧k≤m.length∧BJ w2 base v3 (aJ m.length++(m.take k).flatMap encS) b wr
def WV(w2:World)(base:Nat)(v3:Value)(pre:List UInt8)(rs:Rg)(b en i:Value)(wz:World):Prop:= ∃(j:Nat)(e:Int),i=.int .i64 j∧j≤rs.length∧en=.int .i64 e∧e=dX 1 (rs.take j)∧BJ w2 base v3 (pre++encR 1 (rs.take j)) b wz
def K3(w:World)(l:List UInt8)(e:Ending)(w':World):Prop:= ∃v,e=.returned v∧aK w' w.heap.size v l∧Below w.heap.size w w'
theorem y9(w:World)(G:Nat→Prop)(bs bm:Nat)(m:eZ)(V:List UInt8→Value)(h:cO w G bs bm m V)(Kc:m.length≤90000)(hrl: ∀p∈m,p.2.length≤90000):Calls Tryz.prog 49 #[.pointer (some ⟨bs,0,none⟩)] w (K3 w (bV m)):=by
 have HH:=qH h;have KT:=qH hrl;have hlen: ∀ty,(Builtin.len_ #[137] ty #[.map (some bm)]).run Tryz.prog w=.ok (.int .i64 (m.length:Int)) w:=fun ty=>by have:=World.ownsMap.len (show w.ownsMap Tryz.prog 9 raw bm _ _ from h.map) Tryz.underlying137 ty;rw[this];simp[mapD,Maps.size]
 have c0:=h.cell;have WI:=qS (bV m=aJ m.length++m.flatMap encS) (rfl);have hn8:=bH (n:=m.length) (by omega);clear h hrl;go_enter Tryz.func49,Tryz.ntmps49;go_wp2_with fail;with_reducible refine(nP w w.heap.size (.slice none 0 0) [] (aK.nil w w.heap.size) (Nat.le_refl _) m.length (by omega) (by simp)).mono ?_
 rintro r w1⟨v3,rfl,hp1⟩;rw[List.nil_append]at hp1;have Zi:=qH hp1;have hkb: ∀(l:List UInt8)(v':Value)(wx:World),BJ w w.heap.size (.slice none 0 0) l v' wx→Below w.heap.size w wx:=fun _ _ _ hx=>hx.keep.below (Nat.le_refl _) (fun k _ e=>by cases e);have UJ:=qH hkb;have hb1:Below w.heap.size w w1:=hkb _ _ _ hp1;have UK:=qH (HH.o.up hb1);clear hp1 hkb c0 hlen;go_wp2_with fail;with_reducible refine(Eb w1 G bs bm m V UK.o (by omega)).mono ?_
 rintro r w2⟨vS,rfl,hS,hb2⟩;have Nz:=qH (Zi.o.up hb2);have rW:=qH (UK.o.up hb2);obtain⟨AS,cS,hvS⟩:=ownsRow_form hS;have hSC:az w2 w2.heap.size 1 AS (m.map (·.1)).length cS ((m.map (·.1)).map encStr):=by rw[hvS]at hS;exact az.aI hS
 have hSB:lF (fun b=>w1.heap.size≤b) AS (m.map (·.1)).length:=by rw[hvS]at hS;exact(Ig hS).mono (fun b h=>h.1)
 have hkl:(m.map (·.1)).length=m.length:=by simp
 rw[hkl]at hvS hSC hSB;subst hvS;have hv3: ∀b,v3.ownBlock=some b→w.heap.size≤b∧b<w1.heap.size:=fun b hb=>World.ownsRow.lt Zi.o.own b hb;have HSC:=qH hSC;have Tx:=qH hSB;have Tp:=qH hv3;have hGw: ∀b,G b→b<w.heap.size:=HH.o.lt;have HGW:=qH hGw;have hs12:=hb2.size;have hs01:=hb1.size;have HST:=qS (QT w2 w.heap.size v3 m v3 (.int .i64 ((0:Nat):Int)) w2) (⟨0,rfl,Nat.zero_le _,by simpa using Nz.o.own,ak.refl _ _,fun b hb=>.inl hb⟩);clear hS hSC hSB hv3 hGw hb2 hkl Zi;go_wp2;go_loopw[3,19](fun b i wr=>QT w2 w.heap.size v3 m b i wr)(fun _ i _=>m.length-(intOf i).toNat);case atStart=>exact HST.o
 case round=>
  obtain⟨k,rfl,hk,hm⟩:=hrel;have HM:=qH hm;have zW:=hm.keep.size;clear hm;have hll:(aJ m.length++(m.take k).flatMap encS).length≤140000000000:=by rw[List.length_append];have h2:=FQ HH.o.ok KT.o k;have h3:1500000*k≤1500000*90000:=Nat.mul_le_mul_left _ (by omega);omega
  have hl0:0<(aJ m.length++(m.take k).flatMap encS).length:=by
   rw[List.length_append];have:0<(aJ m.length).length:=by
    by_cases h:m.length<128;·rw[jK h];simp
    ·rw[ma h];simp
   omega
  by_cases hkn:k<m.length
  ·have aaQ:=qS (∀wx,ak (fun b=>v3.ownBlock=some b) w2 wx→az wx wx.heap.size 1 AS m.length cS ((m.map (·.1)).map encStr)) (fun wx hx=>az.stay HSC.o Tx.o hx.size (fun b off hb hlt=>hx.cell (p:=⟨b,off,none⟩) hlt (fun e=>by have:=Tp.o b e;omega)));have HHX:=qS (∀wx,ak (fun b=>v3.ownBlock=some b) w2 wx→cO wx G bs bm m V) (fun wx hx=>rW.o.keep hx.size (fun b hb=>hx.block b (rW.o.lt b hb) (fun e=>by have:=Tp.o b e;have:=HGW.o b hb;omega)));obtain⟨b,off,rfl,hb,hc⟩:=Strs.at_ (ss:=m.map (fun p:List UInt8×Rg=>p.1)) (aaQ.o wr HM.o.keep) k (by simpa using hkn);have hmk:(m.map (fun p:List UInt8×Rg=>p.1))[k]'(by simpa using hkn)=m[k].1:=by simp
   rw[hmk]at hc;have hpo:=HH.o.ok.each m[k] (List.getElem_mem hkn);have hpl:=KT.o m[k] (List.getElem_mem hkn);have Rl:=qH (Bu m k hkn);have hmem:m[k]∈m:=List.getElem_mem hkn;obtain⟨nm,rs,hmk2⟩: ∃nm rs,m[k]=(nm,rs):=⟨_,_,rfl⟩;rw[hmk2]at hc hpo hpl Rl hmem;simp only at hc hpo hpl;clear hmk hmk2;have Du:=qH hpo;have Nh:=qH hmem;have hnm:nm.length≤24:=by have:=hpo.1;unfold ag at this;simp at this;omega
   have ZV:=qS (encS (nm,rs)=UInt8.ofNat nm.length::(nm++aJ rs.length++encR 1 rs)) (rfl);have Ju:=qS (aM m nm=rs) (by unfold aM;rw[gN HH.o.ok.up hmem];rfl);generalize hL:aJ m.length++(m.take k).flatMap encS=L at*;have HL:=qH hL;clear hL hpo hmem;have t1:(k:Int)<m.length:=by omega
   have e4:IntKind.u8.wrap (nm.length:Int)=(nm.length:Int):=by simp[IntKind.wrap,IntKind.bits,IntKind.signed];omega
   have hn24:(nm.length:Int)%256=nm.length:=by omega
   go_wp2_with(at_builtin;refine aG rfl (.tmp 23) (.tmp 27) rfl w.heap.size _ L rfl ?c1 (wr.heap.size+1) _ _ _ [UInt8.ofNat nm.length] rfl ?c2 ?c3 ?c4 ?_);case c1=>exact aK.alloc HM.o.own _
   case c2=>exact bU.new wr _ _ [UInt8.ofNat nm.length] (by simp;omega) 1 rfl (by unfold maxLen;omega)
   case c3=>first|omega|(simp;omega)
   case c4=>first|omega|(simp;omega)
   intro v5 w5 ho5 hg5 hv5;have UG:=qH (HM.o.app _ ho5 hg5 hv5);clear ho5 hg5 hv5 HM e4 hn24;have hs5:=UG.o.keep.size;obtain⟨v6,w6,hr6,ho6,hg6,hv6⟩:=CX w5 w.heap.size v5 (L++[UInt8.ofNat nm.length]) nm UG.o.own (by simp) (by omega) (by simp;omega) 32;have TA:=qH hr6;have Dx:=qH (UG.o.str ho6 hg6 hv6);have hs6:=Dx.o.keep.size;have hc0:=(HHX.o w6 Dx.o.keep).cell;obtain⟨vr,hlk,hor,_,hvV⟩:=(HHX.o w6 Dx.o.keep).look nm (by omega);rw[Ju.o]at hor;have hvr:=hvV rs (gN HH.o.ok.up Nh.o);have HVR:=qH hvr;have hrs0:0<rs.length:=List.length_pos_iff.2 Du.o.2.2;obtain⟨g,cr,nH,_,hgl⟩:=World.ownsRow.form hor hrs0;subst nH;clear hr6 ho6 hg6 hv6 hor hvV hvr hc;go_wp2_with(at_builtin;refine Lib.wpList_append_run _ rfl (.tmp 29) (.tmp 30) _ _ rfl _ _ rfl rfl _ _ TA.o ?_);go_wp2_with fail;with_reducible refine(nP w6 w.heap.size v6 (L++[UInt8.ofNat nm.length]++nm) Dx.o.own (by omega) rs.length (by omega) (by simp;omega)).mono ?_
   rintro r w7⟨v7,rfl,hp7⟩;have GN:=qH (Dx.o.xU hp7);obtain⟨pre,hpre⟩: ∃pre,pre=L++[UInt8.ofNat nm.length]++nm++aJ rs.length:=⟨_,rfl⟩;have zG:=qS (pre++encR 1 rs=aJ m.length++(m.take (k+1)).flatMap encS) (by rw[Rl.o,ZV.o,hpre,←HL.o];simp);have X0:pre.length≤150000000000:=by rw[hpre];have:=bH (n:=rs.length) (by omega);simp;omega
   rw[←hpre]at GN;clear hp7 hpre hc0 hlk UG Dx TA ZV Rl;have Xp:=qS (WV w2 w.heap.size v3 pre rs v7 (.int .i64 1) (.int .i64 ((0:Nat):Int)) w7) (⟨0,1,rfl,Nat.zero_le _,rfl,rfl,by simpa[encR]using GN.o⟩);clear GN;go_wp2;go_loopw[3,7,44](fun b en i wz=>WV w2 w.heap.size v3 pre rs b en i wz)(fun _ _ i _=>rs.length-(intOf i).toNat);case atStart=>exact Xp.o
   case round=>
    obtain⟨j,en,rfl,hj,rfl,hen,hmz⟩:=hrel;generalize wr=wz at*;have UF:=qH hmz;have hsz:=hmz.keep.size;have aau:(pre++encR 1 (rs.take j)).length≤160000000000:=by rw[List.length_append];have h1:=tX (rs.take j) (fun r hr=>Du.o.2.1.each r (List.mem_of_mem_take hr)) 1 (by omega);rw[List.length_take]at h1;omega
    clear hmz;by_cases hjn:j<rs.length
    ·have hle:=Kl Du.o.2.1 j hjn;rw[←hen]at hle;have xh:=Du.o.2.1.each rs[j] (List.getElem_mem hjn);have Ai:=qH (BC 1 rs j hjn);have Nv:=qH (vD 1 rs j hjn);have hoz:eY wz (.slice (some ⟨g,0,none⟩) rs.length cr) rs:=by have:=(HHX.o wz UF.o.keep).own (nm,rs) Nh.o;rw[HVR.o];exact this
     obtain⟨y0,y1,_,_⟩:=hoz.cell j hjn;rw[←hen]at Ai;clear hen hoz;generalize rs[j]=r at*;obtain⟨ra,rb⟩:=r;simp only at hle xh Ai Nv y0 y1;generalize hP:pre++encR 1 (rs.take j)=P at*;have HP:=qH hP;clear hP;have t2:(j:Int)<rs.length:=by omega
     have hbW:Below wz.heap.size wz (wz.alloc (.cells #[.int .i64 ra,.int .i64 rb] 173)):=(Below.refl _ _).alloc (Nat.le_refl _) _;have QH:=qH (UF.o.up hbW);have z0:(wz.alloc (.cells #[.int .i64 ra,.int .i64 rb] 173)).cell? ⟨wz.heap.size,0,none⟩=some (.int .i64 ra):=cell_of_row _ wz.heap.size 0 _ _ (0,0) (heap_alloc_new wz _);have z1:(wz.alloc (.cells #[.int .i64 ra,.int .i64 rb] 173)).cell? ⟨wz.heap.size,1,none⟩=some (.int .i64 rb):=cell_of_row _ wz.heap.size 1 _ _ (0,0) (heap_alloc_new wz _);have hsa:(wz.alloc (.cells #[.int .i64 ra,.int .i64 rb] 173)).heap.size=wz.heap.size+1:=by simp
     go_upto_region 13 with fail;clear hbW y0 y1;generalize wz.alloc (.cells #[.int .i64 ra,.int .i64 rb] 173)=wa at*;have hbx: ∀b,u3.ownBlock=some b→b≠wz.heap.size:=fun b hb e=>by have:=(World.ownsRow.lt UF.o.own b hb).2;omega
     have bK:=qH hbx;clear hbx UF;have hN1:=nP wa w.heap.size u3 P QH.o.own (by omega) (ra-en).toNat (by omega) (by omega);rw[Int.toNat_of_nonneg (by omega)]at hN1;have TG:=qH hN1;clear hN1;go_wp2_with fail;with_reducible refine TG.o.mono ?_
     rintro r8 w8⟨v8,rfl,hp8⟩;have Wt:=qH (QH.o.xU hp8);have hs8:=hp8.keep.size;have x0:w8.cell? ⟨wz.heap.size,0,none⟩=some (.int .i64 ra):=(hp8.keep.cell (p:=⟨wz.heap.size,0,none⟩) (by show wz.heap.size<_;omega) (fun e=>bK.o _ e rfl)).trans z0;have x1:w8.cell? ⟨wz.heap.size,1,none⟩=some (.int .i64 rb):=(hp8.keep.cell (p:=⟨wz.heap.size,1,none⟩) (by show wz.heap.size<_;omega) (fun e=>bK.o _ e rfl)).trans z1;have abj:=qS (∀b,v8.ownBlock=some b→b≠wz.heap.size) (fun b hb e=>by
      rcases hp8.blk b hb with h'|h';·exact bK.o b h' e
      ·omega);have hla:=bH (n:=(ra-en).toNat) (by omega);clear hp8 z0 z1 QH TG;have hN2:=nP w8 w.heap.size v8 (P++aJ (ra-en).toNat) Wt.o.own (by omega) (rb-ra).toNat (by omega) (by simp;omega);rw[Int.toNat_of_nonneg (by omega)]at hN2;have Xv:=qH hN2;clear hN2;go_wp2_with fail;with_reducible refine Xv.o.mono ?_
     rintro r9 w9⟨v9,rfl,hp9⟩;have HMC:=qH (Wt.o.xU hp9);have q1:w9.cell? ⟨wz.heap.size,1,none⟩=some (.int .i64 rb):=(hp9.keep.cell (p:=⟨wz.heap.size,1,none⟩) (by show wz.heap.size<_;omega) (fun e=>abj.o _ e rfl)).trans x1;have HR:=qS (WV w2 w.heap.size v3 pre rs v9 (.int .i64 rb) (.int .i64 ((j+1:Nat):Int)) w9) (⟨j+1,rb,rfl,by omega,rfl,Nv.o.symm,by rw[Ai.o,←List.append_assoc,HP.o,←List.append_assoc];exact HMC.o⟩);clear hp9 x0 x1 Wt Xv;go_wp2;go_roundw;case rel=>exact HR.o
     case measure=>simp[intOf];omega
    ·have t2: ¬(j:Int)<rs.length:=by omega
     have HR:=qS (QT w2 w.heap.size v3 m u3 (.int .i64 ((k+1:Nat):Int)) wz) (⟨k+1,rfl,by omega,by have:=UF.o;rw[List.take_of_length_le (by omega),zG.o]at this;exact this⟩);clear hen;go_wp2;go_roundw;case rel=>exact HR.o
     case measure=>simp[intOf];omega
  ·have t1: ¬(k:Int)<m.length:=by omega
   have HE:=qS (aJ m.length++(m.take k).flatMap encS=bV m) (by rw[WI.o,List.take_of_length_le (by omega)]);rw[HE.o]at HM;have HF:=qH (Nz.o.xU HM.o);obtain⟨B,cB,hvB⟩:=HF.o.own.form;subst hvB;go_wp2;go_ret;exact⟨_,rfl,HF.o.own,UJ.o _ _ _ HF.o⟩
end Go.Proofs.YtbejfgmdkmddnaaGreatDoor
