/-
  Layer 7: Encode.
-/
import Derived.Test.YtladegonienapaaGreatDoorUEvLen
import Derived.RegionTactic
import Derived.BigRegion
set_option maxRecDepth 100000
set_option maxHeartbeats 16000000
namespace Go.Proofs.YtladegonienapaaGreatDoor
open Go.RowKit Go.Maps Go.Sort
theorem mo(w:World)(base:Nat)(v:Value)(l:List UInt8)(ho:aR w base v l)(hb:base≤w.heap.size)(n:Nat)(hn:n<4611686018427387904)(hl:l.length≤200000000000):Calls Tryz.prog 91 #[v,.int .i64 n] w (uh w base v (l++aV n)):=by
 have hn8:=zx hn;have HST:=qS (zU w base v (l++aV n) v (.int .i64 n) w) (⟨n,l,rfl,hn,rfl,ho,ah.refl _ _,fun b hb=>.inl hb⟩);have hll:(l++aV n).length≤200000000009:=by simp;omega
 generalize l++aV n=L at*;clear ho hn8;go_enter Tryz.func91,Tryz.ntmps91;go_wp2;go_loopw[0,1](fun v' q wr=>zU w base v L v' q wr)(fun _ q _=>(intOf q).toNat);case atStart=>exact HST.o
 case round=>
  obtain⟨q,l',rfl,hq,hL,hm⟩:=hrel;have HL:=qH hL;have HM:=qH hm;have hl':l'.length≤200000000009:=by have:=congrArg List.length hL;simp at this;omega
  have yF:=hm.keep.size;clear hL hm;by_cases hlo:q<128
  ·have t1: ¬(128:Int)≤q:=by omega
   have HB:=qS (L=l'++[UInt8.ofNat q]) (by rw[←HL.o,kU hlo]);go_wp2_with(at_builtin;refine bJ rfl (.tmp 15) (.tmp 18) rfl base _ l' rfl ?c1 (wr.heap.size+1) _ _ _ [UInt8.ofNat q] rfl ?c2 ?c3 ?c4 ?_);case c1=>exact aR.alloc HM.o.own _
   case c2=>exact fA.new wr _ _ [UInt8.ofNat q] (by simp;omega) 1 rfl (by unfold maxLen;omega)
   case c3=>first|omega|(simp;omega)
   case c4=>first|omega|(simp;omega)
   intro v2 w2 ho2 hg2 hv2;have HR:=qS (uh w base v L (.returned v2) w2) (⟨v2,rfl,HM.o.app _ (by rw[HB.o];exact ho2) hg2 hv2⟩);clear ho2 hg2 hv2;go_wp2;go_ret;exact HR.o
  ·have t1:(128:Int)≤q:=by omega
   have HB:=qS (L=l'++[UInt8.ofNat (q%128+128)]++aV (q/128)) (by rw[←HL.o,mr hlo];simp);have eo:bits .or .u8 ((q:Int)%256) 128=((q%128+128:Nat):Int):=by have:=or128 (q%256) (by omega);rw[show((q%256:Nat):Int)=(q:Int)%256 by omega]at this;rw[this];congr 1;omega
   generalize hc:q%128+128=cN at*;have hcl:cN<256:=by omega
   clear hc;go_wp2_with(at_builtin;refine bJ rfl (.tmp 9) (.tmp 13) rfl base _ l' rfl ?c1 (wr.heap.size+1) _ _ _ [UInt8.ofNat cN] rfl ?c2 ?c3 ?c4 ?_);case c1=>exact aR.alloc HM.o.own _
   case c2=>exact fA.new wr _ _ [UInt8.ofNat cN] (by simp;omega) 1 rfl (by unfold maxLen;omega)
   case c3=>first|omega|(simp;omega)
   case c4=>first|omega|(simp;omega)
   intro v2 w2 ho2 hg2 hv2;have HR:=qS (zU w base v L v2 (.int .i64 ((q/128:Nat):Int)) w2) (⟨q/128,l'++[UInt8.ofNat cN],rfl,by omega,HB.o.symm,HM.o.app _ ho2 hg2 hv2⟩);clear ho2 hg2 hv2 eo;go_wp2;go_roundw;case rel=>exact HR.o
   case measure=>simp[intOf];omega
open Go.Shelf
theorem Ct(w:World)(G:Nat→Prop)(bs bm:Nat)(m:eB)(V:List UInt8→Value)(h:bQ w G bs bm m V)(qV:m.length≤100000):Calls Tryz.prog 92 #[.pointer (some ⟨bs,0,none⟩)] w (rY w (m.map (·.1))):=by
 have c0:=h.cell;obtain⟨row,hrw⟩: ∃row:Row Value,row=m.map fun p=>(p.1,V p.1):=⟨_,rfl⟩;have HD:=qS (w.ownsMap Tryz.prog 9 raw bm row.length (mapD row)) (by rw[hrw];exact h.map);have hds:Maps.size (mapD row)=m.length:=by rw[hrw];simp[mapD,Maps.size]
 have HRW:=qS (row.map (·.1)=m.map (·.1)) (by rw[hrw];simp);clear hrw;have XG:=qH (nT h.ok.up);have hnd:(m.map (·.1)).Nodup:=(List.pairwise_map.2 (h.ok.up.imp fun{a b}h e=>by rw[e,az]at h;cases h));have Xv:=qH hnd;clear h hnd;refine(callsIn_wide (n:=6)).1 ?_;have Zi:Fence.wide.fn 143:=trivial;have Zh:Fence.wide.fn 39:=trivial;refine callsIn_of_wp Tryz.func92 rfl trivial ?_ rfl;simp only[Tryz.ntmps92,List.size_toArray,List.length_cons,List.length_nil,Nat.reduceAdd,Nat.reduceSub,Array.replicate_succ,Array.replicate_zero,List.push_toArray,List.append_toArray,List.nil_append,List.cons_append];have OX:=qH hds;clear hds;gi_wp2_with fail;refine(Tryz.yE _ _).mono ?_;rintro e w2⟨rfl,rfl⟩;gi_wp2_with fail;refine(Tryz.kH bm row.length (mapD row) raw w HD.o (by rw[OX.o];unfold maxLen;omega) (by rw[OX.o];omega)).mono ?_;rintro e w3⟨v,ss,rfl,hS,hrow,hnil,hb3⟩;clear c0;gi_wp2_with fail;go_ret;rw[l9]at hS;rw[HRW.o]at hS;have hr:=kR (hS.nodup_iff.2 Xv.o) (fun x=>hS.mem_iff);have he:=jd hr XG.o;rw[he]at hrow;have hl:ss.length=(m.map (·.1)).length:=hS.length_eq;rw[hl]at hrow;refine⟨v,rfl,?_,((Below.refl _ _).alloc (Nat.le_refl _) _).trans (hb3.mono (by simp))⟩;refine⟨hrow.1,?_⟩;rcases hrow.2 with⟨e,hl⟩|⟨g,cap,cur,e,hb',hg,hrr⟩;·exact .inl ⟨e,hl⟩
 ·exact .inr ⟨g,cap,cur,e,by simp at hb';omega,hg,hrr⟩
def OZ(w2:World)(base:Nat)(v3:Value)(m:eB)(b i:Value)(wr:World):Prop:= ∃k:Nat,i=.int .i64 k∧k≤m.length∧zV w2 base v3 (aV m.length++(m.take k).flatMap encS) b wr
def U4(w2:World)(base:Nat)(v3:Value)(pre:List UInt8)(rs:Rg)(b en i:Value)(wz:World):Prop:= ∃(j:Nat)(e:Int),i=.int .i64 j∧j≤rs.length∧en=.int .i64 e∧e=dz 1 (rs.take j)∧zV w2 base v3 (pre++encR 1 (rs.take j)) b wz
def Ji(w:World)(l:List UInt8)(e:Ending)(w':World):Prop:= ∃v,e=.returned v∧aR w' w.heap.size v l∧Below w.heap.size w w'
theorem xR(w:World)(G:Nat→Prop)(bs bm:Nat)(m:eB)(V:List UInt8→Value)(h:bQ w G bs bm m V)(qV:m.length≤90000)(hrl: ∀p∈m,p.2.length≤90000):Calls Tryz.prog 48 #[.pointer (some ⟨bs,0,none⟩)] w (Ji w (mJ m)):=by
 have HH:=qH h;have lX:=qH hrl;have hlen: ∀ty,(Builtin.len_ #[148] ty #[.map (some bm)]).run Tryz.prog w=.ok (.int .i64 (m.length:Int)) w:=fun ty=>by have:=World.ownsMap.len (show w.ownsMap Tryz.prog 9 raw bm _ _ from h.map) Tryz.underlying148 ty;rw[this];simp[mapD,Maps.size]
 have c0:=h.cell;have UL:=qS (mJ m=aV m.length++m.flatMap encS) (rfl);have hn8:=bI (n:=m.length) (by omega);clear h hrl;go_enter Tryz.func48,Tryz.ntmps48;go_wp2_with fail;with_reducible refine(mo w w.heap.size (.slice none 0 0) [] (aR.nil w w.heap.size) (Nat.le_refl _) m.length (by omega) (by simp)).mono ?_
 rintro r w1⟨v3,rfl,hp1⟩;rw[List.nil_append]at hp1;have Xn:=qH hp1;have hkb: ∀(l:List UInt8)(v':Value)(wx:World),zV w w.heap.size (.slice none 0 0) l v' wx→Below w.heap.size w wx:=fun _ _ _ hx=>hx.keep.below (Nat.le_refl _) (fun k _ e=>by cases e);have Sr:=qH hkb;have hb1:Below w.heap.size w w1:=hkb _ _ _ hp1;have Cb:=qH (HH.o.up hb1);clear hp1 hkb c0 hlen;go_wp2_with fail;with_reducible refine(Ct w1 G bs bm m V Cb.o (by omega)).mono ?_
 rintro r w2⟨vS,rfl,hS,hb2⟩;have HP2:=qH (Xn.o.up hb2);have mR:=qH (Cb.o.up hb2);obtain⟨AS,cS,Ym⟩:=ownsRow_form hS;have Zu:ax w2 w2.heap.size 1 AS (m.map (·.1)).length cS ((m.map (·.1)).map encStr):=by rw[Ym]at hS;exact ax.aQ hS
 have Zv:j4 (fun b=>w1.heap.size≤b) AS (m.map (·.1)).length:=by rw[Ym]at hS;exact(FN hS).mono (fun b h=>h.1)
 have hkl:(m.map (·.1)).length=m.length:=by simp
 rw[hkl]at Ym Zu Zv;subst Ym;have hv3: ∀b,v3.ownBlock=some b→w.heap.size≤b∧b<w1.heap.size:=fun b hb=>World.ownsRow.lt Xn.o.own b hb;have Uk:=qH Zu;have HSB:=qH Zv;have Si:=qH hv3;have hGw: ∀b,G b→b<w.heap.size:=HH.o.lt;have HGW:=qH hGw;have hs12:=hb2.size;have hs01:=hb1.size;have HST:=qS (OZ w2 w.heap.size v3 m v3 (.int .i64 ((0:Nat):Int)) w2) (⟨0,rfl,Nat.zero_le _,by simpa using HP2.o.own,ah.refl _ _,fun b hb=>.inl hb⟩);clear hS Zu Zv hv3 hGw hb2 hkl Xn;go_wp2;go_loopw[3,19](fun b i wr=>OZ w2 w.heap.size v3 m b i wr)(fun _ i _=>m.length-(intOf i).toNat);case atStart=>exact HST.o
 case round=>
  obtain⟨k,rfl,hk,hm⟩:=hrel;have HM:=qH hm;have yF:=hm.keep.size;clear hm;have hll:(aV m.length++(m.take k).flatMap encS).length≤140000000000:=by rw[List.length_append];have h2:=xJ HH.o.ok lX.o k;have h3:1500000*k≤1500000*90000:=Nat.mul_le_mul_left _ (by omega);omega
  have hl0:0<(aV m.length++(m.take k).flatMap encS).length:=by
   rw[List.length_append];have:0<(aV m.length).length:=by
    by_cases h:m.length<128;·rw[kU h];simp
    ·rw[mr h];simp
   omega
  by_cases hkn:k<m.length
  ·have ZZ:=qS (∀wx,ah (fun b=>v3.ownBlock=some b) w2 wx→ax wx wx.heap.size 1 AS m.length cS ((m.map (·.1)).map encStr)) (fun wx hx=>ax.stay Uk.o HSB.o hx.size (fun b off hb hlt=>hx.cell (p:=⟨b,off,none⟩) hlt (fun e=>by have:=Si.o b e;omega)));have HHX:=qS (∀wx,ah (fun b=>v3.ownBlock=some b) w2 wx→bQ wx G bs bm m V) (fun wx hx=>mR.o.keep hx.size (fun b hb=>hx.block b (mR.o.lt b hb) (fun e=>by have:=Si.o b e;have:=HGW.o b hb;omega)));obtain⟨b,off,rfl,hb,hc⟩:=Strs.at_ (ss:=m.map (fun p:List UInt8×Rg=>p.1)) (ZZ.o wr HM.o.keep) k (by simpa using hkn);have hmk:(m.map (fun p:List UInt8×Rg=>p.1))[k]'(by simpa using hkn)=m[k].1:=by simp
   rw[hmk]at hc;have hpo:=HH.o.ok.each m[k] (List.getElem_mem hkn);have hpl:=lX.o m[k] (List.getElem_mem hkn);have Pq:=qH (zH m k hkn);have hmem:m[k]∈m:=List.getElem_mem hkn;obtain⟨nm,rs,hmk2⟩: ∃nm rs,m[k]=(nm,rs):=⟨_,_,rfl⟩;rw[hmk2]at hc hpo hpl Pq hmem;simp only at hc hpo hpl;clear hmk hmk2;have BV:=qH hpo;have Le:=qH hmem;have hnm:nm.length≤24:=by have:=hpo.1;unfold af at this;simp at this;omega
   have BL:=qS (encS (nm,rs)=UInt8.ofNat nm.length::(nm++aV rs.length++encR 1 rs)) (rfl);have Hd:=qS (aM m nm=rs) (by unfold aM;rw[fU HH.o.ok.up hmem];rfl);generalize hL:aV m.length++(m.take k).flatMap encS=L at*;have HL:=qH hL;clear hL hpo hmem;have t1:(k:Int)<m.length:=by omega
   have e4:IntKind.u8.wrap (nm.length:Int)=(nm.length:Int):=by simp[IntKind.wrap,IntKind.bits,IntKind.signed];omega
   have hn24:(nm.length:Int)%256=nm.length:=by omega
   go_wp2_with(at_builtin;refine bJ rfl (.tmp 23) (.tmp 27) rfl w.heap.size _ L rfl ?c1 (wr.heap.size+1) _ _ _ [UInt8.ofNat nm.length] rfl ?c2 ?c3 ?c4 ?_);case c1=>exact aR.alloc HM.o.own _
   case c2=>exact fA.new wr _ _ [UInt8.ofNat nm.length] (by simp;omega) 1 rfl (by unfold maxLen;omega)
   case c3=>first|omega|(simp;omega)
   case c4=>first|omega|(simp;omega)
   intro v5 w5 ho5 hg5 hv5;have Sq:=qH (HM.o.app _ ho5 hg5 hv5);clear ho5 hg5 hv5 HM e4 hn24;have hs5:=Sq.o.keep.size;obtain⟨v6,w6,hr6,ho6,hg6,hv6⟩:=IL w5 w.heap.size v5 (L++[UInt8.ofNat nm.length]) nm Sq.o.own (by simp) (by omega) (by simp;omega) 93;have Vl:=qH hr6;have Jd:=qH (Sq.o.str ho6 hg6 hv6);have hs6:=Jd.o.keep.size;have hc0:=(HHX.o w6 Jd.o.keep).cell;obtain⟨vr,hlk,hor,_,hvV⟩:=(HHX.o w6 Jd.o.keep).look nm (by omega);rw[Hd.o]at hor;have hvr:=hvV rs (fU HH.o.ok.up Le.o);have HVR:=qH hvr;have hrs0:0<rs.length:=List.length_pos_iff.2 BV.o.2.2;obtain⟨g,cr,lJ,_,hgl⟩:=World.ownsRow.form hor hrs0;subst lJ;clear hr6 ho6 hg6 hv6 hor hvV hvr hc;go_wp2_with(at_builtin;refine Lib.wpList_append_run _ rfl (.tmp 29) (.tmp 30) _ _ rfl _ _ rfl rfl _ _ Vl.o ?_);go_wp2_with fail;with_reducible refine(mo w6 w.heap.size v6 (L++[UInt8.ofNat nm.length]++nm) Jd.o.own (by omega) rs.length (by omega) (by simp;omega)).mono ?_
   rintro r w7⟨v7,rfl,hp7⟩;have HM7:=qH (Jd.o.yX hp7);obtain⟨pre,hpre⟩: ∃pre,pre=L++[UInt8.ofNat nm.length]++nm++aV rs.length:=⟨_,rfl⟩;have vI:=qS (pre++encR 1 rs=aV m.length++(m.take (k+1)).flatMap encS) (by rw[Pq.o,BL.o,hpre,←HL.o];simp);have VL:pre.length≤150000000000:=by rw[hpre];have:=bI (n:=rs.length) (by omega);simp;omega
   rw[←hpre]at HM7;clear hp7 hpre hc0 hlk Sq Jd Vl BL Pq;have Z8:=qS (U4 w2 w.heap.size v3 pre rs v7 (.int .i64 1) (.int .i64 ((0:Nat):Int)) w7) (⟨0,1,rfl,Nat.zero_le _,rfl,rfl,by simpa[encR]using HM7.o⟩);clear HM7;go_wp2;go_loopw[3,7,44](fun b en i wz=>U4 w2 w.heap.size v3 pre rs b en i wz)(fun _ _ i _=>rs.length-(intOf i).toNat);case atStart=>exact Z8.o
   case round=>
    obtain⟨j,en,rfl,hj,rfl,hen,hmz⟩:=hrel;generalize wr=wz at*;have Sn:=qH hmz;have hsz:=hmz.keep.size;have Y9:(pre++encR 1 (rs.take j)).length≤160000000000:=by rw[List.length_append];have h1:=xU (rs.take j) (fun r hr=>BV.o.2.1.each r (List.mem_of_mem_take hr)) 1 (by omega);rw[List.length_take]at h1;omega
    clear hmz;by_cases hjn:j<rs.length
    ·have hle:=IC BV.o.2.1 j hjn;rw[←hen]at hle;have vD:=BV.o.2.1.each rs[j] (List.getElem_mem hjn);have QX:=qH (zK 1 rs j hjn);have Lt:=qH (tO 1 rs j hjn);have hoz:dX wz (.slice (some ⟨g,0,none⟩) rs.length cr) rs:=by have:=(HHX.o wz Sn.o.keep).own (nm,rs) Le.o;rw[HVR.o];exact this
     obtain⟨y0,y1,_,_⟩:=hoz.cell j hjn;rw[←hen]at QX;clear hen hoz;generalize rs[j]=r at*;obtain⟨ra,rb⟩:=r;simp only at hle vD QX Lt y0 y1;generalize hP:pre++encR 1 (rs.take j)=P at*;have HP:=qH hP;clear hP;have t2:(j:Int)<rs.length:=by omega
     have hbW:Below wz.heap.size wz (wz.alloc (.cells #[.int .i64 ra,.int .i64 rb] 153)):=(Below.refl _ _).alloc (Nat.le_refl _) _;have XC:=qH (Sn.o.up hbW);have z0:(wz.alloc (.cells #[.int .i64 ra,.int .i64 rb] 153)).cell? ⟨wz.heap.size,0,none⟩=some (.int .i64 ra):=cell_of_row _ wz.heap.size 0 _ _ (0,0) (heap_alloc_new wz _);have z1:(wz.alloc (.cells #[.int .i64 ra,.int .i64 rb] 153)).cell? ⟨wz.heap.size,1,none⟩=some (.int .i64 rb):=cell_of_row _ wz.heap.size 1 _ _ (0,0) (heap_alloc_new wz _);have hsa:(wz.alloc (.cells #[.int .i64 ra,.int .i64 rb] 153)).heap.size=wz.heap.size+1:=by simp
     go_upto_region 13 with fail;clear hbW y0 y1;generalize wz.alloc (.cells #[.int .i64 ra,.int .i64 rb] 153)=wa at*;have hbx: ∀b,u3.ownBlock=some b→b≠wz.heap.size:=fun b hb e=>by have:=(World.ownsRow.lt Sn.o.own b hb).2;omega
     have fH:=qH hbx;clear hbx Sn;have hN1:=mo wa w.heap.size u3 P XC.o.own (by omega) (ra-en).toNat (by omega) (by omega);rw[Int.toNat_of_nonneg (by omega)]at hN1;have Xz:=qH hN1;clear hN1;go_wp2_with fail;with_reducible refine Xz.o.mono ?_
     rintro r8 w8⟨v8,rfl,hp8⟩;have UA:=qH (XC.o.yX hp8);have hs8:=hp8.keep.size;have x0:w8.cell? ⟨wz.heap.size,0,none⟩=some (.int .i64 ra):=(hp8.keep.cell (p:=⟨wz.heap.size,0,none⟩) (by show wz.heap.size<_;omega) (fun e=>fH.o _ e rfl)).trans z0;have x1:w8.cell? ⟨wz.heap.size,1,none⟩=some (.int .i64 rb):=(hp8.keep.cell (p:=⟨wz.heap.size,1,none⟩) (by show wz.heap.size<_;omega) (fun e=>fH.o _ e rfl)).trans z1;have aay:=qS (∀b,v8.ownBlock=some b→b≠wz.heap.size) (fun b hb e=>by
      rcases hp8.blk b hb with h'|h';·exact fH.o b h' e
      ·omega);have hla:=bI (n:=(ra-en).toNat) (by omega);clear hp8 z0 z1 XC Xz;have Zy:=mo w8 w.heap.size v8 (P++aV (ra-en).toNat) UA.o.own (by omega) (rb-ra).toNat (by omega) (by simp;omega);rw[Int.toNat_of_nonneg (by omega)]at Zy;have Sm:=qH Zy;clear Zy;go_wp2_with fail;with_reducible refine Sm.o.mono ?_
     rintro r9 w9⟨v9,rfl,hp9⟩;have HMC:=qH (UA.o.yX hp9);have q1:w9.cell? ⟨wz.heap.size,1,none⟩=some (.int .i64 rb):=(hp9.keep.cell (p:=⟨wz.heap.size,1,none⟩) (by show wz.heap.size<_;omega) (fun e=>aay.o _ e rfl)).trans x1;have HR:=qS (U4 w2 w.heap.size v3 pre rs v9 (.int .i64 rb) (.int .i64 ((j+1:Nat):Int)) w9) (⟨j+1,rb,rfl,by omega,rfl,Lt.o.symm,by rw[QX.o,←List.append_assoc,HP.o,←List.append_assoc];exact HMC.o⟩);clear hp9 x0 x1 UA Sm;go_wp2;go_roundw;case rel=>exact HR.o
     case measure=>simp[intOf];omega
    ·have t2: ¬(j:Int)<rs.length:=by omega
     have HR:=qS (OZ w2 w.heap.size v3 m u3 (.int .i64 ((k+1:Nat):Int)) wz) (⟨k+1,rfl,by omega,by have:=Sn.o;rw[List.take_of_length_le (by omega),vI.o]at this;exact this⟩);clear hen;go_wp2;go_roundw;case rel=>exact HR.o
     case measure=>simp[intOf];omega
  ·have t1: ¬(k:Int)<m.length:=by omega
   have HE:=qS (aV m.length++(m.take k).flatMap encS=mJ m) (by rw[UL.o,List.take_of_length_le (by omega)]);rw[HE.o]at HM;have HF:=qH (HP2.o.yX HM.o);obtain⟨B,cB,hvB⟩:=HF.o.own.form;subst hvB;go_wp2;go_ret;exact⟨_,rfl,HF.o.own,Sr.o _ _ _ HF.o⟩
end Go.Proofs.YtladegonienapaaGreatDoor
