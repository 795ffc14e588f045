/-
  Layer 7: Encode.
-/
import Derived.Test.YtcmmclliabhnjaaGreatDoorWPnM
import Derived.Test.YtcmmclliabhnjaaGreatDoorWHad
import Derived.Test.YtcmmclliabhnjaaGreatDoorWEvForget
import Derived.Test.YtcmmclliabhnjaaGreatDoorWHadPlain
import Derived.Test.YtcmmclliabhnjaaGreatDoorWSets
import Derived.Lib.AppendZeros
import Derived.Deep.RegionHeld3
import Derived.Deep.DeepCutAuto
import Derived.RegionTactic
import Derived.BigRegion
set_option maxRecDepth 100000
set_option maxHeartbeats 16000000
namespace Go.Proofs.YtcmmclliabhnjaaGreatDoor
open Go.RowKit Go.Maps Go.Sort
theorem putnum_any(w:World)(base:Nat)(v:Value)(l:List UInt8)(ho:OwnB w base v l)(hb:base≤w.heap.size)(n:Nat)(hn:n<4611686018427387904)(hl:l.length≤200000000000):Calls Tryz.prog 110 #[v,.int .i64 n] w (PnPost w base v (l++numB n)):=by
 have hn8:=numB_len8 hn;have HST:=qH (show PnRel w base v (l++numB n) v (.int .i64 n) w from⟨n,l,rfl,hn,rfl,ho,Keep.refl _ _,fun b hb=>.inl hb⟩);have hll:(l++numB n).length≤200000000009:=by simp;omega
 generalize l++numB n=L at*;clear ho hn8;go_enter Tryz.func110,Tryz.ntmps110;go_wp2;go_loopw[0,1](fun v' q wr=>PnRel w base v L v' q wr)(fun _ q _=>(intOf q).toNat);case atStart=>exact HST.out
 case round=>
  obtain⟨q,l',rfl,hq,hL,hm⟩:=hrel;have HL:=qH hL;have HM:=qH hm;have hl':l'.length≤200000000009:=by have:=congrArg List.length hL;simp at this;omega
  have hsr:=hm.keep.size;clear hL hm;by_cases hlo:q<128
  ·have t1: ¬(128:Int)≤q:=by omega
   have HB:=qH (show L=l'++[UInt8.ofNat q]by rw[←HL.out,numB_lo hlo]);go_wp2_with(at_builtin;refine wpList_app8 rfl (.tmp 15) (.tmp 18) rfl base _ l' rfl ?c1 (wr.heap.size+1) _ _ _ [UInt8.ofNat q] rfl ?c2 ?c3 ?c4 ?_);case c1=>exact OwnB.alloc HM.out.own _
   case c2=>exact Byt.new wr _ _ [UInt8.ofNat q] (by simp;omega) 1 rfl (by unfold maxLen;omega)
   case c3=>first|omega|(simp;omega)
   case c4=>first|omega|(simp;omega)
   intro v2 w2 ho2 hg2 hv2;have HR:=qH (show PnPost w base v L (.returned v2) w2 from⟨v2,rfl,HM.out.app _ (by rw[HB.out];exact ho2) hg2 hv2⟩);clear ho2 hg2 hv2;go_wp2;go_ret;exact HR.out
  ·have t1:(128:Int)≤q:=by omega
   have HB:=qH (show L=l'++[UInt8.ofNat (q%128+128)]++numB (q/128)by rw[←HL.out,numB_hi hlo];simp);have eo:bits .or .u8 ((q:Int)%256) 128=((q%128+128:Nat):Int):=by have:=or128 (q%256) (by omega);rw[show((q%256:Nat):Int)=(q:Int)%256 by omega]at this;rw[this];congr 1;omega
   generalize hc:q%128+128=cN at*;have hcl:cN<256:=by omega
   clear hc;go_wp2_with(at_builtin;refine wpList_app8 rfl (.tmp 9) (.tmp 13) rfl base _ l' rfl ?c1 (wr.heap.size+1) _ _ _ [UInt8.ofNat cN] rfl ?c2 ?c3 ?c4 ?_);case c1=>exact OwnB.alloc HM.out.own _
   case c2=>exact Byt.new wr _ _ [UInt8.ofNat cN] (by simp;omega) 1 rfl (by unfold maxLen;omega)
   case c3=>first|omega|(simp;omega)
   case c4=>first|omega|(simp;omega)
   intro v2 w2 ho2 hg2 hv2;have HR:=qH (show PnRel w base v L v2 (.int .i64 ((q/128:Nat):Int)) w2 from⟨q/128,l'++[UInt8.ofNat cN],rfl,by omega,HB.out.symm,HM.out.app _ ho2 hg2 hv2⟩);clear ho2 hg2 hv2 eo;go_wp2;go_roundw;case rel=>exact HR.out
   case measure=>simp[intOf];omega
open Go.Shelf
theorem sources_any(w:World)(G:Nat→Prop)(bs bm:Nat)(m:Had)(V:List UInt8→Value)(h:HadAt w G bs bm m V)(hml:m.length≤100000):Calls Tryz.prog 111 #[.pointer (some ⟨bs,0,none⟩)] w (SrcPost w (m.map (·.1))):=by
 have c0:=h.cell;obtain⟨row,hrw⟩: ∃row:Row Value,row=m.map fun p=>(p.1,V p.1):=⟨_,rfl⟩;have HD:=qH (show w.ownsMap Tryz.prog 9 raw bm row.length (mapD row)by rw[hrw];exact h.map);have hds:Maps.size (mapD row)=m.length:=by rw[hrw];simp[mapD,Maps.size]
 have HRW:=qH (show row.map (·.1)=m.map (·.1)by rw[hrw];simp);clear hrw;have HKR:=qH (keys_rising h.ok.up);have hnd:(m.map (·.1)).Nodup:=(List.pairwise_map.2 (h.ok.up.imp fun{a b}h e=>by rw[e,bb_irrefl]at h;cases h));have HND:=qH hnd;clear h hnd;refine(callsIn_wide (n:=6)).1 ?_;have hfK:Fence.wide.fn 170:=trivial;have hfS:Fence.wide.fn 53:=trivial;refine callsIn_of_wp Tryz.func111 rfl trivial ?_ rfl;simp only[Tryz.ntmps111,List.size_toArray,List.length_cons,List.length_nil,Nat.reduceAdd,Nat.reduceSub,Array.replicate_succ,Array.replicate_zero,List.push_toArray,List.append_toArray,List.nil_append,List.cons_append];have HDS:=qH hds;clear hds;gi_wp2_with fail;refine(Tryz.maps_Keys_170 _ _).mono ?_;rintro e w2⟨rfl,rfl⟩;gi_wp2_with fail;refine(Tryz.slices_Sorted_keys_53_170 bm row.length (mapD row) raw w HD.out (by rw[HDS.out];unfold maxLen;omega) (by rw[HDS.out];omega)).mono ?_;rintro e w3⟨v,ss,rfl,hS,hrow,hnil,hb3⟩;clear c0;gi_wp2_with fail;go_ret;rw[strKeys_mapD]at hS;rw[HRW.out]at hS;have hr:=rising_sort (hS.nodup_iff.2 HND.out) (fun x=>hS.mem_iff);have he:=rising_unique hr HKR.out;rw[he]at hrow;have hl:ss.length=(m.map (·.1)).length:=hS.length_eq;rw[hl]at hrow;refine⟨v,rfl,?_,((Below.refl _ _).alloc (Nat.le_refl _) _).trans (hb3.mono (by simp))⟩;refine⟨hrow.1,?_⟩;rcases hrow.2 with⟨e,hl⟩|⟨g,cap,cur,e,hb',hg,hrr⟩;·exact .inl ⟨e,hl⟩
 ·exact .inr ⟨g,cap,cur,e,by simp at hb';omega,hg,hrr⟩
theorem endR_take(e:Int)(rs:Rg)(j:Nat)(hj:j<rs.length):endR e (rs.take (j+1))=rs[j].2:=by rw[List.take_add_one,List.getElem?_eq_getElem hj,Option.toList_some,endR_snoc]
theorem encR_take(e:Int)(rs:Rg)(j:Nat)(hj:j<rs.length):encR e (rs.take (j+1))=encR e (rs.take j)++(numB (rs[j].1-endR e (rs.take j)).toNat++numB (rs[j].2-rs[j].1).toNat):=by rw[List.take_add_one,List.getElem?_eq_getElem hj,Option.toList_some,encR_snoc]
theorem endR_le{rs:Rg}(h:RgOk rs)(j:Nat)(hj:j<rs.length):1≤endR 1 (rs.take j)∧endR 1 (rs.take j)≤rs[j].1:=by have h1:=h.each rs[j] (List.getElem_mem hj);cases j with|zero=>simp[endR];exact h1.1|succ i=>rw[endR_take 1 rs i (by omega)];have h2:=h.each (rs[i]'(by omega)) (List.getElem_mem _);have h3:=List.pairwise_iff_getElem.1 h.up i (i+1) (by omega) hj (by omega);omega
theorem encS_len{p:List UInt8×Rg}(hn:nameB p.1=true)(h:RgOk p.2)(hl:p.2.length≤90000):(encS p).length≤1500000:=by
 have h1:p.1.length≤24:=by unfold nameB at hn;simp at hn;omega
 have h2:=numB_short (n:=p.2.length) (by omega);have h3:=encR_len p.2 h.each 1 (by omega);unfold encS;simp only[List.length_cons,List.length_append];omega
theorem flat_len{m:Had}(h:HadOk m)(hl: ∀p∈m,p.2.length≤90000)(k:Nat):((m.take k).flatMap encS).length≤1500000*k:=by
 have key: ∀l:Had,(∀p∈l,(encS p).length≤1500000)→(l.flatMap encS).length≤1500000*l.length:=fun l=>by induction l with|nil=>intro _;simp|cons p l ih=>intro hp;have:=ih (fun q hq=>hp q (by simp[hq]));have:=hp p (by simp);simp only[List.flatMap_cons,List.length_append,List.length_cons];omega
 have h1:=key (m.take k) (fun p hp=>encS_len (h.each p (List.mem_of_mem_take hp)).1 (h.each p (List.mem_of_mem_take hp)).2.1 (hl p (List.mem_of_mem_take hp)));rw[List.length_take]at h1;have h2:1500000*min k m.length≤1500000*k:=Nat.mul_le_mul_left _ (by omega);omega
theorem flat_take(m:Had)(k:Nat)(hk:k<m.length):(m.take (k+1)).flatMap encS=(m.take k).flatMap encS++encS m[k]:=by rw[List.take_add_one,List.getElem?_eq_getElem hk,Option.toList_some,List.flatMap_append];simp
def VwIn(S:Nat→Prop)(A:Option Addr)(n:Nat):Prop:= ∀a,A=some a→0<n→S a.block
theorem VwIn.mono{S T:Nat→Prop}{A:Option Addr}{n:Nat}(h:VwIn S A n)(hT: ∀b,S b→T b):VwIn T A n:=fun a ha hn=>hT _ (h a ha hn)
theorem Cel.stay{w w':World}{B B' size n c:Nat}{A:Option Addr}{xs:List Value}{S:Nat→Prop}(h:Cel w B size A n c xs)(hA:VwIn S A n)(hB:B≤B')(hk: ∀b off,S b→b<B→w'.cell? ⟨b,off,none⟩=w.cell? ⟨b,off,none⟩):Cel w' B' size A n c xs:=⟨h.len,h.cap,h.max,fun hn=>by obtain⟨b,off,e,hb,hc⟩:=h.cell hn;exact⟨b,off,e,by omega,fun i u hi=>(hk b _ (hA _ e hn) hb).trans (hc i u hi)⟩⟩
theorem own_in{w:World}{base n:Nat}{e:TypeId}{size:Nat}{A:Option Addr}{c:Nat}{xs:List Value}(h:w.ownsRow base e size (.slice A n c) n xs):VwIn (fun b=>base≤b∧b<w.heap.size) A n:=by
 intro a ha hn;subst ha;rcases h.2 with⟨_,h'⟩|⟨g,cap,cur,e,hb,hg,_⟩;·omega
 ·injection e with e1;injection e1 with e1;subst e1;exact⟨hb,(Array.getElem?_eq_some_iff.1 hg).1⟩
def EnRel(w2:World)(base:Nat)(v3:Value)(m:Had)(b i:Value)(wr:World):Prop:= ∃k:Nat,i=.int .i64 k∧k≤m.length∧PnM w2 base v3 (numB m.length++(m.take k).flatMap encS) b wr
def EnIn(w2:World)(base:Nat)(v3:Value)(pre:List UInt8)(rs:Rg)(b en i:Value)(wz:World):Prop:= ∃(j:Nat)(e:Int),i=.int .i64 j∧j≤rs.length∧en=.int .i64 e∧e=endR 1 (rs.take j)∧PnM w2 base v3 (pre++encR 1 (rs.take j)) b wz
def EncPost(w:World)(l:List UInt8)(e:Ending)(w':World):Prop:= ∃v,e=.returned v∧OwnB w' w.heap.size v l∧Below w.heap.size w w'
theorem encode_any(w:World)(G:Nat→Prop)(bs bm:Nat)(m:Had)(V:List UInt8→Value)(h:HadAt w G bs bm m V)(hml:m.length≤90000)(hrl: ∀p∈m,p.2.length≤90000):Calls Tryz.prog 51 #[.pointer (some ⟨bs,0,none⟩)] w (EncPost w (encH m)):=by
 have HH:=qH h;have HRL:=qH hrl;have hlen: ∀ty,(Builtin.len_ #[163] ty #[.map (some bm)]).run Tryz.prog w=.ok (.int .i64 (m.length:Int)) w:=fun ty=>by have:=World.ownsMap.len (show w.ownsMap Tryz.prog 9 raw bm _ _ from h.map) Tryz.underlying163 ty;rw[this];simp[mapD,Maps.size]
 have c0:=h.cell;have HENC:=qH (show encH m=numB m.length++m.flatMap encS from rfl);have hn8:=numB_short (n:=m.length) (by omega);clear h hrl;go_enter Tryz.func51,Tryz.ntmps51;go_wp2_with fail;with_reducible refine(putnum_any w w.heap.size (.slice none 0 0) [] (OwnB.nil w w.heap.size) (Nat.le_refl _) m.length (by omega) (by simp)).mono ?_
 rintro r w1⟨v3,rfl,hp1⟩;rw[List.nil_append]at hp1;have HP1:=qH hp1;have hkb: ∀(l:List UInt8)(v':Value)(wx:World),PnM w w.heap.size (.slice none 0 0) l v' wx→Below w.heap.size w wx:=fun _ _ _ hx=>hx.keep.below (Nat.le_refl _) (fun k _ e=>by cases e);have HKB:=qH hkb;have hb1:Below w.heap.size w w1:=hkb _ _ _ hp1;have HH1:=qH (HH.out.up hb1);clear hp1 hkb c0 hlen;go_wp2_with fail;with_reducible refine(sources_any w1 G bs bm m V HH1.out (by omega)).mono ?_
 rintro r w2⟨vS,rfl,hS,hb2⟩;have HP2:=qH (HP1.out.up hb2);have HH2:=qH (HH1.out.up hb2);obtain⟨AS,cS,hvS⟩:=ownsRow_form hS;have hSC:Cel w2 w2.heap.size 1 AS (m.map (·.1)).length cS ((m.map (·.1)).map encStr):=by rw[hvS]at hS;exact Cel.of_own hS
 have hSB:VwIn (fun b=>w1.heap.size≤b) AS (m.map (·.1)).length:=by rw[hvS]at hS;exact(own_in hS).mono (fun b h=>h.1)
 have hkl:(m.map (·.1)).length=m.length:=by simp
 rw[hkl]at hvS hSC hSB;subst hvS;have hv3: ∀b,v3.ownBlock=some b→w.heap.size≤b∧b<w1.heap.size:=fun b hb=>World.ownsRow.lt HP1.out.own b hb;have HSC:=qH hSC;have HSB:=qH hSB;have HV3:=qH hv3;have hGw: ∀b,G b→b<w.heap.size:=HH.out.lt;have HGW:=qH hGw;have hs12:=hb2.size;have hs01:=hb1.size;have HST:=qH (show EnRel w2 w.heap.size v3 m v3 (.int .i64 ((0:Nat):Int)) w2 from⟨0,rfl,Nat.zero_le _,by simpa using HP2.out.own,Keep.refl _ _,fun b hb=>.inl hb⟩);clear hS hSC hSB hv3 hGw hb2 hkl HP1;go_wp2;go_loopw[3,19](fun b i wr=>EnRel w2 w.heap.size v3 m b i wr)(fun _ i _=>m.length-(intOf i).toNat);case atStart=>exact HST.out
 case round=>
  obtain⟨k,rfl,hk,hm⟩:=hrel;have HM:=qH hm;have hsr:=hm.keep.size;clear hm;have hll:(numB m.length++(m.take k).flatMap encS).length≤140000000000:=by rw[List.length_append];have h2:=flat_len HH.out.ok HRL.out k;have h3:1500000*k≤1500000*90000:=Nat.mul_le_mul_left _ (by omega);omega
  have hl0:0<(numB m.length++(m.take k).flatMap encS).length:=by
   rw[List.length_append];have:0<(numB m.length).length:=by
    by_cases h:m.length<128;·rw[numB_lo h];simp
    ·rw[numB_hi h];simp
   omega
  by_cases hkn:k<m.length
  ·have HSTR:=qH (show∀wx,Keep (fun b=>v3.ownBlock=some b) w2 wx→Cel wx wx.heap.size 1 AS m.length cS ((m.map (·.1)).map encStr)from fun wx hx=>Cel.stay HSC.out HSB.out hx.size (fun b off hb hlt=>hx.cell (p:=⟨b,off,none⟩) hlt (fun e=>by have:=HV3.out b e;omega)));have HHX:=qH (show∀wx,Keep (fun b=>v3.ownBlock=some b) w2 wx→HadAt wx G bs bm m V from fun wx hx=>HH2.out.keep hx.size (fun b hb=>hx.block b (HH2.out.lt b hb) (fun e=>by have:=HV3.out b e;have:=HGW.out b hb;omega)));obtain⟨b,off,rfl,hb,hc⟩:=Strs.at_ (ss:=m.map (fun p:List UInt8×Rg=>p.1)) (HSTR.out wr HM.out.keep) k (by simpa using hkn);have hmk:(m.map (fun p:List UInt8×Rg=>p.1))[k]'(by simpa using hkn)=m[k].1:=by simp
   rw[hmk]at hc;have hpo:=HH.out.ok.each m[k] (List.getElem_mem hkn);have hpl:=HRL.out m[k] (List.getElem_mem hkn);have HFT:=qH (flat_take m k hkn);have hmem:m[k]∈m:=List.getElem_mem hkn;obtain⟨nm,rs,hmk2⟩: ∃nm rs,m[k]=(nm,rs):=⟨_,_,rfl⟩;rw[hmk2]at hc hpo hpl HFT hmem;simp only at hc hpo hpl;clear hmk hmk2;have HPO:=qH hpo;have HMEM:=qH hmem;have hnm:nm.length≤24:=by have:=hpo.1;unfold nameB at this;simp at this;omega
   have HES:=qH (show encS (nm,rs)=UInt8.ofNat nm.length::(nm++numB rs.length++encR 1 rs)from rfl);have HROW:=qH (show hadRow m nm=rs by unfold hadRow;rw[getB_of_mem HH.out.ok.up hmem];rfl);generalize hL:numB m.length++(m.take k).flatMap encS=L at*;have HL:=qH hL;clear hL hpo hmem;have t1:(k:Int)<m.length:=by omega
   have e4:IntKind.u8.wrap (nm.length:Int)=(nm.length:Int):=by simp[IntKind.wrap,IntKind.bits,IntKind.signed];omega
   have hn24:(nm.length:Int)%256=nm.length:=by omega
   go_wp2_with(at_builtin;refine wpList_app8 rfl (.tmp 23) (.tmp 27) rfl w.heap.size _ L rfl ?c1 (wr.heap.size+1) _ _ _ [UInt8.ofNat nm.length] rfl ?c2 ?c3 ?c4 ?_);case c1=>exact OwnB.alloc HM.out.own _
   case c2=>exact Byt.new wr _ _ [UInt8.ofNat nm.length] (by simp;omega) 1 rfl (by unfold maxLen;omega)
   case c3=>first|omega|(simp;omega)
   case c4=>first|omega|(simp;omega)
   intro v5 w5 ho5 hg5 hv5;have HM5:=qH (HM.out.app _ ho5 hg5 hv5);clear ho5 hg5 hv5 HM e4 hn24;have hs5:=HM5.out.keep.size;obtain⟨v6,w6,hr6,ho6,hg6,hv6⟩:=app_str w5 w.heap.size v5 (L++[UInt8.ofNat nm.length]) nm HM5.out.own (by simp) (by omega) (by simp;omega) 22;have HR6:=qH hr6;have HM6:=qH (HM5.out.str ho6 hg6 hv6);have hs6:=HM6.out.keep.size;have hc0:=(HHX.out w6 HM6.out.keep).cell;obtain⟨vr,hlk,hor,_,hvV⟩:=(HHX.out w6 HM6.out.keep).look nm (by omega);rw[HROW.out]at hor;have hvr:=hvV rs (getB_of_mem HH.out.ok.up HMEM.out);have HVR:=qH hvr;have hrs0:0<rs.length:=List.length_pos_iff.2 HPO.out.2.2;obtain⟨g,cr,hvf,_,hgl⟩:=World.ownsRow.form hor hrs0;subst hvf;clear hr6 ho6 hg6 hv6 hor hvV hvr hc;go_wp2_with(at_builtin;refine Lib.wpList_append_run _ rfl (.tmp 29) (.tmp 30) _ _ rfl _ _ rfl rfl _ _ HR6.out ?_);go_wp2_with fail;with_reducible refine(putnum_any w6 w.heap.size v6 (L++[UInt8.ofNat nm.length]++nm) HM6.out.own (by omega) rs.length (by omega) (by simp;omega)).mono ?_
   rintro r w7⟨v7,rfl,hp7⟩;have HM7:=qH (HM6.out.then_ hp7);obtain⟨pre,hpre⟩: ∃pre,pre=L++[UInt8.ofNat nm.length]++nm++numB rs.length:=⟨_,rfl⟩;have HPR:=qH (show pre++encR 1 rs=numB m.length++(m.take (k+1)).flatMap encS by rw[HFT.out,HES.out,hpre,←HL.out];simp);have hprel:pre.length≤150000000000:=by rw[hpre];have:=numB_short (n:=rs.length) (by omega);simp;omega
   rw[←hpre]at HM7;clear hp7 hpre hc0 hlk HM5 HM6 HR6 HES HFT;have HSI:=qH (show EnIn w2 w.heap.size v3 pre rs v7 (.int .i64 1) (.int .i64 ((0:Nat):Int)) w7 from⟨0,1,rfl,Nat.zero_le _,rfl,rfl,by simpa[encR]using HM7.out⟩);clear HM7;go_wp2;go_loopw[3,7,44](fun b en i wz=>EnIn w2 w.heap.size v3 pre rs b en i wz)(fun _ _ i _=>rs.length-(intOf i).toNat);case atStart=>exact HSI.out
   case round=>
    obtain⟨j,en,rfl,hj,rfl,hen,hmz⟩:=hrel;generalize wr=wz at*;have HMZ:=qH hmz;have hsz:=hmz.keep.size;have hlil:(pre++encR 1 (rs.take j)).length≤160000000000:=by rw[List.length_append];have h1:=encR_len (rs.take j) (fun r hr=>HPO.out.2.1.each r (List.mem_of_mem_take hr)) 1 (by omega);rw[List.length_take]at h1;omega
    clear hmz;by_cases hjn:j<rs.length
    ·have hle:=endR_le HPO.out.2.1 j hjn;rw[←hen]at hle;have hea:=HPO.out.2.1.each rs[j] (List.getElem_mem hjn);have HTA:=qH (encR_take 1 rs j hjn);have HTE:=qH (endR_take 1 rs j hjn);have hoz:OwnR wz (.slice (some ⟨g,0,none⟩) rs.length cr) rs:=by have:=(HHX.out wz HMZ.out.keep).own (nm,rs) HMEM.out;rw[HVR.out];exact this
     obtain⟨y0,y1,_,_⟩:=hoz.cell j hjn;rw[←hen]at HTA;clear hen hoz;generalize rs[j]=r at*;obtain⟨ra,rb⟩:=r;simp only at hle hea HTA HTE y0 y1;generalize hP:pre++encR 1 (rs.take j)=P at*;have HP:=qH hP;clear hP;have t2:(j:Int)<rs.length:=by omega
     have hbW:Below wz.heap.size wz (wz.alloc (.cells #[.int .i64 ra,.int .i64 rb] 173)):=(Below.refl _ _).alloc (Nat.le_refl _) _;have HMA:=qH (HMZ.out.up hbW);have z0:(wz.alloc (.cells #[.int .i64 ra,.int .i64 rb] 173)).cell? ⟨wz.heap.size,0,none⟩=some (.int .i64 ra):=cell_of_row _ wz.heap.size 0 _ _ (0,0) (heap_alloc_new wz _);have z1:(wz.alloc (.cells #[.int .i64 ra,.int .i64 rb] 173)).cell? ⟨wz.heap.size,1,none⟩=some (.int .i64 rb):=cell_of_row _ wz.heap.size 1 _ _ (0,0) (heap_alloc_new wz _);have hsa:(wz.alloc (.cells #[.int .i64 ra,.int .i64 rb] 173)).heap.size=wz.heap.size+1:=by simp
     go_upto_region 13 with fail;clear hbW y0 y1;generalize wz.alloc (.cells #[.int .i64 ra,.int .i64 rb] 173)=wa at*;have hbx: ∀b,u3.ownBlock=some b→b≠wz.heap.size:=fun b hb e=>by have:=(World.ownsRow.lt HMZ.out.own b hb).2;omega
     have HBX:=qH hbx;clear hbx HMZ;have hN1:=putnum_any wa w.heap.size u3 P HMA.out.own (by omega) (ra-en).toNat (by omega) (by omega);rw[Int.toNat_of_nonneg (by omega)]at hN1;have HN1:=qH hN1;clear hN1;go_wp2_with fail;with_reducible refine HN1.out.mono ?_
     rintro r8 w8⟨v8,rfl,hp8⟩;have HMB:=qH (HMA.out.then_ hp8);have hs8:=hp8.keep.size;have x0:w8.cell? ⟨wz.heap.size,0,none⟩=some (.int .i64 ra):=(hp8.keep.cell (p:=⟨wz.heap.size,0,none⟩) (by show wz.heap.size<_;omega) (fun e=>HBX.out _ e rfl)).trans z0;have x1:w8.cell? ⟨wz.heap.size,1,none⟩=some (.int .i64 rb):=(hp8.keep.cell (p:=⟨wz.heap.size,1,none⟩) (by show wz.heap.size<_;omega) (fun e=>HBX.out _ e rfl)).trans z1;have HBX8:=qH (show∀b,v8.ownBlock=some b→b≠wz.heap.size from fun b hb e=>by
      rcases hp8.blk b hb with h'|h';·exact HBX.out b h' e
      ·omega);have hla:=numB_short (n:=(ra-en).toNat) (by omega);clear hp8 z0 z1 HMA HN1;have hN2:=putnum_any w8 w.heap.size v8 (P++numB (ra-en).toNat) HMB.out.own (by omega) (rb-ra).toNat (by omega) (by simp;omega);rw[Int.toNat_of_nonneg (by omega)]at hN2;have HN2:=qH hN2;clear hN2;go_wp2_with fail;with_reducible refine HN2.out.mono ?_
     rintro r9 w9⟨v9,rfl,hp9⟩;have HMC:=qH (HMB.out.then_ hp9);have q1:w9.cell? ⟨wz.heap.size,1,none⟩=some (.int .i64 rb):=(hp9.keep.cell (p:=⟨wz.heap.size,1,none⟩) (by show wz.heap.size<_;omega) (fun e=>HBX8.out _ e rfl)).trans x1;have HR:=qH (show EnIn w2 w.heap.size v3 pre rs v9 (.int .i64 rb) (.int .i64 ((j+1:Nat):Int)) w9 from⟨j+1,rb,rfl,by omega,rfl,HTE.out.symm,by rw[HTA.out,←List.append_assoc,HP.out,←List.append_assoc];exact HMC.out⟩);clear hp9 x0 x1 HMB HN2;go_wp2;go_roundw;case rel=>exact HR.out
     case measure=>simp[intOf];omega
    ·have t2: ¬(j:Int)<rs.length:=by omega
     have HR:=qH (show EnRel w2 w.heap.size v3 m u3 (.int .i64 ((k+1:Nat):Int)) wz from⟨k+1,rfl,by omega,by have:=HMZ.out;rw[List.take_of_length_le (by omega),HPR.out]at this;exact this⟩);clear hen;go_wp2;go_roundw;case rel=>exact HR.out
     case measure=>simp[intOf];omega
  ·have t1: ¬(k:Int)<m.length:=by omega
   have HE:=qH (show numB m.length++(m.take k).flatMap encS=encH m by rw[HENC.out,List.take_of_length_le (by omega)]);rw[HE.out]at HM;have HF:=qH (HP2.out.then_ HM.out);obtain⟨B,cB,hvB⟩:=HF.out.own.form;subst hvB;go_wp2;go_ret;exact⟨_,rfl,HF.out.own,HKB.out _ _ _ HF.out⟩
end Go.Proofs.YtcmmclliabhnjaaGreatDoor
