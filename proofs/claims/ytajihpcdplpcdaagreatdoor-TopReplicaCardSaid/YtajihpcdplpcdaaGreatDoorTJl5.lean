/-
  Layer 5: Append, Len.
-/
import Derived.Test.YtajihpcdplpcdaaGreatDoorTJl3
import Derived.Test.YtajihpcdplpcdaaGreatDoorTSets
import Derived.Deep.DeepCutAuto
set_option maxRecDepth 100000
set_option maxHeartbeats 16000000
namespace Go.Proofs.YtajihpcdplpcdaaGreatDoor
open Go.RowKit Go.Maps Go.Sort
theorem Jl.sync_same(j:Jl):j.sync.es=j.es∧j.sync.name=j.name∧j.sync.per=j.per∧j.sync.files=j.files:=by
 unfold Jl.sync;split;·exact⟨rfl,rfl,rfl,rfl⟩
 ·split<;>exact⟨rfl,rfl,rfl,rfl⟩
theorem Jl.pre_same(j:Jl):j.pre.es=j.es∧j.pre.name=j.name∧j.pre.per=j.per∧j.pre.files=j.files:=by
 unfold Jl.pre;split;·exact j.sync_same
 ·exact⟨rfl,rfl,rfl,rfl⟩
section
variable{w w1 w':World}{G F:Nat→Prop}{bj bd:Nat}{v:Value}{j:Jl}
theorem JlD.from_(hb:Below w.heap.size w w1)(h:JlD w1 G F bj bd j w'):JlD w G F bj bd j w':=by obtain⟨G1,F1,hi,hG,hF,hk⟩:=h;have hs:=hb.size;exact⟨G1,F1,hi,fun b hb=>(hG b hb).imp id (fun h=>by omega),fun b hb=>(hF b hb).imp id (fun h=>by omega),(Keep.of_below hb).trans hk (fun _ _ h=>h)⟩
end
theorem JlAt.grow{w w9:World}{G F:Nat→Prop}{bj bd:Nat}{v v9:Value}{j:Jl}{x:Option Ev}(h:JlAt w G F bj bd v j)(o:Obj)(hg:(w.alloc o).grownBy w9 v.ownBlock)(ho:OwnJ w9 0 v9 (j.es++[x]))(hv:v9.ownBlock=v.ownBlock∨v9.ownBlock=some (w.heap.size+1)):w9.cell? ⟨bj,4,none⟩=some v∧w9.frozen? ⟨bj,4,none⟩=false∧JlAt (w9.setCell ⟨bj,4,none⟩ v9) G (fun b=>F b∨v9.ownBlock=some b) bj bd v9 {j with es:=j.es++[x]}∧(∀b,v9.ownBlock=some b→F b∨w.heap.size≤b)∧Keep F w (w9.setCell ⟨bj,4,none⟩ v9):=by
 have hs:w.heap.size+1≤w9.heap.size:=by have:=hg.size;simpa using this
 have k9: ∀b,b<w.heap.size→v.ownBlock≠some b→w9.heap[b]?=w.heap[b]?:=fun b hb hn=>(hg.block b (by simp;omega) (fun e=>hn e.symm)).trans (heap_alloc_old _ _ hb);have hbj:=h.lt _ h.fj;have hb9:w9.heap[bj]?=some (jlObj bd v j):=(k9 bj hbj (fun e=>(h.fv _ e).2 rfl)).trans h.blk;have ks: ∀b,b≠bj→(w9.setCell ⟨bj,4,none⟩ v9).heap[b]?=w9.heap[b]?:=fun b hb=>Below.heap_setCell _ _ _ _ hb;have hvn: ∀b,v9.ownBlock=some b→b≠bj:=fun b hb e=>by
  rcases hv with h'|h';·exact(h.fv b (h'▸hb)).2 e
  ·rw[h']at hb;injection hb with hb;omega
 have hvF: ∀b,v9.ownBlock=some b→F b∨w.heap.size≤b:=fun b hb=>by
  rcases hv with h'|h';·exact .inl (h.fv b (h'▸hb)).1
  ·rw[h']at hb;injection hb with hb;right;omega
 refine⟨(cell_of_row w9 bj 4 _ _ (0,0) hb9).trans rfl,frozen_of_row w9 bj 4 _ _ hb9,⟨?_,?_,ho.keepB fun b hb=>ks b (hvn b hb),.inl h.fj,fun b hb=>⟨.inr hb,hvn b hb⟩,?_,?_⟩,hvF,?_⟩;·refine h.dk.keep (by simp[World.setCell];omega) fun b hb=>?_;have hlt:=h.dk.lt b hb;exact(ks b (fun e=>h.ng (e▸hb))).trans (k9 b hlt (fun e=>h.ap b (h.fv b e).1 hb))
 ·rw[heap_set_row hb9];rfl
 ·rintro b(hb|hb)hg';·exact h.ap b hb hg'
  ·rcases hvF b hb with h'|h';·exact h.ap b h' hg'
   ·have:=h.dk.lt b hg';omega
 ·rintro b(hb|hb);·have:=h.lt b hb;simp[World.setCell];omega
  ·have:=(World.ownsRow.lt ho b hb).2;simpa[World.setCell]using this
 ·exact(((Keep.refl F w).alloc o).trans (Keep.of_grown (F:=fun b=>v.ownBlock=some b) hg (fun k e=>e)) (fun b _ e=>(h.fv b e).1)).setCell (p:=⟨bj,4,none⟩) (fun _=>h.fj) _
structure PutX(G F:Nat→Prop)(bj bd be:Nat)(v:Value)(j:Jl)(x:Option Ev)(W:World):Prop where
 jl:JlAt W G F bj bd v j
 ent:EntIn W be x
 lt:be<W.heap.size
 mx:MaxAt W
theorem PutX.up{G F:Nat→Prop}{bj bd be:Nat}{v:Value}{j:Jl}{x:Option Ev}{W W':World}(h:PutX G F bj bd be v j x W)(hb:Below W.heap.size W W'):PutX G F bj bd be v j x W':=⟨h.jl.up hb,h.ent.keepB (hb.block be h.lt),Nat.lt_of_lt_of_le h.lt hb.size,h.mx.up hb⟩
abbrev EntS(be:Nat)(x:Option Ev)(W:World):Prop:=W.cell? ⟨be,0,none⟩=some (.string ⟨(entE x).src.toArray⟩)∧W.cell? ⟨be,1,none⟩=some (.int .i64 (entE x).num)∧W.cell? ⟨be,2,none⟩=some (.int .i64 (entE x).at_)∧W.cell? ⟨be,3,none⟩=some (.int .i64 (entE x).kind)∧W.cell? ⟨be,4,none⟩=some (.string ⟨(entE x).per.toArray⟩)∧W.cell? ⟨be,5,none⟩=some (.string ⟨(entE x).item.toArray⟩)∧W.cell? ⟨be,6,none⟩=some (.int .i64 (entE x).val)∧W.cell? ⟨be,7,none⟩=some (.string ⟨(entE x).text.toArray⟩)∧W.cell? ⟨be,8,none⟩=some (.bool x.isNone)
def PutF(w:World)(G F F2:Nat→Prop)(bj bd:Nat)(v:Value)(j:Jl)(x:Option Ev)(w7:World):Prop:= ∃G7,JlAt w7 G7 F2 bj bd v j∧EntIn w7 w.heap.size x∧w.heap.size<w7.heap.size∧(∀b,G7 b→G b∨w.heap.size≤b)∧Keep (fun b=>G b∨F b) w w7∧ ¬(G7 w.heap.size∨F2 w.heap.size)
def PutM(w:World)(G F:Nat→Prop)(bj bd:Nat)(j:Jl)(x:Option Ev)(w2:World):Prop:= ∃G2 F2 v2,PutX G2 F2 bj bd w.heap.size v2 j.pre x w2∧j.pre.Ok∧(∀b,G2 b→G b∨w.heap.size≤b)∧(∀b,F2 b→F b∨w.heap.size≤b)∧Keep (fun b=>G b∨F b) w w2∧ ¬(G2 w.heap.size∨F2 w.heap.size)
theorem jlput_any(w:World)(G F:Nat→Prop)(bj bd:Nat)(j:Jl)(h:JlIn w G F bj bd j)(x:Option Ev)(hx: ∀e,x=some e→mayB e=true)(hn:j.es.length<99)(hmx:MaxAt w)(hbl: ¬G 1∧ ¬F 1):Calls Tryz.prog 42 #[.pointer (some ⟨bj,0,none⟩),entAgg x] w (JlPost w G F bj bd (j.put x) (j.putE x)):=by
 have hb0:Below w.heap.size w (w.alloc (entObj x)):=(Below.refl _ _).alloc (Nat.le_refl _) _;have HX:=qH hx;have HB0:=qH hb0;have HMX:=qH hmx;have HBL:=qH hbl;have HI1:=qH (h.up hb0);have HE1:=qH (EntIn.new w x);have hbe:w.heap.size<(w.alloc (entObj x)).heap.size:=by simp
 have hlt:=h.lt;have HNE:=qH (show∀b,G b∨F b→b<w.heap.size from hlt);clear hx hb0 hmx hbl hlt;obtain⟨ho,v,hj⟩:=HI1.out;obtain⟨c0,c1,c2,c3,c4,c5,c6⟩:=hj.cells;obtain⟨A,cp,hv⟩:=ownsRow_form hj.own;rw[hv]at c4;have HO:=qH ho;have hp1:=ho.per1;have hp2:=ho.per2;have hfl:=ho.fl;have hnm:=ho.nm;obtain⟨n,hnn⟩: ∃n,j.es.length=n:=⟨_,rfl⟩;obtain⟨p,hpp⟩: ∃p,j.per=p:=⟨_,rfl⟩;rw[hnn]at c4 hn hfl;rw[hpp]at c2 hp1 hp2;have HN:=qH hnn;have HP:=qH hpp;have hmod:Int.tmod (n:Int) (p:Int)=((n%p:Nat):Int):=(Int.ofNat_tmod n p).symm;have hdiv:Int.tdiv (n:Int) (p:Int)=((n/p:Nat):Int):=(Int.ofNat_tdiv n p).symm;have hp0:((p:Int)==0)=false:=by simp;omega
 have hk:n/p<99:=Nat.lt_of_le_of_lt (Nat.div_le_self _ _) hn;have HPE:=qH (show j.preE=(if n%p=0 then j.syncE else 0)by unfold Jl.preE;rw[hnn,hpp]);have HPR:=qH (show j.pre=(if n%p=0 then j.sync else j)by unfold Jl.pre;rw[hnn,hpp]);clear hv hj ho hnn hpp c0 c1 c3 c5 c6 h;go_enter Tryz.func42,Tryz.ntmps42;go_upto_region 1 with fail;generalize w.alloc (entObj x)=w1 at*;have HMID:=qH (show∀w2,JlD w1 G F bj bd j.pre w2→PutM w G F bj bd j x w2 from fun w2 hd=>by
  obtain⟨G2,F2,⟨ho2,v2,hj2⟩,hG2,hF2,hk2⟩:=hd;have hbe': ¬(G w.heap.size∨F w.heap.size):=fun h=>by have:=HNE.out _ h;omega
  refine⟨G2,F2,v2,⟨hj2,HE1.out.keepB (hk2.block _ hbe hbe'),Nat.lt_of_lt_of_le hbe hk2.size,?_⟩,ho2,fun b hb=>(hG2 b hb).imp id (fun h=>by have:=HB0.out.size;omega),fun b hb=>(hF2 b hb).imp id (fun h=>by have:=HB0.out.size;omega),(Keep.of_below HB0.out).trans hk2 (fun _ _ h=>h),fun hg=>?_⟩;·obtain⟨m,hm⟩:=HMX.out.up HB0.out;exact⟨m,(hk2.cell (p:=⟨1,0,none⟩) (HMX.out.up HB0.out).lt (fun h=>h.elim HBL.out.1 HBL.out.2)).trans hm⟩
  ·rcases hg with hg|hg
   ·rcases hG2 _ hg with h|h;·exact hbe' (.inl h)
    ·omega
   ·rcases hF2 _ hg with h|h;·exact hbe' (.inr h)
    ·omega);have hdv:wrap64 ((n:Int)/(p:Int))=((n/p:Nat):Int):=by have e:((n:Int)/(p:Int))=((n/p:Nat):Int):=(Int.natCast_ediv n p).symm;rw[e];clear e hdiv;generalize n/p=q at*;unfold wrap64;omega
 by_cases hz:n%p=0;case' pos=>
  rw[hz]at hmod;go_wp2_with fail;with_reducible refine(jlsync_any w1 G F bj bd j HI1.out (by omega)).mono ?_
  rintro r w2⟨rfl,hd2⟩;have hpe:j.preE=j.syncE:=by rw[HPE.out,if_pos hz]
  have hpr:j.pre=j.sync:=by rw[HPR.out,if_pos hz]
  by_cases hE:j.syncE=0;case' pos=>
   rw[←hpr]at hd2;have HM2:=qH (HMID.out w2 hd2);have d2:w2.cell? ⟨bj,2,none⟩=some (.int .i64 p):=by obtain⟨G2,F2,v2,hx2,_⟩:=HM2.out;have:=hx2.jl.cells.2.2.1;rw[j.pre_same.2.2.1,HP.out]at this;exact this
   rw[hE]at hpe⊢;have HZ:=qH hpe;clear hd2 c2 c4 hmod hE hpr hpe HMID;go_wp2_with fail;clear d2 HI1 HE1 hbe;rw[hdv]
  case neg=>
   have HR:=qH (show JlPost w G F bj bd (j.put x) (j.putE x) (.returned (.int .i64 j.syncE)) w2 from by
    have e1:j.put x=j.sync:=by unfold Jl.put;rw[if_pos (by rw[hpe];exact hE),hpr]
    have e2:j.putE x=j.syncE:=by unfold Jl.putE;rw[if_pos (by rw[hpe];exact hE),hpe]
    rw[e1,e2];exact⟨rfl,hd2.from_ HB0.out⟩);clear hd2 c2 c4 hmod hpr hpe HMID;generalize j.syncE=er at*;go_wp2;go_ret;exact HR.out
 case' neg=>
  have t2:((n:Int)%(p:Int)==0)=false:=by rw[←Int.natCast_emod];simp;omega
  have HM2:=qH (HMID.out w1 (by rw[HPR.out,if_neg hz];exact JlD.refl HI1.out));have HZ:=qH (show j.preE=0 by rw[HPE.out,if_neg hz]);go_wp2_with fail;clear c2 c4 HMID HI1 HE1 hbe;rw[hdv];generalize w1=w2 at*
 all_goals
  have hsg:j.seg=segF j.name (n/p):=by unfold Jl.seg;rw[HN.out,HP.out]
  have HSG:=qH hsg;clear hsg hdv hdiv hp0;obtain⟨G2,F2,v2,hx2,ho2,hG2,hF2,hk2,hnb2⟩:=HM2.out;have HPX:=qH hx2;have HO2:=qH ho2;have HG2:=qH hG2;have HF2:=qH hF2;have HK2:=qH hk2;have HNB2:=qH hnb2;have hsl:=(segF_len j.name (show n/p<100 by omega)).2;have HSL:=qH (show(segF j.name (n/p)).length≤1000000 by omega);have HFL:=qH (show∀W,PutX G2 F2 bj bd w.heap.size v2 j.pre x W→Calls Tryz.prog 37 #[.pointer (some ⟨bj,0,none⟩),.int .i64 ((n/p:Nat):Int)] W (fun e w'=>e=.returned (.string ⟨(segF j.name (n/p)).toArray⟩)∧Below W.heap.size W w')from fun W hW=>(jlfile_any W bj j.name (by rw[←j.pre_same.2.1];exact hW.jl.cells.2.1) (by omega) _ (by omega)).mono fun e w'⟨h1,q,h2⟩=>⟨h1,h2▸below_drewN (Below.refl _ _) q⟩);have HSE:=qH (show∀W,PutX G2 F2 bj bd w.heap.size v2 j.pre x W→Calls Tryz.prog 77 #[entAgg x] W (SealP W (sealE x))from fun W hW=>jseal_any W x HX.out hW.mx);have HSLN:=qH (show(sealE x).length≤1239 by unfold sealE;rw[Frm.sealB_length];cases x with|none=>simp[bytesE]|some e=>have:=(mayB_fit (HX.out e rfl)).len;simp only[bytesE];omega);have HAP:=qH (show∀W A n' c,PutX G2 F2 bj bd w.heap.size v2 j.pre x W→OwnB W w2.heap.size (.slice A n' c) (sealE x)→Calls Tryz.prog 76 #[.pointer (some ⟨bd,0,none⟩),.string ⟨(segF j.name (n/p)).toArray⟩,.slice A n' c] W (DkPost W G2 bd (j.pre.dk.append (segF j.name (n/p)) (sealE x)) (j.pre.dk.appendE (segF j.name (n/p)) (sealE x)))from fun W A n' c hW hO=>by have hby:=hO.byt;refine dkapp_any W G2 bd j.pre.dk hW.jl.dk _ HSL.out A n' c (sealE x) hby (fun b off e hg=>?_) (by rw[←hby.len];have:=HSLN.out;omega);subst e;have h1:=hO.lt b rfl;have h2:=HPX.out.jl.dk.lt b hg;omega);have HQ:=qH (show∀W,PutX G2 F2 bj bd w.heap.size v2 j.pre x W→W.cell? ⟨bj,0,none⟩=some (.pointer (some ⟨bd,0,none⟩))∧EntS w.heap.size x W from fun W hW=>⟨hW.jl.cells.1,hW.ent⟩);have HFIN:=qH (show∀W w7,PutX G2 F2 bj bd w.heap.size v2 j.pre x W→Below w2.heap.size w2 W→DkD W G2 bd (j.pre.dk.append (segF j.name (n/p)) (sealE x)) w7→PutF w G F F2 bj bd v2 {j.pre with dk:=j.pre.dk.append (segF j.name (n/p)) (sealE x)} x w7 from fun W w7 hW hb hd=>by
   obtain⟨G7,h7,hG7,hk7⟩:=hW.jl.disk hd;have hs:=hb.size;have hs2:=HK2.out.size;have hG7': ∀b,G7 b→G2 b∨w2.heap.size≤b:=fun b hb=>(hG7 b hb).imp id (fun h=>by omega);refine⟨G7,h7,hW.ent.keepB (hk7.block _ hW.lt (fun h=>HNB2.out (.inl h))),Nat.lt_of_lt_of_le hW.lt hk7.size,fun b hb=>?_,(HK2.out.trans (Keep.of_below (F:=fun _=>False) hb) (fun _ _ h=>h.elim)).trans hk7 (fun b hb hg=>?_),fun hg=>?_⟩
   ·rcases hG7' b hb with h|h;·exact HG2.out b h
    ·right;omega
   ·rcases HG2.out b hg with h|h;·exact .inl h
    ·omega
   ·rcases hg with h|h
    ·rcases hG7' _ h with h|h;·exact HNB2.out (.inl h)
     ·have:=HPX.out.lt;omega
    ·exact HNB2.out (.inr h));have HQF:=qH (show∀w7,PutF w G F F2 bj bd v2 {j.pre with dk:=j.pre.dk.append (segF j.name (n/p)) (sealE x)} x w7→w7.cell? ⟨bj,0,none⟩=some (.pointer (some ⟨bd,0,none⟩))∧EntS w.heap.size x w7 from fun w7 h=>by obtain⟨G7,h7,he,_⟩:=h;exact⟨h7.cells.1,he⟩);clear hx2 ho2 hG2 hF2 hk2 hnb2 HM2;have HPD:=qH (show PutX G2 F2 bj bd w.heap.size v2 j.pre x w2.drew from HPX.out.up (below_drewN (Below.refl _ _) 1));have HBW:=qH (show Below w2.heap.size w2 w2.drew from below_drewN (Below.refl _ _) 1);have hS:=HQ.out _ HPD.out;generalize hkk:((n/p:Nat):Int)=kk at*;go_region_held3(fun W=>W.cell? ⟨bj,0,none⟩=some (.pointer (some ⟨bd,0,none⟩))∧EntS w.heap.size x W)(first|assumption|go_keep)(first|(go_at_call 37;(with_reducible refine(HFL.out _ HPD.out).mono ?_);rintro r9 w5⟨rfl,hb5⟩;(try have HO7:=qH (HO6.out.up hb5));have HP5:=qH (HPD.out.up hb5);have HB5:=qH (HBW.out.trans (hb5.mono HBW.out.size));clear hb5;clear HPD HBW;have HPD:=HP5;have HBW:=HB5;clear HP5 HB5;(try clear hS);have hS:=HQ.out _ HPD.out)|(go_at_call 77;(with_reducible refine(HSE.out _ HPD.out).mono ?_);rintro r9 w6⟨v6,rfl,ho6,hb6⟩;obtain⟨A6,c6,hv6⟩:=ho6.form;subst hv6;have HO6:=qH (ho6.base_le HBW.out.size);have HP5:=qH (HPD.out.up hb6);have HB5:=qH (HBW.out.trans (hb6.mono HBW.out.size));clear HPD HBW;have HPD:=HP5;have HBW:=HB5;clear HP5 HB5;(try clear hS);have hS:=HQ.out _ HPD.out;clear ho6 hb6)|(go_at_call 76;(first|with_reducible refine(HAP.out _ _ _ _ HPD.out HO7.out).mono ?_|with_reducible refine(HAP.out _ _ _ _ HPD.out HO6.out).mono ?_);rintro r9 w7⟨rfl,hd7⟩;have HP7:=qH (HFIN.out _ _ HPD.out HBW.out hd7);(try clear hS);have hS:=HQF.out _ HP7.out;clear hd7));all_goals
   have hpf:=HP7.out;clear hS HPD HBW HFL HSE HAP HQ HFIN HQF HP7 HPX HK2 HG2 HNB2 HSL HSLN hsl hfl hnm hk;have hpe:j.putE x=j.pre.dk.appendE (segF j.name (n/p)) (sealE x):=by unfold Jl.putE;rw[if_neg (by simp[HZ.out]),HSG.out]
   have HPE2:=qH hpe;have hpu:j.put x=(if j.pre.dk.appendE (segF j.name (n/p)) (sealE x)≠0 then{j.pre with dk:=j.pre.dk.append (segF j.name (n/p)) (sealE x),stuck:=j.pre.dk.appendE (segF j.name (n/p)) (sealE x)}else{j.pre with dk:=j.pre.dk.append (segF j.name (n/p)) (sealE x),files:=n/p+1,es:=j.es++[x]}):=by unfold Jl.put;rw[if_neg (by simp[HZ.out]),HSG.out,HN.out,HP.out]
   have HPU:=qH hpu;obtain⟨G7,h7,he7,hlt7,hG7,hk7,hnb7⟩:=hpf;have H7:=qH h7;have HE7:=qH he7;have HG7:=qH hG7;have HK7:=qH hk7;have HNB7:=qH hnb7;obtain⟨d0,d1,d2,d3,d4,d5,d6⟩:=h7.cells;have d3f:=h7.frozen 3;have d6f:=h7.frozen 6;clear hpe hpu h7 hG7 hk7 hnb7;by_cases hE:j.pre.dk.appendE (segF j.name (n/p)) (sealE x)=0
   ·rw[hE];clear d0 d1 d2 d4 d5 d6 d6f;have hne:w.heap.size≠bj:=fun e=>HNB7.out (.inr (by rw[e];exact H7.out.fj));have h8:=H7.out.setc (o:=3) (u:=.int .i64 (kk+1)) (j':={j.pre with dk:=j.pre.dk.append (segF j.name (n/p)) (sealE x),files:=n/p+1}) rfl rfl (by rw[heap_set_row H7.out.blk,←hkk];rfl);have he8:EntIn (w7.setCell ⟨bj,3,none⟩ (.int .i64 (kk+1))) w.heap.size x:=he7.keepB (Below.heap_setCell _ _ _ _ hne);have HK8:=qH (HK7.out.setCell (p:=⟨bj,3,none⟩) (fun hb=>by
     rcases HF2.out bj H7.out.fj with h|h;·exact .inr h
     ·have:bj<w.heap.size:=hb;omega) (.int .i64 (kk+1)));have hlt8:w.heap.size<(w7.setCell ⟨bj,3,none⟩ (.int .i64 (kk+1))).heap.size:=by simpa[World.setCell]using hlt7
    have HLT8:=qH hlt8;have H8:=qH h8;have HE8:=qH he8;clear h8 he8 he7 hlt7 hlt8 hne;have hkw:wrap64 (kk+1)=kk+1:=by rw[←hkk];have:n/p≤n:=Nat.div_le_self _ _;generalize n/p=q at*;unfold wrap64;omega
    go_upto_region 11 with fail;clear d3 d3f hkw;generalize w7.setCell ⟨bj,3,none⟩ (.int .i64 (kk+1))=w8 at*;have hes:j.pre.es=j.es:=j.pre_same.1;have HGR:=qH (show∀v9 w9,OwnJ w9 0 v9 (j.es++[x])→(w8.alloc (entObj x)).drew.grownBy w9 v2.ownBlock→(v9.ownBlock=v2.ownBlock∨v9.ownBlock=some (w8.heap.size+1))→(w9.cell? ⟨bj,4,none⟩=some v2∧w9.frozen? ⟨bj,4,none⟩=false∧EntS w.heap.size x w9)∧JlPost w G F bj bd (j.put x) (j.putE x) (.returned (.int .i64 0)) (w9.setCell ⟨bj,4,none⟩ v9)from fun v9 w9 ho9 hg9 hv9=>by
     obtain⟨f4,f4f,hj9,hvF,hk9⟩:=(H8.out.up (w':=w8.drewN 1) (below_drewN (Below.refl _ _) 1)).grow (x:=x) (entObj x) hg9 (by rw[show({j.pre with dk:=j.pre.dk.append (segF j.name (n/p)) (sealE x),files:=n/p+1}:Jl).es=j.es from hes];exact ho9) hv9;refine⟨⟨f4,f4f,?_⟩,?_⟩;·have hv2:v2.ownBlock≠some w.heap.size:=fun e=>HNB7.out (.inr (H8.out.fv _ e).1);exact HE8.out.keepB ((hg9.block w.heap.size (by have:=HLT8.out;simp;exact Nat.lt_succ_of_lt this) (fun e=>hv2 e.symm)).trans (heap_alloc_old _ _ HLT8.out))
     ·rw[HPE2.out,HPU.out,hE,if_neg (by simp)];have hs8:w.heap.size≤w8.heap.size:=Nat.le_of_lt HLT8.out;refine⟨rfl,G7,(fun b=>F2 b∨v9.ownBlock=some b),⟨?_,v9,?_⟩,HG7.out,fun b hb=>?_,?_⟩
      ·refine⟨HO2.out.per1,HO2.out.per2,HO2.out.nm,?_,?_,?_,?_⟩;·show(j.es++[x]).length≤100000;have:=HN.out;simp;omega
       ·show n/p+1≤(j.es++[x]).length+1;have:=HN.out;have:=Nat.div_le_self n p;simp;omega
       ·show j.pre.lasts≤(j.es++[x]).length;have:=HO2.out.las;rw[hes]at this;simp;omega
       ·intro e he;rcases List.mem_append.1 (show some e∈j.es++[x]from he)with h|h;·exact HO2.out.may e (by rw[hes];exact h)
        ·simp at h;exact HX.out e h.symm
      ·rw[hes]at hj9;exact hj9
      ·rcases hb with h|h;·exact HF2.out b h
       ·rcases hvF b h with h'|h';·exact HF2.out b h'
        ·right;exact Nat.le_trans hs8 h'
      ·refine HK8.out.trans (G:=F2) ⟨hk9.os,hk9.tape,hk9.output,hk9.size,hk9.block⟩ (fun b hb h=>?_);rcases HF2.out b h with h'|h';·exact .inr h'
       ·omega);obtain⟨i0,hi,hz0,hz1,hz2⟩:=info_parts ent_info;have HI:=qH hi;have HZ0:=qH hz0;have HZ1:=qH hz1;have HZ2:=qH hz2;have hov:OwnJ w8 0 v2 j.es:=by have:=H8.out.own;rw[show({j.pre with dk:=j.pre.dk.append (segF j.name (n/p)) (sealE x),files:=n/p+1}:Jl).es=j.es from hes]at this;exact this
    obtain⟨A2,c2,hv2⟩:=ownsRow_form hov;rw[HN.out]at hv2;have HOZ:=qH (show(w8.alloc (entObj x)).drew.ownsRow 0 110 9 v2 n (entCells j.es)from by have:=World.ownsRow.alloc hov (entObj x);rw[HN.out]at this;exact this);have HCZ:=qH (show Cel (w8.alloc (entObj x)).drew (w8.heap.size+1) 9 (some ⟨w8.heap.size,0,none⟩) 1 1 (entC x)from by have:=Cel.new (size:=9) (n:=1) w8 #[.string ⟨(entE x).src.toArray⟩,.int .i64 (entE x).num,.int .i64 (entE x).at_,.int .i64 (entE x).kind,.string ⟨(entE x).per.toArray⟩,.string ⟨(entE x).item.toArray⟩,.int .i64 (entE x).val,.string ⟨(entE x).text.toArray⟩,.bool x.isNone] 110 (by unfold maxLen;omega) rfl;rw[entC_eq];exact Cel.drewN this 1);have HOJ:=qH (show∀v9 w9,World.ownsRow w9 0 110 9 v9 (n+1) (entCells j.es++entC x)→OwnJ w9 0 v9 (j.es++[x])from fun v9 w9 h=>by unfold OwnJ;rw[entCells_one,List.length_append,HN.out];exact h);have e4:=H8.out.cells.2.2.2.2.1;have hS:EntS w.heap.size x w8.drew:=HE8.out;have hSA:EntS w.heap.size x (w8.alloc (entObj x)).drew:=HE8.out.keepB (heap_alloc_old _ _ HLT8.out);have e4A:(w8.alloc (entObj x)).drew.cell? ⟨bj,4,none⟩=some v2:=(World.cell?_alloc_lt w8 (entObj x) ⟨bj,4,none⟩ (H8.out.lt _ H8.out.fj)).trans e4;have e4D:w8.drew.cell? ⟨bj,4,none⟩=some v2:=e4;subst hv2;clear hi hz0 hz1 hz2 hov hE;go_region_law((with_reducible refine step_app rfl (.tmp 56) (.tmp 58) 96 rfl 110 i0 _ 9 104 Tryz.underlying96 HI.out HZ0.out HZ1.out HZ2.out rfl (by decide) 0 (.slice A2 n c2) n (entCells j.es) rfl HOZ.out (w8.heap.size+1) _ _ _ (entC x) rfl HCZ.out (entC_one x) (by unfold maxLen;omega) (by omega) (Nat.zero_le _) ?_);intro v9 w9 ho9 hg9 hv9;obtain⟨A9,c9,hvf⟩:=ownsRow_form ho9;subst hvf;obtain⟨⟨f4,f4f,hS9⟩,hR9⟩:=HGR.out _ w9 (HOJ.out _ w9 ho9) hg9 (by simpa using hv9);have HR9:=qH hR9;clear ho9 hg9 hv9 hR9);all_goals go_wp2;go_ret;exact HR9.out
   ·have HR:=qH (show JlPost w G F bj bd (j.put x) (j.putE x) (.returned (.int .i64 (j.pre.dk.appendE (segF j.name (n/p)) (sealE x)))) (w7.setCell ⟨bj,6,none⟩ (.int .i64 (j.pre.dk.appendE (segF j.name (n/p)) (sealE x))))from by
     rw[HPE2.out,HPU.out,if_pos hE];refine⟨rfl,G7,F2,⟨?_,v2,H7.out.setc rfl rfl ?_⟩,HG7.out,HF2.out,HK7.out.setCell (p:=⟨bj,6,none⟩) (fun hb=>?_) _⟩;·exact⟨HO2.out.per1,HO2.out.per2,HO2.out.nm,HO2.out.num,HO2.out.fl,HO2.out.las,HO2.out.may⟩
     ·rw[heap_set_row H7.out.blk];rfl
     ·rcases HF2.out bj H7.out.fj with h|h;·exact .inr h
      ·have:bj<w.heap.size:=hb;omega);clear d0 d1 d2 d3 d4 d5 d3f;generalize j.pre.dk.appendE (segF j.name (n/p)) (sealE x)=er at*;go_wp2_with fail;with_reducible refine(jlfail_any w7 bj _ d6 d6f er).mono ?_
    rintro r w8⟨rfl,rfl⟩;go_wp2;go_ret;exact HR.out
def Jl.app(j:Jl)(es:List Ev):Jl:=if j.stuck≠0 then j else if es.all mayB then j.puts es else j
def Jl.appN(j:Jl)(es:List Ev):Int:=if j.stuck≠0 then 0 else if es.all mayB then j.es.length else 0
def Jl.appE(j:Jl)(es:List Ev):Int:=if j.stuck≠0 then j.stuck else if es.all mayB then j.putsE es else 1
theorem Jl.put_len(j:Jl)(x:Option Ev):(j.put x).es.length≤j.es.length+1:=by
 unfold Jl.put;split;·rw[j.pre_same.1];omega
 ·split;·show j.pre.es.length≤_;rw[j.pre_same.1];omega
  ·show(j.es++[x]).length≤_;simp
theorem Jl.puts_len: ∀(l:List Ev)(j:Jl),(j.puts l).es.length≤j.es.length+l.length
 |[],j=>by simp[Jl.puts]
 |e::l,j=>by
  have h1:=j.put_len (some e);unfold Jl.puts;split;·simp only[List.length_cons];omega
  ·have:=Jl.puts_len l (j.put (some e));simp only[List.length_cons];omega
theorem Jl.puts_stop(j:Jl)(a b:List Ev)(e:Ev)(h:j.putsE a=0)(h':(j.puts a).putE (some e)≠0):j.puts (a++e::b)=(j.puts a).put (some e)∧j.putsE (a++e::b)=(j.puts a).putE (some e):=by have:=Jl.puts_append (e::b) a j h;rw[this.1,this.2];simp only[Jl.puts,Jl.putsE,if_pos h'];exact⟨trivial,trivial⟩
theorem Cel.keepG{w w':World}{G:Nat→Prop}{A:Option Addr}{size n c:Nat}{xs:List Value}(h:Cel w w.heap.size size A n c xs)(hA: ∀b off,A=some ⟨b,off,none⟩→ ¬G b)(hk:Keep G w w'):Cel w' w'.heap.size size A n c xs:=by refine⟨h.len,h.cap,h.max,fun hn=>?_⟩;obtain⟨b,off,e,hb,hc⟩:=h.cell hn;have:=hk.size;exact⟨b,off,e,by omega,fun i u hi=>(hk.cell (p:=⟨b,off+i,none⟩) hb (hA b off e)).trans (hc i u hi)⟩
def AppPost(w:World)(G F:Nat→Prop)(bj bd:Nat)(j':Jl)(n er:Int)(e:Ending)(w':World):Prop:=e=.returned (.tuple #[.int .i64 n,.int .i64 er])∧JlD w G F bj bd j' w'
theorem JlIn.cells{w:World}{G F:Nat→Prop}{bj bd:Nat}{j:Jl}(h:JlIn w G F bj bd j):w.cell? ⟨bj,5,none⟩=some (.int .i64 j.lasts)∧w.cell? ⟨bj,6,none⟩=some (.int .i64 j.stuck)∧ ∃A c,w.cell? ⟨bj,4,none⟩=some (.slice A j.es.length c):=by obtain⟨ho,v,h⟩:=h;obtain⟨A,c,hv⟩:=ownsRow_form h.own;have:=h.cells;exact⟨this.2.2.2.2.2.1,this.2.2.2.2.2.2,A,c,by rw[←hv];exact this.2.2.2.2.1⟩
theorem jllen_any(w:World)(G F:Nat→Prop)(bj bd:Nat)(j:Jl)(h:JlIn w G F bj bd j):Calls Tryz.prog 19 #[.pointer (some ⟨bj,0,none⟩)] w fun e w'=>e=.returned (.int .i64 j.es.length)∧w=w':=by obtain⟨_,_,A,c,c4⟩:=h.cells;clear h;go_enter Tryz.func19,Tryz.ntmps19;go_wp2;go_ret;exact⟨rfl,rfl⟩
def ApRel1(w:World)(es:List Ev)(i:Value)(wr:World):Prop:= ∃k:Nat,i=.int .i64 k∧k≤es.length∧(∀d∈es.take k,mayB d=true)∧Below w.heap.size w wr
def ApRel2(w:World)(G F:Nat→Prop)(bj bd:Nat)(j:Jl)(es:List Ev)(i:Value)(wr:World):Prop:= ∃k:Nat,i=.int .i64 k∧k≤es.length∧j.putsE (es.take k)=0∧JlD w G F bj bd (j.puts (es.take k)) wr
theorem jlapp_any(w:World)(G F:Nat→Prop)(bj bd:Nat)(j:Jl)(h:JlIn w G F bj bd j)(A:Option Addr)(n c:Nat)(es:List Ev)(he:Evs w w.heap.size A n c es)(hA: ∀b off,A=some ⟨b,off,none⟩→0<n→ ¬(G b∨F b))(hs: ∀e∈es,e.small)(hn:j.es.length+es.length≤99)(hmx:MaxAt w)(hbl: ¬G 1∧ ¬F 1):Calls Tryz.prog 18 #[.pointer (some ⟨bj,0,none⟩),.slice A n c] w (AppPost w G F bj bd (j.app es) (j.appN es) (j.appE es)):=by
 have HI:=qH h;have HE:=qH he;have HA:=qH hA;have HS:=qH hs;have HMX:=qH hmx;have HBL:=qH hbl;have hl:=he.len;obtain⟨_,c6,A4,cp4,c4⟩:=h.cells;have HL:=qH hl;clear h he hA hs hmx hbl;by_cases h0:j.stuck=0
 ·rw[h0]at c6;have H0:=qH h0;rw[hl]at hn;clear h0 hl;go_enter Tryz.func18,Tryz.ntmps18;go_wp2;go_loopw[23](fun i wr=>ApRel1 w es i wr)(fun i _=>n-(intOf i).toNat);case atStart=>exact⟨0,rfl,Nat.zero_le _,fun d hd=>by simp at hd,Below.refl _ _⟩
  case round=>
   obtain⟨k,rfl,hk,hyes,hbel⟩:=hrel;have HY:=qH hyes;have HB:=qH hbel;clear hyes;have hkL:k≤n:=by rw[←HL.out];exact hk
   by_cases hkn:k<n
   ·have hkl:k<es.length:=by rw[HL.out];exact hkn
    obtain⟨b,off,hAe,hb,hd⟩:=HE.out.ev k hkl;obtain⟨e0,e1,e2,e3,e4,e5,e6,e7⟩:=hd.below hbel hb;have HT:=qH (show mayB es[k]=true→ ∀d∈es.take (k+1),mayB d=true from fun h d hd=>by
     rw[List.take_add_one,List.getElem?_eq_getElem hkl,Option.toList_some]at hd;rcases List.mem_append.1 hd with hd|hd;·exact HY.out d hd
     ·simp at hd;subst hd;exact h);have HN:=qH (show mayB es[k]=false→es.all mayB=false from fun h=>List.all_eq_false.2 ⟨_,List.getElem_mem hkl,by simp[h]⟩);have HSM:=qH (HS.out _ (List.getElem_mem hkl));generalize es[k]=d at*;subst hAe;have t1:(k:Int)<n:=by omega
    clear hbel hd hb;go_wp2_with fail;have hbA:Below w.heap.size w (wr.alloc (evObj d)):=HB.out.alloc HB.out.size _;refine(may_any (wr.alloc (evObj d)) d HSM.out (HMX.out.up hbA)).mono ?_;rintro r w2⟨rfl,hb2⟩;have HB2:=qH (hbA.trans (hb2.mono hbA.size));clear hb2 hbA e0 e1 e2 e3 e4 e5 e6 e7;cases hm:mayB d;·have HR:=qH (show AppPost w G F bj bd (j.app es) (j.appN es) (j.appE es) (.returned (.tuple #[.int .i64 0,.int .i64 1])) w2 from by have:=HN.out hm;unfold Jl.app Jl.appN Jl.appE;simp only[H0.out,ne_eq,not_true_eq_false,if_false,this];exact⟨rfl,(JlD.refl (HI.out.up HB2.out)).from_ HB2.out⟩);clear hm;go_wp2;go_ret2;exact HR.out
    ·have HT':=qH (HT.out hm);clear hm;go_wp2;go_roundw;case rel=>exact⟨k+1,by go_num,by omega,HT'.out,HB2.out⟩
     case measure=>simp[intOf];omega
   ·have t1: ¬(k:Int)<n:=by omega
    have hall:es.all mayB=true:=by rw[List.all_eq_true];intro d hd;exact HY.out d (by rw[List.take_of_length_le (by rw[HL.out];omega)];exact hd)
    have HAL:=qH hall;have HIr:=qH (HI.out.up hbel);have hc4:wr.cell? ⟨bj,4,none⟩=some (.slice A4 j.es.length cp4):=(hbel.cell (p:=⟨bj,4,none⟩) (World.block_lt_of_cell? w ⟨bj,4,none⟩ c4)).trans c4;have HST:=qH (show ApRel2 w G F bj bd j es (.int .i64 ((0:Nat):Int)) wr from⟨0,rfl,Nat.zero_le _,rfl,(JlD.refl HIr.out).from_ hbel⟩);have hw1:wrap64 (1048576-(j.es.length:Int))=1048576-(j.es.length:Int):=by unfold wrap64;omega
    clear c4 c6 hall hbel;have t2: ¬(1048576-(j.es.length:Int))<n:=by omega
    go_wp2;go_loopw[43](fun i wr=>ApRel2 w G F bj bd j es i wr)(fun i _=>n-(intOf i).toNat);case atStart=>exact HST.out
    case round=>
     obtain⟨q,rfl,hq,hz,hd⟩:=hrel;have HZ:=qH hz;have hql:q≤n:=by rw[←HL.out];exact hq
     obtain⟨G1,F1,hi1,hG1,hF1,hk1⟩:=hd;have HI1:=qH hi1;have HG1:=qH hG1;have HF1:=qH hF1;have HK1:=qH hk1;clear hz hi1 hG1 hF1;by_cases hqn:q<n
     ·have hqk:q<es.length:=by rw[HL.out];exact hqn
      obtain⟨b,off,hAe,hb,hd⟩:=Evs.ev (Cel.keepG HE.out (fun b off e=>HA.out b off e (by omega)) hk1) q hqk;obtain⟨e0,e1,e2,e3,e4,e5,e6,e7⟩:=hd;have HTK:=qH (show es.take (q+1)=es.take q++[es[q]]by rw[List.take_add_one,List.getElem?_eq_getElem hqk,Option.toList_some]);have HDR:=qH (show es=es.take q++es[q]::es.drop (q+1)by rw[←List.drop_eq_getElem_cons hqk,List.take_append_drop]);have hmd:=HY.out es[q] (by rw[List.take_of_length_le (by rw[HL.out];omega)];exact List.getElem_mem hqk);have HMD:=qH hmd;generalize es[q]=d at*;subst hAe;have t3:(q:Int)<n:=by omega
      have hbA:Below wr.heap.size wr (wr.alloc (evObj d)):=(Below.refl _ _).alloc (Nat.le_refl _) _;have hlen:=Jl.puts_len (es.take q) j;have HPC:=qH (jlput_any (wr.alloc (evObj d)) G1 F1 bj bd (j.puts (es.take q)) (HI1.out.up hbA) (some d) (fun e h=>by injection h with h;exact h▸HMD.out) (by rw[List.length_take]at hlen;omega) (by obtain⟨m,hm⟩:=HMX.out;have h1:=(hk1.cell (p:=⟨1,0,none⟩) HMX.out.lt (fun h=>h.elim HBL.out.1 HBL.out.2)).trans hm;exact MaxAt.up ⟨m,h1⟩ hbA) ⟨fun h=>(HG1.out _ h).elim HBL.out.1 (fun h=>by have:=HMX.out.lt;omega),fun h=>(HF1.out _ h).elim HBL.out.2 (fun h=>by have:=HMX.out.lt;omega)⟩);have HAG:=qH (show entAgg (some d)=.agg #[.string ⟨d.src.toArray⟩,.int .i64 d.num,.int .i64 d.at_,.int .i64 d.kind,.string ⟨d.per.toArray⟩,.string ⟨d.item.toArray⟩,.int .i64 d.val,.string ⟨d.text.toArray⟩,.bool false]from rfl);rw[HAG.out]at HPC;have HCO:=qH (show∀w2,JlD (wr.alloc (evObj d)) G1 F1 bj bd ((j.puts (es.take q)).put (some d)) w2→JlD w G F bj bd ((j.puts (es.take q)).put (some d)) w2 from fun w2 h2=>by
       have h2':=h2.from_ hbA;obtain⟨G2,F2,hi2,hG2,hF2,hk2⟩:=h2';have hsz:=HK1.out.size;refine⟨G2,F2,hi2,fun b hb=>?_,fun b hb=>?_,HK1.out.trans hk2 (fun b hb hg=>?_)⟩
       ·rcases hG2 b hb with h|h;·exact HG1.out b h
        ·right;omega
       ·rcases hF2 b hb with h|h;·exact HF1.out b h
        ·right;omega
       ·rcases hg with h|h
        ·rcases HG1.out b h with h|h;·exact .inl h
         ·omega
        ·rcases HF1.out b h with h|h;·exact .inr h
         ·omega);clear hk1 hbA hmd hlen;go_wp2_with fail;with_reducible refine HPC.out.mono ?_
      rintro r w2⟨rfl,hd2⟩;have HD2:=qH (HCO.out w2 hd2);clear hd2 HPC HCO e0 e1 e2 e3 e4 e5 e6 e7;by_cases hE:(j.puts (es.take q)).putE (some d)=0
      ·have HRL:=qH (show ApRel2 w G F bj bd j es (.int .i64 ((q+1:Nat):Int)) w2 from by have:=Jl.puts_snoc j (es.take q) d HZ.out;rw[←HTK.out]at this;exact⟨q+1,rfl,by omega,this.2.trans hE,by rw[this.1];exact HD2.out⟩);rw[hE];clear hE;go_wp2;go_roundw;case rel=>exact HRL.out
       case measure=>simp[intOf];omega
      ·have HR:=qH (show AppPost w G F bj bd (j.app es) (j.appN es) (j.appE es) (.returned (.tuple #[.int .i64 j.es.length,.int .i64 ((j.puts (es.take q)).putE (some d))])) w2 from by have:=Jl.puts_stop j (es.take q) (es.drop (q+1)) d HZ.out hE;rw[←HDR.out]at this;unfold Jl.app Jl.appN Jl.appE;simp only[H0.out,ne_eq,not_true_eq_false,if_false,HAL.out,if_true];rw[this.1,this.2];exact⟨rfl,HD2.out⟩);generalize(j.puts (es.take q)).putE (some d)=er at*;go_wp2;go_ret2;exact HR.out
     ·have hqe:q=n:=by omega
      have t3: ¬(q:Int)<n:=by omega
      have HR:=qH (show AppPost w G F bj bd (j.app es) (j.appN es) (j.appE es) (.returned (.tuple #[.int .i64 j.es.length,.int .i64 0])) wr from by have hz:=HZ.out;have hi:=HI1.out;rw[List.take_of_length_le (by rw[HL.out];omega)]at hz hi;unfold Jl.app Jl.appN Jl.appE;simp only[H0.out,ne_eq,not_true_eq_false,if_false,HAL.out,if_true];rw[hz];exact⟨rfl,G1,F1,hi,HG1.out,HF1.out,HK1.out⟩);clear hk1;go_wp2;go_ret2;exact HR.out
 ·have HR2:=qH (show∀q,AppPost w G F bj bd (j.app es) (j.appN es) (j.appE es) (.returned (.tuple #[.int .i64 0,.int .i64 j.stuck])) (w.drewN q)from fun q=>by unfold Jl.app Jl.appN Jl.appE;rw[if_pos h0,if_pos h0,if_pos h0];exact⟨rfl,(JlD.refl (HI.out.up (below_drewN (Below.refl _ _) q))).from_ (below_drewN (Below.refl _ _) q)⟩);generalize j.stuck=er at*;go_enter Tryz.func18,Tryz.ntmps18;go_wp2;go_quiet(fail);go_wp2;go_ret2;exact HR2.out _
end Go.Proofs.YtajihpcdplpcdaaGreatDoor
