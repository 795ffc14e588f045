/-
  Layer 5: Append, Len.
-/
import Derived.Test.YtladegonienapaaGreatDoorUJl3
set_option maxRecDepth 100000
set_option maxHeartbeats 16000000
namespace Go.Proofs.YtladegonienapaaGreatDoor
open Go.RowKit Go.Maps Go.Sort
theorem Jl.Jt(j:Jl):j.sync.es=j.es∧j.sync.name=j.name∧j.sync.per=j.per∧j.sync.files=j.files:=by
 unfold Jl.sync;split;·exact⟨rfl,rfl,rfl,rfl⟩
 ·split<;>exact⟨rfl,rfl,rfl,rfl⟩
theorem Jl.nP(j:Jl):j.pre.es=j.es∧j.pre.name=j.name∧j.pre.per=j.per∧j.pre.files=j.files:=by
 unfold Jl.pre;split;·exact j.Jt
 ·exact⟨rfl,rfl,rfl,rfl⟩
section
variable{w w1 w':World}{G F:Nat→Prop}{bj bd:Nat}{v:Value}{j:Jl}
theorem BS.from_(hb:Below w.heap.size w w1)(h:BS w1 G F bj bd j w'):BS w G F bj bd j w':=by obtain⟨G1,F1,hi,hG,hF,hk⟩:=h;have hs:=hb.size;exact⟨G1,F1,hi,fun b hb=>(hG b hb).imp id (fun h=>by omega),fun b hb=>(hF b hb).imp id (fun h=>by omega),(ah.of_below hb).trans hk (fun _ _ h=>h)⟩
end
theorem gN.grow{w w9:World}{G F:Nat→Prop}{bj bd:Nat}{v v9:Value}{j:Jl}{x:Option Ev}(h:gN w G F bj bd v j)(o:Obj)(hg:(w.alloc o).grownBy w9 v.ownBlock)(ho:iR w9 0 v9 (j.es++[x]))(hv:v9.ownBlock=v.ownBlock∨v9.ownBlock=some (w.heap.size+1)):w9.cell? ⟨bj,4,none⟩=some v∧w9.frozen? ⟨bj,4,none⟩=false∧gN (w9.setCell ⟨bj,4,none⟩ v9) G (fun b=>F b∨v9.ownBlock=some b) bj bd v9 {j with es:=j.es++[x]}∧(∀b,v9.ownBlock=some b→F b∨w.heap.size≤b)∧ah F w (w9.setCell ⟨bj,4,none⟩ v9):=by
 have hs:w.heap.size+1≤w9.heap.size:=by have:=hg.size;simpa using this
 have k9: ∀b,b<w.heap.size→v.ownBlock≠some b→w9.heap[b]?=w.heap[b]?:=fun b hb hn=>(hg.block b (by simp;omega) (fun e=>hn e.symm)).trans (heap_alloc_old _ _ hb);have hbj:=h.lt _ h.fj;have hb9:w9.heap[bj]?=some (xx bd v j):=(k9 bj hbj (fun e=>(h.fv _ e).2 rfl)).trans h.blk;have ks: ∀b,b≠bj→(w9.setCell ⟨bj,4,none⟩ v9).heap[b]?=w9.heap[b]?:=fun b hb=>Below.heap_setCell _ _ _ _ hb;have U8: ∀b,v9.ownBlock=some b→b≠bj:=fun b hb e=>by
  rcases hv with h'|h';·exact(h.fv b (h'▸hb)).2 e
  ·rw[h']at hb;injection hb with hb;omega
 have Yn: ∀b,v9.ownBlock=some b→F b∨w.heap.size≤b:=fun b hb=>by
  rcases hv with h'|h';·exact .inl (h.fv b (h'▸hb)).1
  ·rw[h']at hb;injection hb with hb;right;omega
 refine⟨(cell_of_row w9 bj 4 _ _ (0,0) hb9).trans rfl,frozen_of_row w9 bj 4 _ _ hb9,⟨?_,?_,ho.aN fun b hb=>ks b (U8 b hb),.inl h.fj,fun b hb=>⟨.inr hb,U8 b hb⟩,?_,?_⟩,Yn,?_⟩;·refine h.dk.keep (by simp[World.setCell];omega) fun b hb=>?_;have hlt:=h.dk.lt b hb;exact(ks b (fun e=>h.ng (e▸hb))).trans (k9 b hlt (fun e=>h.ap b (h.fv b e).1 hb))
 ·rw[ae hb9];rfl
 ·rintro b(hb|hb)hg';·exact h.ap b hb hg'
  ·rcases Yn b hb with h'|h';·exact h.ap b h' hg'
   ·have:=h.dk.lt b hg';omega
 ·rintro b(hb|hb);·have:=h.lt b hb;simp[World.setCell];omega
  ·have:=(World.ownsRow.lt ho b hb).2;simpa[World.setCell]using this
 ·exact(((ah.refl F w).alloc o).trans (ah.bV (F:=fun b=>v.ownBlock=some b) hg (fun k e=>e)) (fun b _ e=>(h.fv b e).1)).setCell (p:=⟨bj,4,none⟩) (fun _=>h.fj) _
structure yN(G F:Nat→Prop)(bj bd be:Nat)(v:Value)(j:Jl)(x:Option Ev)(W:World):Prop where
 jl:gN W G F bj bd v j
 ZF:lD W be x
 lt:be<W.heap.size
 mx:aW W
theorem yN.up{G F:Nat→Prop}{bj bd be:Nat}{v:Value}{j:Jl}{x:Option Ev}{W W':World}(h:yN G F bj bd be v j x W)(hb:Below W.heap.size W W'):yN G F bj bd be v j x W':=⟨h.jl.up hb,h.ZF.aN (hb.block be h.lt),Nat.lt_of_lt_of_le h.lt hb.size,h.mx.up hb⟩
abbrev Ll(be:Nat)(x:Option Ev)(W:World):Prop:=W.cell? ⟨be,0,none⟩=some (.string ⟨(dw x).src.toArray⟩)∧W.cell? ⟨be,1,none⟩=some (.int .i64 (dw x).num)∧W.cell? ⟨be,2,none⟩=some (.int .i64 (dw x).at_)∧W.cell? ⟨be,3,none⟩=some (.int .i64 (dw x).kind)∧W.cell? ⟨be,4,none⟩=some (.string ⟨(dw x).per.toArray⟩)∧W.cell? ⟨be,5,none⟩=some (.string ⟨(dw x).item.toArray⟩)∧W.cell? ⟨be,6,none⟩=some (.int .i64 (dw x).val)∧W.cell? ⟨be,7,none⟩=some (.string ⟨(dw x).text.toArray⟩)∧W.cell? ⟨be,8,none⟩=some (.bool x.isNone)
def WI(w:World)(G F F2:Nat→Prop)(bj bd:Nat)(v:Value)(j:Jl)(x:Option Ev)(w7:World):Prop:= ∃G7,gN w7 G7 F2 bj bd v j∧lD w7 w.heap.size x∧w.heap.size<w7.heap.size∧(∀b,G7 b→G b∨w.heap.size≤b)∧ah (fun b=>G b∨F b) w w7∧ ¬(G7 w.heap.size∨F2 w.heap.size)
def ZJ(w:World)(G F:Nat→Prop)(bj bd:Nat)(j:Jl)(x:Option Ev)(w2:World):Prop:= ∃G2 F2 v2,yN G2 F2 bj bd w.heap.size v2 j.pre x w2∧j.pre.Ok∧(∀b,G2 b→G b∨w.heap.size≤b)∧(∀b,F2 b→F b∨w.heap.size≤b)∧ah (fun b=>G b∨F b) w w2∧ ¬(G2 w.heap.size∨F2 w.heap.size)
theorem Ka(w:World)(G F:Nat→Prop)(bj bd:Nat)(j:Jl)(h:gT w G F bj bd j)(x:Option Ev)(hx: ∀e,x=some e→aK e=true)(hn:j.es.length<99)(hmx:aW w)(hbl: ¬G 0∧ ¬F 0):Calls Tryz.prog 44 #[.pointer (some ⟨bj,0,none⟩),xO x] w (oG w G F bj bd (j.put x) (j.jE x)):=by
 have hb0:Below w.heap.size w (w.alloc (bR x)):=(Below.refl _ _).alloc (Nat.le_refl _) _;have HX:=qH hx;have HB0:=qH hb0;have kL:=qH hmx;have sG:=qH hbl;have HI1:=qH (h.up hb0);have sF:=qH (lD.new w x);have hbe:w.heap.size<(w.alloc (bR x)).heap.size:=by simp
 have hlt:=h.lt;have Pn:=qS (∀b,G b∨F b→b<w.heap.size) (hlt);clear hx hb0 hmx hbl hlt;obtain⟨ho,v,hj⟩:=HI1.o;obtain⟨c0,c1,c2,c3,c4,c5,c6⟩:=hj.cells;obtain⟨A,cp,hv⟩:=ownsRow_form hj.own;rw[hv]at c4;have HO:=qH ho;have hp1:=ho.per1;have hp2:=ho.per2;have hfl:=ho.fl;have hnm:=ho.nm;obtain⟨n,hnn⟩: ∃n,j.es.length=n:=⟨_,rfl⟩;obtain⟨p,ES⟩: ∃p,j.per=p:=⟨_,rfl⟩;rw[hnn]at c4 hn hfl;rw[ES]at c2 hp1 hp2;have HN:=qH hnn;have HP:=qH ES;have hmod:Int.tmod (n:Int) (p:Int)=((n%p:Nat):Int):=(Int.ofNat_tmod n p).symm;have hdiv:Int.tdiv (n:Int) (p:Int)=((n/p:Nat):Int):=(Int.ofNat_tdiv n p).symm;have hp0:((p:Int)==0)=false:=by simp;omega
 have hk:n/p<99:=Nat.lt_of_le_of_lt (Nat.div_le_self _ _) hn;have Uq:=qS (j.AJ=(if n%p=0 then j.bT else 0)) (by unfold Jl.AJ;rw[hnn,ES]);have vI:=qS (j.pre=(if n%p=0 then j.sync else j)) (by unfold Jl.pre;rw[hnn,ES]);clear hv hj ho hnn ES c0 c1 c3 c5 c6 h;go_enter Tryz.func44,Tryz.ntmps44;go_upto_region 1 with fail;generalize w.alloc (bR x)=w1 at*;have uq:=qS (∀w2,BS w1 G F bj bd j.pre w2→ZJ w G F bj bd j x w2) (fun w2 hd=>by
  obtain⟨G2,F2,⟨ho2,v2,hj2⟩,hG2,hF2,hk2⟩:=hd;have TD: ¬(G w.heap.size∨F w.heap.size):=fun h=>by have:=Pn.o _ h;omega
  refine⟨G2,F2,v2,⟨hj2,sF.o.aN (hk2.block _ hbe TD),Nat.lt_of_lt_of_le hbe hk2.size,?_⟩,ho2,fun b hb=>(hG2 b hb).imp id (fun h=>by have:=HB0.o.size;omega),fun b hb=>(hF2 b hb).imp id (fun h=>by have:=HB0.o.size;omega),(ah.of_below HB0.o).trans hk2 (fun _ _ h=>h),fun hg=>?_⟩;·obtain⟨m,hm⟩:=kL.o.up HB0.o;exact⟨m,(hk2.cell (p:=⟨0,0,none⟩) (kL.o.up HB0.o).lt (fun h=>h.elim sG.o.1 sG.o.2)).trans hm⟩
  ·rcases hg with hg|hg
   ·rcases hG2 _ hg with h|h;·exact TD (.inl h)
    ·omega
   ·rcases hF2 _ hg with h|h;·exact TD (.inr h)
    ·omega);have hdv:wrap64 ((n:Int)/(p:Int))=((n/p:Nat):Int):=by have e:((n:Int)/(p:Int))=((n/p:Nat):Int):=(Int.natCast_ediv n p).symm;rw[e];clear e hdiv;generalize n/p=q at*;unfold wrap64;omega
 by_cases hz:n%p=0;case' pos=>
  rw[hz]at hmod;go_wp2_with fail;with_reducible refine(FW w1 G F bj bd j HI1.o (by omega)).mono ?_
  rintro r w2⟨rfl,hd2⟩;have hpe:j.AJ=j.bT:=by rw[Uq.o,if_pos hz]
  have hpr:j.pre=j.sync:=by rw[vI.o,if_pos hz]
  by_cases hE:j.bT=0;case' pos=>
   rw[←hpr]at hd2;have BK:=qH (uq.o w2 hd2);have d2:w2.cell? ⟨bj,2,none⟩=some (.int .i64 p):=by obtain⟨G2,F2,v2,hx2,_⟩:=BK.o;have:=hx2.jl.cells.2.2.1;rw[j.nP.2.2.1,HP.o]at this;exact this
   rw[hE]at hpe⊢;have HZ:=qH hpe;clear hd2 c2 c4 hmod hE hpr hpe uq;go_wp2_with fail;clear d2 HI1 sF hbe;rw[hdv]
  case neg=>
   have HR:=qS (oG w G F bj bd (j.put x) (j.jE x) (.returned (.int .i64 j.bT)) w2) (by
    have e1:j.put x=j.sync:=by unfold Jl.put;rw[if_pos (by rw[hpe];exact hE),hpr]
    have e2:j.jE x=j.bT:=by unfold Jl.jE;rw[if_pos (by rw[hpe];exact hE),hpe]
    rw[e1,e2];exact⟨rfl,hd2.from_ HB0.o⟩);clear hd2 c2 c4 hmod hpr hpe uq;generalize j.bT=er at*;go_wp2;go_ret;exact HR.o
 case' neg=>
  have t2:((n:Int)%(p:Int)==0)=false:=by rw[←Int.natCast_emod];simp;omega
  have BK:=qH (uq.o w1 (by rw[vI.o,if_neg hz];exact BS.refl HI1.o));have HZ:=qS (j.AJ=0) (by rw[Uq.o,if_neg hz]);go_wp2_with fail;clear c2 c4 uq HI1 sF hbe;rw[hdv];generalize w1=w2 at*
 all_goals
  have hsg:j.bC=aO j.name (n/p):=by unfold Jl.bC;rw[HN.o,HP.o]
  have Pf:=qH hsg;clear hsg hdv hdiv hp0;obtain⟨G2,F2,v2,hx2,ho2,hG2,hF2,hk2,hnb2⟩:=BK.o;have YE:=qH hx2;have dA:=qH ho2;have HG2:=qH hG2;have wE:=qH hF2;have sD:=qH hk2;have Ra:=qH hnb2;have hsl:=(lK j.name (show n/p<100 by omega)).2;have BH:=qS ((aO j.name (n/p)).length≤1000000) (by omega);have Ce:=qS (∀W,yN G2 F2 bj bd w.heap.size v2 j.pre x W→Calls Tryz.prog 70 #[.pointer (some ⟨bj,0,none⟩),.int .i64 ((n/p:Nat):Int)] W (fun e w'=>e=.returned (.string ⟨(aO j.name (n/p)).toArray⟩)∧Below W.heap.size W w')) (fun W hW=>(qF W bj j.name (by rw[←j.nP.2.1];exact hW.jl.cells.2.1) (by omega) _ (by omega)).mono fun e w'⟨h1,q,h2⟩=>⟨h1,h2▸below_drewN (Below.refl _ _) q⟩);have uY:=qS (∀W,yN G2 F2 bj bd w.heap.size v2 j.pre x W→Calls Tryz.prog 83 #[xO x] W (IV W (aU x))) (fun W hW=>zB W x HX.o hW.mx);have WZ:=qS ((aU x).length≤1239) (by unfold aU;rw[ky.iB];cases x with|none=>simp[mK]|some e=>have:=(jk (HX.o e rfl)).len;simp only[mK];omega);have Jg:=qS (∀W A n' c,yN G2 F2 bj bd w.heap.size v2 j.pre x W→aR W w2.heap.size (.slice A n' c) (aU x)→Calls Tryz.prog 82 #[.pointer (some ⟨bd,0,none⟩),.string ⟨(aO j.name (n/p)).toArray⟩,.slice A n' c] W (gU W G2 bd (j.pre.dk.append (aO j.name (n/p)) (aU x)) (j.pre.dk.bO (aO j.name (n/p)) (aU x)))) (fun W A n' c hW hO=>by have hby:=hO.Pb;refine KM W G2 bd j.pre.dk hW.jl.dk _ BH.o A n' c (aU x) hby (fun b off e hg=>?_) (by rw[←hby.len];have:=WZ.o;omega);subst e;have h1:=hO.lt b rfl;have h2:=YE.o.jl.dk.lt b hg;omega);have HQ:=qS (∀W,yN G2 F2 bj bd w.heap.size v2 j.pre x W→W.cell? ⟨bj,0,none⟩=some (.pointer (some ⟨bd,0,none⟩))∧Ll w.heap.size x W) (fun W hW=>⟨hW.jl.cells.1,hW.ZF⟩);have jA:=qS (∀W w7,yN G2 F2 bj bd w.heap.size v2 j.pre x W→Below w2.heap.size w2 W→Ht W G2 bd (j.pre.dk.append (aO j.name (n/p)) (aU x)) w7→WI w G F F2 bj bd v2 {j.pre with dk:=j.pre.dk.append (aO j.name (n/p)) (aU x)} x w7) (fun W w7 hW hb hd=>by
   obtain⟨G7,h7,Yw,hk7⟩:=hW.jl.disk hd;have hs:=hb.size;have hs2:=sD.o.size;have Wo: ∀b,G7 b→G2 b∨w2.heap.size≤b:=fun b hb=>(Yw b hb).imp id (fun h=>by omega);refine⟨G7,h7,hW.ZF.aN (hk7.block _ hW.lt (fun h=>Ra.o (.inl h))),Nat.lt_of_lt_of_le hW.lt hk7.size,fun b hb=>?_,(sD.o.trans (ah.of_below (F:=fun _=>False) hb) (fun _ _ h=>h.elim)).trans hk7 (fun b hb hg=>?_),fun hg=>?_⟩
   ·rcases Wo b hb with h|h;·exact HG2.o b h
    ·right;omega
   ·rcases HG2.o b hg with h|h;·exact .inl h
    ·omega
   ·rcases hg with h|h
    ·rcases Wo _ h with h|h;·exact Ra.o (.inl h)
     ·have:=YE.o.lt;omega
    ·exact Ra.o (.inr h));have HQF:=qS (∀w7,WI w G F F2 bj bd v2 {j.pre with dk:=j.pre.dk.append (aO j.name (n/p)) (aU x)} x w7→w7.cell? ⟨bj,0,none⟩=some (.pointer (some ⟨bd,0,none⟩))∧Ll w.heap.size x w7) (fun w7 h=>by obtain⟨G7,h7,he,_⟩:=h;exact⟨h7.cells.1,he⟩);clear hx2 ho2 hG2 hF2 hk2 hnb2 BK;have Hf:=qS (yN G2 F2 bj bd w.heap.size v2 j.pre x w2.drew) (YE.o.up (below_drewN (Below.refl _ _) 1));have nA:=qS (Below w2.heap.size w2 w2.drew) (below_drewN (Below.refl _ _) 1);have hS:=HQ.o _ Hf.o;generalize hkk:((n/p:Nat):Int)=kk at*;go_region_held3(fun W=>W.cell? ⟨bj,0,none⟩=some (.pointer (some ⟨bd,0,none⟩))∧Ll w.heap.size x W)(first|assumption|go_keep)(first|(go_at_call 70;(with_reducible refine(Ce.o _ Hf.o).mono ?_);rintro r9 w5⟨rfl,hb5⟩;(try have Hg:=qH (uo.o.up hb5));have Ur:=qH (Hf.o.up hb5);have pV:=qH (nA.o.trans (hb5.mono nA.o.size));clear hb5;clear Hf nA;have Hf:=Ur;have nA:=pV;clear Ur pV;(try clear hS);have hS:=HQ.o _ Hf.o)|(go_at_call 83;(with_reducible refine(uY.o _ Hf.o).mono ?_);rintro r9 w6⟨v6,rfl,ho6,hb6⟩;obtain⟨A6,c6,hv6⟩:=ho6.form;subst hv6;have uo:=qH (ho6.eU nA.o.size);have Ur:=qH (Hf.o.up hb6);have pV:=qH (nA.o.trans (hb6.mono nA.o.size));clear Hf nA;have Hf:=Ur;have nA:=pV;clear Ur pV;(try clear hS);have hS:=HQ.o _ Hf.o;clear ho6 hb6)|(go_at_call 82;(first|with_reducible refine(Jg.o _ _ _ _ Hf.o Hg.o).mono ?_|with_reducible refine(Jg.o _ _ _ _ Hf.o uo.o).mono ?_);rintro r9 w7⟨rfl,hd7⟩;have Lv:=qH (jA.o _ _ Hf.o nA.o hd7);(try clear hS);have hS:=HQF.o _ Lv.o;clear hd7));all_goals
   have hpf:=Lv.o;clear hS Hf nA Ce uY Jg HQ jA HQF Lv YE sD HG2 Ra BH WZ hsl hfl hnm hk;have hpe:j.jE x=j.pre.dk.bO (aO j.name (n/p)) (aU x):=by unfold Jl.jE;rw[if_neg (by simp[HZ.o]),Pf.o]
   have Xl:=qH hpe;have hpu:j.put x=(if j.pre.dk.bO (aO j.name (n/p)) (aU x)≠0 then{j.pre with dk:=j.pre.dk.append (aO j.name (n/p)) (aU x),stuck:=j.pre.dk.bO (aO j.name (n/p)) (aU x)}else{j.pre with dk:=j.pre.dk.append (aO j.name (n/p)) (aU x),files:=n/p+1,es:=j.es++[x]}):=by unfold Jl.put;rw[if_neg (by simp[HZ.o]),Pf.o,HN.o,HP.o]
   have jD:=qH hpu;obtain⟨G7,h7,he7,hlt7,Yw,hk7,hnb7⟩:=hpf;have H7:=qH h7;have HE7:=qH he7;have HG7:=qH Yw;have Vp:=qH hk7;have Xw:=qH hnb7;obtain⟨d0,d1,d2,d3,d4,d5,d6⟩:=h7.cells;have ZG:=h7.frozen 3;have RZ:=h7.frozen 6;clear hpe hpu h7 Yw hk7 hnb7;by_cases hE:j.pre.dk.bO (aO j.name (n/p)) (aU x)=0
   ·rw[hE];clear d0 d1 d2 d4 d5 d6 RZ;have hne:w.heap.size≠bj:=fun e=>Xw.o (.inr (by rw[e];exact H7.o.fj));have h8:=H7.o.Cv (o:=3) (u:=.int .i64 (kk+1)) (j':={j.pre with dk:=j.pre.dk.append (aO j.name (n/p)) (aU x),files:=n/p+1}) rfl rfl (by rw[ae H7.o.blk,←hkk];rfl);have he8:lD (w7.setCell ⟨bj,3,none⟩ (.int .i64 (kk+1))) w.heap.size x:=he7.aN (Below.heap_setCell _ _ _ _ hne);have HK8:=qH (Vp.o.setCell (p:=⟨bj,3,none⟩) (fun hb=>by
     rcases wE.o bj H7.o.fj with h|h;·exact .inr h
     ·have:bj<w.heap.size:=hb;omega) (.int .i64 (kk+1)));have hlt8:w.heap.size<(w7.setCell ⟨bj,3,none⟩ (.int .i64 (kk+1))).heap.size:=by simpa[World.setCell]using hlt7
    have Rb:=qH hlt8;have H8:=qH h8;have BN:=qH he8;clear h8 he8 he7 hlt7 hlt8 hne;have hkw:wrap64 (kk+1)=kk+1:=by rw[←hkk];have:n/p≤n:=Nat.div_le_self _ _;generalize n/p=q at*;unfold wrap64;omega
    go_upto_region 11 with fail;clear d3 ZG hkw;generalize w7.setCell ⟨bj,3,none⟩ (.int .i64 (kk+1))=w8 at*;have hes:j.pre.es=j.es:=j.nP.1;have Cc:=qS (∀v9 w9,iR w9 0 v9 (j.es++[x])→(w8.alloc (bR x)).drew.grownBy w9 v2.ownBlock→(v9.ownBlock=v2.ownBlock∨v9.ownBlock=some (w8.heap.size+1))→(w9.cell? ⟨bj,4,none⟩=some v2∧w9.frozen? ⟨bj,4,none⟩=false∧Ll w.heap.size x w9)∧oG w G F bj bd (j.put x) (j.jE x) (.returned (.int .i64 0)) (w9.setCell ⟨bj,4,none⟩ v9)) (fun v9 w9 ho9 hg9 hv9=>by
     obtain⟨f4,f4f,hj9,Yn,hk9⟩:=(H8.o.up (w':=w8.drewN 1) (below_drewN (Below.refl _ _) 1)).grow (x:=x) (bR x) hg9 (by rw[show({j.pre with dk:=j.pre.dk.append (aO j.name (n/p)) (aU x),files:=n/p+1}:Jl).es=j.es from hes];exact ho9) hv9;refine⟨⟨f4,f4f,?_⟩,?_⟩;·have hv2:v2.ownBlock≠some w.heap.size:=fun e=>Xw.o (.inr (H8.o.fv _ e).1);exact BN.o.aN ((hg9.block w.heap.size (by have:=Rb.o;simp;exact Nat.lt_succ_of_lt this) (fun e=>hv2 e.symm)).trans (heap_alloc_old _ _ Rb.o))
     ·rw[Xl.o,jD.o,hE,if_neg (by simp)];have hs8:w.heap.size≤w8.heap.size:=Nat.le_of_lt Rb.o;refine⟨rfl,G7,(fun b=>F2 b∨v9.ownBlock=some b),⟨?_,v9,?_⟩,HG7.o,fun b hb=>?_,?_⟩
      ·refine⟨dA.o.per1,dA.o.per2,dA.o.nm,?_,?_,?_,?_⟩;·show(j.es++[x]).length≤100000;have:=HN.o;simp;omega
       ·show n/p+1≤(j.es++[x]).length+1;have:=HN.o;have:=Nat.div_le_self n p;simp;omega
       ·show j.pre.lasts≤(j.es++[x]).length;have:=dA.o.O5;rw[hes]at this;simp;omega
       ·intro e he;rcases List.mem_append.1 (show some e∈j.es++[x]from he)with h|h;·exact dA.o.may e (by rw[hes];exact h)
        ·simp at h;exact HX.o e h.symm
      ·rw[hes]at hj9;exact hj9
      ·rcases hb with h|h;·exact wE.o b h
       ·rcases Yn b h with h'|h';·exact wE.o b h'
        ·right;exact Nat.le_trans hs8 h'
      ·refine HK8.o.trans (G:=F2) ⟨hk9.os,hk9.tape,hk9.output,hk9.size,hk9.block⟩ (fun b hb h=>?_);rcases wE.o b h with h'|h';·exact .inr h'
       ·omega);obtain⟨i0,hi,hz0,hz1,hz2⟩:=info_parts Eh;have HI:=qH hi;have HZ0:=qH hz0;have HZ1:=qH hz1;have HZ2:=qH hz2;have hov:iR w8 0 v2 j.es:=by have:=H8.o.own;rw[show({j.pre with dk:=j.pre.dk.append (aO j.name (n/p)) (aU x),files:=n/p+1}:Jl).es=j.es from hes]at this;exact this
    obtain⟨A2,c2,hv2⟩:=ownsRow_form hov;rw[HN.o]at hv2;have Us:=qS ((w8.alloc (bR x)).drew.ownsRow 0 91 9 v2 n (av j.es)) (by have:=World.ownsRow.alloc hov (bR x);rw[HN.o]at this;exact this);have YQ:=qS (ax (w8.alloc (bR x)).drew (w8.heap.size+1) 9 (some ⟨w8.heap.size,0,none⟩) 1 1 (jZ x)) (by have:=ax.new (size:=9) (n:=1) w8 #[.string ⟨(dw x).src.toArray⟩,.int .i64 (dw x).num,.int .i64 (dw x).at_,.int .i64 (dw x).kind,.string ⟨(dw x).per.toArray⟩,.string ⟨(dw x).item.toArray⟩,.int .i64 (dw x).val,.string ⟨(dw x).text.toArray⟩,.bool x.isNone] 91 (by unfold maxLen;omega) rfl;rw[vW];exact ax.drewN this 1);have HOJ:=qS (∀v9 w9,World.ownsRow w9 0 91 9 v9 (n+1) (av j.es++jZ x)→iR w9 0 v9 (j.es++[x])) (fun v9 w9 h=>by unfold iR;rw[rQ,List.length_append,HN.o];exact h);have e4:=H8.o.cells.2.2.2.2.1;have hS:Ll w.heap.size x w8.drew:=BN.o;have hSA:Ll w.heap.size x (w8.alloc (bR x)).drew:=BN.o.aN (heap_alloc_old _ _ Rb.o);have e4A:(w8.alloc (bR x)).drew.cell? ⟨bj,4,none⟩=some v2:=(World.cell?_alloc_lt w8 (bR x) ⟨bj,4,none⟩ (H8.o.lt _ H8.o.fj)).trans e4;have e4D:w8.drew.cell? ⟨bj,4,none⟩=some v2:=e4;subst hv2;clear hi hz0 hz1 hz2 hov hE;go_region_law((with_reducible refine bD rfl (.tmp 56) (.tmp 58) 86 rfl 91 i0 _ 9 104 Tryz.underlying86 HI.o HZ0.o HZ1.o HZ2.o rfl (by decide) 0 (.slice A2 n c2) n (av j.es) rfl Us.o (w8.heap.size+1) _ _ _ (jZ x) rfl YQ.o (rR x) (by unfold maxLen;omega) (by omega) (Nat.zero_le _) ?_);intro v9 w9 ho9 hg9 hv9;obtain⟨A9,c9,lJ⟩:=ownsRow_form ho9;subst lJ;obtain⟨⟨f4,f4f,hS9⟩,hR9⟩:=Cc.o _ w9 (HOJ.o _ w9 ho9) hg9 (by simpa using hv9);have Vk:=qH hR9;clear ho9 hg9 hv9 hR9);all_goals go_wp2;go_ret;exact Vk.o
   ·have HR:=qS (oG w G F bj bd (j.put x) (j.jE x) (.returned (.int .i64 (j.pre.dk.bO (aO j.name (n/p)) (aU x)))) (w7.setCell ⟨bj,6,none⟩ (.int .i64 (j.pre.dk.bO (aO j.name (n/p)) (aU x))))) (by
     rw[Xl.o,jD.o,if_pos hE];refine⟨rfl,G7,F2,⟨?_,v2,H7.o.Cv rfl rfl ?_⟩,HG7.o,wE.o,Vp.o.setCell (p:=⟨bj,6,none⟩) (fun hb=>?_) _⟩;·exact⟨dA.o.per1,dA.o.per2,dA.o.nm,dA.o.num,dA.o.fl,dA.o.O5,dA.o.may⟩
     ·rw[ae H7.o.blk];rfl
     ·rcases wE.o bj H7.o.fj with h|h;·exact .inr h
      ·have:bj<w.heap.size:=hb;omega);clear d0 d1 d2 d3 d4 d5 ZG;generalize j.pre.dk.bO (aO j.name (n/p)) (aU x)=er at*;go_wp2_with fail;with_reducible refine(qG w7 bj _ d6 RZ er).mono ?_
    rintro r w8⟨rfl,rfl⟩;go_wp2;go_ret;exact HR.o
def Jl.app(j:Jl)(es:List Ev):Jl:=if j.stuck≠0 then j else if es.all aK then j.puts es else j
def Jl.tX(j:Jl)(es:List Ev):Int:=if j.stuck≠0 then 0 else if es.all aK then j.es.length else 0
def Jl.tY(j:Jl)(es:List Ev):Int:=if j.stuck≠0 then j.stuck else if es.all aK then j.iE es else 1
theorem Jl.PW(j:Jl)(x:Option Ev):(j.put x).es.length≤j.es.length+1:=by
 unfold Jl.put;split;·rw[j.nP.1];omega
 ·split;·show j.pre.es.length≤_;rw[j.nP.1];omega
  ·show(j.es++[x]).length≤_;simp
theorem Jl.Da: ∀(l:List Ev)(j:Jl),(j.puts l).es.length≤j.es.length+l.length
 |[],j=>by simp[Jl.puts]
 |e::l,j=>by
  have h1:=j.PW (some e);unfold Jl.puts;split;·simp only[List.length_cons];omega
  ·have:=Jl.Da l (j.put (some e));simp only[List.length_cons];omega
theorem Jl.JU(j:Jl)(a b:List Ev)(e:Ev)(h:j.iE a=0)(h':(j.puts a).jE (some e)≠0):j.puts (a++e::b)=(j.puts a).put (some e)∧j.iE (a++e::b)=(j.puts a).jE (some e):=by have:=Jl.nN (e::b) a j h;rw[this.1,this.2];simp only[Jl.puts,Jl.iE,if_pos h'];exact⟨trivial,trivial⟩
theorem ax.pY{w w':World}{G:Nat→Prop}{A:Option Addr}{size n c:Nat}{xs:List Value}(h:ax w w.heap.size size A n c xs)(hA: ∀b off,A=some ⟨b,off,none⟩→ ¬G b)(hk:ah G w w'):ax w' w'.heap.size size A n c xs:=by refine⟨h.len,h.cap,h.max,fun hn=>?_⟩;obtain⟨b,off,e,hb,hc⟩:=h.cell hn;have:=hk.size;exact⟨b,off,e,by omega,fun i u hi=>(hk.cell (p:=⟨b,off+i,none⟩) hb (hA b off e)).trans (hc i u hi)⟩
def sH(w:World)(G F:Nat→Prop)(bj bd:Nat)(j':Jl)(n er:Int)(e:Ending)(w':World):Prop:=e=.returned (.tuple #[.int .i64 n,.int .i64 er])∧BS w G F bj bd j' w'
theorem gT.cells{w:World}{G F:Nat→Prop}{bj bd:Nat}{j:Jl}(h:gT w G F bj bd j):w.cell? ⟨bj,5,none⟩=some (.int .i64 j.lasts)∧w.cell? ⟨bj,6,none⟩=some (.int .i64 j.stuck)∧ ∃A c,w.cell? ⟨bj,4,none⟩=some (.slice A j.es.length c):=by obtain⟨ho,v,h⟩:=h;obtain⟨A,c,hv⟩:=ownsRow_form h.own;have:=h.cells;exact⟨this.2.2.2.2.2.1,this.2.2.2.2.2.2,A,c,by rw[←hv];exact this.2.2.2.2.1⟩
theorem zC(w:World)(G F:Nat→Prop)(bj bd:Nat)(j:Jl)(h:gT w G F bj bd j):Calls Tryz.prog 37 #[.pointer (some ⟨bj,0,none⟩)] w fun e w'=>e=.returned (.int .i64 j.es.length)∧w=w':=by obtain⟨_,_,A,c,c4⟩:=h.cells;clear h;go_enter Tryz.func37,Tryz.ntmps37;go_wp2;go_ret;exact⟨rfl,rfl⟩
def U7(w:World)(es:List Ev)(i:Value)(wr:World):Prop:= ∃k:Nat,i=.int .i64 k∧k≤es.length∧(∀d∈es.take k,aK d=true)∧Below w.heap.size w wr
def Hy(w:World)(G F:Nat→Prop)(bj bd:Nat)(j:Jl)(es:List Ev)(i:Value)(wr:World):Prop:= ∃k:Nat,i=.int .i64 k∧k≤es.length∧j.iE (es.take k)=0∧BS w G F bj bd (j.puts (es.take k)) wr
theorem Kb(w:World)(G F:Nat→Prop)(bj bd:Nat)(j:Jl)(h:gT w G F bj bd j)(A:Option Addr)(n c:Nat)(es:List Ev)(he:gH w w.heap.size A n c es)(hA: ∀b off,A=some ⟨b,off,none⟩→0<n→ ¬(G b∨F b))(hs: ∀e∈es,e.small)(hn:j.es.length+es.length≤99)(hmx:aW w)(hbl: ¬G 0∧ ¬F 0):Calls Tryz.prog 19 #[.pointer (some ⟨bj,0,none⟩),.slice A n c] w (sH w G F bj bd (j.app es) (j.tX es) (j.tY es)):=by
 have HI:=qH h;have HE:=qH he;have HA:=qH hA;have HS:=qH hs;have kL:=qH hmx;have sG:=qH hbl;have hl:=he.len;obtain⟨_,c6,A4,cp4,c4⟩:=h.cells;have HL:=qH hl;clear h he hA hs hmx hbl;by_cases h0:j.stuck=0
 ·rw[h0]at c6;have H0:=qH h0;rw[hl]at hn;clear h0 hl;go_enter Tryz.func19,Tryz.ntmps19;go_wp2;go_loopw[23](fun i wr=>U7 w es i wr)(fun i _=>n-(intOf i).toNat);case atStart=>exact⟨0,rfl,Nat.zero_le _,fun d hd=>by simp at hd,Below.refl _ _⟩
  case round=>
   obtain⟨k,rfl,hk,VH,hbel⟩:=hrel;have HY:=qH VH;have HB:=qH hbel;clear VH;have Vb:k≤n:=by rw[←HL.o];exact hk
   by_cases hkn:k<n
   ·have hkl:k<es.length:=by rw[HL.o];exact hkn
    obtain⟨b,off,Wv,hb,hd⟩:=HE.o.ev k hkl;obtain⟨e0,e1,e2,e3,e4,e5,e6,e7⟩:=hd.below hbel hb;have HT:=qS (aK es[k]=true→ ∀d∈es.take (k+1),aK d=true) (fun h d hd=>by
     rw[List.take_add_one,List.getElem?_eq_getElem hkl,Option.toList_some]at hd;rcases List.mem_append.1 hd with hd|hd;·exact HY.o d hd
     ·simp at hd;subst hd;exact h);have HN:=qS (aK es[k]=false→es.all aK=false) (fun h=>List.all_eq_false.2 ⟨_,List.getElem_mem hkl,by simp[h]⟩);have sw:=qH (HS.o _ (List.getElem_mem hkl));generalize es[k]=d at*;subst Wv;have t1:(k:Int)<n:=by omega
    clear hbel hd hb;go_wp2_with fail;have bL:Below w.heap.size w (wr.alloc (au d)):=HB.o.alloc HB.o.size _;refine(rD (wr.alloc (au d)) d sw.o (kL.o.up bL)).mono ?_;rintro r w2⟨rfl,hb2⟩;have HB2:=qH (bL.trans (hb2.mono bL.size));clear hb2 bL e0 e1 e2 e3 e4 e5 e6 e7;cases hm:aK d;·have HR:=qS (sH w G F bj bd (j.app es) (j.tX es) (j.tY es) (.returned (.tuple #[.int .i64 0,.int .i64 1])) w2) (by have:=HN.o hm;unfold Jl.app Jl.tX Jl.tY;simp only[H0.o,ne_eq,not_true_eq_false,if_false,this];exact⟨rfl,(BS.refl (HI.o.up HB2.o)).from_ HB2.o⟩);clear hm;go_wp2;go_ret2;exact HR.o
    ·have WV:=qH (HT.o hm);clear hm;go_wp2;go_roundw;case rel=>exact⟨k+1,by go_num,by omega,WV.o,HB2.o⟩
     case measure=>simp[intOf];omega
   ·have t1: ¬(k:Int)<n:=by omega
    have hall:es.all aK=true:=by rw[List.all_eq_true];intro d hd;exact HY.o d (by rw[List.take_of_length_le (by rw[HL.o];omega)];exact hd)
    have Rq:=qH hall;have HIr:=qH (HI.o.up hbel);have hc4:wr.cell? ⟨bj,4,none⟩=some (.slice A4 j.es.length cp4):=(hbel.cell (p:=⟨bj,4,none⟩) (World.block_lt_of_cell? w ⟨bj,4,none⟩ c4)).trans c4;have HST:=qS (Hy w G F bj bd j es (.int .i64 ((0:Nat):Int)) wr) (⟨0,rfl,Nat.zero_le _,rfl,(BS.refl HIr.o).from_ hbel⟩);have hw1:wrap64 (1048576-(j.es.length:Int))=1048576-(j.es.length:Int):=by unfold wrap64;omega
    clear c4 c6 hall hbel;have t2: ¬(1048576-(j.es.length:Int))<n:=by omega
    go_wp2;go_loopw[43](fun i wr=>Hy w G F bj bd j es i wr)(fun i _=>n-(intOf i).toNat);case atStart=>exact HST.o
    case round=>
     obtain⟨q,rfl,hq,hz,hd⟩:=hrel;have HZ:=qH hz;have Va:q≤n:=by rw[←HL.o];exact hq
     obtain⟨G1,F1,hi1,hG1,hF1,hk1⟩:=hd;have HI1:=qH hi1;have EY:=qH hG1;have pO:=qH hF1;have zZ:=qH hk1;clear hz hi1 hG1 hF1;by_cases O6:q<n
     ·have hqk:q<es.length:=by rw[HL.o];exact O6
      obtain⟨b,off,Wv,hb,hd⟩:=gH.ev (ax.pY HE.o (fun b off e=>HA.o b off e (by omega)) hk1) q hqk;obtain⟨e0,e1,e2,e3,e4,e5,e6,e7⟩:=hd;have df:=qS (es.take (q+1)=es.take q++[es[q]]) (by rw[List.take_add_one,List.getElem?_eq_getElem hqk,Option.toList_some]);have HDR:=qS (es=es.take q++es[q]::es.drop (q+1)) (by rw[←List.drop_eq_getElem_cons hqk,List.take_append_drop]);have hmd:=HY.o es[q] (by rw[List.take_of_length_le (by rw[HL.o];omega)];exact List.getElem_mem hqk);have HMD:=qH hmd;generalize es[q]=d at*;subst Wv;have t3:(q:Int)<n:=by omega
      have bL:Below wr.heap.size wr (wr.alloc (au d)):=(Below.refl _ _).alloc (Nat.le_refl _) _;have hlen:=Jl.Da (es.take q) j;have OB:=qH (Ka (wr.alloc (au d)) G1 F1 bj bd (j.puts (es.take q)) (HI1.o.up bL) (some d) (fun e h=>by injection h with h;exact h▸HMD.o) (by rw[List.length_take]at hlen;omega) (by obtain⟨m,hm⟩:=kL.o;have h1:=(hk1.cell (p:=⟨0,0,none⟩) kL.o.lt (fun h=>h.elim sG.o.1 sG.o.2)).trans hm;exact aW.up ⟨m,h1⟩ bL) ⟨fun h=>(EY.o _ h).elim sG.o.1 (fun h=>by have:=kL.o.lt;omega),fun h=>(pO.o _ h).elim sG.o.2 (fun h=>by have:=kL.o.lt;omega)⟩);have HAG:=qS (xO (some d)=.agg #[.string ⟨d.src.toArray⟩,.int .i64 d.num,.int .i64 d.at_,.int .i64 d.kind,.string ⟨d.per.toArray⟩,.string ⟨d.item.toArray⟩,.int .i64 d.val,.string ⟨d.text.toArray⟩,.bool false]) (rfl);rw[HAG.o]at OB;have X4:=qS (∀w2,BS (wr.alloc (au d)) G1 F1 bj bd ((j.puts (es.take q)).put (some d)) w2→BS w G F bj bd ((j.puts (es.take q)).put (some d)) w2) (fun w2 h2=>by
       have h2':=h2.from_ bL;obtain⟨G2,F2,hi2,hG2,hF2,hk2⟩:=h2';have hsz:=zZ.o.size;refine⟨G2,F2,hi2,fun b hb=>?_,fun b hb=>?_,zZ.o.trans hk2 (fun b hb hg=>?_)⟩
       ·rcases hG2 b hb with h|h;·exact EY.o b h
        ·right;omega
       ·rcases hF2 b hb with h|h;·exact pO.o b h
        ·right;omega
       ·rcases hg with h|h
        ·rcases EY.o b h with h|h;·exact .inl h
         ·omega
        ·rcases pO.o b h with h|h;·exact .inr h
         ·omega);clear hk1 bL hmd hlen;go_wp2_with fail;with_reducible refine OB.o.mono ?_
      rintro r w2⟨rfl,hd2⟩;have HD2:=qH (X4.o w2 hd2);clear hd2 OB X4 e0 e1 e2 e3 e4 e5 e6 e7;by_cases hE:(j.puts (es.take q)).jE (some d)=0
      ·have lX:=qS (Hy w G F bj bd j es (.int .i64 ((q+1:Nat):Int)) w2) (by have:=Jl.JV j (es.take q) d HZ.o;rw[←df.o]at this;exact⟨q+1,rfl,by omega,this.2.trans hE,by rw[this.1];exact HD2.o⟩);rw[hE];clear hE;go_wp2;go_roundw;case rel=>exact lX.o
       case measure=>simp[intOf];omega
      ·have HR:=qS (sH w G F bj bd (j.app es) (j.tX es) (j.tY es) (.returned (.tuple #[.int .i64 j.es.length,.int .i64 ((j.puts (es.take q)).jE (some d))])) w2) (by have:=Jl.JU j (es.take q) (es.drop (q+1)) d HZ.o hE;rw[←HDR.o]at this;unfold Jl.app Jl.tX Jl.tY;simp only[H0.o,ne_eq,not_true_eq_false,if_false,Rq.o,if_true];rw[this.1,this.2];exact⟨rfl,HD2.o⟩);generalize(j.puts (es.take q)).jE (some d)=er at*;go_wp2;go_ret2;exact HR.o
     ·have hqe:q=n:=by omega
      have t3: ¬(q:Int)<n:=by omega
      have HR:=qS (sH w G F bj bd (j.app es) (j.tX es) (j.tY es) (.returned (.tuple #[.int .i64 j.es.length,.int .i64 0])) wr) (by have hz:=HZ.o;have hi:=HI1.o;rw[List.take_of_length_le (by rw[HL.o];omega)]at hz hi;unfold Jl.app Jl.tX Jl.tY;simp only[H0.o,ne_eq,not_true_eq_false,if_false,Rq.o,if_true];rw[hz];exact⟨rfl,G1,F1,hi,EY.o,pO.o,zZ.o⟩);clear hk1;go_wp2;go_ret2;exact HR.o
 ·have HR2:=qS (∀q,sH w G F bj bd (j.app es) (j.tX es) (j.tY es) (.returned (.tuple #[.int .i64 0,.int .i64 j.stuck])) (w.drewN q)) (fun q=>by unfold Jl.app Jl.tX Jl.tY;rw[if_pos h0,if_pos h0,if_pos h0];exact⟨rfl,(BS.refl (HI.o.up (below_drewN (Below.refl _ _) q))).from_ (below_drewN (Below.refl _ _) q)⟩);generalize j.stuck=er at*;go_enter Tryz.func19,Tryz.ntmps19;go_wp2;go_quiet(fail);go_wp2;go_ret2;exact HR2.o _
end Go.Proofs.YtladegonienapaaGreatDoor
