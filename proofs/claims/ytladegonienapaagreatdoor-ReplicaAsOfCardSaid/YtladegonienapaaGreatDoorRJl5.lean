/-
  Layer 5: Append, Len.
-/
import Derived.Test.YtladegonienapaaGreatDoorRJl3
set_option maxRecDepth 100000
set_option maxHeartbeats 16000000
namespace Go.Proofs.YtladegonienapaaGreatDoor
open Go.RowKit Go.Maps Go.Sort
theorem Jl.DC(j:Jl):j.sync.es=j.es∧j.sync.name=j.name∧j.sync.per=j.per∧j.sync.files=j.files:=by
 unfold Jl.sync;split;·exact⟨rfl,rfl,rfl,rfl⟩
 ·split<;>exact⟨rfl,rfl,rfl,rfl⟩
theorem Jl.kL(j:Jl):j.pre.es=j.es∧j.pre.name=j.name∧j.pre.per=j.per∧j.pre.files=j.files:=by
 unfold Jl.pre;split;·exact j.DC
 ·exact⟨rfl,rfl,rfl,rfl⟩
section
variable{w w1 w':World}{G F:Nat→Prop}{bj bd:Nat}{v:Value}{j:Jl}
theorem xP.from_(hb:Below w.heap.size w w1)(h:xP w1 G F bj bd j w'):xP w G F bj bd j w':=by obtain⟨G1,F1,hi,hG,hF,hk⟩:=h;have hs:=hb.size;exact⟨G1,F1,hi,fun b hb=>(hG b hb).imp id (fun h=>by omega),fun b hb=>(hF b hb).imp id (fun h=>by omega),(ai.of_below hb).trans hk (fun _ _ h=>h)⟩
end
theorem fO.grow{w w9:World}{G F:Nat→Prop}{bj bd:Nat}{v v9:Value}{j:Jl}{x:Option Ev}(h:fO w G F bj bd v j)(o:Obj)(hg:(w.alloc o).grownBy w9 v.ownBlock)(ho:xx w9 0 v9 (j.es++[x]))(hv:v9.ownBlock=v.ownBlock∨v9.ownBlock=some (w.heap.size+1)):w9.cell? ⟨bj,4,none⟩=some v∧w9.frozen? ⟨bj,4,none⟩=false∧fO (w9.setCell ⟨bj,4,none⟩ v9) G (fun b=>F b∨v9.ownBlock=some b) bj bd v9 {j with es:=j.es++[x]}∧(∀b,v9.ownBlock=some b→F b∨w.heap.size≤b)∧ai F w (w9.setCell ⟨bj,4,none⟩ v9):=by
 have hs:w.heap.size+1≤w9.heap.size:=by have:=hg.size;simpa using this
 have k9: ∀b,b<w.heap.size→v.ownBlock≠some b→w9.heap[b]?=w.heap[b]?:=fun b hb hn=>(hg.block b (by simp;omega) (fun e=>hn e.symm)).trans (heap_alloc_old _ _ hb);have hbj:=h.lt _ h.fj;have hb9:w9.heap[bj]?=some (sD bd v j):=(k9 bj hbj (fun e=>(h.fv _ e).2 rfl)).trans h.blk;have ks: ∀b,b≠bj→(w9.setCell ⟨bj,4,none⟩ v9).heap[b]?=w9.heap[b]?:=fun b hb=>Below.heap_setCell _ _ _ _ hb;have Qz: ∀b,v9.ownBlock=some b→b≠bj:=fun b hb e=>by
  rcases hv with h'|h';·exact(h.fv b (h'▸hb)).2 e
  ·rw[h']at hb;injection hb with hb;omega
 have QB: ∀b,v9.ownBlock=some b→F b∨w.heap.size≤b:=fun b hb=>by
  rcases hv with h'|h';·exact .inl (h.fv b (h'▸hb)).1
  ·rw[h']at hb;injection hb with hb;right;omega
 refine⟨(cell_of_row w9 bj 4 _ _ (0,0) hb9).trans rfl,frozen_of_row w9 bj 4 _ _ hb9,⟨?_,?_,ho.bF fun b hb=>ks b (Qz b hb),.inl h.fj,fun b hb=>⟨.inr hb,Qz b hb⟩,?_,?_⟩,QB,?_⟩;·refine h.dk.keep (by simp[World.setCell];omega) fun b hb=>?_;have hlt:=h.dk.lt b hb;exact(ks b (fun e=>h.ng (e▸hb))).trans (k9 b hlt (fun e=>h.ap b (h.fv b e).1 hb))
 ·rw[af hb9];rfl
 ·rintro b(hb|hb)hg';·exact h.ap b hb hg'
  ·rcases QB b hb with h'|h';·exact h.ap b h' hg'
   ·have:=h.dk.lt b hg';omega
 ·rintro b(hb|hb);·have:=h.lt b hb;simp[World.setCell];omega
  ·have:=(World.ownsRow.lt ho b hb).2;simpa[World.setCell]using this
 ·exact(((ai.refl F w).alloc o).trans (ai.dW (F:=fun b=>v.ownBlock=some b) hg (fun k e=>e)) (fun b _ e=>(h.fv b e).1)).setCell (p:=⟨bj,4,none⟩) (fun _=>h.fj) _
structure uI(G F:Nat→Prop)(bj bd be:Nat)(v:Value)(j:Jl)(x:Option Ev)(W:World):Prop where
 jl:fO W G F bj bd v j
 RQ:lJ W be x
 lt:be<W.heap.size
 mx:aM W
theorem uI.up{G F:Nat→Prop}{bj bd be:Nat}{v:Value}{j:Jl}{x:Option Ev}{W W':World}(h:uI G F bj bd be v j x W)(hb:Below W.heap.size W W'):uI G F bj bd be v j x W':=⟨h.jl.up hb,h.RQ.bF (hb.block be h.lt),Nat.lt_of_lt_of_le h.lt hb.size,h.mx.up hb⟩
abbrev Fa(be:Nat)(x:Option Ev)(W:World):Prop:=W.cell? ⟨be,0,none⟩=some (.string ⟨(bK x).src.toArray⟩)∧W.cell? ⟨be,1,none⟩=some (.int .i64 (bK x).num)∧W.cell? ⟨be,2,none⟩=some (.int .i64 (bK x).at_)∧W.cell? ⟨be,3,none⟩=some (.int .i64 (bK x).kind)∧W.cell? ⟨be,4,none⟩=some (.string ⟨(bK x).per.toArray⟩)∧W.cell? ⟨be,5,none⟩=some (.string ⟨(bK x).item.toArray⟩)∧W.cell? ⟨be,6,none⟩=some (.int .i64 (bK x).val)∧W.cell? ⟨be,7,none⟩=some (.string ⟨(bK x).text.toArray⟩)∧W.cell? ⟨be,8,none⟩=some (.bool x.isNone)
def O9(w:World)(G F F2:Nat→Prop)(bj bd:Nat)(v:Value)(j:Jl)(x:Option Ev)(w7:World):Prop:= ∃G7,fO w7 G7 F2 bj bd v j∧lJ w7 w.heap.size x∧w.heap.size<w7.heap.size∧(∀b,G7 b→G b∨w.heap.size≤b)∧ai (fun b=>G b∨F b) w w7∧ ¬(G7 w.heap.size∨F2 w.heap.size)
def RZ(w:World)(G F:Nat→Prop)(bj bd:Nat)(j:Jl)(x:Option Ev)(w2:World):Prop:= ∃G2 F2 v2,uI G2 F2 bj bd w.heap.size v2 j.pre x w2∧j.pre.Ok∧(∀b,G2 b→G b∨w.heap.size≤b)∧(∀b,F2 b→F b∨w.heap.size≤b)∧ai (fun b=>G b∨F b) w w2∧ ¬(G2 w.heap.size∨F2 w.heap.size)
theorem Eg(w:World)(G F:Nat→Prop)(bj bd:Nat)(j:Jl)(h:fo w G F bj bd j)(x:Option Ev)(hx: ∀e,x=some e→aB e=true)(hn:j.es.length<99)(hmx:aM w)(hbl: ¬G 0∧ ¬F 0):Calls Tryz.prog 44 #[.pointer (some ⟨bj,0,none⟩),wY x] w (lG w G F bj bd (j.put x) (j.iO x)):=by
 have hb0:Below w.heap.size w (w.alloc (bT x)):=(Below.refl _ _).alloc (Nat.le_refl _) _;have HX:=qH hx;have HB0:=qH hb0;have dO:=qH hmx;have xJ:=qH hbl;have HI1:=qH (h.up hb0);have uM:=qH (lJ.new w x);have hbe:w.heap.size<(w.alloc (bT x)).heap.size:=by simp
 have hlt:=h.lt;have Lp:=qS (∀b,G b∨F b→b<w.heap.size) (hlt);clear hx hb0 hmx hbl hlt;obtain⟨ho,v,hj⟩:=HI1.o;obtain⟨c0,c1,c2,c3,c4,c5,c6⟩:=hj.cells;obtain⟨A,cp,hv⟩:=ownsRow_form hj.own;rw[hv]at c4;have HO:=qH ho;have hp1:=ho.per1;have hp2:=ho.per2;have hfl:=ho.fl;have hnm:=ho.nm;obtain⟨n,hnn⟩: ∃n,j.es.length=n:=⟨_,rfl⟩;obtain⟨p,Gr⟩: ∃p,j.per=p:=⟨_,rfl⟩;rw[hnn]at c4 hn hfl;rw[Gr]at c2 hp1 hp2;have HN:=qH hnn;have HP:=qH Gr;have hmod:Int.tmod (n:Int) (p:Int)=((n%p:Nat):Int):=(Int.ofNat_tmod n p).symm;have hdiv:Int.tdiv (n:Int) (p:Int)=((n/p:Nat):Int):=(Int.ofNat_tdiv n p).symm;have hp0:((p:Int)==0)=false:=by simp;omega
 have hk:n/p<99:=Nat.lt_of_le_of_lt (Nat.div_le_self _ _) hn;have Vi:=qS (j.wG=(if n%p=0 then j.bu else 0)) (by unfold Jl.wG;rw[hnn,Gr]);have tX:=qS (j.pre=(if n%p=0 then j.sync else j)) (by unfold Jl.pre;rw[hnn,Gr]);clear hv hj ho hnn Gr c0 c1 c3 c5 c6 h;go_enter Tryz.func44,Tryz.ntmps44;go_upto_region 1 with fail;generalize w.alloc (bT x)=w1 at*;have IE:=qS (∀w2,xP w1 G F bj bd j.pre w2→RZ w G F bj bd j x w2) (fun w2 hd=>by
  obtain⟨G2,F2,⟨ho2,v2,hj2⟩,hG2,hF2,hk2⟩:=hd;have Mt: ¬(G w.heap.size∨F w.heap.size):=fun h=>by have:=Lp.o _ h;omega
  refine⟨G2,F2,v2,⟨hj2,uM.o.bF (hk2.block _ hbe Mt),Nat.lt_of_lt_of_le hbe hk2.size,?_⟩,ho2,fun b hb=>(hG2 b hb).imp id (fun h=>by have:=HB0.o.size;omega),fun b hb=>(hF2 b hb).imp id (fun h=>by have:=HB0.o.size;omega),(ai.of_below HB0.o).trans hk2 (fun _ _ h=>h),fun hg=>?_⟩;·obtain⟨m,hm⟩:=dO.o.up HB0.o;exact⟨m,(hk2.cell (p:=⟨0,0,none⟩) (dO.o.up HB0.o).lt (fun h=>h.elim xJ.o.1 xJ.o.2)).trans hm⟩
  ·rcases hg with hg|hg
   ·rcases hG2 _ hg with h|h;·exact Mt (.inl h)
    ·omega
   ·rcases hF2 _ hg with h|h;·exact Mt (.inr h)
    ·omega);have hdv:wrap64 ((n:Int)/(p:Int))=((n/p:Nat):Int):=by have e:((n:Int)/(p:Int))=((n/p:Nat):Int):=(Int.natCast_ediv n p).symm;rw[e];clear e hdiv;generalize n/p=q at*;unfold wrap64;omega
 by_cases hz:n%p=0;case' pos=>
  rw[hz]at hmod;go_wp2_with fail;with_reducible refine(AY w1 G F bj bd j HI1.o (by omega)).mono ?_
  rintro r w2⟨rfl,hd2⟩;have hpe:j.wG=j.bu:=by rw[Vi.o,if_pos hz]
  have hpr:j.pre=j.sync:=by rw[tX.o,if_pos hz]
  by_cases hE:j.bu=0;case' pos=>
   rw[←hpr]at hd2;have xH:=qH (IE.o w2 hd2);have d2:w2.cell? ⟨bj,2,none⟩=some (.int .i64 p):=by obtain⟨G2,F2,v2,hx2,_⟩:=xH.o;have:=hx2.jl.cells.2.2.1;rw[j.kL.2.2.1,HP.o]at this;exact this
   rw[hE]at hpe⊢;have HZ:=qH hpe;clear hd2 c2 c4 hmod hE hpr hpe IE;go_wp2_with fail;clear d2 HI1 uM hbe;rw[hdv]
  case neg=>
   have HR:=qS (lG w G F bj bd (j.put x) (j.iO x) (.returned (.int .i64 j.bu)) w2) (by
    have e1:j.put x=j.sync:=by unfold Jl.put;rw[if_pos (by rw[hpe];exact hE),hpr]
    have e2:j.iO x=j.bu:=by unfold Jl.iO;rw[if_pos (by rw[hpe];exact hE),hpe]
    rw[e1,e2];exact⟨rfl,hd2.from_ HB0.o⟩);clear hd2 c2 c4 hmod hpr hpe IE;generalize j.bu=er at*;go_wp2;go_ret;exact HR.o
 case' neg=>
  have t2:((n:Int)%(p:Int)==0)=false:=by rw[←Int.natCast_emod];simp;omega
  have xH:=qH (IE.o w1 (by rw[tX.o,if_neg hz];exact xP.refl HI1.o));have HZ:=qS (j.wG=0) (by rw[Vi.o,if_neg hz]);go_wp2_with fail;clear c2 c4 IE HI1 uM hbe;rw[hdv];generalize w1=w2 at*
 all_goals
  have hsg:j.gJ=bP j.name (n/p):=by unfold Jl.gJ;rw[HN.o,HP.o]
  have NN:=qH hsg;clear hsg hdv hdiv hp0;obtain⟨G2,F2,v2,hx2,ho2,hG2,hF2,hk2,hnb2⟩:=xH.o;have QP:=qH hx2;have dE:=qH ho2;have HG2:=qH hG2;have Ad:=qH hF2;have Dj:=qH hk2;have Kt:=qH hnb2;have hsl:=(nO j.name (show n/p<100 by omega)).2;have Iu:=qS ((bP j.name (n/p)).length≤1000000) (by omega);have tZ:=qS (∀W,uI G2 F2 bj bd w.heap.size v2 j.pre x W→Calls Tryz.prog 70 #[.pointer (some ⟨bj,0,none⟩),.int .i64 ((n/p:Nat):Int)] W (fun e w'=>e=.returned (.string ⟨(bP j.name (n/p)).toArray⟩)∧Below W.heap.size W w')) (fun W hW=>(su W bj j.name (by rw[←j.kL.2.1];exact hW.jl.cells.2.1) (by omega) _ (by omega)).mono fun e w'⟨h1,q,h2⟩=>⟨h1,h2▸below_drewN (Below.refl _ _) q⟩);have vW:=qS (∀W,uI G2 F2 bj bd w.heap.size v2 j.pre x W→Calls Tryz.prog 83 #[wY x] W (CY W (aW x))) (fun W hW=>Ed W x HX.o hW.mx);have Ps:=qS ((aW x).length≤1239) (by unfold aW;rw[jk.nP];cases x with|none=>simp[xe]|some e=>have:=(iD (HX.o e rfl)).len;simp only[xe];omega);have vZ:=qS (∀W A n' c,uI G2 F2 bj bd w.heap.size v2 j.pre x W→aL W w2.heap.size (.slice A n' c) (aW x)→Calls Tryz.prog 82 #[.pointer (some ⟨bd,0,none⟩),.string ⟨(bP j.name (n/p)).toArray⟩,.slice A n' c] W (j4 W G2 bd (j.pre.dk.append (bP j.name (n/p)) (aW x)) (j.pre.dk.bE (bP j.name (n/p)) (aW x)))) (fun W A n' c hW hO=>by have hby:=hO.J4;refine EE W G2 bd j.pre.dk hW.jl.dk _ Iu.o A n' c (aW x) hby (fun b off e hg=>?_) (by rw[←hby.len];have:=Ps.o;omega);subst e;have h1:=hO.lt b rfl;have h2:=QP.o.jl.dk.lt b hg;omega);have HQ:=qS (∀W,uI G2 F2 bj bd w.heap.size v2 j.pre x W→W.cell? ⟨bj,0,none⟩=some (.pointer (some ⟨bd,0,none⟩))∧Fa w.heap.size x W) (fun W hW=>⟨hW.jl.cells.1,hW.RQ⟩);have ma:=qS (∀W w7,uI G2 F2 bj bd w.heap.size v2 j.pre x W→Below w2.heap.size w2 W→IW W G2 bd (j.pre.dk.append (bP j.name (n/p)) (aW x)) w7→O9 w G F F2 bj bd v2 {j.pre with dk:=j.pre.dk.append (bP j.name (n/p)) (aW x)} x w7) (fun W w7 hW hb hd=>by
   obtain⟨G7,h7,QF,hk7⟩:=hW.jl.disk hd;have hs:=hb.size;have hs2:=Dj.o.size;have OP: ∀b,G7 b→G2 b∨w2.heap.size≤b:=fun b hb=>(QF b hb).imp id (fun h=>by omega);refine⟨G7,h7,hW.RQ.bF (hk7.block _ hW.lt (fun h=>Kt.o (.inl h))),Nat.lt_of_lt_of_le hW.lt hk7.size,fun b hb=>?_,(Dj.o.trans (ai.of_below (F:=fun _=>False) hb) (fun _ _ h=>h.elim)).trans hk7 (fun b hb hg=>?_),fun hg=>?_⟩
   ·rcases OP b hb with h|h;·exact HG2.o b h
    ·right;omega
   ·rcases HG2.o b hg with h|h;·exact .inl h
    ·omega
   ·rcases hg with h|h
    ·rcases OP _ h with h|h;·exact Kt.o (.inl h)
     ·have:=QP.o.lt;omega
    ·exact Kt.o (.inr h));have Vh:=qS (∀w7,O9 w G F F2 bj bd v2 {j.pre with dk:=j.pre.dk.append (bP j.name (n/p)) (aW x)} x w7→w7.cell? ⟨bj,0,none⟩=some (.pointer (some ⟨bd,0,none⟩))∧Fa w.heap.size x w7) (fun w7 h=>by obtain⟨G7,h7,he,_⟩:=h;exact⟨h7.cells.1,he⟩);clear hx2 ho2 hG2 hF2 hk2 hnb2 xH;have BX:=qS (uI G2 F2 bj bd w.heap.size v2 j.pre x w2.drew) (QP.o.up (below_drewN (Below.refl _ _) 1));have l5:=qS (Below w2.heap.size w2 w2.drew) (below_drewN (Below.refl _ _) 1);have hS:=HQ.o _ BX.o;generalize hkk:((n/p:Nat):Int)=kk at*;go_region_held3(fun W=>W.cell? ⟨bj,0,none⟩=some (.pointer (some ⟨bd,0,none⟩))∧Fa w.heap.size x W)(first|assumption|go_keep)(first|(go_at_call 70;(with_reducible refine(tZ.o _ BX.o).mono ?_);rintro r9 w5⟨rfl,hb5⟩;(try have Kq:=qH (PO.o.up hb5));have M3:=qH (BX.o.up hb5);have jJ:=qH (l5.o.trans (hb5.mono l5.o.size));clear hb5;clear BX l5;have BX:=M3;have l5:=jJ;clear M3 jJ;(try clear hS);have hS:=HQ.o _ BX.o)|(go_at_call 83;(with_reducible refine(vW.o _ BX.o).mono ?_);rintro r9 w6⟨v6,rfl,ho6,hb6⟩;obtain⟨A6,c6,hv6⟩:=ho6.form;subst hv6;have PO:=qH (ho6.dR l5.o.size);have M3:=qH (BX.o.up hb6);have jJ:=qH (l5.o.trans (hb6.mono l5.o.size));clear BX l5;have BX:=M3;have l5:=jJ;clear M3 jJ;(try clear hS);have hS:=HQ.o _ BX.o;clear ho6 hb6)|(go_at_call 82;(first|with_reducible refine(vZ.o _ _ _ _ BX.o Kq.o).mono ?_|with_reducible refine(vZ.o _ _ _ _ BX.o PO.o).mono ?_);rintro r9 w7⟨rfl,hd7⟩;have SC:=qH (ma.o _ _ BX.o l5.o hd7);(try clear hS);have hS:=Vh.o _ SC.o;clear hd7));all_goals
   have V7:=SC.o;clear hS BX l5 tZ vW vZ HQ ma Vh SC QP Dj HG2 Kt Iu Ps hsl hfl hnm hk;have hpe:j.iO x=j.pre.dk.bE (bP j.name (n/p)) (aW x):=by unfold Jl.iO;rw[if_neg (by simp[HZ.o]),NN.o]
   have PI:=qH hpe;have Uc:j.put x=(if j.pre.dk.bE (bP j.name (n/p)) (aW x)≠0 then{j.pre with dk:=j.pre.dk.append (bP j.name (n/p)) (aW x),stuck:=j.pre.dk.bE (bP j.name (n/p)) (aW x)}else{j.pre with dk:=j.pre.dk.append (bP j.name (n/p)) (aW x),files:=n/p+1,es:=j.es++[x]}):=by unfold Jl.put;rw[if_neg (by simp[HZ.o]),NN.o,HN.o,HP.o]
   have gQ:=qH Uc;obtain⟨G7,h7,he7,hlt7,QF,hk7,hnb7⟩:=V7;have H7:=qH h7;have VG:=qH he7;have VA:=qH QF;have QU:=qH hk7;have PT:=qH hnb7;obtain⟨d0,d1,d2,d3,d4,d5,d6⟩:=h7.cells;have RX:=h7.frozen 3;have O4:=h7.frozen 6;clear hpe Uc h7 QF hk7 hnb7;by_cases hE:j.pre.dk.bE (bP j.name (n/p)) (aW x)=0
   ·rw[hE];clear d0 d1 d2 d4 d5 d6 O4;have hne:w.heap.size≠bj:=fun e=>PT.o (.inr (by rw[e];exact H7.o.fj));have h8:=H7.o.DF (o:=3) (u:=.int .i64 (kk+1)) (j':={j.pre with dk:=j.pre.dk.append (bP j.name (n/p)) (aW x),files:=n/p+1}) rfl rfl (by rw[af H7.o.blk,←hkk];rfl);have he8:lJ (w7.setCell ⟨bj,3,none⟩ (.int .i64 (kk+1))) w.heap.size x:=he7.bF (Below.heap_setCell _ _ _ _ hne);have XH:=qH (QU.o.setCell (p:=⟨bj,3,none⟩) (fun hb=>by
     rcases Ad.o bj H7.o.fj with h|h;·exact .inr h
     ·have:bj<w.heap.size:=hb;omega) (.int .i64 (kk+1)));have hlt8:w.heap.size<(w7.setCell ⟨bj,3,none⟩ (.int .i64 (kk+1))).heap.size:=by simpa[World.setCell]using hlt7
    have Ky:=qH hlt8;have H8:=qH h8;have Nl:=qH he8;clear h8 he8 he7 hlt7 hlt8 hne;have Wj:wrap64 (kk+1)=kk+1:=by rw[←hkk];have:n/p≤n:=Nat.div_le_self _ _;generalize n/p=q at*;unfold wrap64;omega
    go_upto_region 11 with fail;clear d3 RX Wj;generalize w7.setCell ⟨bj,3,none⟩ (.int .i64 (kk+1))=w8 at*;have hes:j.pre.es=j.es:=j.kL.1;have EY:=qS (∀v9 w9,xx w9 0 v9 (j.es++[x])→(w8.alloc (bT x)).drew.grownBy w9 v2.ownBlock→(v9.ownBlock=v2.ownBlock∨v9.ownBlock=some (w8.heap.size+1))→(w9.cell? ⟨bj,4,none⟩=some v2∧w9.frozen? ⟨bj,4,none⟩=false∧Fa w.heap.size x w9)∧lG w G F bj bd (j.put x) (j.iO x) (.returned (.int .i64 0)) (w9.setCell ⟨bj,4,none⟩ v9)) (fun v9 w9 ho9 hg9 hv9=>by
     obtain⟨f4,UJ,hj9,QB,hk9⟩:=(H8.o.up (w':=w8.drewN 1) (below_drewN (Below.refl _ _) 1)).grow (x:=x) (bT x) hg9 (by rw[show({j.pre with dk:=j.pre.dk.append (bP j.name (n/p)) (aW x),files:=n/p+1}:Jl).es=j.es from hes];exact ho9) hv9;refine⟨⟨f4,UJ,?_⟩,?_⟩;·have hv2:v2.ownBlock≠some w.heap.size:=fun e=>PT.o (.inr (H8.o.fv _ e).1);exact Nl.o.bF ((hg9.block w.heap.size (by have:=Ky.o;simp;exact Nat.lt_succ_of_lt this) (fun e=>hv2 e.symm)).trans (heap_alloc_old _ _ Ky.o))
     ·rw[PI.o,gQ.o,hE,if_neg (by simp)];have hs8:w.heap.size≤w8.heap.size:=Nat.le_of_lt Ky.o;refine⟨rfl,G7,(fun b=>F2 b∨v9.ownBlock=some b),⟨?_,v9,?_⟩,VA.o,fun b hb=>?_,?_⟩
      ·refine⟨dE.o.per1,dE.o.per2,dE.o.nm,?_,?_,?_,?_⟩;·show(j.es++[x]).length≤100000;have:=HN.o;simp;omega
       ·show n/p+1≤(j.es++[x]).length+1;have:=HN.o;have:=Nat.div_le_self n p;simp;omega
       ·show j.pre.lasts≤(j.es++[x]).length;have:=dE.o.KW;rw[hes]at this;simp;omega
       ·intro e he;rcases List.mem_append.1 (show some e∈j.es++[x]from he)with h|h;·exact dE.o.may e (by rw[hes];exact h)
        ·simp at h;exact HX.o e h.symm
      ·rw[hes]at hj9;exact hj9
      ·rcases hb with h|h;·exact Ad.o b h
       ·rcases QB b h with h'|h';·exact Ad.o b h'
        ·right;exact Nat.le_trans hs8 h'
      ·refine XH.o.trans (G:=F2) ⟨hk9.os,hk9.tape,hk9.output,hk9.size,hk9.block⟩ (fun b hb h=>?_);rcases Ad.o b h with h'|h';·exact .inr h'
       ·omega);obtain⟨i0,hi,hz0,hz1,hz2⟩:=info_parts GL;have HI:=qH hi;have HZ0:=qH hz0;have HZ1:=qH hz1;have HZ2:=qH hz2;have hov:xx w8 0 v2 j.es:=by have:=H8.o.own;rw[show({j.pre with dk:=j.pre.dk.append (bP j.name (n/p)) (aW x),files:=n/p+1}:Jl).es=j.es from hes]at this;exact this
    obtain⟨A2,c2,hv2⟩:=ownsRow_form hov;rw[HN.o]at hv2;have Lj:=qS ((w8.alloc (bT x)).drew.ownsRow 0 91 9 v2 n (aN j.es)) (by have:=World.ownsRow.alloc hov (bT x);rw[HN.o]at this;exact this);have X0:=qS (aI (w8.alloc (bT x)).drew (w8.heap.size+1) 9 (some ⟨w8.heap.size,0,none⟩) 1 1 (ny x)) (by have:=aI.new (size:=9) (n:=1) w8 #[.string ⟨(bK x).src.toArray⟩,.int .i64 (bK x).num,.int .i64 (bK x).at_,.int .i64 (bK x).kind,.string ⟨(bK x).per.toArray⟩,.string ⟨(bK x).item.toArray⟩,.int .i64 (bK x).val,.string ⟨(bK x).text.toArray⟩,.bool x.isNone] 91 (by unfold maxLen;omega) rfl;rw[wX];exact aI.drewN this 1);have Xq:=qS (∀v9 w9,World.ownsRow w9 0 91 9 v9 (n+1) (aN j.es++ny x)→xx w9 0 v9 (j.es++[x])) (fun v9 w9 h=>by unfold xx;rw[wV,List.length_append,HN.o];exact h);have e4:=H8.o.cells.2.2.2.2.1;have hS:Fa w.heap.size x w8.drew:=Nl.o;have Yh:Fa w.heap.size x (w8.alloc (bT x)).drew:=Nl.o.bF (heap_alloc_old _ _ Ky.o);have Ym:(w8.alloc (bT x)).drew.cell? ⟨bj,4,none⟩=some v2:=(World.cell?_alloc_lt w8 (bT x) ⟨bj,4,none⟩ (H8.o.lt _ H8.o.fj)).trans e4;have Yl:w8.drew.cell? ⟨bj,4,none⟩=some v2:=e4;subst hv2;clear hi hz0 hz1 hz2 hov hE;go_region_law((with_reducible refine FH rfl (.tmp 56) (.tmp 58) 86 rfl 91 i0 _ 9 104 Tryz.underlying86 HI.o HZ0.o HZ1.o HZ2.o rfl (by decide) 0 (.slice A2 n c2) n (aN j.es) rfl Lj.o (w8.heap.size+1) _ _ _ (ny x) rfl X0.o (GM x) (by unfold maxLen;omega) (by omega) (Nat.zero_le _) ?_);intro v9 w9 ho9 hg9 hv9;obtain⟨A9,c9,lW⟩:=ownsRow_form ho9;subst lW;obtain⟨⟨f4,UJ,Yi⟩,OI⟩:=EY.o _ w9 (Xq.o _ w9 ho9) hg9 (by simpa using hv9);have De:=qH OI;clear ho9 hg9 hv9 OI);all_goals go_wp2;go_ret;exact De.o
   ·have HR:=qS (lG w G F bj bd (j.put x) (j.iO x) (.returned (.int .i64 (j.pre.dk.bE (bP j.name (n/p)) (aW x)))) (w7.setCell ⟨bj,6,none⟩ (.int .i64 (j.pre.dk.bE (bP j.name (n/p)) (aW x))))) (by
     rw[PI.o,gQ.o,if_pos hE];refine⟨rfl,G7,F2,⟨?_,v2,H7.o.DF rfl rfl ?_⟩,VA.o,Ad.o,QU.o.setCell (p:=⟨bj,6,none⟩) (fun hb=>?_) _⟩;·exact⟨dE.o.per1,dE.o.per2,dE.o.nm,dE.o.num,dE.o.fl,dE.o.KW,dE.o.may⟩
     ·rw[af H7.o.blk];rfl
     ·rcases Ad.o bj H7.o.fj with h|h;·exact .inr h
      ·have:bj<w.heap.size:=hb;omega);clear d0 d1 d2 d3 d4 d5 RX;generalize j.pre.dk.bE (bP j.name (n/p)) (aW x)=er at*;go_wp2_with fail;with_reducible refine(sw w7 bj _ d6 O4 er).mono ?_
    rintro r w8⟨rfl,rfl⟩;go_wp2;go_ret;exact HR.o
def Jl.app(j:Jl)(es:List Ev):Jl:=if j.stuck≠0 then j else if es.all aB then j.puts es else j
def Jl.oH(j:Jl)(es:List Ev):Int:=if j.stuck≠0 then 0 else if es.all aB then j.es.length else 0
def Jl.oI(j:Jl)(es:List Ev):Int:=if j.stuck≠0 then j.stuck else if es.all aB then j.gy es else 1
theorem Jl.Jq(j:Jl)(x:Option Ev):(j.put x).es.length≤j.es.length+1:=by
 unfold Jl.put;split;·rw[j.kL.1];omega
 ·split;·show j.pre.es.length≤_;rw[j.kL.1];omega
  ·show(j.es++[x]).length≤_;simp
theorem Jl.yB: ∀(l:List Ev)(j:Jl),(j.puts l).es.length≤j.es.length+l.length
 |[],j=>by simp[Jl.puts]
 |e::l,j=>by
  have h1:=j.Jq (some e);unfold Jl.puts;split;·simp only[List.length_cons];omega
  ·have:=Jl.yB l (j.put (some e));simp only[List.length_cons];omega
theorem Jl.DY(j:Jl)(a b:List Ev)(e:Ev)(h:j.gy a=0)(h':(j.puts a).iO (some e)≠0):j.puts (a++e::b)=(j.puts a).put (some e)∧j.gy (a++e::b)=(j.puts a).iO (some e):=by have:=Jl.kK (e::b) a j h;rw[this.1,this.2];simp only[Jl.puts,Jl.gy,if_pos h'];exact⟨trivial,trivial⟩
theorem aI.nY{w w':World}{G:Nat→Prop}{A:Option Addr}{size n c:Nat}{xs:List Value}(h:aI w w.heap.size size A n c xs)(hA: ∀b off,A=some ⟨b,off,none⟩→ ¬G b)(hk:ai G w w'):aI w' w'.heap.size size A n c xs:=by refine⟨h.len,h.cap,h.max,fun hn=>?_⟩;obtain⟨b,off,e,hb,hc⟩:=h.cell hn;have:=hk.size;exact⟨b,off,e,by omega,fun i u hi=>(hk.cell (p:=⟨b,off+i,none⟩) hb (hA b off e)).trans (hc i u hi)⟩
def l6(w:World)(G F:Nat→Prop)(bj bd:Nat)(j':Jl)(n er:Int)(e:Ending)(w':World):Prop:=e=.returned (.tuple #[.int .i64 n,.int .i64 er])∧xP w G F bj bd j' w'
theorem fo.cells{w:World}{G F:Nat→Prop}{bj bd:Nat}{j:Jl}(h:fo w G F bj bd j):w.cell? ⟨bj,5,none⟩=some (.int .i64 j.lasts)∧w.cell? ⟨bj,6,none⟩=some (.int .i64 j.stuck)∧ ∃A c,w.cell? ⟨bj,4,none⟩=some (.slice A j.es.length c):=by obtain⟨ho,v,h⟩:=h;obtain⟨A,c,hv⟩:=ownsRow_form h.own;have:=h.cells;exact⟨this.2.2.2.2.2.1,this.2.2.2.2.2.2,A,c,by rw[←hv];exact this.2.2.2.2.1⟩
theorem pG(w:World)(G F:Nat→Prop)(bj bd:Nat)(j:Jl)(h:fo w G F bj bd j):Calls Tryz.prog 37 #[.pointer (some ⟨bj,0,none⟩)] w fun e w'=>e=.returned (.int .i64 j.es.length)∧w=w':=by obtain⟨_,_,A,c,c4⟩:=h.cells;clear h;go_enter Tryz.func37,Tryz.ntmps37;go_wp2;go_ret;exact⟨rfl,rfl⟩
def ND(w:World)(es:List Ev)(i:Value)(wr:World):Prop:= ∃k:Nat,i=.int .i64 k∧k≤es.length∧(∀d∈es.take k,aB d=true)∧Below w.heap.size w wr
def Cj(w:World)(G F:Nat→Prop)(bj bd:Nat)(j:Jl)(es:List Ev)(i:Value)(wr:World):Prop:= ∃k:Nat,i=.int .i64 k∧k≤es.length∧j.gy (es.take k)=0∧xP w G F bj bd (j.puts (es.take k)) wr
theorem vF(w:World)(G F:Nat→Prop)(bj bd:Nat)(j:Jl)(h:fo w G F bj bd j)(A:Option Addr)(n c:Nat)(es:List Ev)(he:eD w w.heap.size A n c es)(hA: ∀b off,A=some ⟨b,off,none⟩→0<n→ ¬(G b∨F b))(hs: ∀e∈es,e.small)(hn:j.es.length+es.length≤99)(hmx:aM w)(hbl: ¬G 0∧ ¬F 0):Calls Tryz.prog 19 #[.pointer (some ⟨bj,0,none⟩),.slice A n c] w (l6 w G F bj bd (j.app es) (j.oH es) (j.oI es)):=by
 have HI:=qH h;have HE:=qH he;have HA:=qH hA;have HS:=qH hs;have dO:=qH hmx;have xJ:=qH hbl;have hl:=he.len;obtain⟨_,c6,A4,cp4,c4⟩:=h.cells;have HL:=qH hl;clear h he hA hs hmx hbl;by_cases h0:j.stuck=0
 ·rw[h0]at c6;have H0:=qH h0;rw[hl]at hn;clear h0 hl;go_enter Tryz.func19,Tryz.ntmps19;go_wp2;go_loopw[23](fun i wr=>ND w es i wr)(fun i _=>n-(intOf i).toNat);case atStart=>exact⟨0,rfl,Nat.zero_le _,fun d hd=>by simp at hd,Below.refl _ _⟩
  case round=>
   obtain⟨k,rfl,hk,Oe,hbel⟩:=hrel;have HY:=qH Oe;have HB:=qH hbel;clear Oe;have QC:k≤n:=by rw[←HL.o];exact hk
   by_cases hkn:k<n
   ·have hkl:k<es.length:=by rw[HL.o];exact hkn
    obtain⟨b,off,OZ,hb,hd⟩:=HE.o.ev k hkl;obtain⟨e0,e1,e2,e3,e4,e5,e6,e7⟩:=hd.below hbel hb;have HT:=qS (aB es[k]=true→ ∀d∈es.take (k+1),aB d=true) (fun h d hd=>by
     rw[List.take_add_one,List.getElem?_eq_getElem hkl,Option.toList_some]at hd;rcases List.mem_append.1 hd with hd|hd;·exact HY.o d hd
     ·simp at hd;subst hd;exact h);have HN:=qS (aB es[k]=false→es.all aB=false) (fun h=>List.all_eq_false.2 ⟨_,List.getElem_mem hkl,by simp[h]⟩);have xD:=qH (HS.o _ (List.getElem_mem hkl));generalize es[k]=d at*;subst OZ;have t1:(k:Int)<n:=by omega
    clear hbel hd hb;go_wp2_with fail;have bQ:Below w.heap.size w (wr.alloc (aj d)):=HB.o.alloc HB.o.size _;refine(nU (wr.alloc (aj d)) d xD.o (dO.o.up bQ)).mono ?_;rintro r w2⟨rfl,hb2⟩;have HB2:=qH (bQ.trans (hb2.mono bQ.size));clear hb2 bQ e0 e1 e2 e3 e4 e5 e6 e7;cases hm:aB d;·have HR:=qS (l6 w G F bj bd (j.app es) (j.oH es) (j.oI es) (.returned (.tuple #[.int .i64 0,.int .i64 1])) w2) (by have:=HN.o hm;unfold Jl.app Jl.oH Jl.oI;simp only[H0.o,ne_eq,not_true_eq_false,if_false,this];exact⟨rfl,(xP.refl (HI.o.up HB2.o)).from_ HB2.o⟩);clear hm;go_wp2;go_ret2;exact HR.o
    ·have Po:=qH (HT.o hm);clear hm;go_wp2;go_roundw;case rel=>exact⟨k+1,by go_num,by omega,Po.o,HB2.o⟩
     case measure=>simp[intOf];omega
   ·have t1: ¬(k:Int)<n:=by omega
    have hall:es.all aB=true:=by rw[List.all_eq_true];intro d hd;exact HY.o d (by rw[List.take_of_length_le (by rw[HL.o];omega)];exact hd)
    have Ce:=qH hall;have XL:=qH (HI.o.up hbel);have hc4:wr.cell? ⟨bj,4,none⟩=some (.slice A4 j.es.length cp4):=(hbel.cell (p:=⟨bj,4,none⟩) (World.block_lt_of_cell? w ⟨bj,4,none⟩ c4)).trans c4;have HST:=qS (Cj w G F bj bd j es (.int .i64 ((0:Nat):Int)) wr) (⟨0,rfl,Nat.zero_le _,rfl,(xP.refl XL.o).from_ hbel⟩);have hw1:wrap64 (1048576-(j.es.length:Int))=1048576-(j.es.length:Int):=by unfold wrap64;omega
    clear c4 c6 hall hbel;have t2: ¬(1048576-(j.es.length:Int))<n:=by omega
    go_wp2;go_loopw[43](fun i wr=>Cj w G F bj bd j es i wr)(fun i _=>n-(intOf i).toNat);case atStart=>exact HST.o
    case round=>
     obtain⟨q,rfl,hq,hz,hd⟩:=hrel;have HZ:=qH hz;have Ua:q≤n:=by rw[←HL.o];exact hq
     obtain⟨G1,F1,hi1,hG1,hF1,hk1⟩:=hd;have HI1:=qH hi1;have Ab:=qH hG1;have lI:=qH hF1;have EX:=qH hk1;clear hz hi1 hG1 hF1;by_cases Rf:q<n
     ·have hqk:q<es.length:=by rw[HL.o];exact Rf
      obtain⟨b,off,OZ,hb,hd⟩:=eD.ev (aI.nY HE.o (fun b off e=>HA.o b off e (by omega)) hk1) q hqk;obtain⟨e0,e1,e2,e3,e4,e5,e6,e7⟩:=hd;have fH:=qS (es.take (q+1)=es.take q++[es[q]]) (by rw[List.take_add_one,List.getElem?_eq_getElem hqk,Option.toList_some]);have HDR:=qS (es=es.take q++es[q]::es.drop (q+1)) (by rw[←List.drop_eq_getElem_cons hqk,List.take_append_drop]);have hmd:=HY.o es[q] (by rw[List.take_of_length_le (by rw[HL.o];omega)];exact List.getElem_mem hqk);have XA:=qH hmd;generalize es[q]=d at*;subst OZ;have t3:(q:Int)<n:=by omega
      have bQ:Below wr.heap.size wr (wr.alloc (aj d)):=(Below.refl _ _).alloc (Nat.le_refl _) _;have hlen:=Jl.yB (es.take q) j;have SB:=qH (Eg (wr.alloc (aj d)) G1 F1 bj bd (j.puts (es.take q)) (HI1.o.up bQ) (some d) (fun e h=>by injection h with h;exact h▸XA.o) (by rw[List.length_take]at hlen;omega) (by obtain⟨m,hm⟩:=dO.o;have h1:=(hk1.cell (p:=⟨0,0,none⟩) dO.o.lt (fun h=>h.elim xJ.o.1 xJ.o.2)).trans hm;exact aM.up ⟨m,h1⟩ bQ) ⟨fun h=>(Ab.o _ h).elim xJ.o.1 (fun h=>by have:=dO.o.lt;omega),fun h=>(lI.o _ h).elim xJ.o.2 (fun h=>by have:=dO.o.lt;omega)⟩);have X4:=qS (wY (some d)=.agg #[.string ⟨d.src.toArray⟩,.int .i64 d.num,.int .i64 d.at_,.int .i64 d.kind,.string ⟨d.per.toArray⟩,.string ⟨d.item.toArray⟩,.int .i64 d.val,.string ⟨d.text.toArray⟩,.bool false]) (rfl);rw[X4.o]at SB;have Ql:=qS (∀w2,xP (wr.alloc (aj d)) G1 F1 bj bd ((j.puts (es.take q)).put (some d)) w2→xP w G F bj bd ((j.puts (es.take q)).put (some d)) w2) (fun w2 h2=>by
       have h2':=h2.from_ bQ;obtain⟨G2,F2,hi2,hG2,hF2,hk2⟩:=h2';have hsz:=EX.o.size;refine⟨G2,F2,hi2,fun b hb=>?_,fun b hb=>?_,EX.o.trans hk2 (fun b hb hg=>?_)⟩
       ·rcases hG2 b hb with h|h;·exact Ab.o b h
        ·right;omega
       ·rcases hF2 b hb with h|h;·exact lI.o b h
        ·right;omega
       ·rcases hg with h|h
        ·rcases Ab.o b h with h|h;·exact .inl h
         ·omega
        ·rcases lI.o b h with h|h;·exact .inr h
         ·omega);clear hk1 bQ hmd hlen;go_wp2_with fail;with_reducible refine SB.o.mono ?_
      rintro r w2⟨rfl,hd2⟩;have HD2:=qH (Ql.o w2 hd2);clear hd2 SB Ql e0 e1 e2 e3 e4 e5 e6 e7;by_cases hE:(j.puts (es.take q)).iO (some d)=0
      ·have xE:=qS (Cj w G F bj bd j es (.int .i64 ((q+1:Nat):Int)) w2) (by have:=Jl.DZ j (es.take q) d HZ.o;rw[←fH.o]at this;exact⟨q+1,rfl,by omega,this.2.trans hE,by rw[this.1];exact HD2.o⟩);rw[hE];clear hE;go_wp2;go_roundw;case rel=>exact xE.o
       case measure=>simp[intOf];omega
      ·have HR:=qS (l6 w G F bj bd (j.app es) (j.oH es) (j.oI es) (.returned (.tuple #[.int .i64 j.es.length,.int .i64 ((j.puts (es.take q)).iO (some d))])) w2) (by have:=Jl.DY j (es.take q) (es.drop (q+1)) d HZ.o hE;rw[←HDR.o]at this;unfold Jl.app Jl.oH Jl.oI;simp only[H0.o,ne_eq,not_true_eq_false,if_false,Ce.o,if_true];rw[this.1,this.2];exact⟨rfl,HD2.o⟩);generalize(j.puts (es.take q)).iO (some d)=er at*;go_wp2;go_ret2;exact HR.o
     ·have hqe:q=n:=by omega
      have t3: ¬(q:Int)<n:=by omega
      have HR:=qS (l6 w G F bj bd (j.app es) (j.oH es) (j.oI es) (.returned (.tuple #[.int .i64 j.es.length,.int .i64 0])) wr) (by have hz:=HZ.o;have hi:=HI1.o;rw[List.take_of_length_le (by rw[HL.o];omega)]at hz hi;unfold Jl.app Jl.oH Jl.oI;simp only[H0.o,ne_eq,not_true_eq_false,if_false,Ce.o,if_true];rw[hz];exact⟨rfl,G1,F1,hi,Ab.o,lI.o,EX.o⟩);clear hk1;go_wp2;go_ret2;exact HR.o
 ·have HR2:=qS (∀q,l6 w G F bj bd (j.app es) (j.oH es) (j.oI es) (.returned (.tuple #[.int .i64 0,.int .i64 j.stuck])) (w.drewN q)) (fun q=>by unfold Jl.app Jl.oH Jl.oI;rw[if_pos h0,if_pos h0,if_pos h0];exact⟨rfl,(xP.refl (HI.o.up (below_drewN (Below.refl _ _) q))).from_ (below_drewN (Below.refl _ _) q)⟩);generalize j.stuck=er at*;go_enter Tryz.func19,Tryz.ntmps19;go_wp2;go_quiet(fail);go_wp2;go_ret2;exact HR2.o _
end Go.Proofs.YtladegonienapaaGreatDoor
