/-
  Layer 7: Put.
-/
import Derived.Test.YtbejfgmdkmddnaaGreatDoorVRTxt2
import Derived.Test.YtbejfgmdkmddnaaGreatDoorVIns
set_option maxRecDepth 100000
set_option maxHeartbeats 16000000
namespace Go.Proofs.YtbejfgmdkmddnaaGreatDoor
open Go.RowKit Go.Maps Go.Sort
def QC(w:World)(G:Nat→Prop)(bs bm:Nat)(m:eZ)(ok:Bool)(e:Ending)(w':World):Prop:= ∃G' V',e=.returned (.bool ok)∧cO w' G' bs bm m V'∧ak G w w'∧ ∀b,G' b→G b∨w.heap.size≤b
theorem cO.mid{w1 w2:World}{G:Nat→Prop}{bs bm:Nat}{m:eZ}{V:List UInt8→Value}(h:cO w1 G bs bm m V)(s:List UInt8)(v:Value)(hv0:bO m s=none→v=.slice none 0 0)(hv1: ∀rs,bO m s=some rs→v=V s)(hg:w1.grownBy w2 v.ownBlock):gH w2 bm (m.map fun p=>(p.1,V p.1))∧w2.cell? ⟨bs,0,none⟩=some (.map (some bm)):=by
 obtain⟨es,cl,hmap⟩:=h.map.isMap;have hrow: ∀b,v.ownBlock=some b→ ∃cs,w1.heap[b]?=some (.cells cs 173 (0,0)):=fun b hb=>by cases hgs:bO m s with|none=>rw[hv0 hgs]at hb;cases hb|some rs=>rw[hv1 rs hgs]at hb;exact(h.own _ (gP hgs)).typ hb
 refine⟨h.map.block (hg.block bm (h.lt _ h.gm) (fun e=>?_)),?_⟩;·obtain⟨cs,hc⟩:=hrow bm e.symm;rw[hmap]at hc;cases hc
 ·rw[World.cell?_of_block (w:=w1) (a:=⟨bs,0,none⟩) (hg.block bs (h.lt _ h.gs) (fun e=>?_))];·exact h.cell
  ·obtain⟨cs,hc⟩:=hrow bs e.symm;rw[h.blk]at hc;injection hc with hc;injection hc with _ ht;exact absurd ht (by decide)
theorem eY.form{w:World}{v:Value}{rs:Rg}(h:eY w v rs)(h0:0<rs.length): ∃g c cur,v=.slice (some ⟨g,0,none⟩) rs.length c∧w.heap[g]?=some (.cells cur 173 (0,0))∧rs.length≤c∧c≤maxLen∧cur.size=c*2∧cur.toList.take (rs.length*2)=rgCells rs:=by
 rcases h.2 with⟨_,h'⟩|⟨g,c,cur,e,_,r⟩;·omega
 ·exact⟨g,c,cur,e,r⟩
theorem Oi(w:World)(G:Nat→Prop)(bs bm:Nat)(m:eZ)(V:List UInt8→Value)(h:cO w G bs bm m V)(s:List UInt8)(n:Int)(hlen:(aM m s).length≤100000)(Kc:m.length<1000000)(hp:o9 m s n=true):Calls Tryz.prog 85 #[.pointer (some ⟨bs,0,none⟩),.string ⟨s.toArray⟩,.int .i64 n] w (QC w G bs bm (oC m s n) true):=by
 have hok:=h.ok.put hp;have hp':=hp;unfold o9 at hp';simp only[Bool.and_eq_true,decide_eq_true_eq,Bool.not_eq_true']at hp';obtain⟨⟨⟨p1,p2⟩,p3⟩,p4⟩:=hp';have hs24:s.length≤24:=by unfold ag at p1;simp at p1;omega
 have qU:=qH (h.ok.row s);have Zi:=qH p1;have HP4:=qH p4;have HH:=qH h;have TD:=qS (eD (aM m s) n=false) (p4);have zG:=qS (oC m s n=bL s (dB (aM m s) n) m) (rfl);have jU:=qH hok;clear hok hp p1 p4;go_enter Tryz.func85,Tryz.ntmps85;go_wp2_with fail;refine(jN w s).mono ?_;rintro e w0⟨rfl,rfl⟩;rw[Zi.o];have d1:decide (n<1)=false:=decide_eq_false (by omega);have d2:decide (1099511627776<n)=false:=decide_eq_false (by omega);go_wp2_with fail;refine(xC w G bs bm m V HH.o s (by omega) (by omega) n).mono ?_;rintro e w1⟨rfl,hb1⟩;rw[HP4.o];have UK:=qH (HH.o.up hb1);obtain⟨v,hl,hown,hv0,hv1⟩:=UK.o.look s (by omega);have hc1:=UK.o.cell;have zx:=qH hv0;have kC:=qH hv1;have zy:=qS (dB (aM m s) n=dB (aM m s) n) (rfl);generalize hrs:aM m s=rs at*;have Nc:=qH hrs;clear hrs hv0 hv1;obtain⟨A,c,rfl⟩:=ownsRow_form hown;have Ak:=qH hown;clear hown d1 d2;go_wp2_with fail;refine(Bc w1 _ rs Ak.o qU.o (by omega) n).mono ?_;rintro e w2⟨rfl,hb2⟩;have rW:=qH (UK.o.up hb2);have dW:=qH (Ak.o.up hb2);have hbw:Below w.heap.size w w2:=hb1.trans (hb2.mono hb1.size);have hsz:=hbw.size;clear hl hc1 hb1 hb2;have hpl:=Om rs n;by_cases hL:fJ rs n=0
 ·skip;by_cases hR:fJ rs n=rs.length
  ·skip;have mO:=qS (lT rs n=false) (by unfold lT;simp[hL]);have nI:=qS (kS rs n=false) (by unfold kS;simp[hR]);have lN:=qS (dB rs n=rs.take (fJ rs n)++[(n,n+1)]++rs.drop (fJ rs n)) (by unfold dB;rw[mO.o,nI.o];rfl);clear mO nI zy;generalize hpk:fJ rs n=k at*;clear hpk;have k1: ¬(0:Int)<k:=by omega
   have k3: ¬(k:Int)<rs.length:=by omega
   clear hL hR;go_wp2_with fail;have bJ:Below w2.heap.size w2 (w2.alloc (.cells #[.int .i64 n,.int .i64 (n+1)] 173)):=(Below.refl _ _).alloc (Nat.le_refl _) _;have hnew:(w2.alloc (.cells #[.int .i64 n,.int .i64 (n+1)] 173)).heap[w2.heap.size]?=some (.cells [Value.int .i64 n,Value.int .i64 (n+1)].toArray 173 (0,0)):=heap_alloc_new w2 _;have hszA:(w2.alloc (.cells #[.int .i64 n,.int .i64 (n+1)] 173)).heap.size=w2.heap.size+1:=by simp
   have hgA:w2.grownBy (w2.alloc (.cells #[.int .i64 n,.int .i64 (n+1)] 173)) (Value.slice A rs.length c).ownBlock:=World.grownBy_alloc w2 _ _;generalize(w2.alloc (.cells #[.int .i64 n,.int .i64 (n+1)] 173))=w3 at*;have hi:=tK w3 0 rs.length k w2.heap.size _ (rgCells rs) [.int .i64 n,.int .i64 (n+1)] (by omega) (by omega) (Nat.zero_le _) (dW.o.up bJ) rfl hnew (fun e=>by have:=(World.ownsRow.lt dW.o _ e).2;omega) (eB rs) (by intro u hu;simp at hu;rcases hu with rfl|rfl<;>rfl);refine hi.mono ?_;rintro e w4⟨v',rfl,ho4,hg4,hbl4⟩;have qM:=qH (hgA.andThen hg4 (fun j hj=>.inr hj));have j5:=qS (eY w4 v' (dB rs n)) (by
    have:=ho4;rw[iZ,ja,show[Value.int .i64 n,Value.int .i64 (n+1)]=rgCells [(n,n+1)]from rfl,←aV,←aV,←lN.o]at this;unfold eY;have hl5:(dB rs n).length=rs.length+1:=by rw[lN.o];simp;omega
    rw[hl5];exact this);have fM:=qS (v'.ownBlock=(Value.slice A rs.length c).ownBlock∨ ∃k,v'.ownBlock=some k∧w2.heap.size≤k) (hbl4.imp id (fun⟨k,h1,h2⟩=>⟨k,h1,by omega⟩));clear hi ho4 hg4 hbl4 bJ hnew hszA hgA;have hmid:=rW.o.mid s (.slice (A) rs.length c) zx.o kC.o qM.o;have Dh:=qH hmid.1;have hcm5:=hmid.2;clear hmid;go_wp2_with(at_mapUpdate;refine bD rfl (.tmp 110) (.tmp 111) (.tmp 112) 137 171 rfl Tryz.underlying137 bm (m.map fun p=>(p.1,V p.1)) rfl Dh.o (by unfold maxLen;simp;omega) s rfl (by unfold maxLen;omega) _ rfl ?_;intro w5 hm5 hg5);go_wp2;go_ret;have hst:=rW.o.stored s (.slice (A) rs.length c) _ (dB rs n) zx.o kC.o qM.o j5.o fM.o (fun e=>by
    have hne:=jJ rs qU.o TD.o;rcases j5.o.2 with⟨_,h0⟩|⟨g0,_,_,h0,_⟩;·exact hne (List.eq_nil_of_length_eq_zero h0)
    ·rw[h0]at e;cases e) hm5 hg5 (by have:=jU.o;rw[zG.o]at this;exact this);refine⟨_,_,rfl,by rw[zG.o];exact hst.1,(ak.of_below (F:=G) hbw).trans hst.2 (fun _ _ h=>h),fun b hb=>?_⟩;rcases hb with⟨hb,_⟩|⟨hb,_⟩;·exact .inl hb
   ·right;omega
  ·have hR:fJ rs n<rs.length:=by omega
   by_cases hy:(rs.getD (fJ rs n) (0,0)).1=n+1
   ·skip;have mO:=qS (lT rs n=false) (by unfold lT;simp[hL]);have nI:=qS (kS rs n=true) (by unfold kS;simp only[hy];simp[hR]);have lN:=qS (dB rs n=rs.set (fJ rs n) (n,(rs.getD (fJ rs n) (0,0)).2)) (by unfold dB;rw[mO.o,nI.o];rfl);clear mO nI zy;generalize hpk:fJ rs n=k at*;clear hpk;obtain⟨g,cc,cur,nH,hgc,hlc,hcm,hcs,htk⟩:=dW.o.form (by omega);obtain⟨rfl,rfl⟩:A=some ⟨g,0,none⟩∧c=cc:=by injection nH with e1 _ e3;exact⟨e1,e3⟩
    clear nH;have WE:=qH hgc;have oI:=qH hcs;have dx:=qH htk;clear hgc hcs htk;have k1: ¬(0:Int)<k:=by omega
    have yO:rs.getD k (0,0)=rs[k]:=by simp[List.getD,List.getElem?_eq_getElem hR]
    rw[yO]at hy;try rw[yO]at lN
    obtain⟨y0,y1,yf0,yf1⟩:=dW.o.cell k hR;have vU:=qH (fun t=>fE rs k hR t);have hea2:=qU.o.each rs[k] (List.getElem_mem hR);clear yO;generalize rs[k]=ry at*;obtain⟨ya,yb⟩:=ry;simp only at y0 y1 hy vU hea2 lN;have k3:(k:Int)<rs.length:=by omega
    have YK:(ya==n+1)=true:=by simpa using hy
    clear hy hL;have ow:=qH (World.ownsRow.stored dW.o (k*2) (.int .i64 (n)));have qM:=qH ow.o.2;have j5:=qS (eY (w2.setCell ⟨g,k*2,none⟩ (.int .i64 (n))) (.slice (some ⟨g,0,none⟩) rs.length c) (dB rs n)) (by have h1:=ow.o.1;rw[vU.o (n)]at h1;rw[lN.o];unfold eY;rw[List.length_set];exact h1);obtain⟨v',hv'⟩: ∃v',v'=Value.slice (some ⟨g,0,none⟩) rs.length c:=⟨_,rfl⟩;have HV':=qH hv';clear hv';have hmid:=rW.o.mid s (.slice (some ⟨g,0,none⟩) rs.length c) zx.o kC.o qM.o;have Dh:=qH hmid.1;have hcm5:=hmid.2;clear hmid;go_wp2_with(at_mapUpdate;refine bD rfl (.tmp 110) (.tmp 111) (.tmp 112) 137 171 rfl Tryz.underlying137 bm (m.map fun p=>(p.1,V p.1)) rfl Dh.o (by unfold maxLen;simp;omega) s rfl (by unfold maxLen;omega) _ rfl ?_;intro w5 hm5 hg5);go_wp2;go_ret;have hst:=rW.o.stored s (.slice (some ⟨g,0,none⟩) rs.length c) _ (dB rs n) zx.o kC.o qM.o j5.o (.inl rfl) (fun e=>by
     have hne:=jJ rs qU.o TD.o;rcases j5.o.2 with⟨_,h0⟩|⟨g0,_,_,h0,_⟩;·exact hne (List.eq_nil_of_length_eq_zero h0)
     ·rw[h0]at e;cases e) hm5 hg5 (by have:=jU.o;rw[zG.o]at this;exact this);refine⟨_,_,rfl,by rw[zG.o];exact hst.1,(ak.of_below (F:=G) hbw).trans hst.2 (fun _ _ h=>h),fun b hb=>?_⟩;rcases hb with⟨hb,_⟩|⟨hb,_⟩;·exact .inl hb
    ·right;omega
   ·skip;have mO:=qS (lT rs n=false) (by unfold lT;simp[hL]);have nI:=qS (kS rs n=false) (by unfold kS;simp;intro _;exact fun h=>hy (by simpa using h));have lN:=qS (dB rs n=rs.take (fJ rs n)++[(n,n+1)]++rs.drop (fJ rs n)) (by unfold dB;rw[mO.o,nI.o];rfl);clear mO nI zy;generalize hpk:fJ rs n=k at*;clear hpk;obtain⟨g,cc,cur,nH,hgc,hlc,hcm,hcs,htk⟩:=dW.o.form (by omega);obtain⟨rfl,rfl⟩:A=some ⟨g,0,none⟩∧c=cc:=by injection nH with e1 _ e3;exact⟨e1,e3⟩
    clear nH;have WE:=qH hgc;have oI:=qH hcs;have dx:=qH htk;clear hgc hcs htk;have k1: ¬(0:Int)<k:=by omega
    have yO:rs.getD k (0,0)=rs[k]:=by simp[List.getD,List.getElem?_eq_getElem hR]
    rw[yO]at hy;try rw[yO]at lN
    obtain⟨y0,y1,yf0,yf1⟩:=dW.o.cell k hR;have vU:=qH (fun t=>fE rs k hR t);have hea2:=qU.o.each rs[k] (List.getElem_mem hR);clear yO;generalize rs[k]=ry at*;obtain⟨ya,yb⟩:=ry;simp only at y0 y1 hy vU hea2 lN;have k3:(k:Int)<rs.length:=by omega
    have YK:(ya==n+1)=false:=by simpa using hy
    clear hy hL;go_wp2_with fail;have bJ:Below w2.heap.size w2 (w2.alloc (.cells #[.int .i64 n,.int .i64 (n+1)] 173)):=(Below.refl _ _).alloc (Nat.le_refl _) _;have hnew:(w2.alloc (.cells #[.int .i64 n,.int .i64 (n+1)] 173)).heap[w2.heap.size]?=some (.cells [Value.int .i64 n,Value.int .i64 (n+1)].toArray 173 (0,0)):=heap_alloc_new w2 _;have hszA:(w2.alloc (.cells #[.int .i64 n,.int .i64 (n+1)] 173)).heap.size=w2.heap.size+1:=by simp
    have hgA:w2.grownBy (w2.alloc (.cells #[.int .i64 n,.int .i64 (n+1)] 173)) (Value.slice (some ⟨g,0,none⟩) rs.length c).ownBlock:=World.grownBy_alloc w2 _ _;generalize(w2.alloc (.cells #[.int .i64 n,.int .i64 (n+1)] 173))=w3 at*;have hi:=tK w3 0 rs.length k w2.heap.size _ (rgCells rs) [.int .i64 n,.int .i64 (n+1)] (by omega) (by omega) (Nat.zero_le _) (dW.o.up bJ) rfl hnew (fun e=>by have:=(World.ownsRow.lt dW.o _ e).2;omega) (eB rs) (by intro u hu;simp at hu;rcases hu with rfl|rfl<;>rfl);refine hi.mono ?_;rintro e w4⟨v',rfl,ho4,hg4,hbl4⟩;have qM:=qH (hgA.andThen hg4 (fun j hj=>.inr hj));have j5:=qS (eY w4 v' (dB rs n)) (by
     have:=ho4;rw[iZ,ja,show[Value.int .i64 n,Value.int .i64 (n+1)]=rgCells [(n,n+1)]from rfl,←aV,←aV,←lN.o]at this;unfold eY;have hl5:(dB rs n).length=rs.length+1:=by rw[lN.o];simp;omega
     rw[hl5];exact this);have fM:=qS (v'.ownBlock=(Value.slice (some ⟨g,0,none⟩) rs.length c).ownBlock∨ ∃k,v'.ownBlock=some k∧w2.heap.size≤k) (hbl4.imp id (fun⟨k,h1,h2⟩=>⟨k,h1,by omega⟩));clear hi ho4 hg4 hbl4 bJ hnew hszA hgA;clear y0 y1 yf0 yf1;have hmid:=rW.o.mid s (.slice (some ⟨g,0,none⟩) rs.length c) zx.o kC.o qM.o;have Dh:=qH hmid.1;have hcm5:=hmid.2;clear hmid;go_wp2_with(at_mapUpdate;refine bD rfl (.tmp 110) (.tmp 111) (.tmp 112) 137 171 rfl Tryz.underlying137 bm (m.map fun p=>(p.1,V p.1)) rfl Dh.o (by unfold maxLen;simp;omega) s rfl (by unfold maxLen;omega) _ rfl ?_;intro w5 hm5 hg5);go_wp2;go_ret;have hst:=rW.o.stored s (.slice (some ⟨g,0,none⟩) rs.length c) _ (dB rs n) zx.o kC.o qM.o j5.o fM.o (fun e=>by
     have hne:=jJ rs qU.o TD.o;rcases j5.o.2 with⟨_,h0⟩|⟨g0,_,_,h0,_⟩;·exact hne (List.eq_nil_of_length_eq_zero h0)
     ·rw[h0]at e;cases e) hm5 hg5 (by have:=jU.o;rw[zG.o]at this;exact this);refine⟨_,_,rfl,by rw[zG.o];exact hst.1,(ak.of_below (F:=G) hbw).trans hst.2 (fun _ _ h=>h),fun b hb=>?_⟩;rcases hb with⟨hb,_⟩|⟨hb,_⟩;·exact .inl hb
    ·right;omega
 ·have hL:0<fJ rs n:=by omega
  by_cases hx:(rs.getD (fJ rs n-1) (0,0)).2=n
  ·skip;by_cases hR:fJ rs n=rs.length
   ·skip;have mO:=qS (lT rs n=true) (by unfold lT;simp only[hx];simp[hL]);have nI:=qS (kS rs n=false) (by unfold kS;simp[hR]);have lN:=qS (dB rs n=rs.set (fJ rs n-1) ((rs.getD (fJ rs n-1) (0,0)).1,n+1)) (by unfold dB;rw[mO.o,nI.o];rfl);clear mO nI zy;generalize hpk:fJ rs n=k at*;clear hpk;obtain⟨g,cc,cur,nH,hgc,hlc,hcm,hcs,htk⟩:=dW.o.form (by omega);obtain⟨rfl,rfl⟩:A=some ⟨g,0,none⟩∧c=cc:=by injection nH with e1 _ e3;exact⟨e1,e3⟩
    clear nH;have WE:=qH hgc;have oI:=qH hcs;have dx:=qH htk;clear hgc hcs htk;have hk1:k-1<rs.length:=by omega
    have hgx:rs.getD (k-1) (0,0)=rs[k-1]:=by simp[List.getD,List.getElem?_eq_getElem hk1]
    rw[hgx]at hx;try rw[hgx]at lN
    obtain⟨x0,x1,xf0,xf1⟩:=dW.o.cell (k-1) hk1;have mE:=qH (fun t=>dZ rs (k-1) hk1 t);have hea1:=qU.o.each rs[k-1] (List.getElem_mem hk1);clear hgx;generalize rs[k-1]=rx at*;obtain⟨xa,xb⟩:=rx;simp only at x0 x1 hx mE hea1 lN;have ek:(k:Int)-1=((k-1:Nat):Int):=by omega
    have k1:(0:Int)<k:=by omega
    have k2:((k-1:Nat):Int)<rs.length:=by omega
    have bx:(xb==n)=true:=by simpa using hx
    have k3: ¬(k:Int)<rs.length:=by omega
    clear hx hR;have ow:=qH (World.ownsRow.stored dW.o ((k-1)*2+1) (.int .i64 (n+1)));have qM:=qH ow.o.2;have j5:=qS (eY (w2.setCell ⟨g,(k-1)*2+1,none⟩ (.int .i64 (n+1))) (.slice (some ⟨g,0,none⟩) rs.length c) (dB rs n)) (by have h1:=ow.o.1;rw[mE.o (n+1)]at h1;rw[lN.o];unfold eY;rw[List.length_set];exact h1);obtain⟨v',hv'⟩: ∃v',v'=Value.slice (some ⟨g,0,none⟩) rs.length c:=⟨_,rfl⟩;have HV':=qH hv';clear hv';have hmid:=rW.o.mid s (.slice (some ⟨g,0,none⟩) rs.length c) zx.o kC.o qM.o;have Dh:=qH hmid.1;have hcm5:=hmid.2;clear hmid;go_wp2_with(at_mapUpdate;refine bD rfl (.tmp 110) (.tmp 111) (.tmp 112) 137 171 rfl Tryz.underlying137 bm (m.map fun p=>(p.1,V p.1)) rfl Dh.o (by unfold maxLen;simp;omega) s rfl (by unfold maxLen;omega) _ rfl ?_;intro w5 hm5 hg5);go_wp2;go_ret;have hst:=rW.o.stored s (.slice (some ⟨g,0,none⟩) rs.length c) _ (dB rs n) zx.o kC.o qM.o j5.o (.inl rfl) (fun e=>by
     have hne:=jJ rs qU.o TD.o;rcases j5.o.2 with⟨_,h0⟩|⟨g0,_,_,h0,_⟩;·exact hne (List.eq_nil_of_length_eq_zero h0)
     ·rw[h0]at e;cases e) hm5 hg5 (by have:=jU.o;rw[zG.o]at this;exact this);refine⟨_,_,rfl,by rw[zG.o];exact hst.1,(ak.of_below (F:=G) hbw).trans hst.2 (fun _ _ h=>h),fun b hb=>?_⟩;rcases hb with⟨hb,_⟩|⟨hb,_⟩;·exact .inl hb
    ·right;omega
   ·have hR:fJ rs n<rs.length:=by omega
    by_cases hy:(rs.getD (fJ rs n) (0,0)).1=n+1
    ·skip;have mO:=qS (lT rs n=true) (by unfold lT;simp only[hx];simp[hL]);have nI:=qS (kS rs n=true) (by unfold kS;simp only[hy];simp[hR]);have lN:=qS (dB rs n=(rs.set (fJ rs n-1) ((rs.getD (fJ rs n-1) (0,0)).1,(rs.getD (fJ rs n) (0,0)).2)).take (fJ rs n)++(rs.set (fJ rs n-1) ((rs.getD (fJ rs n-1) (0,0)).1,(rs.getD (fJ rs n) (0,0)).2)).drop (fJ rs n+1)) (by unfold dB;rw[mO.o,nI.o];rfl);clear mO nI zy;generalize hpk:fJ rs n=k at*;clear hpk;obtain⟨g,cc,cur,nH,hgc,hlc,hcm,hcs,htk⟩:=dW.o.form (by omega);obtain⟨rfl,rfl⟩:A=some ⟨g,0,none⟩∧c=cc:=by injection nH with e1 _ e3;exact⟨e1,e3⟩
     clear nH;have WE:=qH hgc;have oI:=qH hcs;have dx:=qH htk;clear hgc hcs htk;have hk1:k-1<rs.length:=by omega
     have hgx:rs.getD (k-1) (0,0)=rs[k-1]:=by simp[List.getD,List.getElem?_eq_getElem hk1]
     rw[hgx]at hx;try rw[hgx]at lN
     obtain⟨x0,x1,xf0,xf1⟩:=dW.o.cell (k-1) hk1;have mE:=qH (fun t=>dZ rs (k-1) hk1 t);have hea1:=qU.o.each rs[k-1] (List.getElem_mem hk1);clear hgx;generalize rs[k-1]=rx at*;obtain⟨xa,xb⟩:=rx;simp only at x0 x1 hx mE hea1 lN;have ek:(k:Int)-1=((k-1:Nat):Int):=by omega
     have k1:(0:Int)<k:=by omega
     have k2:((k-1:Nat):Int)<rs.length:=by omega
     have bx:(xb==n)=true:=by simpa using hx
     have yO:rs.getD k (0,0)=rs[k]:=by simp[List.getD,List.getElem?_eq_getElem hR]
     rw[yO]at hy;try rw[yO]at lN
     obtain⟨y0,y1,yf0,yf1⟩:=dW.o.cell k hR;have vU:=qH (fun t=>fE rs k hR t);have hea2:=qU.o.each rs[k] (List.getElem_mem hR);clear yO;generalize rs[k]=ry at*;obtain⟨ya,yb⟩:=ry;simp only at y0 y1 hy vU hea2 lN;have k3:(k:Int)<rs.length:=by omega
     have YK:(ya==n+1)=true:=by simpa using hy
     clear hx hy;have ow:=qH (World.ownsRow.stored dW.o ((k-1)*2+1) (.int .i64 yb));have xL:=qS (eY (w2.setCell ⟨g,(k-1)*2+1,none⟩ (.int .i64 yb)) (.slice (some ⟨g,0,none⟩) rs.length c) (rs.set (k-1) (xa,yb))) (by have h1:=ow.o.1;rw[mE.o yb]at h1;unfold eY;rw[List.length_set];exact h1);go_wp2_with fail;obtain⟨g',cc,cur',nH,Ye,aav,hcm',hcs',Vq⟩:=xL.o.form (by rw[List.length_set];omega);obtain⟨rfl,rfl⟩:g=g'∧c=cc:=by injection nH with e1 _ e3;injection e1 with e1;injection e1 with e1;exact⟨e1,e3⟩
     clear nH;have hl4:(rs.set (k-1) (xa,yb)).length=rs.length:=List.length_set;have hd:=PG (w2.setCell ⟨_,(k-1)*2+1,none⟩ (.int .i64 yb)) 0 _ _ rs.length k cur' (rgCells (rs.set (k-1) (xa,yb))) hR (by omega) hcm' (by omega) (Nat.zero_le _) Ye hcs' (by rw[hl4]at Vq;exact Vq) (by rw[o8,hl4]) (eB _);refine hd.mono ?_;rintro e w4⟨v',rfl,ho4,hg4,hbl4⟩;have qM:=qH (ow.o.2.andThen hg4 (fun j hj=>.inr hj));have j5:=qS (eY w4 v' (dB rs n)) (by
      have:=ho4;rw[iZ,ja,←aV,←lN.o]at this;unfold eY;have hl5:(dB rs n).length=rs.length-1:=by rw[lN.o];simp;omega
      rw[hl5];exact this);have fM:=qS (v'.ownBlock=(Value.slice (some ⟨g,0,none⟩) rs.length c).ownBlock∨ ∃k,v'.ownBlock=some k∧w2.heap.size≤k) (.inl hbl4);clear hd ho4 hg4 hbl4 Ye aav hcm' hcs' Vq hl4 x0 x1 xf0 xf1 y0 y1 yf0 yf1;have hmid:=rW.o.mid s (.slice (some ⟨g,0,none⟩) rs.length c) zx.o kC.o qM.o;have Dh:=qH hmid.1;have hcm5:=hmid.2;clear hmid;go_wp2_with(at_mapUpdate;refine bD rfl (.tmp 110) (.tmp 111) (.tmp 112) 137 171 rfl Tryz.underlying137 bm (m.map fun p=>(p.1,V p.1)) rfl Dh.o (by unfold maxLen;simp;omega) s rfl (by unfold maxLen;omega) _ rfl ?_;intro w5 hm5 hg5);go_wp2;go_ret;have hst:=rW.o.stored s (.slice (some ⟨g,0,none⟩) rs.length c) _ (dB rs n) zx.o kC.o qM.o j5.o fM.o (fun e=>by
      have hne:=jJ rs qU.o TD.o;rcases j5.o.2 with⟨_,h0⟩|⟨g0,_,_,h0,_⟩;·exact hne (List.eq_nil_of_length_eq_zero h0)
      ·rw[h0]at e;cases e) hm5 hg5 (by have:=jU.o;rw[zG.o]at this;exact this);refine⟨_,_,rfl,by rw[zG.o];exact hst.1,(ak.of_below (F:=G) hbw).trans hst.2 (fun _ _ h=>h),fun b hb=>?_⟩;rcases hb with⟨hb,_⟩|⟨hb,_⟩;·exact .inl hb
     ·right;omega
    ·skip;have mO:=qS (lT rs n=true) (by unfold lT;simp only[hx];simp[hL]);have nI:=qS (kS rs n=false) (by unfold kS;simp;intro _;exact fun h=>hy (by simpa using h));have lN:=qS (dB rs n=rs.set (fJ rs n-1) ((rs.getD (fJ rs n-1) (0,0)).1,n+1)) (by unfold dB;rw[mO.o,nI.o];rfl);clear mO nI zy;generalize hpk:fJ rs n=k at*;clear hpk;obtain⟨g,cc,cur,nH,hgc,hlc,hcm,hcs,htk⟩:=dW.o.form (by omega);obtain⟨rfl,rfl⟩:A=some ⟨g,0,none⟩∧c=cc:=by injection nH with e1 _ e3;exact⟨e1,e3⟩
     clear nH;have WE:=qH hgc;have oI:=qH hcs;have dx:=qH htk;clear hgc hcs htk;have hk1:k-1<rs.length:=by omega
     have hgx:rs.getD (k-1) (0,0)=rs[k-1]:=by simp[List.getD,List.getElem?_eq_getElem hk1]
     rw[hgx]at hx;try rw[hgx]at lN
     obtain⟨x0,x1,xf0,xf1⟩:=dW.o.cell (k-1) hk1;have mE:=qH (fun t=>dZ rs (k-1) hk1 t);have hea1:=qU.o.each rs[k-1] (List.getElem_mem hk1);clear hgx;generalize rs[k-1]=rx at*;obtain⟨xa,xb⟩:=rx;simp only at x0 x1 hx mE hea1 lN;have ek:(k:Int)-1=((k-1:Nat):Int):=by omega
     have k1:(0:Int)<k:=by omega
     have k2:((k-1:Nat):Int)<rs.length:=by omega
     have bx:(xb==n)=true:=by simpa using hx
     have yO:rs.getD k (0,0)=rs[k]:=by simp[List.getD,List.getElem?_eq_getElem hR]
     rw[yO]at hy;try rw[yO]at lN
     obtain⟨y0,y1,yf0,yf1⟩:=dW.o.cell k hR;have vU:=qH (fun t=>fE rs k hR t);have hea2:=qU.o.each rs[k] (List.getElem_mem hR);clear yO;generalize rs[k]=ry at*;obtain⟨ya,yb⟩:=ry;simp only at y0 y1 hy vU hea2 lN;have k3:(k:Int)<rs.length:=by omega
     have YK:(ya==n+1)=false:=by simpa using hy
     clear hx hy;have ow:=qH (World.ownsRow.stored dW.o ((k-1)*2+1) (.int .i64 (n+1)));have qM:=qH ow.o.2;have j5:=qS (eY (w2.setCell ⟨g,(k-1)*2+1,none⟩ (.int .i64 (n+1))) (.slice (some ⟨g,0,none⟩) rs.length c) (dB rs n)) (by have h1:=ow.o.1;rw[mE.o (n+1)]at h1;rw[lN.o];unfold eY;rw[List.length_set];exact h1);obtain⟨v',hv'⟩: ∃v',v'=Value.slice (some ⟨g,0,none⟩) rs.length c:=⟨_,rfl⟩;have HV':=qH hv';clear hv';have hmid:=rW.o.mid s (.slice (some ⟨g,0,none⟩) rs.length c) zx.o kC.o qM.o;have Dh:=qH hmid.1;have hcm5:=hmid.2;clear hmid;go_wp2_with(at_mapUpdate;refine bD rfl (.tmp 110) (.tmp 111) (.tmp 112) 137 171 rfl Tryz.underlying137 bm (m.map fun p=>(p.1,V p.1)) rfl Dh.o (by unfold maxLen;simp;omega) s rfl (by unfold maxLen;omega) _ rfl ?_;intro w5 hm5 hg5);go_wp2;go_ret;have hst:=rW.o.stored s (.slice (some ⟨g,0,none⟩) rs.length c) _ (dB rs n) zx.o kC.o qM.o j5.o (.inl rfl) (fun e=>by
      have hne:=jJ rs qU.o TD.o;rcases j5.o.2 with⟨_,h0⟩|⟨g0,_,_,h0,_⟩;·exact hne (List.eq_nil_of_length_eq_zero h0)
      ·rw[h0]at e;cases e) hm5 hg5 (by have:=jU.o;rw[zG.o]at this;exact this);refine⟨_,_,rfl,by rw[zG.o];exact hst.1,(ak.of_below (F:=G) hbw).trans hst.2 (fun _ _ h=>h),fun b hb=>?_⟩;rcases hb with⟨hb,_⟩|⟨hb,_⟩;·exact .inl hb
     ·right;omega
  ·skip;by_cases hR:fJ rs n=rs.length
   ·skip;have mO:=qS (lT rs n=false) (by unfold lT;simp;intro _;exact fun h=>hx (by simpa using h));have nI:=qS (kS rs n=false) (by unfold kS;simp[hR]);have lN:=qS (dB rs n=rs.take (fJ rs n)++[(n,n+1)]++rs.drop (fJ rs n)) (by unfold dB;rw[mO.o,nI.o];rfl);clear mO nI zy;generalize hpk:fJ rs n=k at*;clear hpk;obtain⟨g,cc,cur,nH,hgc,hlc,hcm,hcs,htk⟩:=dW.o.form (by omega);obtain⟨rfl,rfl⟩:A=some ⟨g,0,none⟩∧c=cc:=by injection nH with e1 _ e3;exact⟨e1,e3⟩
    clear nH;have WE:=qH hgc;have oI:=qH hcs;have dx:=qH htk;clear hgc hcs htk;have hk1:k-1<rs.length:=by omega
    have hgx:rs.getD (k-1) (0,0)=rs[k-1]:=by simp[List.getD,List.getElem?_eq_getElem hk1]
    rw[hgx]at hx;try rw[hgx]at lN
    obtain⟨x0,x1,xf0,xf1⟩:=dW.o.cell (k-1) hk1;have mE:=qH (fun t=>dZ rs (k-1) hk1 t);have hea1:=qU.o.each rs[k-1] (List.getElem_mem hk1);clear hgx;generalize rs[k-1]=rx at*;obtain⟨xa,xb⟩:=rx;simp only at x0 x1 hx mE hea1 lN;have ek:(k:Int)-1=((k-1:Nat):Int):=by omega
    have k1:(0:Int)<k:=by omega
    have k2:((k-1:Nat):Int)<rs.length:=by omega
    have bx:(xb==n)=false:=by simpa using hx
    have k3: ¬(k:Int)<rs.length:=by omega
    clear hx hR;go_wp2_with fail;have bJ:Below w2.heap.size w2 (w2.alloc (.cells #[.int .i64 n,.int .i64 (n+1)] 173)):=(Below.refl _ _).alloc (Nat.le_refl _) _;have hnew:(w2.alloc (.cells #[.int .i64 n,.int .i64 (n+1)] 173)).heap[w2.heap.size]?=some (.cells [Value.int .i64 n,Value.int .i64 (n+1)].toArray 173 (0,0)):=heap_alloc_new w2 _;have hszA:(w2.alloc (.cells #[.int .i64 n,.int .i64 (n+1)] 173)).heap.size=w2.heap.size+1:=by simp
    have hgA:w2.grownBy (w2.alloc (.cells #[.int .i64 n,.int .i64 (n+1)] 173)) (Value.slice (some ⟨g,0,none⟩) rs.length c).ownBlock:=World.grownBy_alloc w2 _ _;generalize(w2.alloc (.cells #[.int .i64 n,.int .i64 (n+1)] 173))=w3 at*;have hi:=tK w3 0 rs.length k w2.heap.size _ (rgCells rs) [.int .i64 n,.int .i64 (n+1)] (by omega) (by omega) (Nat.zero_le _) (dW.o.up bJ) rfl hnew (fun e=>by have:=(World.ownsRow.lt dW.o _ e).2;omega) (eB rs) (by intro u hu;simp at hu;rcases hu with rfl|rfl<;>rfl);refine hi.mono ?_;rintro e w4⟨v',rfl,ho4,hg4,hbl4⟩;have qM:=qH (hgA.andThen hg4 (fun j hj=>.inr hj));have j5:=qS (eY w4 v' (dB rs n)) (by
     have:=ho4;rw[iZ,ja,show[Value.int .i64 n,Value.int .i64 (n+1)]=rgCells [(n,n+1)]from rfl,←aV,←aV,←lN.o]at this;unfold eY;have hl5:(dB rs n).length=rs.length+1:=by rw[lN.o];simp;omega
     rw[hl5];exact this);have fM:=qS (v'.ownBlock=(Value.slice (some ⟨g,0,none⟩) rs.length c).ownBlock∨ ∃k,v'.ownBlock=some k∧w2.heap.size≤k) (hbl4.imp id (fun⟨k,h1,h2⟩=>⟨k,h1,by omega⟩));clear hi ho4 hg4 hbl4 bJ hnew hszA hgA;clear x0 x1 xf0 xf1;have hmid:=rW.o.mid s (.slice (some ⟨g,0,none⟩) rs.length c) zx.o kC.o qM.o;have Dh:=qH hmid.1;have hcm5:=hmid.2;clear hmid;go_wp2_with(at_mapUpdate;refine bD rfl (.tmp 110) (.tmp 111) (.tmp 112) 137 171 rfl Tryz.underlying137 bm (m.map fun p=>(p.1,V p.1)) rfl Dh.o (by unfold maxLen;simp;omega) s rfl (by unfold maxLen;omega) _ rfl ?_;intro w5 hm5 hg5);go_wp2;go_ret;have hst:=rW.o.stored s (.slice (some ⟨g,0,none⟩) rs.length c) _ (dB rs n) zx.o kC.o qM.o j5.o fM.o (fun e=>by
     have hne:=jJ rs qU.o TD.o;rcases j5.o.2 with⟨_,h0⟩|⟨g0,_,_,h0,_⟩;·exact hne (List.eq_nil_of_length_eq_zero h0)
     ·rw[h0]at e;cases e) hm5 hg5 (by have:=jU.o;rw[zG.o]at this;exact this);refine⟨_,_,rfl,by rw[zG.o];exact hst.1,(ak.of_below (F:=G) hbw).trans hst.2 (fun _ _ h=>h),fun b hb=>?_⟩;rcases hb with⟨hb,_⟩|⟨hb,_⟩;·exact .inl hb
    ·right;omega
   ·have hR:fJ rs n<rs.length:=by omega
    by_cases hy:(rs.getD (fJ rs n) (0,0)).1=n+1
    ·skip;have mO:=qS (lT rs n=false) (by unfold lT;simp;intro _;exact fun h=>hx (by simpa using h));have nI:=qS (kS rs n=true) (by unfold kS;simp only[hy];simp[hR]);have lN:=qS (dB rs n=rs.set (fJ rs n) (n,(rs.getD (fJ rs n) (0,0)).2)) (by unfold dB;rw[mO.o,nI.o];rfl);clear mO nI zy;generalize hpk:fJ rs n=k at*;clear hpk;obtain⟨g,cc,cur,nH,hgc,hlc,hcm,hcs,htk⟩:=dW.o.form (by omega);obtain⟨rfl,rfl⟩:A=some ⟨g,0,none⟩∧c=cc:=by injection nH with e1 _ e3;exact⟨e1,e3⟩
     clear nH;have WE:=qH hgc;have oI:=qH hcs;have dx:=qH htk;clear hgc hcs htk;have hk1:k-1<rs.length:=by omega
     have hgx:rs.getD (k-1) (0,0)=rs[k-1]:=by simp[List.getD,List.getElem?_eq_getElem hk1]
     rw[hgx]at hx;try rw[hgx]at lN
     obtain⟨x0,x1,xf0,xf1⟩:=dW.o.cell (k-1) hk1;have mE:=qH (fun t=>dZ rs (k-1) hk1 t);have hea1:=qU.o.each rs[k-1] (List.getElem_mem hk1);clear hgx;generalize rs[k-1]=rx at*;obtain⟨xa,xb⟩:=rx;simp only at x0 x1 hx mE hea1 lN;have ek:(k:Int)-1=((k-1:Nat):Int):=by omega
     have k1:(0:Int)<k:=by omega
     have k2:((k-1:Nat):Int)<rs.length:=by omega
     have bx:(xb==n)=false:=by simpa using hx
     have yO:rs.getD k (0,0)=rs[k]:=by simp[List.getD,List.getElem?_eq_getElem hR]
     rw[yO]at hy;try rw[yO]at lN
     obtain⟨y0,y1,yf0,yf1⟩:=dW.o.cell k hR;have vU:=qH (fun t=>fE rs k hR t);have hea2:=qU.o.each rs[k] (List.getElem_mem hR);clear yO;generalize rs[k]=ry at*;obtain⟨ya,yb⟩:=ry;simp only at y0 y1 hy vU hea2 lN;have k3:(k:Int)<rs.length:=by omega
     have YK:(ya==n+1)=true:=by simpa using hy
     clear hx hy;have ow:=qH (World.ownsRow.stored dW.o (k*2) (.int .i64 (n)));have qM:=qH ow.o.2;have j5:=qS (eY (w2.setCell ⟨g,k*2,none⟩ (.int .i64 (n))) (.slice (some ⟨g,0,none⟩) rs.length c) (dB rs n)) (by have h1:=ow.o.1;rw[vU.o (n)]at h1;rw[lN.o];unfold eY;rw[List.length_set];exact h1);obtain⟨v',hv'⟩: ∃v',v'=Value.slice (some ⟨g,0,none⟩) rs.length c:=⟨_,rfl⟩;have HV':=qH hv';clear hv';have hmid:=rW.o.mid s (.slice (some ⟨g,0,none⟩) rs.length c) zx.o kC.o qM.o;have Dh:=qH hmid.1;have hcm5:=hmid.2;clear hmid;go_wp2_with(at_mapUpdate;refine bD rfl (.tmp 110) (.tmp 111) (.tmp 112) 137 171 rfl Tryz.underlying137 bm (m.map fun p=>(p.1,V p.1)) rfl Dh.o (by unfold maxLen;simp;omega) s rfl (by unfold maxLen;omega) _ rfl ?_;intro w5 hm5 hg5);go_wp2;go_ret;have hst:=rW.o.stored s (.slice (some ⟨g,0,none⟩) rs.length c) _ (dB rs n) zx.o kC.o qM.o j5.o (.inl rfl) (fun e=>by
      have hne:=jJ rs qU.o TD.o;rcases j5.o.2 with⟨_,h0⟩|⟨g0,_,_,h0,_⟩;·exact hne (List.eq_nil_of_length_eq_zero h0)
      ·rw[h0]at e;cases e) hm5 hg5 (by have:=jU.o;rw[zG.o]at this;exact this);refine⟨_,_,rfl,by rw[zG.o];exact hst.1,(ak.of_below (F:=G) hbw).trans hst.2 (fun _ _ h=>h),fun b hb=>?_⟩;rcases hb with⟨hb,_⟩|⟨hb,_⟩;·exact .inl hb
     ·right;omega
    ·skip;have mO:=qS (lT rs n=false) (by unfold lT;simp;intro _;exact fun h=>hx (by simpa using h));have nI:=qS (kS rs n=false) (by unfold kS;simp;intro _;exact fun h=>hy (by simpa using h));have lN:=qS (dB rs n=rs.take (fJ rs n)++[(n,n+1)]++rs.drop (fJ rs n)) (by unfold dB;rw[mO.o,nI.o];rfl);clear mO nI zy;generalize hpk:fJ rs n=k at*;clear hpk;obtain⟨g,cc,cur,nH,hgc,hlc,hcm,hcs,htk⟩:=dW.o.form (by omega);obtain⟨rfl,rfl⟩:A=some ⟨g,0,none⟩∧c=cc:=by injection nH with e1 _ e3;exact⟨e1,e3⟩
     clear nH;have WE:=qH hgc;have oI:=qH hcs;have dx:=qH htk;clear hgc hcs htk;have hk1:k-1<rs.length:=by omega
     have hgx:rs.getD (k-1) (0,0)=rs[k-1]:=by simp[List.getD,List.getElem?_eq_getElem hk1]
     rw[hgx]at hx;try rw[hgx]at lN
     obtain⟨x0,x1,xf0,xf1⟩:=dW.o.cell (k-1) hk1;have mE:=qH (fun t=>dZ rs (k-1) hk1 t);have hea1:=qU.o.each rs[k-1] (List.getElem_mem hk1);clear hgx;generalize rs[k-1]=rx at*;obtain⟨xa,xb⟩:=rx;simp only at x0 x1 hx mE hea1 lN;have ek:(k:Int)-1=((k-1:Nat):Int):=by omega
     have k1:(0:Int)<k:=by omega
     have k2:((k-1:Nat):Int)<rs.length:=by omega
     have bx:(xb==n)=false:=by simpa using hx
     have yO:rs.getD k (0,0)=rs[k]:=by simp[List.getD,List.getElem?_eq_getElem hR]
     rw[yO]at hy;try rw[yO]at lN
     obtain⟨y0,y1,yf0,yf1⟩:=dW.o.cell k hR;have vU:=qH (fun t=>fE rs k hR t);have hea2:=qU.o.each rs[k] (List.getElem_mem hR);clear yO;generalize rs[k]=ry at*;obtain⟨ya,yb⟩:=ry;simp only at y0 y1 hy vU hea2 lN;have k3:(k:Int)<rs.length:=by omega
     have YK:(ya==n+1)=false:=by simpa using hy
     clear hx hy;go_wp2_with fail;have bJ:Below w2.heap.size w2 (w2.alloc (.cells #[.int .i64 n,.int .i64 (n+1)] 173)):=(Below.refl _ _).alloc (Nat.le_refl _) _;have hnew:(w2.alloc (.cells #[.int .i64 n,.int .i64 (n+1)] 173)).heap[w2.heap.size]?=some (.cells [Value.int .i64 n,Value.int .i64 (n+1)].toArray 173 (0,0)):=heap_alloc_new w2 _;have hszA:(w2.alloc (.cells #[.int .i64 n,.int .i64 (n+1)] 173)).heap.size=w2.heap.size+1:=by simp
     have hgA:w2.grownBy (w2.alloc (.cells #[.int .i64 n,.int .i64 (n+1)] 173)) (Value.slice (some ⟨g,0,none⟩) rs.length c).ownBlock:=World.grownBy_alloc w2 _ _;generalize(w2.alloc (.cells #[.int .i64 n,.int .i64 (n+1)] 173))=w3 at*;have hi:=tK w3 0 rs.length k w2.heap.size _ (rgCells rs) [.int .i64 n,.int .i64 (n+1)] (by omega) (by omega) (Nat.zero_le _) (dW.o.up bJ) rfl hnew (fun e=>by have:=(World.ownsRow.lt dW.o _ e).2;omega) (eB rs) (by intro u hu;simp at hu;rcases hu with rfl|rfl<;>rfl);refine hi.mono ?_;rintro e w4⟨v',rfl,ho4,hg4,hbl4⟩;have qM:=qH (hgA.andThen hg4 (fun j hj=>.inr hj));have j5:=qS (eY w4 v' (dB rs n)) (by
      have:=ho4;rw[iZ,ja,show[Value.int .i64 n,Value.int .i64 (n+1)]=rgCells [(n,n+1)]from rfl,←aV,←aV,←lN.o]at this;unfold eY;have hl5:(dB rs n).length=rs.length+1:=by rw[lN.o];simp;omega
      rw[hl5];exact this);have fM:=qS (v'.ownBlock=(Value.slice (some ⟨g,0,none⟩) rs.length c).ownBlock∨ ∃k,v'.ownBlock=some k∧w2.heap.size≤k) (hbl4.imp id (fun⟨k,h1,h2⟩=>⟨k,h1,by omega⟩));clear hi ho4 hg4 hbl4 bJ hnew hszA hgA;clear x0 x1 xf0 xf1;clear y0 y1 yf0 yf1;have hmid:=rW.o.mid s (.slice (some ⟨g,0,none⟩) rs.length c) zx.o kC.o qM.o;have Dh:=qH hmid.1;have hcm5:=hmid.2;clear hmid;go_wp2_with(at_mapUpdate;refine bD rfl (.tmp 110) (.tmp 111) (.tmp 112) 137 171 rfl Tryz.underlying137 bm (m.map fun p=>(p.1,V p.1)) rfl Dh.o (by unfold maxLen;simp;omega) s rfl (by unfold maxLen;omega) _ rfl ?_;intro w5 hm5 hg5);go_wp2;go_ret;have hst:=rW.o.stored s (.slice (some ⟨g,0,none⟩) rs.length c) _ (dB rs n) zx.o kC.o qM.o j5.o fM.o (fun e=>by
      have hne:=jJ rs qU.o TD.o;rcases j5.o.2 with⟨_,h0⟩|⟨g0,_,_,h0,_⟩;·exact hne (List.eq_nil_of_length_eq_zero h0)
      ·rw[h0]at e;cases e) hm5 hg5 (by have:=jU.o;rw[zG.o]at this;exact this);refine⟨_,_,rfl,by rw[zG.o];exact hst.1,(ak.of_below (F:=G) hbw).trans hst.2 (fun _ _ h=>h),fun b hb=>?_⟩;rcases hb with⟨hb,_⟩|⟨hb,_⟩;·exact .inl hb
     ·right;omega
end Go.Proofs.YtbejfgmdkmddnaaGreatDoor
