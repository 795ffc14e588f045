/-
  Layer 7: Put.
-/
import Derived.Test.YtladegonienapaaGreatDoorUHad
import Derived.Test.YtladegonienapaaGreatDoorUIns
set_option maxRecDepth 100000
set_option maxHeartbeats 16000000
namespace Go.Proofs.YtladegonienapaaGreatDoor
open Go.RowKit Go.Maps Go.Sort
def Oz(w:World)(G:Nat→Prop)(bs bm:Nat)(m:eB)(ok:Bool)(e:Ending)(w':World):Prop:= ∃G' V',e=.returned (.bool ok)∧bQ w' G' bs bm m V'∧ah G w w'∧ ∀b,G' b→G b∨w.heap.size≤b
theorem bQ.mid{w1 w2:World}{G:Nat→Prop}{bs bm:Nat}{m:eB}{V:List UInt8→Value}(h:bQ w1 G bs bm m V)(s:List UInt8)(v:Value)(hv0:aC m s=none→v=.slice none 0 0)(hv1: ∀rs,aC m s=some rs→v=V s)(hg:w1.grownBy w2 v.ownBlock):dN w2 bm (m.map fun p=>(p.1,V p.1))∧w2.cell? ⟨bs,0,none⟩=some (.map (some bm)):=by
 obtain⟨es,cl,hmap⟩:=h.map.isMap;have hrow: ∀b,v.ownBlock=some b→ ∃cs,w1.heap[b]?=some (.cells cs 153 (0,0)):=fun b hb=>by cases hgs:aC m s with|none=>rw[hv0 hgs]at hb;cases hb|some rs=>rw[hv1 rs hgs]at hb;exact(h.own _ (ak hgs)).typ hb
 refine⟨h.map.block (hg.block bm (h.lt _ h.gm) (fun e=>?_)),?_⟩;·obtain⟨cs,hc⟩:=hrow bm e.symm;rw[hmap]at hc;cases hc
 ·rw[World.cell?_of_block (w:=w1) (a:=⟨bs,0,none⟩) (hg.block bs (h.lt _ h.gs) (fun e=>?_))];·exact h.cell
  ·obtain⟨cs,hc⟩:=hrow bs e.symm;rw[h.blk]at hc;injection hc with hc;injection hc with _ ht;exact absurd ht (by decide)
theorem dX.form{w:World}{v:Value}{rs:Rg}(h:dX w v rs)(h0:0<rs.length): ∃g c cur,v=.slice (some ⟨g,0,none⟩) rs.length c∧w.heap[g]?=some (.cells cur 153 (0,0))∧rs.length≤c∧c≤maxLen∧cur.size=c*2∧cur.toList.take (rs.length*2)=rgCells rs:=by
 rcases h.2 with⟨_,h'⟩|⟨g,c,cur,e,_,r⟩;·omega
 ·exact⟨g,c,cur,e,r⟩
theorem Mo(w:World)(G:Nat→Prop)(bs bm:Nat)(m:eB)(V:List UInt8→Value)(h:bQ w G bs bm m V)(s:List UInt8)(n:Int)(hlen:(aM m s).length≤100000)(qV:m.length<1000000)(hp:nO m s n=true):Calls Tryz.prog 96 #[.pointer (some ⟨bs,0,none⟩),.string ⟨s.toArray⟩,.int .i64 n] w (Oz w G bs bm (nk m s n) true):=by
 have hok:=h.ok.put hp;have hp':=hp;unfold nO at hp';simp only[Bool.and_eq_true,decide_eq_true_eq,Bool.not_eq_true']at hp';obtain⟨⟨⟨p1,p2⟩,p3⟩,p4⟩:=hp';have hs24:s.length≤24:=by unfold af at p1;simp at p1;omega
 have pJ:=qH (h.ok.row s);have Xn:=qH p1;have HP4:=qH p4;have HH:=qH h;have Q9:=qS (dF (aM m s) n=false) (p4);have vI:=qS (nk m s n=aL s (bY (aM m s) n) m) (rfl);have mQ:=qH hok;clear hok hp p1 p4;go_enter Tryz.func96,Tryz.ntmps96;go_wp2_with fail;refine(iF w s).mono ?_;rintro e w0⟨rfl,rfl⟩;rw[Xn.o];have d1:decide (n<1)=false:=decide_eq_false (by omega);have d2:decide (1099511627776<n)=false:=decide_eq_false (by omega);go_wp2_with fail;refine(vT w G bs bm m V HH.o s (by omega) (by omega) n).mono ?_;rintro e w1⟨rfl,hb1⟩;rw[HP4.o];have Cb:=qH (HH.o.up hb1);obtain⟨v,hl,hown,hv0,hv1⟩:=Cb.o.look s (by omega);have hc1:=Cb.o.cell;have BF:=qH hv0;have yo:=qH hv1;have He:=qS (bY (aM m s) n=bY (aM m s) n) (rfl);generalize hrs:aM m s=rs at*;have Ph:=qH hrs;clear hrs hv0 hv1;obtain⟨A,c,rfl⟩:=ownsRow_form hown;have Lx:=qH hown;clear hown d1 d2;go_wp2_with fail;refine(zt w1 _ rs Lx.o pJ.o (by omega) n).mono ?_;rintro e w2⟨rfl,hb2⟩;have mR:=qH (Cb.o.up hb2);have dA:=qH (Lx.o.up hb2);have hbw:Below w.heap.size w w2:=hb1.trans (hb2.mono hb1.size);have hsz:=hbw.size;clear hl hc1 hb1 hb2;have hpl:=Mr rs n;by_cases hL:eX rs n=0
 ·skip;by_cases hR:eX rs n=rs.length
  ·skip;have kC:=qS (kJ rs n=false) (by unfold kJ;simp[hL]);have nu:=qS (jT rs n=false) (by unfold jT;simp[hR]);have jD:=qS (bY rs n=rs.take (eX rs n)++[(n,n+1)]++rs.drop (eX rs n)) (by unfold bY;rw[kC.o,nu.o];rfl);clear kC nu He;generalize hpk:eX rs n=k at*;clear hpk;have k1: ¬(0:Int)<k:=by omega
   have k3: ¬(k:Int)<rs.length:=by omega
   clear hL hR;go_wp2_with fail;have bL:Below w2.heap.size w2 (w2.alloc (.cells #[.int .i64 n,.int .i64 (n+1)] 153)):=(Below.refl _ _).alloc (Nat.le_refl _) _;have hnew:(w2.alloc (.cells #[.int .i64 n,.int .i64 (n+1)] 153)).heap[w2.heap.size]?=some (.cells [Value.int .i64 n,Value.int .i64 (n+1)].toArray 153 (0,0)):=heap_alloc_new w2 _;have hszA:(w2.alloc (.cells #[.int .i64 n,.int .i64 (n+1)] 153)).heap.size=w2.heap.size+1:=by simp
   have hgA:w2.grownBy (w2.alloc (.cells #[.int .i64 n,.int .i64 (n+1)] 153)) (Value.slice A rs.length c).ownBlock:=World.grownBy_alloc w2 _ _;generalize(w2.alloc (.cells #[.int .i64 n,.int .i64 (n+1)] 153))=w3 at*;have hi:=rE w3 0 rs.length k w2.heap.size _ (rgCells rs) [.int .i64 n,.int .i64 (n+1)] (by omega) (by omega) (Nat.zero_le _) (dA.o.up bL) rfl hnew (fun e=>by have:=(World.ownsRow.lt dA.o _ e).2;omega) (dD rs) (by intro u hu;simp at hu;rcases hu with rfl|rfl<;>rfl);refine hi.mono ?_;rintro e w4⟨v',rfl,ho4,hg4,hbl4⟩;have oK:=qH (hgA.andThen hg4 (fun j hj=>.inr hj));have lI:=qS (dX w4 v' (bY rs n)) (by
    have:=ho4;rw[iC,iD,show[Value.int .i64 n,Value.int .i64 (n+1)]=rgCells [(n,n+1)]from rfl,←aS,←aS,←jD.o]at this;unfold dX;have hl5:(bY rs n).length=rs.length+1:=by rw[jD.o];simp;omega
    rw[hl5];exact this);have jP:=qS (v'.ownBlock=(Value.slice A rs.length c).ownBlock∨ ∃k,v'.ownBlock=some k∧w2.heap.size≤k) (hbl4.imp id (fun⟨k,h1,h2⟩=>⟨k,h1,by omega⟩));clear hi ho4 hg4 hbl4 bL hnew hszA hgA;have hmid:=mR.o.mid s (.slice (A) rs.length c) BF.o yo.o oK.o;have BJ:=qH hmid.1;have hcm5:=hmid.2;clear hmid;go_wp2_with(at_mapUpdate;refine aX rfl (.tmp 110) (.tmp 111) (.tmp 112) 148 151 rfl Tryz.underlying148 bm (m.map fun p=>(p.1,V p.1)) rfl BJ.o (by unfold maxLen;simp;omega) s rfl (by unfold maxLen;omega) _ rfl ?_;intro w5 hm5 hg5);go_wp2;go_ret;have hst:=mR.o.stored s (.slice (A) rs.length c) _ (bY rs n) BF.o yo.o oK.o lI.o jP.o (fun e=>by
    have hne:=je rs pJ.o Q9.o;rcases lI.o.2 with⟨_,h0⟩|⟨g0,_,_,h0,_⟩;·exact hne (List.eq_nil_of_length_eq_zero h0)
    ·rw[h0]at e;cases e) hm5 hg5 (by have:=mQ.o;rw[vI.o]at this;exact this);refine⟨_,_,rfl,by rw[vI.o];exact hst.1,(ah.of_below (F:=G) hbw).trans hst.2 (fun _ _ h=>h),fun b hb=>?_⟩;rcases hb with⟨hb,_⟩|⟨hb,_⟩;·exact .inl hb
   ·right;omega
  ·have hR:eX rs n<rs.length:=by omega
   by_cases hy:(rs.getD (eX rs n) (0,0)).1=n+1
   ·skip;have kC:=qS (kJ rs n=false) (by unfold kJ;simp[hL]);have nu:=qS (jT rs n=true) (by unfold jT;simp only[hy];simp[hR]);have jD:=qS (bY rs n=rs.set (eX rs n) (n,(rs.getD (eX rs n) (0,0)).2)) (by unfold bY;rw[kC.o,nu.o];rfl);clear kC nu He;generalize hpk:eX rs n=k at*;clear hpk;obtain⟨g,cc,cur,lJ,hgc,hlc,hcm,hcs,htk⟩:=dA.o.form (by omega);obtain⟨rfl,rfl⟩:A=some ⟨g,0,none⟩∧c=cc:=by injection lJ with e1 _ e3;exact⟨e1,e3⟩
    clear lJ;have UI:=qH hgc;have nz:=qH hcs;have df:=qH htk;clear hgc hcs htk;have k1: ¬(0:Int)<k:=by omega
    have xD:rs.getD k (0,0)=rs[k]:=by simp[List.getD,List.getElem?_eq_getElem hR]
    rw[xD]at hy;try rw[xD]at jD
    obtain⟨y0,y1,yf0,yf1⟩:=dA.o.cell k hR;have K9:=qH (fun t=>eO rs k hR t);have hea2:=pJ.o.each rs[k] (List.getElem_mem hR);clear xD;generalize rs[k]=ry at*;obtain⟨ya,yb⟩:=ry;simp only at y0 y1 hy K9 hea2 jD;have k3:(k:Int)<rs.length:=by omega
    have Wy:(ya==n+1)=true:=by simpa using hy
    clear hy hL;have pK:=qH (World.ownsRow.stored dA.o (k*2) (.int .i64 (n)));have oK:=qH pK.o.2;have lI:=qS (dX (w2.setCell ⟨g,k*2,none⟩ (.int .i64 (n))) (.slice (some ⟨g,0,none⟩) rs.length c) (bY rs n)) (by have h1:=pK.o.1;rw[K9.o (n)]at h1;rw[jD.o];unfold dX;rw[List.length_set];exact h1);obtain⟨v',hv'⟩: ∃v',v'=Value.slice (some ⟨g,0,none⟩) rs.length c:=⟨_,rfl⟩;have ZU:=qH hv';clear hv';have hmid:=mR.o.mid s (.slice (some ⟨g,0,none⟩) rs.length c) BF.o yo.o oK.o;have BJ:=qH hmid.1;have hcm5:=hmid.2;clear hmid;go_wp2_with(at_mapUpdate;refine aX rfl (.tmp 110) (.tmp 111) (.tmp 112) 148 151 rfl Tryz.underlying148 bm (m.map fun p=>(p.1,V p.1)) rfl BJ.o (by unfold maxLen;simp;omega) s rfl (by unfold maxLen;omega) _ rfl ?_;intro w5 hm5 hg5);go_wp2;go_ret;have hst:=mR.o.stored s (.slice (some ⟨g,0,none⟩) rs.length c) _ (bY rs n) BF.o yo.o oK.o lI.o (.inl rfl) (fun e=>by
     have hne:=je rs pJ.o Q9.o;rcases lI.o.2 with⟨_,h0⟩|⟨g0,_,_,h0,_⟩;·exact hne (List.eq_nil_of_length_eq_zero h0)
     ·rw[h0]at e;cases e) hm5 hg5 (by have:=mQ.o;rw[vI.o]at this;exact this);refine⟨_,_,rfl,by rw[vI.o];exact hst.1,(ah.of_below (F:=G) hbw).trans hst.2 (fun _ _ h=>h),fun b hb=>?_⟩;rcases hb with⟨hb,_⟩|⟨hb,_⟩;·exact .inl hb
    ·right;omega
   ·skip;have kC:=qS (kJ rs n=false) (by unfold kJ;simp[hL]);have nu:=qS (jT rs n=false) (by unfold jT;simp;intro _;exact fun h=>hy (by simpa using h));have jD:=qS (bY rs n=rs.take (eX rs n)++[(n,n+1)]++rs.drop (eX rs n)) (by unfold bY;rw[kC.o,nu.o];rfl);clear kC nu He;generalize hpk:eX rs n=k at*;clear hpk;obtain⟨g,cc,cur,lJ,hgc,hlc,hcm,hcs,htk⟩:=dA.o.form (by omega);obtain⟨rfl,rfl⟩:A=some ⟨g,0,none⟩∧c=cc:=by injection lJ with e1 _ e3;exact⟨e1,e3⟩
    clear lJ;have UI:=qH hgc;have nz:=qH hcs;have df:=qH htk;clear hgc hcs htk;have k1: ¬(0:Int)<k:=by omega
    have xD:rs.getD k (0,0)=rs[k]:=by simp[List.getD,List.getElem?_eq_getElem hR]
    rw[xD]at hy;try rw[xD]at jD
    obtain⟨y0,y1,yf0,yf1⟩:=dA.o.cell k hR;have K9:=qH (fun t=>eO rs k hR t);have hea2:=pJ.o.each rs[k] (List.getElem_mem hR);clear xD;generalize rs[k]=ry at*;obtain⟨ya,yb⟩:=ry;simp only at y0 y1 hy K9 hea2 jD;have k3:(k:Int)<rs.length:=by omega
    have Wy:(ya==n+1)=false:=by simpa using hy
    clear hy hL;go_wp2_with fail;have bL:Below w2.heap.size w2 (w2.alloc (.cells #[.int .i64 n,.int .i64 (n+1)] 153)):=(Below.refl _ _).alloc (Nat.le_refl _) _;have hnew:(w2.alloc (.cells #[.int .i64 n,.int .i64 (n+1)] 153)).heap[w2.heap.size]?=some (.cells [Value.int .i64 n,Value.int .i64 (n+1)].toArray 153 (0,0)):=heap_alloc_new w2 _;have hszA:(w2.alloc (.cells #[.int .i64 n,.int .i64 (n+1)] 153)).heap.size=w2.heap.size+1:=by simp
    have hgA:w2.grownBy (w2.alloc (.cells #[.int .i64 n,.int .i64 (n+1)] 153)) (Value.slice (some ⟨g,0,none⟩) rs.length c).ownBlock:=World.grownBy_alloc w2 _ _;generalize(w2.alloc (.cells #[.int .i64 n,.int .i64 (n+1)] 153))=w3 at*;have hi:=rE w3 0 rs.length k w2.heap.size _ (rgCells rs) [.int .i64 n,.int .i64 (n+1)] (by omega) (by omega) (Nat.zero_le _) (dA.o.up bL) rfl hnew (fun e=>by have:=(World.ownsRow.lt dA.o _ e).2;omega) (dD rs) (by intro u hu;simp at hu;rcases hu with rfl|rfl<;>rfl);refine hi.mono ?_;rintro e w4⟨v',rfl,ho4,hg4,hbl4⟩;have oK:=qH (hgA.andThen hg4 (fun j hj=>.inr hj));have lI:=qS (dX w4 v' (bY rs n)) (by
     have:=ho4;rw[iC,iD,show[Value.int .i64 n,Value.int .i64 (n+1)]=rgCells [(n,n+1)]from rfl,←aS,←aS,←jD.o]at this;unfold dX;have hl5:(bY rs n).length=rs.length+1:=by rw[jD.o];simp;omega
     rw[hl5];exact this);have jP:=qS (v'.ownBlock=(Value.slice (some ⟨g,0,none⟩) rs.length c).ownBlock∨ ∃k,v'.ownBlock=some k∧w2.heap.size≤k) (hbl4.imp id (fun⟨k,h1,h2⟩=>⟨k,h1,by omega⟩));clear hi ho4 hg4 hbl4 bL hnew hszA hgA;clear y0 y1 yf0 yf1;have hmid:=mR.o.mid s (.slice (some ⟨g,0,none⟩) rs.length c) BF.o yo.o oK.o;have BJ:=qH hmid.1;have hcm5:=hmid.2;clear hmid;go_wp2_with(at_mapUpdate;refine aX rfl (.tmp 110) (.tmp 111) (.tmp 112) 148 151 rfl Tryz.underlying148 bm (m.map fun p=>(p.1,V p.1)) rfl BJ.o (by unfold maxLen;simp;omega) s rfl (by unfold maxLen;omega) _ rfl ?_;intro w5 hm5 hg5);go_wp2;go_ret;have hst:=mR.o.stored s (.slice (some ⟨g,0,none⟩) rs.length c) _ (bY rs n) BF.o yo.o oK.o lI.o jP.o (fun e=>by
     have hne:=je rs pJ.o Q9.o;rcases lI.o.2 with⟨_,h0⟩|⟨g0,_,_,h0,_⟩;·exact hne (List.eq_nil_of_length_eq_zero h0)
     ·rw[h0]at e;cases e) hm5 hg5 (by have:=mQ.o;rw[vI.o]at this;exact this);refine⟨_,_,rfl,by rw[vI.o];exact hst.1,(ah.of_below (F:=G) hbw).trans hst.2 (fun _ _ h=>h),fun b hb=>?_⟩;rcases hb with⟨hb,_⟩|⟨hb,_⟩;·exact .inl hb
    ·right;omega
 ·have hL:0<eX rs n:=by omega
  by_cases hx:(rs.getD (eX rs n-1) (0,0)).2=n
  ·skip;by_cases hR:eX rs n=rs.length
   ·skip;have kC:=qS (kJ rs n=true) (by unfold kJ;simp only[hx];simp[hL]);have nu:=qS (jT rs n=false) (by unfold jT;simp[hR]);have jD:=qS (bY rs n=rs.set (eX rs n-1) ((rs.getD (eX rs n-1) (0,0)).1,n+1)) (by unfold bY;rw[kC.o,nu.o];rfl);clear kC nu He;generalize hpk:eX rs n=k at*;clear hpk;obtain⟨g,cc,cur,lJ,hgc,hlc,hcm,hcs,htk⟩:=dA.o.form (by omega);obtain⟨rfl,rfl⟩:A=some ⟨g,0,none⟩∧c=cc:=by injection lJ with e1 _ e3;exact⟨e1,e3⟩
    clear lJ;have UI:=qH hgc;have nz:=qH hcs;have df:=qH htk;clear hgc hcs htk;have hk1:k-1<rs.length:=by omega
    have hgx:rs.getD (k-1) (0,0)=rs[k-1]:=by simp[List.getD,List.getElem?_eq_getElem hk1]
    rw[hgx]at hx;try rw[hgx]at jD
    obtain⟨x0,x1,xf0,xf1⟩:=dA.o.cell (k-1) hk1;have BG:=qH (fun t=>dB rs (k-1) hk1 t);have hea1:=pJ.o.each rs[k-1] (List.getElem_mem hk1);clear hgx;generalize rs[k-1]=rx at*;obtain⟨xa,xb⟩:=rx;simp only at x0 x1 hx BG hea1 jD;have ek:(k:Int)-1=((k-1:Nat):Int):=by omega
    have k1:(0:Int)<k:=by omega
    have k2:((k-1:Nat):Int)<rs.length:=by omega
    have bx:(xb==n)=true:=by simpa using hx
    have k3: ¬(k:Int)<rs.length:=by omega
    clear hx hR;have pK:=qH (World.ownsRow.stored dA.o ((k-1)*2+1) (.int .i64 (n+1)));have oK:=qH pK.o.2;have lI:=qS (dX (w2.setCell ⟨g,(k-1)*2+1,none⟩ (.int .i64 (n+1))) (.slice (some ⟨g,0,none⟩) rs.length c) (bY rs n)) (by have h1:=pK.o.1;rw[BG.o (n+1)]at h1;rw[jD.o];unfold dX;rw[List.length_set];exact h1);obtain⟨v',hv'⟩: ∃v',v'=Value.slice (some ⟨g,0,none⟩) rs.length c:=⟨_,rfl⟩;have ZU:=qH hv';clear hv';have hmid:=mR.o.mid s (.slice (some ⟨g,0,none⟩) rs.length c) BF.o yo.o oK.o;have BJ:=qH hmid.1;have hcm5:=hmid.2;clear hmid;go_wp2_with(at_mapUpdate;refine aX rfl (.tmp 110) (.tmp 111) (.tmp 112) 148 151 rfl Tryz.underlying148 bm (m.map fun p=>(p.1,V p.1)) rfl BJ.o (by unfold maxLen;simp;omega) s rfl (by unfold maxLen;omega) _ rfl ?_;intro w5 hm5 hg5);go_wp2;go_ret;have hst:=mR.o.stored s (.slice (some ⟨g,0,none⟩) rs.length c) _ (bY rs n) BF.o yo.o oK.o lI.o (.inl rfl) (fun e=>by
     have hne:=je rs pJ.o Q9.o;rcases lI.o.2 with⟨_,h0⟩|⟨g0,_,_,h0,_⟩;·exact hne (List.eq_nil_of_length_eq_zero h0)
     ·rw[h0]at e;cases e) hm5 hg5 (by have:=mQ.o;rw[vI.o]at this;exact this);refine⟨_,_,rfl,by rw[vI.o];exact hst.1,(ah.of_below (F:=G) hbw).trans hst.2 (fun _ _ h=>h),fun b hb=>?_⟩;rcases hb with⟨hb,_⟩|⟨hb,_⟩;·exact .inl hb
    ·right;omega
   ·have hR:eX rs n<rs.length:=by omega
    by_cases hy:(rs.getD (eX rs n) (0,0)).1=n+1
    ·skip;have kC:=qS (kJ rs n=true) (by unfold kJ;simp only[hx];simp[hL]);have nu:=qS (jT rs n=true) (by unfold jT;simp only[hy];simp[hR]);have jD:=qS (bY rs n=(rs.set (eX rs n-1) ((rs.getD (eX rs n-1) (0,0)).1,(rs.getD (eX rs n) (0,0)).2)).take (eX rs n)++(rs.set (eX rs n-1) ((rs.getD (eX rs n-1) (0,0)).1,(rs.getD (eX rs n) (0,0)).2)).drop (eX rs n+1)) (by unfold bY;rw[kC.o,nu.o];rfl);clear kC nu He;generalize hpk:eX rs n=k at*;clear hpk;obtain⟨g,cc,cur,lJ,hgc,hlc,hcm,hcs,htk⟩:=dA.o.form (by omega);obtain⟨rfl,rfl⟩:A=some ⟨g,0,none⟩∧c=cc:=by injection lJ with e1 _ e3;exact⟨e1,e3⟩
     clear lJ;have UI:=qH hgc;have nz:=qH hcs;have df:=qH htk;clear hgc hcs htk;have hk1:k-1<rs.length:=by omega
     have hgx:rs.getD (k-1) (0,0)=rs[k-1]:=by simp[List.getD,List.getElem?_eq_getElem hk1]
     rw[hgx]at hx;try rw[hgx]at jD
     obtain⟨x0,x1,xf0,xf1⟩:=dA.o.cell (k-1) hk1;have BG:=qH (fun t=>dB rs (k-1) hk1 t);have hea1:=pJ.o.each rs[k-1] (List.getElem_mem hk1);clear hgx;generalize rs[k-1]=rx at*;obtain⟨xa,xb⟩:=rx;simp only at x0 x1 hx BG hea1 jD;have ek:(k:Int)-1=((k-1:Nat):Int):=by omega
     have k1:(0:Int)<k:=by omega
     have k2:((k-1:Nat):Int)<rs.length:=by omega
     have bx:(xb==n)=true:=by simpa using hx
     have xD:rs.getD k (0,0)=rs[k]:=by simp[List.getD,List.getElem?_eq_getElem hR]
     rw[xD]at hy;try rw[xD]at jD
     obtain⟨y0,y1,yf0,yf1⟩:=dA.o.cell k hR;have K9:=qH (fun t=>eO rs k hR t);have hea2:=pJ.o.each rs[k] (List.getElem_mem hR);clear xD;generalize rs[k]=ry at*;obtain⟨ya,yb⟩:=ry;simp only at y0 y1 hy K9 hea2 jD;have k3:(k:Int)<rs.length:=by omega
     have Wy:(ya==n+1)=true:=by simpa using hy
     clear hx hy;have pK:=qH (World.ownsRow.stored dA.o ((k-1)*2+1) (.int .i64 yb));have Jb:=qS (dX (w2.setCell ⟨g,(k-1)*2+1,none⟩ (.int .i64 yb)) (.slice (some ⟨g,0,none⟩) rs.length c) (rs.set (k-1) (xa,yb))) (by have h1:=pK.o.1;rw[BG.o yb]at h1;unfold dX;rw[List.length_set];exact h1);go_wp2_with fail;obtain⟨g',cc,cur',lJ,VX,Zb,hcm',hcs',Tt⟩:=Jb.o.form (by rw[List.length_set];omega);obtain⟨rfl,rfl⟩:g=g'∧c=cc:=by injection lJ with e1 _ e3;injection e1 with e1;injection e1 with e1;exact⟨e1,e3⟩
     clear lJ;have hl4:(rs.set (k-1) (xa,yb)).length=rs.length:=List.length_set;have hd:=NC (w2.setCell ⟨_,(k-1)*2+1,none⟩ (.int .i64 yb)) 0 _ _ rs.length k cur' (rgCells (rs.set (k-1) (xa,yb))) hR (by omega) hcm' (by omega) (Nat.zero_le _) VX hcs' (by rw[hl4]at Tt;exact Tt) (by rw[nL,hl4]) (dD _);refine hd.mono ?_;rintro e w4⟨v',rfl,ho4,hg4,hbl4⟩;have oK:=qH (pK.o.2.andThen hg4 (fun j hj=>.inr hj));have lI:=qS (dX w4 v' (bY rs n)) (by
      have:=ho4;rw[iC,iD,←aS,←jD.o]at this;unfold dX;have hl5:(bY rs n).length=rs.length-1:=by rw[jD.o];simp;omega
      rw[hl5];exact this);have jP:=qS (v'.ownBlock=(Value.slice (some ⟨g,0,none⟩) rs.length c).ownBlock∨ ∃k,v'.ownBlock=some k∧w2.heap.size≤k) (.inl hbl4);clear hd ho4 hg4 hbl4 VX Zb hcm' hcs' Tt hl4 x0 x1 xf0 xf1 y0 y1 yf0 yf1;have hmid:=mR.o.mid s (.slice (some ⟨g,0,none⟩) rs.length c) BF.o yo.o oK.o;have BJ:=qH hmid.1;have hcm5:=hmid.2;clear hmid;go_wp2_with(at_mapUpdate;refine aX rfl (.tmp 110) (.tmp 111) (.tmp 112) 148 151 rfl Tryz.underlying148 bm (m.map fun p=>(p.1,V p.1)) rfl BJ.o (by unfold maxLen;simp;omega) s rfl (by unfold maxLen;omega) _ rfl ?_;intro w5 hm5 hg5);go_wp2;go_ret;have hst:=mR.o.stored s (.slice (some ⟨g,0,none⟩) rs.length c) _ (bY rs n) BF.o yo.o oK.o lI.o jP.o (fun e=>by
      have hne:=je rs pJ.o Q9.o;rcases lI.o.2 with⟨_,h0⟩|⟨g0,_,_,h0,_⟩;·exact hne (List.eq_nil_of_length_eq_zero h0)
      ·rw[h0]at e;cases e) hm5 hg5 (by have:=mQ.o;rw[vI.o]at this;exact this);refine⟨_,_,rfl,by rw[vI.o];exact hst.1,(ah.of_below (F:=G) hbw).trans hst.2 (fun _ _ h=>h),fun b hb=>?_⟩;rcases hb with⟨hb,_⟩|⟨hb,_⟩;·exact .inl hb
     ·right;omega
    ·skip;have kC:=qS (kJ rs n=true) (by unfold kJ;simp only[hx];simp[hL]);have nu:=qS (jT rs n=false) (by unfold jT;simp;intro _;exact fun h=>hy (by simpa using h));have jD:=qS (bY rs n=rs.set (eX rs n-1) ((rs.getD (eX rs n-1) (0,0)).1,n+1)) (by unfold bY;rw[kC.o,nu.o];rfl);clear kC nu He;generalize hpk:eX rs n=k at*;clear hpk;obtain⟨g,cc,cur,lJ,hgc,hlc,hcm,hcs,htk⟩:=dA.o.form (by omega);obtain⟨rfl,rfl⟩:A=some ⟨g,0,none⟩∧c=cc:=by injection lJ with e1 _ e3;exact⟨e1,e3⟩
     clear lJ;have UI:=qH hgc;have nz:=qH hcs;have df:=qH htk;clear hgc hcs htk;have hk1:k-1<rs.length:=by omega
     have hgx:rs.getD (k-1) (0,0)=rs[k-1]:=by simp[List.getD,List.getElem?_eq_getElem hk1]
     rw[hgx]at hx;try rw[hgx]at jD
     obtain⟨x0,x1,xf0,xf1⟩:=dA.o.cell (k-1) hk1;have BG:=qH (fun t=>dB rs (k-1) hk1 t);have hea1:=pJ.o.each rs[k-1] (List.getElem_mem hk1);clear hgx;generalize rs[k-1]=rx at*;obtain⟨xa,xb⟩:=rx;simp only at x0 x1 hx BG hea1 jD;have ek:(k:Int)-1=((k-1:Nat):Int):=by omega
     have k1:(0:Int)<k:=by omega
     have k2:((k-1:Nat):Int)<rs.length:=by omega
     have bx:(xb==n)=true:=by simpa using hx
     have xD:rs.getD k (0,0)=rs[k]:=by simp[List.getD,List.getElem?_eq_getElem hR]
     rw[xD]at hy;try rw[xD]at jD
     obtain⟨y0,y1,yf0,yf1⟩:=dA.o.cell k hR;have K9:=qH (fun t=>eO rs k hR t);have hea2:=pJ.o.each rs[k] (List.getElem_mem hR);clear xD;generalize rs[k]=ry at*;obtain⟨ya,yb⟩:=ry;simp only at y0 y1 hy K9 hea2 jD;have k3:(k:Int)<rs.length:=by omega
     have Wy:(ya==n+1)=false:=by simpa using hy
     clear hx hy;have pK:=qH (World.ownsRow.stored dA.o ((k-1)*2+1) (.int .i64 (n+1)));have oK:=qH pK.o.2;have lI:=qS (dX (w2.setCell ⟨g,(k-1)*2+1,none⟩ (.int .i64 (n+1))) (.slice (some ⟨g,0,none⟩) rs.length c) (bY rs n)) (by have h1:=pK.o.1;rw[BG.o (n+1)]at h1;rw[jD.o];unfold dX;rw[List.length_set];exact h1);obtain⟨v',hv'⟩: ∃v',v'=Value.slice (some ⟨g,0,none⟩) rs.length c:=⟨_,rfl⟩;have ZU:=qH hv';clear hv';have hmid:=mR.o.mid s (.slice (some ⟨g,0,none⟩) rs.length c) BF.o yo.o oK.o;have BJ:=qH hmid.1;have hcm5:=hmid.2;clear hmid;go_wp2_with(at_mapUpdate;refine aX rfl (.tmp 110) (.tmp 111) (.tmp 112) 148 151 rfl Tryz.underlying148 bm (m.map fun p=>(p.1,V p.1)) rfl BJ.o (by unfold maxLen;simp;omega) s rfl (by unfold maxLen;omega) _ rfl ?_;intro w5 hm5 hg5);go_wp2;go_ret;have hst:=mR.o.stored s (.slice (some ⟨g,0,none⟩) rs.length c) _ (bY rs n) BF.o yo.o oK.o lI.o (.inl rfl) (fun e=>by
      have hne:=je rs pJ.o Q9.o;rcases lI.o.2 with⟨_,h0⟩|⟨g0,_,_,h0,_⟩;·exact hne (List.eq_nil_of_length_eq_zero h0)
      ·rw[h0]at e;cases e) hm5 hg5 (by have:=mQ.o;rw[vI.o]at this;exact this);refine⟨_,_,rfl,by rw[vI.o];exact hst.1,(ah.of_below (F:=G) hbw).trans hst.2 (fun _ _ h=>h),fun b hb=>?_⟩;rcases hb with⟨hb,_⟩|⟨hb,_⟩;·exact .inl hb
     ·right;omega
  ·skip;by_cases hR:eX rs n=rs.length
   ·skip;have kC:=qS (kJ rs n=false) (by unfold kJ;simp;intro _;exact fun h=>hx (by simpa using h));have nu:=qS (jT rs n=false) (by unfold jT;simp[hR]);have jD:=qS (bY rs n=rs.take (eX rs n)++[(n,n+1)]++rs.drop (eX rs n)) (by unfold bY;rw[kC.o,nu.o];rfl);clear kC nu He;generalize hpk:eX rs n=k at*;clear hpk;obtain⟨g,cc,cur,lJ,hgc,hlc,hcm,hcs,htk⟩:=dA.o.form (by omega);obtain⟨rfl,rfl⟩:A=some ⟨g,0,none⟩∧c=cc:=by injection lJ with e1 _ e3;exact⟨e1,e3⟩
    clear lJ;have UI:=qH hgc;have nz:=qH hcs;have df:=qH htk;clear hgc hcs htk;have hk1:k-1<rs.length:=by omega
    have hgx:rs.getD (k-1) (0,0)=rs[k-1]:=by simp[List.getD,List.getElem?_eq_getElem hk1]
    rw[hgx]at hx;try rw[hgx]at jD
    obtain⟨x0,x1,xf0,xf1⟩:=dA.o.cell (k-1) hk1;have BG:=qH (fun t=>dB rs (k-1) hk1 t);have hea1:=pJ.o.each rs[k-1] (List.getElem_mem hk1);clear hgx;generalize rs[k-1]=rx at*;obtain⟨xa,xb⟩:=rx;simp only at x0 x1 hx BG hea1 jD;have ek:(k:Int)-1=((k-1:Nat):Int):=by omega
    have k1:(0:Int)<k:=by omega
    have k2:((k-1:Nat):Int)<rs.length:=by omega
    have bx:(xb==n)=false:=by simpa using hx
    have k3: ¬(k:Int)<rs.length:=by omega
    clear hx hR;go_wp2_with fail;have bL:Below w2.heap.size w2 (w2.alloc (.cells #[.int .i64 n,.int .i64 (n+1)] 153)):=(Below.refl _ _).alloc (Nat.le_refl _) _;have hnew:(w2.alloc (.cells #[.int .i64 n,.int .i64 (n+1)] 153)).heap[w2.heap.size]?=some (.cells [Value.int .i64 n,Value.int .i64 (n+1)].toArray 153 (0,0)):=heap_alloc_new w2 _;have hszA:(w2.alloc (.cells #[.int .i64 n,.int .i64 (n+1)] 153)).heap.size=w2.heap.size+1:=by simp
    have hgA:w2.grownBy (w2.alloc (.cells #[.int .i64 n,.int .i64 (n+1)] 153)) (Value.slice (some ⟨g,0,none⟩) rs.length c).ownBlock:=World.grownBy_alloc w2 _ _;generalize(w2.alloc (.cells #[.int .i64 n,.int .i64 (n+1)] 153))=w3 at*;have hi:=rE w3 0 rs.length k w2.heap.size _ (rgCells rs) [.int .i64 n,.int .i64 (n+1)] (by omega) (by omega) (Nat.zero_le _) (dA.o.up bL) rfl hnew (fun e=>by have:=(World.ownsRow.lt dA.o _ e).2;omega) (dD rs) (by intro u hu;simp at hu;rcases hu with rfl|rfl<;>rfl);refine hi.mono ?_;rintro e w4⟨v',rfl,ho4,hg4,hbl4⟩;have oK:=qH (hgA.andThen hg4 (fun j hj=>.inr hj));have lI:=qS (dX w4 v' (bY rs n)) (by
     have:=ho4;rw[iC,iD,show[Value.int .i64 n,Value.int .i64 (n+1)]=rgCells [(n,n+1)]from rfl,←aS,←aS,←jD.o]at this;unfold dX;have hl5:(bY rs n).length=rs.length+1:=by rw[jD.o];simp;omega
     rw[hl5];exact this);have jP:=qS (v'.ownBlock=(Value.slice (some ⟨g,0,none⟩) rs.length c).ownBlock∨ ∃k,v'.ownBlock=some k∧w2.heap.size≤k) (hbl4.imp id (fun⟨k,h1,h2⟩=>⟨k,h1,by omega⟩));clear hi ho4 hg4 hbl4 bL hnew hszA hgA;clear x0 x1 xf0 xf1;have hmid:=mR.o.mid s (.slice (some ⟨g,0,none⟩) rs.length c) BF.o yo.o oK.o;have BJ:=qH hmid.1;have hcm5:=hmid.2;clear hmid;go_wp2_with(at_mapUpdate;refine aX rfl (.tmp 110) (.tmp 111) (.tmp 112) 148 151 rfl Tryz.underlying148 bm (m.map fun p=>(p.1,V p.1)) rfl BJ.o (by unfold maxLen;simp;omega) s rfl (by unfold maxLen;omega) _ rfl ?_;intro w5 hm5 hg5);go_wp2;go_ret;have hst:=mR.o.stored s (.slice (some ⟨g,0,none⟩) rs.length c) _ (bY rs n) BF.o yo.o oK.o lI.o jP.o (fun e=>by
     have hne:=je rs pJ.o Q9.o;rcases lI.o.2 with⟨_,h0⟩|⟨g0,_,_,h0,_⟩;·exact hne (List.eq_nil_of_length_eq_zero h0)
     ·rw[h0]at e;cases e) hm5 hg5 (by have:=mQ.o;rw[vI.o]at this;exact this);refine⟨_,_,rfl,by rw[vI.o];exact hst.1,(ah.of_below (F:=G) hbw).trans hst.2 (fun _ _ h=>h),fun b hb=>?_⟩;rcases hb with⟨hb,_⟩|⟨hb,_⟩;·exact .inl hb
    ·right;omega
   ·have hR:eX rs n<rs.length:=by omega
    by_cases hy:(rs.getD (eX rs n) (0,0)).1=n+1
    ·skip;have kC:=qS (kJ rs n=false) (by unfold kJ;simp;intro _;exact fun h=>hx (by simpa using h));have nu:=qS (jT rs n=true) (by unfold jT;simp only[hy];simp[hR]);have jD:=qS (bY rs n=rs.set (eX rs n) (n,(rs.getD (eX rs n) (0,0)).2)) (by unfold bY;rw[kC.o,nu.o];rfl);clear kC nu He;generalize hpk:eX rs n=k at*;clear hpk;obtain⟨g,cc,cur,lJ,hgc,hlc,hcm,hcs,htk⟩:=dA.o.form (by omega);obtain⟨rfl,rfl⟩:A=some ⟨g,0,none⟩∧c=cc:=by injection lJ with e1 _ e3;exact⟨e1,e3⟩
     clear lJ;have UI:=qH hgc;have nz:=qH hcs;have df:=qH htk;clear hgc hcs htk;have hk1:k-1<rs.length:=by omega
     have hgx:rs.getD (k-1) (0,0)=rs[k-1]:=by simp[List.getD,List.getElem?_eq_getElem hk1]
     rw[hgx]at hx;try rw[hgx]at jD
     obtain⟨x0,x1,xf0,xf1⟩:=dA.o.cell (k-1) hk1;have BG:=qH (fun t=>dB rs (k-1) hk1 t);have hea1:=pJ.o.each rs[k-1] (List.getElem_mem hk1);clear hgx;generalize rs[k-1]=rx at*;obtain⟨xa,xb⟩:=rx;simp only at x0 x1 hx BG hea1 jD;have ek:(k:Int)-1=((k-1:Nat):Int):=by omega
     have k1:(0:Int)<k:=by omega
     have k2:((k-1:Nat):Int)<rs.length:=by omega
     have bx:(xb==n)=false:=by simpa using hx
     have xD:rs.getD k (0,0)=rs[k]:=by simp[List.getD,List.getElem?_eq_getElem hR]
     rw[xD]at hy;try rw[xD]at jD
     obtain⟨y0,y1,yf0,yf1⟩:=dA.o.cell k hR;have K9:=qH (fun t=>eO rs k hR t);have hea2:=pJ.o.each rs[k] (List.getElem_mem hR);clear xD;generalize rs[k]=ry at*;obtain⟨ya,yb⟩:=ry;simp only at y0 y1 hy K9 hea2 jD;have k3:(k:Int)<rs.length:=by omega
     have Wy:(ya==n+1)=true:=by simpa using hy
     clear hx hy;have pK:=qH (World.ownsRow.stored dA.o (k*2) (.int .i64 (n)));have oK:=qH pK.o.2;have lI:=qS (dX (w2.setCell ⟨g,k*2,none⟩ (.int .i64 (n))) (.slice (some ⟨g,0,none⟩) rs.length c) (bY rs n)) (by have h1:=pK.o.1;rw[K9.o (n)]at h1;rw[jD.o];unfold dX;rw[List.length_set];exact h1);obtain⟨v',hv'⟩: ∃v',v'=Value.slice (some ⟨g,0,none⟩) rs.length c:=⟨_,rfl⟩;have ZU:=qH hv';clear hv';have hmid:=mR.o.mid s (.slice (some ⟨g,0,none⟩) rs.length c) BF.o yo.o oK.o;have BJ:=qH hmid.1;have hcm5:=hmid.2;clear hmid;go_wp2_with(at_mapUpdate;refine aX rfl (.tmp 110) (.tmp 111) (.tmp 112) 148 151 rfl Tryz.underlying148 bm (m.map fun p=>(p.1,V p.1)) rfl BJ.o (by unfold maxLen;simp;omega) s rfl (by unfold maxLen;omega) _ rfl ?_;intro w5 hm5 hg5);go_wp2;go_ret;have hst:=mR.o.stored s (.slice (some ⟨g,0,none⟩) rs.length c) _ (bY rs n) BF.o yo.o oK.o lI.o (.inl rfl) (fun e=>by
      have hne:=je rs pJ.o Q9.o;rcases lI.o.2 with⟨_,h0⟩|⟨g0,_,_,h0,_⟩;·exact hne (List.eq_nil_of_length_eq_zero h0)
      ·rw[h0]at e;cases e) hm5 hg5 (by have:=mQ.o;rw[vI.o]at this;exact this);refine⟨_,_,rfl,by rw[vI.o];exact hst.1,(ah.of_below (F:=G) hbw).trans hst.2 (fun _ _ h=>h),fun b hb=>?_⟩;rcases hb with⟨hb,_⟩|⟨hb,_⟩;·exact .inl hb
     ·right;omega
    ·skip;have kC:=qS (kJ rs n=false) (by unfold kJ;simp;intro _;exact fun h=>hx (by simpa using h));have nu:=qS (jT rs n=false) (by unfold jT;simp;intro _;exact fun h=>hy (by simpa using h));have jD:=qS (bY rs n=rs.take (eX rs n)++[(n,n+1)]++rs.drop (eX rs n)) (by unfold bY;rw[kC.o,nu.o];rfl);clear kC nu He;generalize hpk:eX rs n=k at*;clear hpk;obtain⟨g,cc,cur,lJ,hgc,hlc,hcm,hcs,htk⟩:=dA.o.form (by omega);obtain⟨rfl,rfl⟩:A=some ⟨g,0,none⟩∧c=cc:=by injection lJ with e1 _ e3;exact⟨e1,e3⟩
     clear lJ;have UI:=qH hgc;have nz:=qH hcs;have df:=qH htk;clear hgc hcs htk;have hk1:k-1<rs.length:=by omega
     have hgx:rs.getD (k-1) (0,0)=rs[k-1]:=by simp[List.getD,List.getElem?_eq_getElem hk1]
     rw[hgx]at hx;try rw[hgx]at jD
     obtain⟨x0,x1,xf0,xf1⟩:=dA.o.cell (k-1) hk1;have BG:=qH (fun t=>dB rs (k-1) hk1 t);have hea1:=pJ.o.each rs[k-1] (List.getElem_mem hk1);clear hgx;generalize rs[k-1]=rx at*;obtain⟨xa,xb⟩:=rx;simp only at x0 x1 hx BG hea1 jD;have ek:(k:Int)-1=((k-1:Nat):Int):=by omega
     have k1:(0:Int)<k:=by omega
     have k2:((k-1:Nat):Int)<rs.length:=by omega
     have bx:(xb==n)=false:=by simpa using hx
     have xD:rs.getD k (0,0)=rs[k]:=by simp[List.getD,List.getElem?_eq_getElem hR]
     rw[xD]at hy;try rw[xD]at jD
     obtain⟨y0,y1,yf0,yf1⟩:=dA.o.cell k hR;have K9:=qH (fun t=>eO rs k hR t);have hea2:=pJ.o.each rs[k] (List.getElem_mem hR);clear xD;generalize rs[k]=ry at*;obtain⟨ya,yb⟩:=ry;simp only at y0 y1 hy K9 hea2 jD;have k3:(k:Int)<rs.length:=by omega
     have Wy:(ya==n+1)=false:=by simpa using hy
     clear hx hy;go_wp2_with fail;have bL:Below w2.heap.size w2 (w2.alloc (.cells #[.int .i64 n,.int .i64 (n+1)] 153)):=(Below.refl _ _).alloc (Nat.le_refl _) _;have hnew:(w2.alloc (.cells #[.int .i64 n,.int .i64 (n+1)] 153)).heap[w2.heap.size]?=some (.cells [Value.int .i64 n,Value.int .i64 (n+1)].toArray 153 (0,0)):=heap_alloc_new w2 _;have hszA:(w2.alloc (.cells #[.int .i64 n,.int .i64 (n+1)] 153)).heap.size=w2.heap.size+1:=by simp
     have hgA:w2.grownBy (w2.alloc (.cells #[.int .i64 n,.int .i64 (n+1)] 153)) (Value.slice (some ⟨g,0,none⟩) rs.length c).ownBlock:=World.grownBy_alloc w2 _ _;generalize(w2.alloc (.cells #[.int .i64 n,.int .i64 (n+1)] 153))=w3 at*;have hi:=rE w3 0 rs.length k w2.heap.size _ (rgCells rs) [.int .i64 n,.int .i64 (n+1)] (by omega) (by omega) (Nat.zero_le _) (dA.o.up bL) rfl hnew (fun e=>by have:=(World.ownsRow.lt dA.o _ e).2;omega) (dD rs) (by intro u hu;simp at hu;rcases hu with rfl|rfl<;>rfl);refine hi.mono ?_;rintro e w4⟨v',rfl,ho4,hg4,hbl4⟩;have oK:=qH (hgA.andThen hg4 (fun j hj=>.inr hj));have lI:=qS (dX w4 v' (bY rs n)) (by
      have:=ho4;rw[iC,iD,show[Value.int .i64 n,Value.int .i64 (n+1)]=rgCells [(n,n+1)]from rfl,←aS,←aS,←jD.o]at this;unfold dX;have hl5:(bY rs n).length=rs.length+1:=by rw[jD.o];simp;omega
      rw[hl5];exact this);have jP:=qS (v'.ownBlock=(Value.slice (some ⟨g,0,none⟩) rs.length c).ownBlock∨ ∃k,v'.ownBlock=some k∧w2.heap.size≤k) (hbl4.imp id (fun⟨k,h1,h2⟩=>⟨k,h1,by omega⟩));clear hi ho4 hg4 hbl4 bL hnew hszA hgA;clear x0 x1 xf0 xf1;clear y0 y1 yf0 yf1;have hmid:=mR.o.mid s (.slice (some ⟨g,0,none⟩) rs.length c) BF.o yo.o oK.o;have BJ:=qH hmid.1;have hcm5:=hmid.2;clear hmid;go_wp2_with(at_mapUpdate;refine aX rfl (.tmp 110) (.tmp 111) (.tmp 112) 148 151 rfl Tryz.underlying148 bm (m.map fun p=>(p.1,V p.1)) rfl BJ.o (by unfold maxLen;simp;omega) s rfl (by unfold maxLen;omega) _ rfl ?_;intro w5 hm5 hg5);go_wp2;go_ret;have hst:=mR.o.stored s (.slice (some ⟨g,0,none⟩) rs.length c) _ (bY rs n) BF.o yo.o oK.o lI.o jP.o (fun e=>by
      have hne:=je rs pJ.o Q9.o;rcases lI.o.2 with⟨_,h0⟩|⟨g0,_,_,h0,_⟩;·exact hne (List.eq_nil_of_length_eq_zero h0)
      ·rw[h0]at e;cases e) hm5 hg5 (by have:=mQ.o;rw[vI.o]at this;exact this);refine⟨_,_,rfl,by rw[vI.o];exact hst.1,(ah.of_below (F:=G) hbw).trans hst.2 (fun _ _ h=>h),fun b hb=>?_⟩;rcases hb with⟨hb,_⟩|⟨hb,_⟩;·exact .inl hb
     ·right;omega
end Go.Proofs.YtladegonienapaaGreatDoor
