/-
  Layer 7: Put.
-/
import Derived.Test.YtladegonienapaaGreatDoorRHad
import Derived.Test.YtladegonienapaaGreatDoorRIns
set_option maxRecDepth 100000
set_option maxHeartbeats 16000000
namespace Go.Proofs.YtladegonienapaaGreatDoor
open Go.RowKit Go.Maps Go.Sort
def Iy(w:World)(G:Nat→Prop)(bs bm:Nat)(m:dV)(ok:Bool)(e:Ending)(w':World):Prop:= ∃G' V',e=.returned (.bool ok)∧aX w' G' bs bm m V'∧ai G w w'∧ ∀b,G' b→G b∨w.heap.size≤b
theorem aX.mid{w1 w2:World}{G:Nat→Prop}{bs bm:Nat}{m:dV}{V:List UInt8→Value}(h:aX w1 G bs bm m V)(s:List UInt8)(v:Value)(hv0:aA m s=none→v=.slice none 0 0)(hv1: ∀rs,aA m s=some rs→v=V s)(hg:w1.grownBy w2 v.ownBlock):bW w2 bm (m.map fun p=>(p.1,V p.1))∧w2.cell? ⟨bs,0,none⟩=some (.map (some bm)):=by
 obtain⟨es,cl,hmap⟩:=h.map.isMap;have hrow: ∀b,v.ownBlock=some b→ ∃cs,w1.heap[b]?=some (.cells cs 153 (0,0)):=fun b hb=>by cases hgs:aA m s with|none=>rw[hv0 hgs]at hb;cases hb|some rs=>rw[hv1 rs hgs]at hb;exact(h.own _ (ah hgs)).typ hb
 refine⟨h.map.block (hg.block bm (h.lt _ h.gm) (fun e=>?_)),?_⟩;·obtain⟨cs,hc⟩:=hrow bm e.symm;rw[hmap]at hc;cases hc
 ·rw[World.cell?_of_block (w:=w1) (a:=⟨bs,0,none⟩) (hg.block bs (h.lt _ h.gs) (fun e=>?_))];·exact h.cell
  ·obtain⟨cs,hc⟩:=hrow bs e.symm;rw[h.blk]at hc;injection hc with hc;injection hc with _ ht;exact absurd ht (by decide)
theorem cZ.form{w:World}{v:Value}{rs:Rg}(h:cZ w v rs)(h0:0<rs.length): ∃g c cur,v=.slice (some ⟨g,0,none⟩) rs.length c∧w.heap[g]?=some (.cells cur 153 (0,0))∧rs.length≤c∧c≤maxLen∧cur.size=c*2∧cur.toList.take (rs.length*2)=rgCells rs:=by
 rcases h.2 with⟨_,h'⟩|⟨g,c,cur,e,_,r⟩;·omega
 ·exact⟨g,c,cur,e,r⟩
theorem FW(w:World)(G:Nat→Prop)(bs bm:Nat)(m:dV)(V:List UInt8→Value)(h:aX w G bs bm m V)(s:List UInt8)(n:Int)(hlen:(aC m s).length≤100000)(wQ:m.length<1000000)(hp:qy m s n=true):Calls Tryz.prog 96 #[.pointer (some ⟨bs,0,none⟩),.string ⟨s.toArray⟩,.int .i64 n] w (Iy w G bs bm (rU m s n) true):=by
 have hok:=h.ok.put hp;have hp':=hp;unfold qy at hp';simp only[Bool.and_eq_true,decide_eq_true_eq,Bool.not_eq_true']at hp';obtain⟨⟨⟨p1,p2⟩,p3⟩,p4⟩:=hp';have hs24:s.length≤24:=by unfold ae at p1;simp at p1;omega
 have mD:=qH (h.ok.row s);have PK:=qH p1;have Xn:=qH p4;have HH:=qH h;have Ko:=qS (bS (aC m s) n=false) (p4);have tX:=qS (rU m s n=aR s (bD (aC m s) n) m) (rfl);have uJ:=qH hok;clear hok hp p1 p4;go_enter Tryz.func96,Tryz.ntmps96;go_wp2_with fail;refine(fF w s).mono ?_;rintro e w0⟨rfl,rfl⟩;rw[PK.o];have d1:decide (n<1)=false:=decide_eq_false (by omega);have d2:decide (1099511627776<n)=false:=decide_eq_false (by omega);go_wp2_with fail;refine(qY w G bs bm m V HH.o s (by omega) (by omega) n).mono ?_;rintro e w1⟨rfl,hb1⟩;rw[Xn.o];have qR:=qH (HH.o.up hb1);obtain⟨v,hl,hown,hv0,hv1⟩:=qR.o.look s (by omega);have hc1:=qR.o.cell;have xC:=qH hv0;have tV:=qH hv1;have BV:=qS (bD (aC m s) n=bD (aC m s) n) (rfl);generalize hrs:aC m s=rs at*;have Lh:=qH hrs;clear hrs hv0 hv1;obtain⟨A,c,rfl⟩:=ownsRow_form hown;have Fj:=qH hown;clear hown d1 d2;go_wp2_with fail;refine(vo w1 _ rs Fj.o mD.o (by omega) n).mono ?_;rintro e w2⟨rfl,hb2⟩;have ky:=qH (qR.o.up hb2);have dE:=qH (Fj.o.up hb2);have hbw:Below w.heap.size w w2:=hb1.trans (hb2.mono hb1.size);have hsz:=hbw.size;clear hl hc1 hb1 hb2;have hpl:=FX rs n;by_cases hL:dF rs n=0
 ·skip;by_cases hR:dF rs n=rs.length
  ·skip;have kr:=qS (iP rs n=false) (by unfold iP;simp[hL]);have kv:=qS (iA rs n=false) (by unfold iA;simp[hR]);have gQ:=qS (bD rs n=rs.take (dF rs n)++[(n,n+1)]++rs.drop (dF rs n)) (by unfold bD;rw[kr.o,kv.o];rfl);clear kr kv BV;generalize hpk:dF rs n=k at*;clear hpk;have k1: ¬(0:Int)<k:=by omega
   have k3: ¬(k:Int)<rs.length:=by omega
   clear hL hR;go_wp2_with fail;have bQ:Below w2.heap.size w2 (w2.alloc (.cells #[.int .i64 n,.int .i64 (n+1)] 153)):=(Below.refl _ _).alloc (Nat.le_refl _) _;have hnew:(w2.alloc (.cells #[.int .i64 n,.int .i64 (n+1)] 153)).heap[w2.heap.size]?=some (.cells [Value.int .i64 n,Value.int .i64 (n+1)].toArray 153 (0,0)):=heap_alloc_new w2 _;have hszA:(w2.alloc (.cells #[.int .i64 n,.int .i64 (n+1)] 153)).heap.size=w2.heap.size+1:=by simp
   have hgA:w2.grownBy (w2.alloc (.cells #[.int .i64 n,.int .i64 (n+1)] 153)) (Value.slice A rs.length c).ownBlock:=World.grownBy_alloc w2 _ _;generalize(w2.alloc (.cells #[.int .i64 n,.int .i64 (n+1)] 153))=w3 at*;have hi:=nZ w3 0 rs.length k w2.heap.size _ (rgCells rs) [.int .i64 n,.int .i64 (n+1)] (by omega) (by omega) (Nat.zero_le _) (dE.o.up bQ) rfl hnew (fun e=>by have:=(World.ownsRow.lt dE.o _ e).2;omega) (bO rs) (by intro u hu;simp at hu;rcases hu with rfl|rfl<;>rfl);refine hi.mono ?_;rintro e w4⟨v',rfl,ho4,hg4,hbl4⟩;have nE:=qH (hgA.andThen hg4 (fun j hj=>.inr hj));have ko:=qS (cZ w4 v' (bD rs n)) (by
    have:=ho4;rw[fD,fE,show[Value.int .i64 n,Value.int .i64 (n+1)]=rgCells [(n,n+1)]from rfl,←aK,←aK,←gQ.o]at this;unfold cZ;have hl5:(bD rs n).length=rs.length+1:=by rw[gQ.o];simp;omega
    rw[hl5];exact this);have fA:=qS (v'.ownBlock=(Value.slice A rs.length c).ownBlock∨ ∃k,v'.ownBlock=some k∧w2.heap.size≤k) (hbl4.imp id (fun⟨k,h1,h2⟩=>⟨k,h1,by omega⟩));clear hi ho4 hg4 hbl4 bQ hnew hszA hgA;have hmid:=ky.o.mid s (.slice (A) rs.length c) xC.o tV.o nE.o;have xG:=qH hmid.1;have hcm5:=hmid.2;clear hmid;go_wp2_with(at_mapUpdate;refine aH rfl (.tmp 110) (.tmp 111) (.tmp 112) 148 151 rfl Tryz.underlying148 bm (m.map fun p=>(p.1,V p.1)) rfl xG.o (by unfold maxLen;simp;omega) s rfl (by unfold maxLen;omega) _ rfl ?_;intro w5 hm5 hg5);go_wp2;go_ret;have hst:=ky.o.stored s (.slice (A) rs.length c) _ (bD rs n) xC.o tV.o nE.o ko.o fA.o (fun e=>by
    have hne:=gq rs mD.o Ko.o;rcases ko.o.2 with⟨_,h0⟩|⟨g0,_,_,h0,_⟩;·exact hne (List.eq_nil_of_length_eq_zero h0)
    ·rw[h0]at e;cases e) hm5 hg5 (by have:=uJ.o;rw[tX.o]at this;exact this);refine⟨_,_,rfl,by rw[tX.o];exact hst.1,(ai.of_below (F:=G) hbw).trans hst.2 (fun _ _ h=>h),fun b hb=>?_⟩;rcases hb with⟨hb,_⟩|⟨hb,_⟩;·exact .inl hb
   ·right;omega
  ·have hR:dF rs n<rs.length:=by omega
   by_cases hy:(rs.getD (dF rs n) (0,0)).1=n+1
   ·skip;have kr:=qS (iP rs n=false) (by unfold iP;simp[hL]);have kv:=qS (iA rs n=true) (by unfold iA;simp only[hy];simp[hR]);have gQ:=qS (bD rs n=rs.set (dF rs n) (n,(rs.getD (dF rs n) (0,0)).2)) (by unfold bD;rw[kr.o,kv.o];rfl);clear kr kv BV;generalize hpk:dF rs n=k at*;clear hpk;obtain⟨g,cc,cur,lW,hgc,hlc,hcm,hcs,htk⟩:=dE.o.form (by omega);obtain⟨rfl,rfl⟩:A=some ⟨g,0,none⟩∧c=cc:=by injection lW with e1 _ e3;exact⟨e1,e3⟩
    clear lW;have Ni:=qH hgc;have kz:=qH hcs;have fH:=qH htk;clear hgc hcs htk;have k1: ¬(0:Int)<k:=by omega
    have sI:rs.getD k (0,0)=rs[k]:=by simp[List.getD,List.getElem?_eq_getElem hR]
    rw[sI]at hy;try rw[sI]at gQ
    obtain⟨y0,y1,yf0,yf1⟩:=dE.o.cell k hR;have BR:=qH (fun t=>dA rs k hR t);have hea2:=mD.o.each rs[k] (List.getElem_mem hR);clear sI;generalize rs[k]=ry at*;obtain⟨ya,yb⟩:=ry;simp only at y0 y1 hy BR hea2 gQ;have k3:(k:Int)<rs.length:=by omega
    have O5:(ya==n+1)=true:=by simpa using hy
    clear hy hL;have uK:=qH (World.ownsRow.stored dE.o (k*2) (.int .i64 (n)));have nE:=qH uK.o.2;have ko:=qS (cZ (w2.setCell ⟨g,k*2,none⟩ (.int .i64 (n))) (.slice (some ⟨g,0,none⟩) rs.length c) (bD rs n)) (by have h1:=uK.o.1;rw[BR.o (n)]at h1;rw[gQ.o];unfold cZ;rw[List.length_set];exact h1);obtain⟨v',hv'⟩: ∃v',v'=Value.slice (some ⟨g,0,none⟩) rs.length c:=⟨_,rfl⟩;have Sm:=qH hv';clear hv';have hmid:=ky.o.mid s (.slice (some ⟨g,0,none⟩) rs.length c) xC.o tV.o nE.o;have xG:=qH hmid.1;have hcm5:=hmid.2;clear hmid;go_wp2_with(at_mapUpdate;refine aH rfl (.tmp 110) (.tmp 111) (.tmp 112) 148 151 rfl Tryz.underlying148 bm (m.map fun p=>(p.1,V p.1)) rfl xG.o (by unfold maxLen;simp;omega) s rfl (by unfold maxLen;omega) _ rfl ?_;intro w5 hm5 hg5);go_wp2;go_ret;have hst:=ky.o.stored s (.slice (some ⟨g,0,none⟩) rs.length c) _ (bD rs n) xC.o tV.o nE.o ko.o (.inl rfl) (fun e=>by
     have hne:=gq rs mD.o Ko.o;rcases ko.o.2 with⟨_,h0⟩|⟨g0,_,_,h0,_⟩;·exact hne (List.eq_nil_of_length_eq_zero h0)
     ·rw[h0]at e;cases e) hm5 hg5 (by have:=uJ.o;rw[tX.o]at this;exact this);refine⟨_,_,rfl,by rw[tX.o];exact hst.1,(ai.of_below (F:=G) hbw).trans hst.2 (fun _ _ h=>h),fun b hb=>?_⟩;rcases hb with⟨hb,_⟩|⟨hb,_⟩;·exact .inl hb
    ·right;omega
   ·skip;have kr:=qS (iP rs n=false) (by unfold iP;simp[hL]);have kv:=qS (iA rs n=false) (by unfold iA;simp;intro _;exact fun h=>hy (by simpa using h));have gQ:=qS (bD rs n=rs.take (dF rs n)++[(n,n+1)]++rs.drop (dF rs n)) (by unfold bD;rw[kr.o,kv.o];rfl);clear kr kv BV;generalize hpk:dF rs n=k at*;clear hpk;obtain⟨g,cc,cur,lW,hgc,hlc,hcm,hcs,htk⟩:=dE.o.form (by omega);obtain⟨rfl,rfl⟩:A=some ⟨g,0,none⟩∧c=cc:=by injection lW with e1 _ e3;exact⟨e1,e3⟩
    clear lW;have Ni:=qH hgc;have kz:=qH hcs;have fH:=qH htk;clear hgc hcs htk;have k1: ¬(0:Int)<k:=by omega
    have sI:rs.getD k (0,0)=rs[k]:=by simp[List.getD,List.getElem?_eq_getElem hR]
    rw[sI]at hy;try rw[sI]at gQ
    obtain⟨y0,y1,yf0,yf1⟩:=dE.o.cell k hR;have BR:=qH (fun t=>dA rs k hR t);have hea2:=mD.o.each rs[k] (List.getElem_mem hR);clear sI;generalize rs[k]=ry at*;obtain⟨ya,yb⟩:=ry;simp only at y0 y1 hy BR hea2 gQ;have k3:(k:Int)<rs.length:=by omega
    have O5:(ya==n+1)=false:=by simpa using hy
    clear hy hL;go_wp2_with fail;have bQ:Below w2.heap.size w2 (w2.alloc (.cells #[.int .i64 n,.int .i64 (n+1)] 153)):=(Below.refl _ _).alloc (Nat.le_refl _) _;have hnew:(w2.alloc (.cells #[.int .i64 n,.int .i64 (n+1)] 153)).heap[w2.heap.size]?=some (.cells [Value.int .i64 n,Value.int .i64 (n+1)].toArray 153 (0,0)):=heap_alloc_new w2 _;have hszA:(w2.alloc (.cells #[.int .i64 n,.int .i64 (n+1)] 153)).heap.size=w2.heap.size+1:=by simp
    have hgA:w2.grownBy (w2.alloc (.cells #[.int .i64 n,.int .i64 (n+1)] 153)) (Value.slice (some ⟨g,0,none⟩) rs.length c).ownBlock:=World.grownBy_alloc w2 _ _;generalize(w2.alloc (.cells #[.int .i64 n,.int .i64 (n+1)] 153))=w3 at*;have hi:=nZ w3 0 rs.length k w2.heap.size _ (rgCells rs) [.int .i64 n,.int .i64 (n+1)] (by omega) (by omega) (Nat.zero_le _) (dE.o.up bQ) rfl hnew (fun e=>by have:=(World.ownsRow.lt dE.o _ e).2;omega) (bO rs) (by intro u hu;simp at hu;rcases hu with rfl|rfl<;>rfl);refine hi.mono ?_;rintro e w4⟨v',rfl,ho4,hg4,hbl4⟩;have nE:=qH (hgA.andThen hg4 (fun j hj=>.inr hj));have ko:=qS (cZ w4 v' (bD rs n)) (by
     have:=ho4;rw[fD,fE,show[Value.int .i64 n,Value.int .i64 (n+1)]=rgCells [(n,n+1)]from rfl,←aK,←aK,←gQ.o]at this;unfold cZ;have hl5:(bD rs n).length=rs.length+1:=by rw[gQ.o];simp;omega
     rw[hl5];exact this);have fA:=qS (v'.ownBlock=(Value.slice (some ⟨g,0,none⟩) rs.length c).ownBlock∨ ∃k,v'.ownBlock=some k∧w2.heap.size≤k) (hbl4.imp id (fun⟨k,h1,h2⟩=>⟨k,h1,by omega⟩));clear hi ho4 hg4 hbl4 bQ hnew hszA hgA;clear y0 y1 yf0 yf1;have hmid:=ky.o.mid s (.slice (some ⟨g,0,none⟩) rs.length c) xC.o tV.o nE.o;have xG:=qH hmid.1;have hcm5:=hmid.2;clear hmid;go_wp2_with(at_mapUpdate;refine aH rfl (.tmp 110) (.tmp 111) (.tmp 112) 148 151 rfl Tryz.underlying148 bm (m.map fun p=>(p.1,V p.1)) rfl xG.o (by unfold maxLen;simp;omega) s rfl (by unfold maxLen;omega) _ rfl ?_;intro w5 hm5 hg5);go_wp2;go_ret;have hst:=ky.o.stored s (.slice (some ⟨g,0,none⟩) rs.length c) _ (bD rs n) xC.o tV.o nE.o ko.o fA.o (fun e=>by
     have hne:=gq rs mD.o Ko.o;rcases ko.o.2 with⟨_,h0⟩|⟨g0,_,_,h0,_⟩;·exact hne (List.eq_nil_of_length_eq_zero h0)
     ·rw[h0]at e;cases e) hm5 hg5 (by have:=uJ.o;rw[tX.o]at this;exact this);refine⟨_,_,rfl,by rw[tX.o];exact hst.1,(ai.of_below (F:=G) hbw).trans hst.2 (fun _ _ h=>h),fun b hb=>?_⟩;rcases hb with⟨hb,_⟩|⟨hb,_⟩;·exact .inl hb
    ·right;omega
 ·have hL:0<dF rs n:=by omega
  by_cases hx:(rs.getD (dF rs n-1) (0,0)).2=n
  ·skip;by_cases hR:dF rs n=rs.length
   ·skip;have kr:=qS (iP rs n=true) (by unfold iP;simp only[hx];simp[hL]);have kv:=qS (iA rs n=false) (by unfold iA;simp[hR]);have gQ:=qS (bD rs n=rs.set (dF rs n-1) ((rs.getD (dF rs n-1) (0,0)).1,n+1)) (by unfold bD;rw[kr.o,kv.o];rfl);clear kr kv BV;generalize hpk:dF rs n=k at*;clear hpk;obtain⟨g,cc,cur,lW,hgc,hlc,hcm,hcs,htk⟩:=dE.o.form (by omega);obtain⟨rfl,rfl⟩:A=some ⟨g,0,none⟩∧c=cc:=by injection lW with e1 _ e3;exact⟨e1,e3⟩
    clear lW;have Ni:=qH hgc;have kz:=qH hcs;have fH:=qH htk;clear hgc hcs htk;have hk1:k-1<rs.length:=by omega
    have hgx:rs.getD (k-1) (0,0)=rs[k-1]:=by simp[List.getD,List.getElem?_eq_getElem hk1]
    rw[hgx]at hx;try rw[hgx]at gQ
    obtain⟨x0,x1,xf0,xf1⟩:=dE.o.cell (k-1) hk1;have z8:=qH (fun t=>bZ rs (k-1) hk1 t);have hea1:=mD.o.each rs[k-1] (List.getElem_mem hk1);clear hgx;generalize rs[k-1]=rx at*;obtain⟨xa,xb⟩:=rx;simp only at x0 x1 hx z8 hea1 gQ;have ek:(k:Int)-1=((k-1:Nat):Int):=by omega
    have k1:(0:Int)<k:=by omega
    have k2:((k-1:Nat):Int)<rs.length:=by omega
    have bx:(xb==n)=true:=by simpa using hx
    have k3: ¬(k:Int)<rs.length:=by omega
    clear hx hR;have uK:=qH (World.ownsRow.stored dE.o ((k-1)*2+1) (.int .i64 (n+1)));have nE:=qH uK.o.2;have ko:=qS (cZ (w2.setCell ⟨g,(k-1)*2+1,none⟩ (.int .i64 (n+1))) (.slice (some ⟨g,0,none⟩) rs.length c) (bD rs n)) (by have h1:=uK.o.1;rw[z8.o (n+1)]at h1;rw[gQ.o];unfold cZ;rw[List.length_set];exact h1);obtain⟨v',hv'⟩: ∃v',v'=Value.slice (some ⟨g,0,none⟩) rs.length c:=⟨_,rfl⟩;have Sm:=qH hv';clear hv';have hmid:=ky.o.mid s (.slice (some ⟨g,0,none⟩) rs.length c) xC.o tV.o nE.o;have xG:=qH hmid.1;have hcm5:=hmid.2;clear hmid;go_wp2_with(at_mapUpdate;refine aH rfl (.tmp 110) (.tmp 111) (.tmp 112) 148 151 rfl Tryz.underlying148 bm (m.map fun p=>(p.1,V p.1)) rfl xG.o (by unfold maxLen;simp;omega) s rfl (by unfold maxLen;omega) _ rfl ?_;intro w5 hm5 hg5);go_wp2;go_ret;have hst:=ky.o.stored s (.slice (some ⟨g,0,none⟩) rs.length c) _ (bD rs n) xC.o tV.o nE.o ko.o (.inl rfl) (fun e=>by
     have hne:=gq rs mD.o Ko.o;rcases ko.o.2 with⟨_,h0⟩|⟨g0,_,_,h0,_⟩;·exact hne (List.eq_nil_of_length_eq_zero h0)
     ·rw[h0]at e;cases e) hm5 hg5 (by have:=uJ.o;rw[tX.o]at this;exact this);refine⟨_,_,rfl,by rw[tX.o];exact hst.1,(ai.of_below (F:=G) hbw).trans hst.2 (fun _ _ h=>h),fun b hb=>?_⟩;rcases hb with⟨hb,_⟩|⟨hb,_⟩;·exact .inl hb
    ·right;omega
   ·have hR:dF rs n<rs.length:=by omega
    by_cases hy:(rs.getD (dF rs n) (0,0)).1=n+1
    ·skip;have kr:=qS (iP rs n=true) (by unfold iP;simp only[hx];simp[hL]);have kv:=qS (iA rs n=true) (by unfold iA;simp only[hy];simp[hR]);have gQ:=qS (bD rs n=(rs.set (dF rs n-1) ((rs.getD (dF rs n-1) (0,0)).1,(rs.getD (dF rs n) (0,0)).2)).take (dF rs n)++(rs.set (dF rs n-1) ((rs.getD (dF rs n-1) (0,0)).1,(rs.getD (dF rs n) (0,0)).2)).drop (dF rs n+1)) (by unfold bD;rw[kr.o,kv.o];rfl);clear kr kv BV;generalize hpk:dF rs n=k at*;clear hpk;obtain⟨g,cc,cur,lW,hgc,hlc,hcm,hcs,htk⟩:=dE.o.form (by omega);obtain⟨rfl,rfl⟩:A=some ⟨g,0,none⟩∧c=cc:=by injection lW with e1 _ e3;exact⟨e1,e3⟩
     clear lW;have Ni:=qH hgc;have kz:=qH hcs;have fH:=qH htk;clear hgc hcs htk;have hk1:k-1<rs.length:=by omega
     have hgx:rs.getD (k-1) (0,0)=rs[k-1]:=by simp[List.getD,List.getElem?_eq_getElem hk1]
     rw[hgx]at hx;try rw[hgx]at gQ
     obtain⟨x0,x1,xf0,xf1⟩:=dE.o.cell (k-1) hk1;have z8:=qH (fun t=>bZ rs (k-1) hk1 t);have hea1:=mD.o.each rs[k-1] (List.getElem_mem hk1);clear hgx;generalize rs[k-1]=rx at*;obtain⟨xa,xb⟩:=rx;simp only at x0 x1 hx z8 hea1 gQ;have ek:(k:Int)-1=((k-1:Nat):Int):=by omega
     have k1:(0:Int)<k:=by omega
     have k2:((k-1:Nat):Int)<rs.length:=by omega
     have bx:(xb==n)=true:=by simpa using hx
     have sI:rs.getD k (0,0)=rs[k]:=by simp[List.getD,List.getElem?_eq_getElem hR]
     rw[sI]at hy;try rw[sI]at gQ
     obtain⟨y0,y1,yf0,yf1⟩:=dE.o.cell k hR;have BR:=qH (fun t=>dA rs k hR t);have hea2:=mD.o.each rs[k] (List.getElem_mem hR);clear sI;generalize rs[k]=ry at*;obtain⟨ya,yb⟩:=ry;simp only at y0 y1 hy BR hea2 gQ;have k3:(k:Int)<rs.length:=by omega
     have O5:(ya==n+1)=true:=by simpa using hy
     clear hx hy;have uK:=qH (World.ownsRow.stored dE.o ((k-1)*2+1) (.int .i64 yb));have Ll:=qS (cZ (w2.setCell ⟨g,(k-1)*2+1,none⟩ (.int .i64 yb)) (.slice (some ⟨g,0,none⟩) rs.length c) (rs.set (k-1) (xa,yb))) (by have h1:=uK.o.1;rw[z8.o yb]at h1;unfold cZ;rw[List.length_set];exact h1);go_wp2_with fail;obtain⟨g',cc,cur',lW,Ov,Rl,hcm',hcs',Mo⟩:=Ll.o.form (by rw[List.length_set];omega);obtain⟨rfl,rfl⟩:g=g'∧c=cc:=by injection lW with e1 _ e3;injection e1 with e1;injection e1 with e1;exact⟨e1,e3⟩
     clear lW;have hl4:(rs.set (k-1) (xa,yb)).length=rs.length:=List.length_set;have hd:=GY (w2.setCell ⟨_,(k-1)*2+1,none⟩ (.int .i64 yb)) 0 _ _ rs.length k cur' (rgCells (rs.set (k-1) (xa,yb))) hR (by omega) hcm' (by omega) (Nat.zero_le _) Ov hcs' (by rw[hl4]at Mo;exact Mo) (by rw[kJ,hl4]) (bO _);refine hd.mono ?_;rintro e w4⟨v',rfl,ho4,hg4,hbl4⟩;have nE:=qH (uK.o.2.andThen hg4 (fun j hj=>.inr hj));have ko:=qS (cZ w4 v' (bD rs n)) (by
      have:=ho4;rw[fD,fE,←aK,←gQ.o]at this;unfold cZ;have hl5:(bD rs n).length=rs.length-1:=by rw[gQ.o];simp;omega
      rw[hl5];exact this);have fA:=qS (v'.ownBlock=(Value.slice (some ⟨g,0,none⟩) rs.length c).ownBlock∨ ∃k,v'.ownBlock=some k∧w2.heap.size≤k) (.inl hbl4);clear hd ho4 hg4 hbl4 Ov Rl hcm' hcs' Mo hl4 x0 x1 xf0 xf1 y0 y1 yf0 yf1;have hmid:=ky.o.mid s (.slice (some ⟨g,0,none⟩) rs.length c) xC.o tV.o nE.o;have xG:=qH hmid.1;have hcm5:=hmid.2;clear hmid;go_wp2_with(at_mapUpdate;refine aH rfl (.tmp 110) (.tmp 111) (.tmp 112) 148 151 rfl Tryz.underlying148 bm (m.map fun p=>(p.1,V p.1)) rfl xG.o (by unfold maxLen;simp;omega) s rfl (by unfold maxLen;omega) _ rfl ?_;intro w5 hm5 hg5);go_wp2;go_ret;have hst:=ky.o.stored s (.slice (some ⟨g,0,none⟩) rs.length c) _ (bD rs n) xC.o tV.o nE.o ko.o fA.o (fun e=>by
      have hne:=gq rs mD.o Ko.o;rcases ko.o.2 with⟨_,h0⟩|⟨g0,_,_,h0,_⟩;·exact hne (List.eq_nil_of_length_eq_zero h0)
      ·rw[h0]at e;cases e) hm5 hg5 (by have:=uJ.o;rw[tX.o]at this;exact this);refine⟨_,_,rfl,by rw[tX.o];exact hst.1,(ai.of_below (F:=G) hbw).trans hst.2 (fun _ _ h=>h),fun b hb=>?_⟩;rcases hb with⟨hb,_⟩|⟨hb,_⟩;·exact .inl hb
     ·right;omega
    ·skip;have kr:=qS (iP rs n=true) (by unfold iP;simp only[hx];simp[hL]);have kv:=qS (iA rs n=false) (by unfold iA;simp;intro _;exact fun h=>hy (by simpa using h));have gQ:=qS (bD rs n=rs.set (dF rs n-1) ((rs.getD (dF rs n-1) (0,0)).1,n+1)) (by unfold bD;rw[kr.o,kv.o];rfl);clear kr kv BV;generalize hpk:dF rs n=k at*;clear hpk;obtain⟨g,cc,cur,lW,hgc,hlc,hcm,hcs,htk⟩:=dE.o.form (by omega);obtain⟨rfl,rfl⟩:A=some ⟨g,0,none⟩∧c=cc:=by injection lW with e1 _ e3;exact⟨e1,e3⟩
     clear lW;have Ni:=qH hgc;have kz:=qH hcs;have fH:=qH htk;clear hgc hcs htk;have hk1:k-1<rs.length:=by omega
     have hgx:rs.getD (k-1) (0,0)=rs[k-1]:=by simp[List.getD,List.getElem?_eq_getElem hk1]
     rw[hgx]at hx;try rw[hgx]at gQ
     obtain⟨x0,x1,xf0,xf1⟩:=dE.o.cell (k-1) hk1;have z8:=qH (fun t=>bZ rs (k-1) hk1 t);have hea1:=mD.o.each rs[k-1] (List.getElem_mem hk1);clear hgx;generalize rs[k-1]=rx at*;obtain⟨xa,xb⟩:=rx;simp only at x0 x1 hx z8 hea1 gQ;have ek:(k:Int)-1=((k-1:Nat):Int):=by omega
     have k1:(0:Int)<k:=by omega
     have k2:((k-1:Nat):Int)<rs.length:=by omega
     have bx:(xb==n)=true:=by simpa using hx
     have sI:rs.getD k (0,0)=rs[k]:=by simp[List.getD,List.getElem?_eq_getElem hR]
     rw[sI]at hy;try rw[sI]at gQ
     obtain⟨y0,y1,yf0,yf1⟩:=dE.o.cell k hR;have BR:=qH (fun t=>dA rs k hR t);have hea2:=mD.o.each rs[k] (List.getElem_mem hR);clear sI;generalize rs[k]=ry at*;obtain⟨ya,yb⟩:=ry;simp only at y0 y1 hy BR hea2 gQ;have k3:(k:Int)<rs.length:=by omega
     have O5:(ya==n+1)=false:=by simpa using hy
     clear hx hy;have uK:=qH (World.ownsRow.stored dE.o ((k-1)*2+1) (.int .i64 (n+1)));have nE:=qH uK.o.2;have ko:=qS (cZ (w2.setCell ⟨g,(k-1)*2+1,none⟩ (.int .i64 (n+1))) (.slice (some ⟨g,0,none⟩) rs.length c) (bD rs n)) (by have h1:=uK.o.1;rw[z8.o (n+1)]at h1;rw[gQ.o];unfold cZ;rw[List.length_set];exact h1);obtain⟨v',hv'⟩: ∃v',v'=Value.slice (some ⟨g,0,none⟩) rs.length c:=⟨_,rfl⟩;have Sm:=qH hv';clear hv';have hmid:=ky.o.mid s (.slice (some ⟨g,0,none⟩) rs.length c) xC.o tV.o nE.o;have xG:=qH hmid.1;have hcm5:=hmid.2;clear hmid;go_wp2_with(at_mapUpdate;refine aH rfl (.tmp 110) (.tmp 111) (.tmp 112) 148 151 rfl Tryz.underlying148 bm (m.map fun p=>(p.1,V p.1)) rfl xG.o (by unfold maxLen;simp;omega) s rfl (by unfold maxLen;omega) _ rfl ?_;intro w5 hm5 hg5);go_wp2;go_ret;have hst:=ky.o.stored s (.slice (some ⟨g,0,none⟩) rs.length c) _ (bD rs n) xC.o tV.o nE.o ko.o (.inl rfl) (fun e=>by
      have hne:=gq rs mD.o Ko.o;rcases ko.o.2 with⟨_,h0⟩|⟨g0,_,_,h0,_⟩;·exact hne (List.eq_nil_of_length_eq_zero h0)
      ·rw[h0]at e;cases e) hm5 hg5 (by have:=uJ.o;rw[tX.o]at this;exact this);refine⟨_,_,rfl,by rw[tX.o];exact hst.1,(ai.of_below (F:=G) hbw).trans hst.2 (fun _ _ h=>h),fun b hb=>?_⟩;rcases hb with⟨hb,_⟩|⟨hb,_⟩;·exact .inl hb
     ·right;omega
  ·skip;by_cases hR:dF rs n=rs.length
   ·skip;have kr:=qS (iP rs n=false) (by unfold iP;simp;intro _;exact fun h=>hx (by simpa using h));have kv:=qS (iA rs n=false) (by unfold iA;simp[hR]);have gQ:=qS (bD rs n=rs.take (dF rs n)++[(n,n+1)]++rs.drop (dF rs n)) (by unfold bD;rw[kr.o,kv.o];rfl);clear kr kv BV;generalize hpk:dF rs n=k at*;clear hpk;obtain⟨g,cc,cur,lW,hgc,hlc,hcm,hcs,htk⟩:=dE.o.form (by omega);obtain⟨rfl,rfl⟩:A=some ⟨g,0,none⟩∧c=cc:=by injection lW with e1 _ e3;exact⟨e1,e3⟩
    clear lW;have Ni:=qH hgc;have kz:=qH hcs;have fH:=qH htk;clear hgc hcs htk;have hk1:k-1<rs.length:=by omega
    have hgx:rs.getD (k-1) (0,0)=rs[k-1]:=by simp[List.getD,List.getElem?_eq_getElem hk1]
    rw[hgx]at hx;try rw[hgx]at gQ
    obtain⟨x0,x1,xf0,xf1⟩:=dE.o.cell (k-1) hk1;have z8:=qH (fun t=>bZ rs (k-1) hk1 t);have hea1:=mD.o.each rs[k-1] (List.getElem_mem hk1);clear hgx;generalize rs[k-1]=rx at*;obtain⟨xa,xb⟩:=rx;simp only at x0 x1 hx z8 hea1 gQ;have ek:(k:Int)-1=((k-1:Nat):Int):=by omega
    have k1:(0:Int)<k:=by omega
    have k2:((k-1:Nat):Int)<rs.length:=by omega
    have bx:(xb==n)=false:=by simpa using hx
    have k3: ¬(k:Int)<rs.length:=by omega
    clear hx hR;go_wp2_with fail;have bQ:Below w2.heap.size w2 (w2.alloc (.cells #[.int .i64 n,.int .i64 (n+1)] 153)):=(Below.refl _ _).alloc (Nat.le_refl _) _;have hnew:(w2.alloc (.cells #[.int .i64 n,.int .i64 (n+1)] 153)).heap[w2.heap.size]?=some (.cells [Value.int .i64 n,Value.int .i64 (n+1)].toArray 153 (0,0)):=heap_alloc_new w2 _;have hszA:(w2.alloc (.cells #[.int .i64 n,.int .i64 (n+1)] 153)).heap.size=w2.heap.size+1:=by simp
    have hgA:w2.grownBy (w2.alloc (.cells #[.int .i64 n,.int .i64 (n+1)] 153)) (Value.slice (some ⟨g,0,none⟩) rs.length c).ownBlock:=World.grownBy_alloc w2 _ _;generalize(w2.alloc (.cells #[.int .i64 n,.int .i64 (n+1)] 153))=w3 at*;have hi:=nZ w3 0 rs.length k w2.heap.size _ (rgCells rs) [.int .i64 n,.int .i64 (n+1)] (by omega) (by omega) (Nat.zero_le _) (dE.o.up bQ) rfl hnew (fun e=>by have:=(World.ownsRow.lt dE.o _ e).2;omega) (bO rs) (by intro u hu;simp at hu;rcases hu with rfl|rfl<;>rfl);refine hi.mono ?_;rintro e w4⟨v',rfl,ho4,hg4,hbl4⟩;have nE:=qH (hgA.andThen hg4 (fun j hj=>.inr hj));have ko:=qS (cZ w4 v' (bD rs n)) (by
     have:=ho4;rw[fD,fE,show[Value.int .i64 n,Value.int .i64 (n+1)]=rgCells [(n,n+1)]from rfl,←aK,←aK,←gQ.o]at this;unfold cZ;have hl5:(bD rs n).length=rs.length+1:=by rw[gQ.o];simp;omega
     rw[hl5];exact this);have fA:=qS (v'.ownBlock=(Value.slice (some ⟨g,0,none⟩) rs.length c).ownBlock∨ ∃k,v'.ownBlock=some k∧w2.heap.size≤k) (hbl4.imp id (fun⟨k,h1,h2⟩=>⟨k,h1,by omega⟩));clear hi ho4 hg4 hbl4 bQ hnew hszA hgA;clear x0 x1 xf0 xf1;have hmid:=ky.o.mid s (.slice (some ⟨g,0,none⟩) rs.length c) xC.o tV.o nE.o;have xG:=qH hmid.1;have hcm5:=hmid.2;clear hmid;go_wp2_with(at_mapUpdate;refine aH rfl (.tmp 110) (.tmp 111) (.tmp 112) 148 151 rfl Tryz.underlying148 bm (m.map fun p=>(p.1,V p.1)) rfl xG.o (by unfold maxLen;simp;omega) s rfl (by unfold maxLen;omega) _ rfl ?_;intro w5 hm5 hg5);go_wp2;go_ret;have hst:=ky.o.stored s (.slice (some ⟨g,0,none⟩) rs.length c) _ (bD rs n) xC.o tV.o nE.o ko.o fA.o (fun e=>by
     have hne:=gq rs mD.o Ko.o;rcases ko.o.2 with⟨_,h0⟩|⟨g0,_,_,h0,_⟩;·exact hne (List.eq_nil_of_length_eq_zero h0)
     ·rw[h0]at e;cases e) hm5 hg5 (by have:=uJ.o;rw[tX.o]at this;exact this);refine⟨_,_,rfl,by rw[tX.o];exact hst.1,(ai.of_below (F:=G) hbw).trans hst.2 (fun _ _ h=>h),fun b hb=>?_⟩;rcases hb with⟨hb,_⟩|⟨hb,_⟩;·exact .inl hb
    ·right;omega
   ·have hR:dF rs n<rs.length:=by omega
    by_cases hy:(rs.getD (dF rs n) (0,0)).1=n+1
    ·skip;have kr:=qS (iP rs n=false) (by unfold iP;simp;intro _;exact fun h=>hx (by simpa using h));have kv:=qS (iA rs n=true) (by unfold iA;simp only[hy];simp[hR]);have gQ:=qS (bD rs n=rs.set (dF rs n) (n,(rs.getD (dF rs n) (0,0)).2)) (by unfold bD;rw[kr.o,kv.o];rfl);clear kr kv BV;generalize hpk:dF rs n=k at*;clear hpk;obtain⟨g,cc,cur,lW,hgc,hlc,hcm,hcs,htk⟩:=dE.o.form (by omega);obtain⟨rfl,rfl⟩:A=some ⟨g,0,none⟩∧c=cc:=by injection lW with e1 _ e3;exact⟨e1,e3⟩
     clear lW;have Ni:=qH hgc;have kz:=qH hcs;have fH:=qH htk;clear hgc hcs htk;have hk1:k-1<rs.length:=by omega
     have hgx:rs.getD (k-1) (0,0)=rs[k-1]:=by simp[List.getD,List.getElem?_eq_getElem hk1]
     rw[hgx]at hx;try rw[hgx]at gQ
     obtain⟨x0,x1,xf0,xf1⟩:=dE.o.cell (k-1) hk1;have z8:=qH (fun t=>bZ rs (k-1) hk1 t);have hea1:=mD.o.each rs[k-1] (List.getElem_mem hk1);clear hgx;generalize rs[k-1]=rx at*;obtain⟨xa,xb⟩:=rx;simp only at x0 x1 hx z8 hea1 gQ;have ek:(k:Int)-1=((k-1:Nat):Int):=by omega
     have k1:(0:Int)<k:=by omega
     have k2:((k-1:Nat):Int)<rs.length:=by omega
     have bx:(xb==n)=false:=by simpa using hx
     have sI:rs.getD k (0,0)=rs[k]:=by simp[List.getD,List.getElem?_eq_getElem hR]
     rw[sI]at hy;try rw[sI]at gQ
     obtain⟨y0,y1,yf0,yf1⟩:=dE.o.cell k hR;have BR:=qH (fun t=>dA rs k hR t);have hea2:=mD.o.each rs[k] (List.getElem_mem hR);clear sI;generalize rs[k]=ry at*;obtain⟨ya,yb⟩:=ry;simp only at y0 y1 hy BR hea2 gQ;have k3:(k:Int)<rs.length:=by omega
     have O5:(ya==n+1)=true:=by simpa using hy
     clear hx hy;have uK:=qH (World.ownsRow.stored dE.o (k*2) (.int .i64 (n)));have nE:=qH uK.o.2;have ko:=qS (cZ (w2.setCell ⟨g,k*2,none⟩ (.int .i64 (n))) (.slice (some ⟨g,0,none⟩) rs.length c) (bD rs n)) (by have h1:=uK.o.1;rw[BR.o (n)]at h1;rw[gQ.o];unfold cZ;rw[List.length_set];exact h1);obtain⟨v',hv'⟩: ∃v',v'=Value.slice (some ⟨g,0,none⟩) rs.length c:=⟨_,rfl⟩;have Sm:=qH hv';clear hv';have hmid:=ky.o.mid s (.slice (some ⟨g,0,none⟩) rs.length c) xC.o tV.o nE.o;have xG:=qH hmid.1;have hcm5:=hmid.2;clear hmid;go_wp2_with(at_mapUpdate;refine aH rfl (.tmp 110) (.tmp 111) (.tmp 112) 148 151 rfl Tryz.underlying148 bm (m.map fun p=>(p.1,V p.1)) rfl xG.o (by unfold maxLen;simp;omega) s rfl (by unfold maxLen;omega) _ rfl ?_;intro w5 hm5 hg5);go_wp2;go_ret;have hst:=ky.o.stored s (.slice (some ⟨g,0,none⟩) rs.length c) _ (bD rs n) xC.o tV.o nE.o ko.o (.inl rfl) (fun e=>by
      have hne:=gq rs mD.o Ko.o;rcases ko.o.2 with⟨_,h0⟩|⟨g0,_,_,h0,_⟩;·exact hne (List.eq_nil_of_length_eq_zero h0)
      ·rw[h0]at e;cases e) hm5 hg5 (by have:=uJ.o;rw[tX.o]at this;exact this);refine⟨_,_,rfl,by rw[tX.o];exact hst.1,(ai.of_below (F:=G) hbw).trans hst.2 (fun _ _ h=>h),fun b hb=>?_⟩;rcases hb with⟨hb,_⟩|⟨hb,_⟩;·exact .inl hb
     ·right;omega
    ·skip;have kr:=qS (iP rs n=false) (by unfold iP;simp;intro _;exact fun h=>hx (by simpa using h));have kv:=qS (iA rs n=false) (by unfold iA;simp;intro _;exact fun h=>hy (by simpa using h));have gQ:=qS (bD rs n=rs.take (dF rs n)++[(n,n+1)]++rs.drop (dF rs n)) (by unfold bD;rw[kr.o,kv.o];rfl);clear kr kv BV;generalize hpk:dF rs n=k at*;clear hpk;obtain⟨g,cc,cur,lW,hgc,hlc,hcm,hcs,htk⟩:=dE.o.form (by omega);obtain⟨rfl,rfl⟩:A=some ⟨g,0,none⟩∧c=cc:=by injection lW with e1 _ e3;exact⟨e1,e3⟩
     clear lW;have Ni:=qH hgc;have kz:=qH hcs;have fH:=qH htk;clear hgc hcs htk;have hk1:k-1<rs.length:=by omega
     have hgx:rs.getD (k-1) (0,0)=rs[k-1]:=by simp[List.getD,List.getElem?_eq_getElem hk1]
     rw[hgx]at hx;try rw[hgx]at gQ
     obtain⟨x0,x1,xf0,xf1⟩:=dE.o.cell (k-1) hk1;have z8:=qH (fun t=>bZ rs (k-1) hk1 t);have hea1:=mD.o.each rs[k-1] (List.getElem_mem hk1);clear hgx;generalize rs[k-1]=rx at*;obtain⟨xa,xb⟩:=rx;simp only at x0 x1 hx z8 hea1 gQ;have ek:(k:Int)-1=((k-1:Nat):Int):=by omega
     have k1:(0:Int)<k:=by omega
     have k2:((k-1:Nat):Int)<rs.length:=by omega
     have bx:(xb==n)=false:=by simpa using hx
     have sI:rs.getD k (0,0)=rs[k]:=by simp[List.getD,List.getElem?_eq_getElem hR]
     rw[sI]at hy;try rw[sI]at gQ
     obtain⟨y0,y1,yf0,yf1⟩:=dE.o.cell k hR;have BR:=qH (fun t=>dA rs k hR t);have hea2:=mD.o.each rs[k] (List.getElem_mem hR);clear sI;generalize rs[k]=ry at*;obtain⟨ya,yb⟩:=ry;simp only at y0 y1 hy BR hea2 gQ;have k3:(k:Int)<rs.length:=by omega
     have O5:(ya==n+1)=false:=by simpa using hy
     clear hx hy;go_wp2_with fail;have bQ:Below w2.heap.size w2 (w2.alloc (.cells #[.int .i64 n,.int .i64 (n+1)] 153)):=(Below.refl _ _).alloc (Nat.le_refl _) _;have hnew:(w2.alloc (.cells #[.int .i64 n,.int .i64 (n+1)] 153)).heap[w2.heap.size]?=some (.cells [Value.int .i64 n,Value.int .i64 (n+1)].toArray 153 (0,0)):=heap_alloc_new w2 _;have hszA:(w2.alloc (.cells #[.int .i64 n,.int .i64 (n+1)] 153)).heap.size=w2.heap.size+1:=by simp
     have hgA:w2.grownBy (w2.alloc (.cells #[.int .i64 n,.int .i64 (n+1)] 153)) (Value.slice (some ⟨g,0,none⟩) rs.length c).ownBlock:=World.grownBy_alloc w2 _ _;generalize(w2.alloc (.cells #[.int .i64 n,.int .i64 (n+1)] 153))=w3 at*;have hi:=nZ w3 0 rs.length k w2.heap.size _ (rgCells rs) [.int .i64 n,.int .i64 (n+1)] (by omega) (by omega) (Nat.zero_le _) (dE.o.up bQ) rfl hnew (fun e=>by have:=(World.ownsRow.lt dE.o _ e).2;omega) (bO rs) (by intro u hu;simp at hu;rcases hu with rfl|rfl<;>rfl);refine hi.mono ?_;rintro e w4⟨v',rfl,ho4,hg4,hbl4⟩;have nE:=qH (hgA.andThen hg4 (fun j hj=>.inr hj));have ko:=qS (cZ w4 v' (bD rs n)) (by
      have:=ho4;rw[fD,fE,show[Value.int .i64 n,Value.int .i64 (n+1)]=rgCells [(n,n+1)]from rfl,←aK,←aK,←gQ.o]at this;unfold cZ;have hl5:(bD rs n).length=rs.length+1:=by rw[gQ.o];simp;omega
      rw[hl5];exact this);have fA:=qS (v'.ownBlock=(Value.slice (some ⟨g,0,none⟩) rs.length c).ownBlock∨ ∃k,v'.ownBlock=some k∧w2.heap.size≤k) (hbl4.imp id (fun⟨k,h1,h2⟩=>⟨k,h1,by omega⟩));clear hi ho4 hg4 hbl4 bQ hnew hszA hgA;clear x0 x1 xf0 xf1;clear y0 y1 yf0 yf1;have hmid:=ky.o.mid s (.slice (some ⟨g,0,none⟩) rs.length c) xC.o tV.o nE.o;have xG:=qH hmid.1;have hcm5:=hmid.2;clear hmid;go_wp2_with(at_mapUpdate;refine aH rfl (.tmp 110) (.tmp 111) (.tmp 112) 148 151 rfl Tryz.underlying148 bm (m.map fun p=>(p.1,V p.1)) rfl xG.o (by unfold maxLen;simp;omega) s rfl (by unfold maxLen;omega) _ rfl ?_;intro w5 hm5 hg5);go_wp2;go_ret;have hst:=ky.o.stored s (.slice (some ⟨g,0,none⟩) rs.length c) _ (bD rs n) xC.o tV.o nE.o ko.o fA.o (fun e=>by
      have hne:=gq rs mD.o Ko.o;rcases ko.o.2 with⟨_,h0⟩|⟨g0,_,_,h0,_⟩;·exact hne (List.eq_nil_of_length_eq_zero h0)
      ·rw[h0]at e;cases e) hm5 hg5 (by have:=uJ.o;rw[tX.o]at this;exact this);refine⟨_,_,rfl,by rw[tX.o];exact hst.1,(ai.of_below (F:=G) hbw).trans hst.2 (fun _ _ h=>h),fun b hb=>?_⟩;rcases hb with⟨hb,_⟩|⟨hb,_⟩;·exact .inl hb
     ·right;omega
end Go.Proofs.YtladegonienapaaGreatDoor
