/-
  Layer 5: one segment is written anew.
-/
import Derived.Test.YtladegonienapaaGreatDoorUJlRwB1
import Derived.Laws.OwnMore
set_option maxRecDepth 100000
set_option maxHeartbeats 16000000
namespace Go.Proofs.YtladegonienapaaGreatDoor
open Go.RowKit Go.Maps Go.Sort
def gP(w:World)(g o:Nat):World:=((((((((w.setCell ⟨g,o,none⟩ (.string ⟨#[]⟩)).setCell ⟨g,o+1,none⟩ (.int .i64 0)).setCell ⟨g,o+2,none⟩ (.int .i64 0)).setCell ⟨g,o+3,none⟩ (.int .i64 0)).setCell ⟨g,o+4,none⟩ (.string ⟨#[]⟩)).setCell ⟨g,o+5,none⟩ (.string ⟨#[]⟩)).setCell ⟨g,o+6,none⟩ (.int .i64 0)).setCell ⟨g,o+7,none⟩ (.string ⟨#[]⟩)).setCell ⟨g,o+8,none⟩ (.bool true)
theorem rP(l:List (Option Ev))(i:Nat)(hi:i<l.length):av (l.set i none)=(((((((((av l).set (i*9) (.string ⟨#[]⟩)).set (i*9+1) (.int .i64 0)).set (i*9+2) (.int .i64 0)).set (i*9+3) (.int .i64 0)).set (i*9+4) (.string ⟨#[]⟩)).set (i*9+5) (.string ⟨#[]⟩)).set (i*9+6) (.int .i64 0)).set (i*9+7) (.string ⟨#[]⟩)).set (i*9+8) (.bool true):=by
 induction l generalizing i with
  |nil=>simp at hi
  |cons x l ih=>
   have e1:av (x::l)=jZ x++av l:=rfl;cases i with
    |zero=>rw[e1,vW];simp[av,jZ,Ev.cells,Ev.zero]
    |succ i=>
     have ih':=ih i (by simpa using hi);have h9:=jo x;have key: ∀(R:List Value)(j:Nat)(u:Value),(jZ x++R).set ((i+1)*9+j) u=jZ x++R.set (i*9+j) u:=fun R j u=>by rw[List.set_append_right _ _ (by rw[h9];omega),h9,show(i+1)*9+j-9=i*9+j by omega]
     have key0: ∀(R:List Value)(u:Value),(jZ x++R).set ((i+1)*9) u=jZ x++R.set (i*9) u:=fun R u=>key R 0 u;have e2:av ((x::l).set (i+1) none)=jZ x++av (l.set i none):=rfl;rw[e2,e1,ih',key0,key,key,key,key,key,key,key,key]
theorem iR.gP{w:World}{base g n cap:Nat}{l:List (Option Ev)}(h:iR w base (.slice (some ⟨g,0,none⟩) n cap) l)(i:Nat)(hi:i<l.length):iR (gP w g (i*9)) base (.slice (some ⟨g,0,none⟩) n cap) (l.set i none)∧w.grownBy (Go.Proofs.YtladegonienapaaGreatDoor.gP w g (i*9)) (some g):=by
 unfold iR at h⊢;rw[rP l i hi,List.length_set];have hn:l.length=n:=by
  rcases h.2 with⟨e,_⟩|⟨g',cap',cur,e,_⟩;·cases e
  ·injection e with _ e2 _;exact e2.symm
 rw[hn]at h⊢;obtain⟨h0,g0⟩:=World.ownsRow.stored h (i*9) (.string ⟨#[]⟩);obtain⟨h1,g1⟩:=World.ownsRow.stored h0 (i*9+1) (.int .i64 0);obtain⟨h2,g2⟩:=World.ownsRow.stored h1 (i*9+2) (.int .i64 0);obtain⟨h3,g3⟩:=World.ownsRow.stored h2 (i*9+3) (.int .i64 0);obtain⟨h4,g4⟩:=World.ownsRow.stored h3 (i*9+4) (.string ⟨#[]⟩);obtain⟨h5,g5⟩:=World.ownsRow.stored h4 (i*9+5) (.string ⟨#[]⟩);obtain⟨h6,g6⟩:=World.ownsRow.stored h5 (i*9+6) (.int .i64 0);obtain⟨h7,g7⟩:=World.ownsRow.stored h6 (i*9+7) (.string ⟨#[]⟩);obtain⟨h8,g8⟩:=World.ownsRow.stored h7 (i*9+8) (.bool true);exact⟨h8,(((((((g0.trans g1).trans g2).trans g3).trans g4).trans g5).trans g6).trans g7).trans g8⟩
theorem iR.there{w:World}{base g n cap:Nat}{l:List (Option Ev)}(h:iR w base (.slice (some ⟨g,0,none⟩) n cap) l)(i:Nat)(hi:i<l.length):w.there g (i*9) 9:=fun j hj=>by
 have hn:l.length=n:=by
  rcases h.2 with⟨e,_⟩|⟨g',cap',cur,e,_⟩;·cases e
  ·injection e with _ e2 _;exact e2.symm
 unfold iR at h;rw[hn]at h;have hc:=World.ownsRow.cellAt h (i*9+j) (by omega);exact⟨by rw[hc,List.getElem?_eq_getElem (by rw[bB];omega)];rfl,World.ownsRow.frozenAt h _⟩
theorem za{x:Option Ev}(h: ∀e,x=some e→aK e=true):(aU x).length≤1239:=by unfold aU;rw[ky.iB];cases x with|none=>simp[mK]|some e=>have:=(jk (h e rfl)).len;simp only[mK];omega
theorem uV: ∀(l:List (Option Ev)),(∀y∈l,∀e,y=some e→aK e=true)→(aF l).length≤1239*l.length|[],_=>by simp[aF]|x::l,h=>by have h1:=za (h x (by simp));have h2:=uV l (fun y hy=>h y (by simp[hy]));have e:aF (x::l)=aU x++aF l:=rfl;rw[e,List.length_append,List.length_cons];omega
theorem Rw.RF{I:List Ev→(Nat→Prop)→World→Prop}{fv:Value}{kb:Ev→Bool}{f:Nat}{rc fo:Array Value}{G F H:Nat→Prop}{bj bd bt:Nat}{v:Value}{j:Jl}{aq:List Ev}{W W':World}(hk:ve f rc fo kb I)(h:Rw I fv G F H bj bd bt v j aq W)(hs:W.heap.size≤W'.heap.size)(g:Nat)(hg: ¬(G g∨F g∨H g))(hb:g≠bt)(hm:g≠0)(hh: ∀b,b<W.heap.size→b≠g→W'.heap[b]?=W.heap[b]?):Rw I fv G F H bj bd bt v j aq W':=by
 have hne: ∀b,(G b∨F b∨H b)→b≠g:=fun b hb e=>hg (e▸hb);refine⟨h.jl.keep hs fun b hb=>hh b (hb.elim (h.jl.dk.lt b) (h.jl.lt b)) (hne b (hb.elim .inl (fun h=>.inr (.inl h)))),hk.keep _ _ _ _ h.i hs fun b hb=>hh b (hk.lt _ _ _ h.i b hb) (hne b (.inr (.inr hb))),?_,?_,h.hg,h.tg,h.ml⟩;·exact(World.cell?_of_block (w:=W) (a:=⟨bt,0,none⟩) (hh bt h.blt (Ne.symm hb))).trans h.c
 ·obtain⟨m,hmm⟩:=h.mx;exact⟨m,(World.cell?_of_block (w:=W) (a:=⟨0,0,none⟩) (hh _ h.mx.lt (Ne.symm hm))).trans hmm⟩
theorem Cs{α:Type}(cur S:List α)(a s N:Nat)(hS:S.length=s)(h1:a+s≤N)(h2:N≤cur.length):(cur.take a++S++cur.drop (a+s)).take N=(cur.take N).take a++S++(cur.take N).drop (a+s):=by
 have h3:(cur.take a++S).length=a+s:=by rw[List.length_append,List.length_take,hS];omega
 rw[List.take_take,Nat.min_eq_left (by omega),List.drop_take];have e:N=(cur.take a++S).length+(N-(a+s)):=by omega
 conv=>lhs;rw[e]
 rw[List.take_length_add_append]
theorem iR.splice{w w':World}{base g n cap lo m:Nat}{cur:Array Value}{es seg2:List (Option Ev)}(_hg:w.heap[g]?=some (.cells cur 91 (0,0)))(hb:base≤g)(hn:es.length=n)(hcap:n≤cap)(hmax:cap≤maxLen)(hsz:cur.size=cap*9)(ht:cur.toList.take (n*9)=av es)(hm:seg2.length=m)(hlm:lo+m≤n)(hs:lq w w' g (lo*9) cur 91 (av seg2)):iR w' base (.slice (some ⟨g,0,none⟩) n cap) (es.take lo++seg2++es.drop (lo+m)):=by
 have hl:(es.take lo++seg2++es.drop (lo+m)).length=n:=by simp only[List.length_append,List.length_take,List.length_drop,hm,hn];omega
 have hel:(av seg2).length=m*9:=by rw[bB,hm]
 have hcl:cur.toList.length=cap*9:=by rw[Array.length_toList,hsz]
 have hr:=hs.row;unfold iR;rw[hl];refine⟨by rw[bB,hl],.inr ⟨g,cap,_,rfl,hb,hr,hcap,hmax,?_,?_⟩⟩;·simp only[List.size_toArray,List.length_append,List.length_take,List.length_drop,hcl,hel];omega
 ·have:=Cs cur.toList (av seg2) (lo*9) (m*9) (n*9) hel (by omega) (by omega);rw[hel];show List.take (n*9) _=_;rw[this,ht,mX,mX,←fV,←iJ,Nat.add_mul]
theorem Rw.disk{I:List Ev→(Nat→Prop)→World→Prop}{fv:Value}{kb:Ev→Bool}{f:Nat}{rc fo:Array Value}{G F H:Nat→Prop}{bj bd bt:Nat}{v:Value}{j:Jl}{aq:List Ev}{W W':World}{d':Dk}(hk:ve f rc fo kb I)(h:Rw I fv G F H bj bd bt v j aq W)(hd:Ht W G bd d' W'): ∃G',Rw I fv G' F H bj bd bt v {j with dk:=d'} aq W'∧(∀b,G' b→G b∨W.heap.size≤b)∧ah G W W':=by
 obtain⟨G',hj,hG,hkp⟩:=h.jl.disk hd;have ET:=hk.lt _ _ _ h.i;refine⟨G',⟨hj,hk.keep _ _ _ _ h.i hkp.size fun b hb=>hkp.block b (ET b hb) (fun hg=>h.hg b hb (.inl hg)),(hkp.cell (p:=⟨bt,0,none⟩) h.blt (fun hg=>h.tg (.inl hg))).trans h.c,h.mx.kp hkp (fun hg=>h.ml (.inl hg)),fun b hb hg=>?_,fun hb=>?_,fun hb=>?_⟩,hG,hkp⟩
 ·rcases hg with hg|hg
  ·rcases hG b hg with h'|h';·exact h.hg b hb (.inl h')
   ·have:=ET b hb;omega
  ·exact h.hg b hb (.inr hg)
 ·rcases hb with hb|hb
  ·rcases hG _ hb with h'|h';·exact h.tg (.inl h')
   ·have:=h.blt;omega
  ·exact h.tg (.inr hb)
 ·rcases hb with hb|hb
  ·rcases hG _ hb with h'|h';·exact h.ml (.inl h')
   ·have:=h.mx.lt;omega
  ·exact h.ml (.inr hb)
theorem Rw.own{I:List Ev→(Nat→Prop)→World→Prop}{fv:Value}{kb:Ev→Bool}{f:Nat}{rc fo:Array Value}{G F H:Nat→Prop}{bj bd bt:Nat}{v:Value}{j j':Jl}{aq:List Ev}{W W':World}(hk:ve f rc fo kb I)(h:Rw I fv G F H bj bd bt v j aq W)(hj:gN W' G F bj bd v j')(hkp:ah F W W'):Rw I fv G F H bj bd bt v j' aq W':=by have ET:=hk.lt _ _ _ h.i;exact⟨hj,hk.keep _ _ _ _ h.i hkp.size fun b hb=>hkp.block b (ET b hb) (fun hg=>h.hg b hb (.inr hg)),(hkp.cell (p:=⟨bt,0,none⟩) h.blt (fun hg=>h.tg (.inr (.inl hg)))).trans h.c,h.mx.kp hkp (fun hg=>h.ml (.inr (.inl hg))),h.hg,h.tg,h.ml⟩
def Bq(I:List Ev→(Nat→Prop)→World→Prop)(fv:Value)(kb:Ev→Bool)(G F H:Nat→Prop)(bj bd bt gs:Nat)(v:Value)(j:Jl)(aq:List Ev)(w:World)(bC:List (Option Ev))(c i:Value)(wr:World):Prop:= ∃(q:Nat)(H':Nat→Prop),i=.int .i64 q∧q≤bC.length∧c=.int .i64 (dG kb (bC.take q))∧iR wr w.heap.size (.slice (some ⟨gs,0,none⟩) bC.length bC.length) ((bC.take q).map (iP kb)++bC.drop q)∧Rw I fv G F H' bj bd bt v j (aq++bU (bC.take q)) wr∧(∀b,H' b→H b∨w.heap.size≤b)∧ ¬H' gs∧ah (fun b=>G b∨F b∨H b) w wr
def RwF(I:List Ev→(Nat→Prop)→World→Prop)(fv:Value)(G F H H':Nat→Prop)(bj bd bt gs:Nat)(v:Value)(j:Jl)(aq:List Ev)(w:World)(seg2:List (Option Ev))(w9:World):Prop:= ∃G9,Rw I fv G9 F H' bj bd bt v j aq w9∧iR w9 w.heap.size (.slice (some ⟨gs,0,none⟩) seg2.length seg2.length) seg2∧(∀b,G9 b→G b∨w.heap.size≤b)∧ah (fun b=>G b∨F b∨H b) w w9
def GJ(I:List Ev→(Nat→Prop)→World→Prop)(fv:Value)(G F H:Nat→Prop)(bj bd bt gs:Nat)(v:Value)(j:Jl)(aq:List Ev)(w w4:World)(seg2:List (Option Ev))(b i:Value)(wr:World):Prop:= ∃q:Nat,i=.int .i64 q∧q≤seg2.length∧aR wr w4.heap.size b (aF (seg2.take q))∧Rw I fv G F H bj bd bt v j aq wr∧iR wr w.heap.size (.slice (some ⟨gs,0,none⟩) seg2.length seg2.length) seg2∧Below w4.heap.size w4 wr
section
variable{I:List Ev→(Nat→Prop)→World→Prop}{fv:Value}{kb:Ev→Bool}{f:Nat}{rc fo:Array Value}{G F H:Nat→Prop}{bj bd bt:Nat}{v:Value}{j:Jl}{aq:List Ev}{w:World}
def wm(I:List Ev→(Nat→Prop)→World→Prop)(fv:Value)(G F H:Nat→Prop)(bj bd bt:Nat)(j':Jl)(aq:List Ev)(w:World)(n er:Int)(r:Ending)(w':World):Prop:=r=.returned (.tuple #[.int .i64 n,.int .i64 er])∧ ∃G' F' H' v',Rw I fv G' F' H' bj bd bt v' j' aq w'∧j'.Ok∧(∀b,G' b→G b∨w.heap.size≤b)∧(∀b,F' b→F b∨w.heap.size≤b)∧(∀b,H' b→H b∨w.heap.size≤b)∧ah (fun b=>G b∨F b∨H b) w w'
theorem FY(hk:ve f rc fo kb I)(Yt:fv=.func (.func f) rc fo)(h:Rw I fv G F H bj bd bt v j aq w)(ho:j.Ok)(k:Nat)(hkn:k*j.per<j.es.length)(hn:j.es.length≤99)(haq:aq.length≤800):Calls Tryz.prog 58 #[.pointer (some ⟨bj,0,none⟩),.int .i64 k,.func (.func 57) #[] #[.pointer (some ⟨bt,0,none⟩)]] w (wm I fv G F H bj bd bt (j.rew1 kb k) (aq++bU (aT j.per k j.es)) w (j.nM kb k) (j.jH kb k)):=by
 have hcall: ∀(args:Array Value)(w:World),(callFunc 57 args).run Tryz.prog w=.ok (.enter 57 args) w:=fun _ _=>by kernel_rfl
 have YN:=qH Yt;have SG:=qH haq;clear Yt haq;have HK:=qH hk;have HR:=qH h;have HO:=qH ho;obtain⟨c0,c1,c2,c3,c4,c5,c6⟩:=h.jl.cells;have hp1:=ho.per1;have hp2:=ho.per2;obtain⟨n,hnn⟩: ∃n,j.es.length=n:=⟨_,rfl⟩;obtain⟨p,ES⟩: ∃p,j.per=p:=⟨_,rfl⟩;rw[ES]at hkn hp1 hp2 c2;rw[hnn]at hkn hn;obtain⟨g,cap,cur,hv,hgb,hgl,hgs⟩: ∃g cap cur,v=.slice (some ⟨g,0,none⟩) n cap∧w.heap[g]?=some (.cells cur 91 (0,0))∧cur.toList.take (n*9)=av j.es∧(n≤cap∧cap≤maxLen∧cur.size=cap*9):=by
  rcases h.jl.own.2 with⟨_,h0⟩|⟨g,cap,cur,e,_,hg,h1,h2,h3,h4⟩;·omega
  ·rw[hnn]at e h1 h4;exact⟨g,cap,cur,e,hg,h4,h1,h2,h3⟩
 rw[hv]at c4;have HN:=qH hnn;have HP:=qH ES;have HV:=qH hv;have HGB:=qH hgb;have Sy:=qH hgl;have OQ:=qH hgs;obtain⟨lo,hlo⟩: ∃lo,lo=k*p:=⟨_,rfl⟩;obtain⟨m,hm⟩: ∃m,m=min (lo+p) n-lo:=⟨_,rfl⟩;rw[←hlo]at hkn;have hm1:1≤m:=by omega
 have hmn:lo+m≤n:=by omega
 have Lb:=qS ((aT j.per k j.es)=(j.es.drop lo).take m) (by
  rw[ES];unfold aT;rw[←hlo];rcases Nat.lt_or_ge (lo+p) n with h1|h1;·rw[show m=p by omega]
  ·rw[List.take_of_length_le (by simp[hnn];omega),List.take_of_length_le (by simp[hnn];omega)]);have hmul:((k:Int)*(p:Int))=(lo:Int):=by rw[hlo];exact(Int.natCast_mul k p).symm
 have hmi:min ((lo:Int)+p) n=((lo+m:Nat):Int):=by omega
 have hcl:cap≠lo:=by have:=hgs.1;omega
 have BZ:=qH hlo;have YH:=qH hm;have hme:min ((lo:Int)+p) n-lo=(m:Int):=by omega
 have hw1:wrap64 (lo:Int)=lo:=by unfold wrap64;omega
 clear h ho hk hnn ES hv hgb hgl hgs c0 c1 c3 c5 c6 hlo hm;go_enter Tryz.func58,Tryz.ntmps58;go_wp2;go_quiet(fail);have BU:=qH (HR.o.up HK.o (below_drewN (Below.refl _ _) nq));have HB0:=qS (Below w.heap.size w (w.drewN nq)) (below_drewN (Below.refl _ _) nq);have d4:(w.drewN nq).cell? ⟨bj,4,none⟩=some (.slice (some ⟨g,0,none⟩) n cap):=c4;have Ri:=qS ((w.drewN nq).heap[g]?=some (.cells cur 91 (0,0))) (HGB.o);generalize w.drewN nq=w0 at*;have hgb0:=Ri.o;obtain⟨i0,hi,hz0,hz1,hz2⟩:=info_parts Eh;have HI:=qH hi;have HZ0:=qH hz0;have HZ1:=qH hz1;have HZ2:=qH hz2;clear hi hz0 hz1 hz2 hgb0;go_wp2_with(at_make;refine wpList_make_full _ rfl _ _ 86 rfl w.heap.size 91 i0 _ 9 Tryz.underlying86 HI.o HZ0.o HZ1.o _ _ _ _ m rfl rfl ?c1 ?c2 ?c3 ?c4 ?c5 ?_);case c1=>omega
 case c2=>omega
 case c3=>rw[HZ2.o];omega
 case c4=>unfold maxLen;omega
 case c5=>exact HB0.o.size
 intro w1 how1 hg1;have hgs1:w0.heap.size<w1.heap.size:=(how1.lt _ rfl).2;have hb1:Below w0.heap.size w0 w1:=Below.grown (Below.refl _ _) hg1 (Nat.le_refl _) (by simp);have HR1:=qH (BU.o.up HK.o hb1);have HB1:=qH (HB0.o.trans (hb1.mono HB0.o.size));have yH:g<w0.heap.size:=(Array.getElem?_eq_some_iff.1 Ri.o).1;have XU:=qS (w1.heap[g]?=some (.cells cur 91 (0,0))) ((hb1.block g yH).trans Ri.o);have e4:w1.cell? ⟨bj,4,none⟩=some (.slice (some ⟨g,0,none⟩) n cap):=(hb1.cell (p:=⟨bj,4,none⟩) (World.block_lt_of_cell? w0 ⟨bj,4,none⟩ d4)).trans d4;obtain⟨NG,hcs1,hcs2⟩: ∃NG:Array Value,w1.heap[w0.heap.size]?=some (.cells NG 91 (0,0))∧NG.size=m*9:=by
  rcases how1.2 with⟨e,_⟩|⟨g',cap',cur',e,_,hg',_,_,hs',_⟩;·cases e
  ·injection e with e1 e2 e3;injection e1 with e1;injection e1 with e1;subst e1 e3;exact⟨cur',hg',hs'⟩
 have UQ:=qH hcs1;have UO:=qH hcs2;clear how1 hg1 hb1 d4 c4 hcs1 hcs2;obtain⟨bC,hseg⟩: ∃bC,bC=(j.es.drop lo).take m:=⟨_,rfl⟩;have hsl:bC.length=m:=by rw[hseg];simp[HN.o];omega
 have hsc:av bC=((av j.es).drop (lo*9)).take (m*9):=by rw[hseg,←fV,←iJ]
 rw[←hseg]at Lb;have Uk:=qS ((av bC).length=m*9∧ ∀i u,(av bC)[i]?=some u→w1.cell? ((⟨g,lo*9,none⟩:Addr).add i)=some u) (by
  refine⟨by rw[bB,hsl],fun i u hu=>?_⟩;have e:(⟨g,lo*9,none⟩:Addr).add i=⟨g,lo*9+i,none⟩:=by unfold Addr.add;split<;>simp_all
  rw[e,cell_of_row w1 g _ _ _ (0,0) XU.o];have hi:i<m*9:=by have:=(List.getElem?_eq_some_iff.1 hu).1;rw[bB,hsl]at this;exact this
  rw[hsc,List.getElem?_take_of_lt hi,List.getElem?_drop,←Sy.o,List.getElem?_take_of_lt (by omega)]at hu;simpa using hu);have BH:=qH hsl;clear hseg hsl hsc;have hcap:=OQ.o.1;have t1:lo+m≤cap:=by omega
 have BL:=qS ((Tryz.prog.info? 91).map (·.size)=some 9) (by rw[HI.o];exact congrArg some HZ1.o);obtain⟨w2,hrun2,hsp⟩: ∃w2,(Builtin.copy_ #[86,86] 3 #[.slice (some ⟨w0.heap.size,0,none⟩) m m,.slice (some ⟨g,lo*9,none⟩) m (cap-lo)]).run Tryz.prog w1=.ok (goInt m) w2∧lq w1 w2 w0.heap.size 0 NG 91 (av bC):=⟨_,ma (P:=Tryz.prog) w1 _ _ _ 91 9 w0.heap.size 0 m m ⟨g,lo*9,none⟩ m (cap-lo) NG _ (av bC) m Tryz.underlying86 BL.o UQ.o (by simp) Uk.o.1 Uk.o.2 (by rw[Uk.o.1,UO.o];omega) (fun u hu=>by obtain⟨x,_,hx⟩:=List.mem_flatMap.1 hu;exact rR x u hx),dY w1 _ _ _ _ _ UQ.o⟩;have hrow2:w2.heap[w0.heap.size]?=some (.cells (av bC).toArray 91 (0,0)):=by have:=hsp.row;rw[List.take_zero,List.nil_append,Nat.zero_add,List.drop_eq_nil_of_le (by rw[Uk.o.1,Array.length_toList,UO.o];exact Nat.le_refl _),List.append_nil]at this;exact this
 have aaI:=qS (bC.length=m) (BH.o);have how2:iR w2 w.heap.size (.slice (some ⟨w0.heap.size,0,none⟩) bC.length bC.length) bC:=by
  refine⟨by rw[bB],.inr ⟨w0.heap.size,bC.length,_,rfl,HB0.o.size,hrow2,Nat.le_refl _,by rw[BH.o];unfold maxLen;omega,?_,?_⟩⟩;·simp[bB]
  ·exact List.take_of_length_le (by rw[bB];exact Nat.le_refl _)
 have Ui:=qH hsp;have aah:=qH how2;clear hsp how2 hrow2;go_upto_region 5 with fail;have hglt2: ∀b,(G b∨F b∨H b)→b<w.heap.size:=fun b hb=>by
  rcases hb with hb|hb|hb;·exact HR.o.jl.dk.lt b hb
  ·exact HR.o.jl.lt b hb
  ·exact HK.o.lt _ _ _ HR.o.i b hb
 have OV:=qH hglt2;have hs0:=HB0.o.size;have hs1:=HB1.o.size;have hbt:=HR.o.blt;have qV:=HR.o.mx.lt;have HR2:=qS (Rw I fv G F H bj bd bt v j aq w2) (HR1.o.RF HK.o (by rw[Ui.o.size];exact Nat.le_refl _) w0.heap.size (fun h=>by have:=hglt2 _ h;omega) (by omega) (by omega) (fun b hb hne=>Ui.o.grown.block b hb (fun e=>hne (Option.some.inj e))));have sD:=qS (ah (fun b=>G b∨F b∨H b) w w2) ((ah.of_below (F:=fun b=>G b∨F b∨H b) HB1.o).trans (ah.bV (F:=fun b=>b=w0.heap.size) Ui.o.grown (fun k e=>(Option.some.inj e).symm)) (fun b hb e=>by omega));have hgs0:w.heap.size≤w0.heap.size:=hs0;have hgs2:w0.heap.size<w2.heap.size:=by rw[Ui.o.size];exact hgs1
 clear BU HB0 Ri HR1 HB1 XU UQ UO Uk Ui BL hrun2 e4 hglt2 hs0 hs1 hgs1 yH hmi hme hw1 hmul c2;generalize w0.heap.size=gs at*;have HST:=qS (Bq I fv kb G F H bj bd bt gs v j aq w bC (.int .i64 0) (.int .i64 ((0:Nat):Int)) w2) (⟨0,H,rfl,Nat.zero_le _,rfl,by simpa using aah.o,by simpa[bU]using HR2.o,fun b h=>.inl h,fun h=>by have:=OV.o gs (.inr (.inr h));omega,sD.o⟩);have Tu:=BH.o;go_wp2;rw[Nat.add_sub_cancel_left];go_loopw[11,51](fun c i wr=>Bq I fv kb G F H bj bd bt gs v j aq w bC c i wr)(fun _ i _=>m-(intOf i).toNat);case atStart=>exact HST.o
 case round=>
  obtain⟨q,H',rfl,hq,rfl,how,hrw,hH,VO,hkp⟩:=hrel;have HOW:=qH how;have HRW:=qH hrw;have HH:=qH hH;have HNG:=qH VO;have lY:=qH hkp;clear how hrw hH VO hkp;by_cases O6:q<m
  ·have Va:q<bC.length:=by omega
   have Wn:((bC.take q).map (iP kb)++bC.drop q).length=m:=by rw[List.length_append,List.length_map,List.length_take,List.length_drop];omega
   have hLq:((bC.take q).map (iP kb)++bC.drop q)[q]'(by rw[Wn];exact O6)=bC[q]:=by rw[List.getElem_append_right (by rw[List.length_map,List.length_take];omega)];simp only[List.length_map,List.length_take,List.getElem_drop];congr 1;omega
   have hen:oM wr wr.heap.size (some ⟨gs,0,none⟩) bC.length bC.length ((bC.take q).map (iP kb)++bC.drop q):=by have:=HOW.o;unfold iR at this;rw[Wn,←Tu]at this;exact ax.aQ this
   obtain⟨b',off',ee,hb',hd'⟩:=hen.at_ q (by rw[Wn];exact O6);injection ee with ee;injection ee with ee1 ee2;subst ee1 ee2;rw[hLq,Nat.zero_add]at hd';obtain⟨e0,e1,e2,e3,e4,e5,e6,e7,e8⟩:=hd';have hmx: ∀e,bC[q]=some e→aK e=true:=fun e he=>HO.o.may e (by
    have h1:some e∈aT j.per k j.es:=by rw[Lb.o,←he];exact List.getElem_mem Va
    unfold aT at h1;exact List.mem_of_mem_drop (List.mem_of_mem_take h1));have df:=qS (bC.take (q+1)=bC.take q++[bC[q]]) (by rw[List.take_add_one,List.getElem?_eq_getElem Va,Option.toList_some]);have HDR:=qS (bC.drop q=bC[q]::bC.drop (q+1)) (List.drop_eq_getElem_cons Va);have bL:Below wr.heap.size wr (wr.alloc (bR bC[q])):=(Below.refl _ _).alloc (Nat.le_refl _) _;have qR:=qH bL;have Pp:=qH (Nl HK.o YN.o (HRW.o.up HK.o bL) (by have h1:=vP (bC.take q);have h2:=SG.o;rw[List.length_take]at h1;rw[List.length_append];omega) bC[q] hmx);have hin:=lD.new wr bC[q];generalize bC[q]=x at*;clear bL hmx hen hLq;obtain⟨f0,f1,f2,f3,f4,f5,f6,f7,f8⟩:=hin;have t2:(q:Int)<m:=by omega
   have Ze:gs<wr.heap.size:=(World.ownsRow.lt HOW.o gs rfl).2;go_wp2_with fail;with_reducible refine Pp.o.mono ?_
   rintro r w3⟨rfl,H3,hrw3,hH3,hk3⟩;have hg3:w3.heap[gs]?=wr.heap[gs]?:=(hk3.block gs (by simp;omega) HNG.o).trans (heap_alloc_old _ _ Ze);have Uu:=qS (iR w3 w.heap.size (.slice (some ⟨gs,0,none⟩) bC.length bC.length) ((bC.take q).map (iP kb)++bC.drop q)) (HOW.o.aN fun b hb=>by have e:b=gs:=(Option.some.inj hb).symm;rw[e];exact hg3);have hs3:=hk3.size;have hsw:=lY.o.size;have Xc:=qH hrw3;have Sw:=qS ((∀b,H3 b→H b∨w.heap.size≤b)∧ ¬H3 gs) (⟨fun b hb=>by
    rcases hH3 b hb with h|h;·exact HH.o b h
    ·have:=qR.o.size;right;omega,fun hb=>by
    rcases hH3 gs hb with h|h;·exact HNG.o h
    ·have:=qR.o.size;omega⟩);have OO:=qS (ah (fun b=>G b∨F b∨H b) w w3) ((lY.o.trans (ah.of_below (F:=fun _=>False) qR.o) (fun _ _ h=>h.elim)).trans hk3 (fun b hb h=>by
    rcases HH.o b h with h|h;·exact .inr (.inr h)
    ·omega));have SG:=qS (aq++bU (bC.take q)++x.toList=aq++bU (bC.take (q+1))) (by rw[df.o,oP,List.append_assoc]);clear hrw3 hH3 hk3 Pp e0 e1 e2 e3 e4 e5 e6 e7 e8 f0 f1 f2 f3 f4 f5 f6 f7 f8 hg3;cases hgo:jY kb x
   ·have lX:=qS (Bq I fv kb G F H bj bd bt gs v j aq w bC (.int .i64 (dG kb (bC.take q))) (.int .i64 ((q+1:Nat):Int)) w3) (by refine⟨q+1,H3,rfl,by omega,by rw[df.o,zN,hgo];simp,?_,by rw[←SG.o];exact Xc.o,Sw.o.1,Sw.o.2,OO.o⟩;rw[df.o,List.map_append,List.append_assoc,List.map_singleton,zJ hgo,List.singleton_append,←HDR.o];exact Uu.o);clear hgo;go_wp2;go_roundw;case rel=>exact lX.o
    case measure=>simp[intOf];omega
   ·have mF:=iR.there Uu.o q (by rw[Wn];exact O6);have Ox:=qH (Uu.o.gP q (by rw[Wn];exact O6));have key: ∀o,o<9→(∃u,w3.cell? ⟨gs,q*9+o,none⟩=some u)∧w3.frozen? ⟨gs,q*9+o,none⟩=false:=fun o ho=>⟨Option.isSome_iff_exists.1 (mF o ho).1,(mF o ho).2⟩;obtain⟨⟨u0,g0⟩,z0⟩:=key 0 (by omega);obtain⟨⟨u1,g1⟩,z1⟩:=key 1 (by omega);obtain⟨⟨u2,g2⟩,z2⟩:=key 2 (by omega);obtain⟨⟨u3,g3⟩,z3⟩:=key 3 (by omega);obtain⟨⟨u4,g4⟩,z4⟩:=key 4 (by omega);obtain⟨⟨u5,g5⟩,z5⟩:=key 5 (by omega);obtain⟨⟨u6,g6⟩,z6⟩:=key 6 (by omega);obtain⟨⟨u7,g7⟩,z7⟩:=key 7 (by omega);obtain⟨⟨u8,g8⟩,z8⟩:=key 8 (by omega);rw[Nat.add_zero]at g0 z0;have hcw:wrap64 ((dG kb (bC.take q):Int)+1)=(dG kb (bC.take q):Int)+1:=by
     have h1:dG kb (bC.take q)≤q:=by unfold dG;have:=List.length_filter_le (jY kb) (bC.take q);rw[List.length_take]at this;omega
     unfold wrap64;omega
    have lX:=qS (Bq I fv kb G F H bj bd bt gs v j aq w bC (.int .i64 ((dG kb (bC.take q):Int)+1)) (.int .i64 ((q+1:Nat):Int)) (gP w3 gs (q*9))) (by
     have hset:((bC.take q).map (iP kb)++bC.drop q).set q none=(bC.take (q+1)).map (iP kb)++bC.drop (q+1):=by
      have hlen:((bC.take q).map (iP kb)).length=q:=by rw[List.length_map,List.length_take];omega
      rw[List.set_append_right _ _ (by omega),hlen,Nat.sub_self,HDR.o,List.set_cons_zero,df.o,List.map_append,List.append_assoc,List.map_singleton,Nu hgo,List.singleton_append]
     have Lp:=Ox.o.2;refine⟨q+1,H3,rfl,by omega,by rw[df.o,zN,hgo];simp,?_,?_,Sw.o.1,Sw.o.2,OO.o.trans (ah.bV (F:=fun b=>b=gs) Lp (fun k e=>(Option.some.inj e).symm)) (fun b hb e=>by omega)⟩;·have:=Ox.o.1;rw[hset]at this;exact this
     ·rw[←SG.o];refine Xc.o.RF HK.o Lp.size gs (fun h=>?_) (by omega) (by omega) (fun b hb hne=>Lp.block b hb (fun e=>hne (Option.some.inj e)));rcases h with h|h|h;·have:=OV.o gs (.inl h);omega
      ·have:=OV.o gs (.inr (.inl h));omega
      ·exact Sw.o.2 h);clear key mF hgo;go_wp2;go_roundw;case rel=>rw[hcw];exact lX.o
    case measure=>simp[intOf];omega
  ·have hqm:q=bC.length:=by omega
   have Ty:=HOW.o;have Tx:=HRW.o;rw[hqm,List.take_length,List.drop_length,List.append_nil]at Ty;rw[hqm,List.take_length]at Tx;have Ut:=qH Ty;have Um:=qH Tx;rw[hqm,List.take_length,Tu];have hcm:dG kb bC≤m:=by unfold dG;have:=List.length_filter_le (jY kb) bC;omega
   have t2: ¬(q:Int)<m:=by omega
   clear Ty Tx HOW HRW;by_cases hc0:dG kb bC=0
   ·have Xh:=qS (wm I fv G F H bj bd bt (j.rew1 kb k) (aq++bU (aT j.per k j.es)) w (j.nM kb k) (j.jH kb k) (.returned (.tuple #[.int .i64 0,.int .i64 0])) wr) (by
     have e0:dG kb (aT j.per k j.es)=0:=by rw[Lb.o];exact hc0
     have e1:j.rew1 kb k=j:=by unfold Jl.rew1;rw[if_pos e0]
     have e2:j.jH kb k=0:=by unfold Jl.jH;rw[if_pos e0]
     have e3:j.nM kb k=0:=by unfold Jl.nM;rw[e2,if_neg (by simp),e0]
     rw[e1,e2,e3,Lb.o];exact⟨rfl,G,F,H',v,Um.o,HO.o,fun _ h=>.inl h,fun _ h=>.inl h,HH.o,lY.o⟩);rw[hc0];clear hc0;go_wp2;go_ret2;exact Xh.o
   ·have t3:((dG kb bC:Int)==0)=false:=by simp;omega
    clear hqm;go_upto_region 15 with fail;clear t2 t3;have hkp:=lY.o;have hsw:=hkp.size;have HHN:=qH hc0;have hgl4:gs<wr.heap.size:=(World.ownsRow.lt Ut.o gs rfl).2;have Z0:=qS (GJ I fv G F H' bj bd bt gs v j (aq++bU bC) w wr (bC.map (iP kb)) (.slice none 0 0) (.int .i64 ((0:Nat):Int)) wr) (⟨0,rfl,Nat.zero_le _,by simpa[aF]using aR.nil wr wr.heap.size,Um.o,by rw[List.length_map];exact Ut.o,Below.refl _ _⟩);have hml2:(bC.map (iP kb)).length=m:=by rw[List.length_map];exact Tu
    have Po:=qS (∀y∈bC.map (iP kb),∀e,y=some e→aK e=true) (fun y hy e he=>by
     obtain⟨x,hx,hxy⟩:=List.mem_map.1 hy;subst he;have hx2:x=some e:=by
      cases x with
       |none=>cases hxy
       |some e'=>
        simp only[iP]at hxy;split at hxy;·exact hxy
        ·cases hxy
     refine HO.o.may e ?_;have h1:some e∈aT j.per k j.es:=by rw[Lb.o,←hx2];exact hx
     unfold aT at h1;exact List.mem_of_mem_drop (List.mem_of_mem_take h1));have Sk:=qS (iR wr w.heap.size (.slice (some ⟨gs,0,none⟩) (bC.map (iP kb)).length (bC.map (iP kb)).length) (bC.map (iP kb))) (by rw[List.length_map];exact Ut.o);have yO:=qS (aT j.per k j.es=bC∧(aT j.per k j.es).map (iP kb)=bC.map (iP kb)) (by rw[Lb.o];exact⟨rfl,rfl⟩);generalize hseg2:bC.map (iP kb)=seg2 at*;clear hkp hc0;generalize wr=w4 at*;go_wp2;go_loopw[14,70](fun b i wz=>GJ I fv G F H' bj bd bt gs v j (aq++bU bC) w w4 seg2 b i wz)(fun _ i _=>m-(intOf i).toNat);case atStart=>exact Z0.o
    case round=>
     obtain⟨q2,rfl,hq2,Ku,hrw5,how5,hbl5⟩:=hrel;have Pk:=qH Ku;have Xb:=qH hrw5;have aag:=qH how5;have Yb:=qH hbl5;have hlen2:=uV (seg2.take q2) (fun y hy=>Po.o y (List.mem_of_mem_take hy));have hs5:=hbl5.size;clear Ku hrw5 how5 hbl5;by_cases aaP:q2<m
     ·have Tv:q2<seg2.length:=by omega
      have hen:oM wr wr.heap.size (some ⟨gs,0,none⟩) seg2.length seg2.length seg2:=ax.aQ aag.o;obtain⟨b',off',ee,hb',hd'⟩:=hen.at_ q2 Tv;injection ee with ee;injection ee with ee1 ee2;subst ee1 ee2;rw[Nat.zero_add]at hd';obtain⟨e0,e1,e2,e3,e4,e5,e6,e7,e8⟩:=hd';have df:=qS (aF (seg2.take (q2+1))=aF (seg2.take q2)++aU seg2[q2]) (by rw[List.take_add_one,List.getElem?_eq_getElem Tv,Option.toList_some,qd];simp[aF]);have Iz:=Po.o seg2[q2] (List.getElem_mem Tv);have bL:Below wr.heap.size wr (wr.alloc (bR seg2[q2])):=(Below.refl _ _).alloc (Nat.le_refl _) _;have qR:=qH bL;have uY:=qH (zB (wr.alloc (bR seg2[q2])) seg2[q2] Iz (Xb.o.mx.up bL));have hsl:=za Iz;have hin:=lD.new wr seg2[q2];have aaj:=qH (Pk.o.alloc (bR seg2[q2]));generalize seg2[q2]=y at*;obtain⟨f0,f1,f2,f3,f4,f5,f6,f7,f8⟩:=hin;have t5:(q2:Int)<m:=by omega
      have hsA:(wr.alloc (bR y)).heap.size=wr.heap.size+1:=by simp
      have hq99:q2≤99:=by omega
      rw[List.length_take]at hlen2;have hbb:(aF (seg2.take q2)).length≤200000:=by omega
      clear bL Iz hen;go_wp2_with fail;with_reducible refine uY.o.mono ?_
      rintro r w6⟨v6,rfl,ho6,hb6⟩;obtain⟨A6,c6,hv6⟩:=ho6.form;subst hv6;have gK:=qH ho6.Pb;have Ya:=qS (Below w4.heap.size w4 w6) ((Yb.o.trans (qR.o.mono hs5)).trans (hb6.mono (by rw[hsA];omega)));have fH:=qS (Below wr.heap.size wr w6) (qR.o.trans (hb6.mono (by rw[hsA];omega)));have Xt:=qH (aaj.o.up hb6);have hs6:=hb6.size;clear ho6 hb6 e0 e1 e2 e3 e4 e5 e6 e7 e8 f0 f1 f2 f3 f4 f5 f6 f7 f8;go_wp2_with(at_builtin;refine bJ rfl (.tmp 74) (.tmp 76) rfl w4.heap.size _ (aF (seg2.take q2)) rfl Xt.o w6.heap.size _ _ _ (aU y) rfl gK.o ?x1 ?x2 ?_);case x1=>omega
      case x2=>omega
      intro v7 w7 ho7 hg7 hv7;have Hg:=qH ho7;have kE:=qS (Below w4.heap.size w4 w7) (Below.grown Ya.o hg7 Ya.o.size Xt.o.lt);have lX:=qS (GJ I fv G F H' bj bd bt gs v j (aq++bU bC) w w4 seg2 v7 (.int .i64 ((q2+1:Nat):Int)) w7) (⟨q2+1,rfl,by omega,by rw[df.o];exact Hg.o,Um.o.up HK.o kE.o,Sk.o.aN (fun b hb=>kE.o.block b (by have e:b=gs:=(Option.some.inj hb).symm;omega)),kE.o⟩);clear ho7 hg7 hv7;go_wp2;go_roundw;case rel=>exact lX.o
      case measure=>simp[intOf];omega
     ·have hqe:q2=seg2.length:=by omega
      have Ku:=Pk.o;rw[hqe,List.take_length]at Ku;rw[hqe,List.take_length]at hlen2;have aak:=qH Ku;have t5: ¬(q2:Int)<m:=by omega
      have aab:=Xb;obtain⟨A7,c7,hv7⟩:=Ku.form;subst hv7;clear Ku hqe;go_upto_region 21 with fail;have hk99:k<100:=by have h1:=BZ.o;have h2:k*1≤k*p:=Nat.mul_le_mul_left _ hp1;omega
      have hnm:=HO.o.nm;have hsl:=(lK j.name hk99).2;have Ce:=qS (∀W,Rw I fv G F H' bj bd bt v j (aq++bU bC) W→Calls Tryz.prog 70 #[.pointer (some ⟨bj,0,none⟩),.int .i64 (k:Int)] W (fun e w'=>e=.returned (.string ⟨(aO j.name k).toArray⟩)∧Below W.heap.size W w')) (fun W hW=>(qF W bj j.name hW.jl.cells.2.1 (by omega) k hk99).mono fun e w'⟨h1,q,h2⟩=>⟨h1,h2▸below_drewN (Below.refl _ _) q⟩);have Uo:=qS (∀W,Rw I fv G F H' bj bd bt v j (aq++bU bC) W→aR W w4.heap.size (.slice A7 (aF seg2).length c7) (aF seg2)→Calls Tryz.prog 72 #[.pointer (some ⟨bd,0,none⟩),.string ⟨(aO j.name k).toArray⟩,.slice A7 (aF seg2).length c7] W (gU W G bd (j.dk.replace (aO j.name k) (aF seg2)) (j.dk.bz (aO j.name k) (aF seg2)))) (fun W hW hO=>by refine Gn W G bd j.dk hW.jl.dk _ (by omega) A7 _ c7 (aF seg2) hO.Pb (fun b off e hg=>?_) (by rw[hml2]at hlen2;omega);subst e;have h1:=hO.lt b rfl;have h2:=OV.o b (.inl hg);omega);have Xa:=qS (∀W,Rw I fv G F H' bj bd bt v j (aq++bU bC) W→W.cell? ⟨bj,0,none⟩=some (.pointer (some ⟨bd,0,none⟩))) (fun W hW=>hW.jl.cells.1);have HX:=qS (Rw I fv G F H' bj bd bt v j (aq++bU bC) wr.drew) (aab.o.up HK.o (below_drewN (Below.refl _ _) 1));have HXB:=qS (aR wr.drew w4.heap.size (.slice A7 (aF seg2).length c7) (aF seg2)) (aak.o);have jC:=qS (Below w4.heap.size w4 wr.drew) (below_drewN Yb.o 1);have jA:=qS (∀W w9,Rw I fv G F H' bj bd bt v j (aq++bU bC) W→Below w4.heap.size w4 W→Ht W G bd (j.dk.replace (aO j.name k) (aF seg2)) w9→RwF I fv G F H H' bj bd bt gs v {j with dk:=j.dk.replace (aO j.name k) (aF seg2)} (aq++bU bC) w seg2 w9) (fun W w9 hW hb hd=>by obtain⟨G9,h9,Yv,hk9⟩:=hW.disk HK.o hd;have hs9:=hb.size;refine⟨G9,h9,Sk.o.aN (fun b hb'=>?_),fun b hb'=>(Yv b hb').imp id (fun h=>by omega),(lY.o.trans (ah.of_below (F:=fun _=>False) (hb.mono (Nat.le_refl _))) (fun _ _ h=>h.elim)).trans hk9 (fun b hb' h=>.inl h)⟩;have e:b=gs:=(Option.some.inj hb').symm;subst e;exact(hk9.block b (by omega) (fun hg=>by have:=OV.o b (.inl hg);omega)).trans (hb.block b hgl4));have yP:=qS (∀w9,RwF I fv G F H H' bj bd bt gs v {j with dk:=j.dk.replace (aO j.name k) (aF seg2)} (aq++bU bC) w seg2 w9→w9.cell? ⟨bj,0,none⟩=some (.pointer (some ⟨bd,0,none⟩))) (fun w9 h=>by obtain⟨G9,h9,_⟩:=h;exact h9.jl.cells.1);have hS:=Xa.o _ HX.o;go_region_held3(fun W=>W.cell? ⟨bj,0,none⟩=some (.pointer (some ⟨bd,0,none⟩)))(first|assumption|go_keep)(first|(go_at_call 70;(with_reducible refine(Ce.o _ HX.o).mono ?_);rintro r9 w8⟨rfl,hb8⟩;have I5:=qH (HX.o.up HK.o hb8);have WN:=qH (HXB.o.up hb8);have WM:=qH (jC.o.trans (hb8.mono jC.o.size));clear HX HXB jC;have HX:=I5;have HXB:=WN;have jC:=WM;clear I5 WN WM;(try clear hS);have hS:=Xa.o _ HX.o;clear hb8)|(go_at_call 72;(with_reducible refine(Uo.o _ HX.o HXB.o).mono ?_);rintro r9 w9⟨rfl,hd9⟩;have HF9:=qH (jA.o _ _ HX.o jC.o hd9);(try clear hS);have hS:=yP.o _ HF9.o;clear hd9));have hf9:=HF9.o;clear hS HX HXB jC Ce Uo Xa jA yP HF9;obtain⟨G9,h9,how9,Yv,hk9⟩:=hf9;have H9:=qH h9;have aaf:=qH how9;have HG9:=qH Yv;have XH:=qH hk9;obtain⟨d0,d1,d2,d3,d4,d5,d6⟩:=h9.jl.cells;have Yz:=h9.jl.frozen 5;have RZ:=h9.jl.frozen 6;clear h9 how9 Yv hk9 d0 d1 d2;have HE0:=qS (dG kb (aT j.per k j.es)≠0) (by rw[yO.o.1];exact HHN.o);have hE1:j.jH kb k=j.dk.bz (aO j.name k) (aF seg2):=by unfold Jl.jH;rw[if_neg HE0.o,yO.o.2]
      have sF:=qH hE1;have Vr:=qS (j.rew1 kb k=(if j.dk.bz (aO j.name k) (aF seg2)≠0 then{j with dk:=j.dk.replace (aO j.name k) (aF seg2),stuck:=j.dk.bz (aO j.name k) (aF seg2)}else{j with dk:=j.dk.replace (aO j.name k) (aF seg2),es:=dL kb j.per k j.es,lasts:=if k+1=j.files then j.es.length else j.lasts})) (by unfold Jl.rew1;rw[if_neg HE0.o,yO.o.2]);have Xz:=qS (j.nM kb k=if j.dk.bz (aO j.name k) (aF seg2)≠0 then 0 else dG kb bC) (by unfold Jl.nM;rw[sF.o,yO.o.1]);have Uh:=qH yO.o.1;clear hE1;by_cases hE:j.dk.bz (aO j.name k) (aF seg2)=0
      ·have hsl2:seg2.length=m:=hml2;obtain⟨cur9,hg9,ht9,hc91,hc92,hc93⟩: ∃cur9:Array Value,w9.heap[g]?=some (.cells cur9 91 (0,0))∧cur9.toList.take (n*9)=av j.es∧n≤cap∧cap≤maxLen∧cur9.size=cap*9:=by
        have hown:=H9.o.jl.own;have hes:({j with dk:=j.dk.replace (aO j.name k) (aF seg2)}:Jl).es=j.es:=rfl;rw[hes,HV.o]at hown;rcases hown.2 with⟨e,_⟩|⟨g',cap',cur',e,_,h1,h2,h3,h4,h5⟩;·cases e
        ·injection e with e1 e2 e3;injection e1 with e1;injection e1 with e1;subst e1 e3;rw[HN.o]at h5;exact⟨cur',h1,h5,by rw[←HN.o];exact h2,h3,h4⟩
       have hfg:F g:=(H9.o.jl.fv g (by rw[HV.o];rfl)).1;have Zf:g≠bj:=(H9.o.jl.fv g (by rw[HV.o];rfl)).2;have hel2:(av seg2).length=m*9:=by rw[bB,hsl2]
       have hsrc: ∀i u,(av seg2)[i]?=some u→w9.cell? ((⟨gs,0,none⟩:Addr).add i)=some u:=fun i u hu=>by
        have Zl:=ax.aQ aaf.o;obtain⟨b,off,e,_,hc⟩:=Zl.cell (by omega);injection e with e;injection e with e1 e2;subst e1 e2;have e:(⟨gs,0,none⟩:Addr).add i=⟨gs,0+i,none⟩:=by unfold Addr.add;split<;>simp_all
        rw[e];exact hc i u hu
       have Rj:=qS ((Tryz.prog.info? 91).map (·.size)=some 9) (by rw[HI.o];exact congrArg some HZ1.o);obtain⟨w10,hrun10,hsp⟩: ∃w10,(Builtin.copy_ #[86,86] 3 #[.slice (some ⟨g,lo*9,none⟩) m (cap-lo),.slice (some ⟨gs,0,none⟩) m m]).run Tryz.prog w9=.ok (goInt m) w10∧lq w9 w10 g (lo*9) cur9 91 (av seg2):=⟨_,ma (P:=Tryz.prog) w9 _ _ _ 91 9 g (lo*9) m (cap-lo) ⟨gs,0,none⟩ m m cur9 _ (av seg2) m Tryz.underlying86 Rj.o hg9 (by simp) hel2 hsrc (by rw[hel2,hc93];omega) (fun u hu=>by obtain⟨x,_,hx⟩:=List.mem_flatMap.1 hu;exact rR x u hx),dY w9 _ _ _ _ _ hg9⟩;have h10:=iR.splice (base:=0) hg9 (Nat.zero_le _) HN.o hc91 hc92 hc93 ht9 hsl2 hmn hsp;have TA:j.es.take lo++seg2++j.es.drop (lo+m)=dL kb j.per k j.es:=by
        unfold dL;rw[yO.o.2,HP.o,←BZ.o];congr 1;rw[Nat.succ_mul,←BZ.o];rcases Nat.lt_or_ge (lo+p) n with h1|h1;·rw[show lo+m=lo+p by have:=YH.o;omega]
        ·rw[List.drop_eq_nil_of_le (by have:=YH.o;have:=HN.o;omega),List.drop_eq_nil_of_le (by have:=HN.o;omega)]
       rw[TA]at h10;have Lp:=hsp.grown;have VS:ah F w9 w10:=ah.bV Lp (fun k e=>by rw[←Option.some.inj e];exact hfg);have hj10:gN w10 G9 F bj bd v {j with dk:=j.dk.replace (aO j.name k) (aF seg2),es:=dL kb j.per k j.es}:=by refine⟨H9.o.jl.dk.keep VS.size fun b hb=>VS.block b (H9.o.jl.dk.lt b hb) (fun hf=>H9.o.jl.ap b hf hb),?_,by rw[HV.o];exact h10,H9.o.jl.fj,H9.o.jl.fv,H9.o.jl.ap,fun b hb=>Nat.lt_of_lt_of_le (H9.o.jl.lt b hb) VS.size⟩;exact(Lp.block bj (H9.o.jl.lt _ H9.o.jl.fj) (fun e=>Zf (Option.some.inj e).symm)).trans H9.o.jl.blk
       have UD:=qH hj10;have HKF:=qH VS;obtain⟨q0,q1,q2',q3,q4,q5,q6⟩:=hj10.cells;have q5f:=hj10.frozen 5;rw[HV.o]at q4 d4;have Jf:=qS (∀w11(l:Nat),ah F w9 w11→gN w11 G9 F bj bd v {j with dk:=j.dk.replace (aO j.name k) (aF seg2),es:=dL kb j.per k j.es,lasts:=l}→l=(if k+1=j.files then j.es.length else j.lasts)→wm I fv G F H bj bd bt (j.rew1 kb k) (aq++bU (aT j.per k j.es)) w (j.nM kb k) (j.jH kb k) (.returned (.tuple #[.int .i64 (dG kb bC),.int .i64 0])) w11) (fun w11 l hk11 h11 hl=>by
        have e0: ¬(j.dk.bz (aO j.name k) (aF seg2)≠0):=by simp[hE]
        rw[Vr.o,Xz.o,sF.o,if_neg e0,if_neg e0,hE,Uh.o,←hl];have hle:=bW kb j.per k j.es;refine⟨rfl,G9,F,H',v,H9.o.own HK.o h11 hk11,⟨HO.o.per1,HO.o.per2,HO.o.nm,by rw[hle];exact HO.o.num,by rw[hle];exact HO.o.fl,?_,fun e he=>?_⟩,HG9.o,fun _ h=>.inl h,HH.o,XH.o.trans hk11 (fun b _ h=>.inr (.inl h))⟩
        ·show l≤(dL kb j.per k j.es).length;rw[hle,hl];split;·exact Nat.le_refl _
         ·exact HO.o.O5
        ·have he':some e∈dL kb j.per k j.es:=he;rw[←TA]at he';rcases List.mem_append.1 he' with h|h
         ·rcases List.mem_append.1 h with h|h;·exact HO.o.may e (List.mem_of_mem_take h)
          ·exact Po.o _ h e rfl
         ·exact HO.o.may e (List.mem_of_mem_drop h));rw[hE];clear hE h10 TA Lp VS hj10 hsrc hel2 hg9 ht9 hsp q0 q1 q2' q6 d6 RZ d5 Yz d3 hsl2;have hle10:=bW kb j.per k j.es;have hfw:wrap64 ((j.files:Int)-1)=(j.files:Int)-1:=by have:=HO.o.fl;have:=HN.o;unfold wrap64;omega
       by_cases Yq:k+1=j.files
       ·have t6:((k:Int)==(j.files:Int)-1)=true:=by simp;omega
        have UJ:=qH (Jf.o (w10.setCell ⟨bj,5,none⟩ (.int .i64 n)) n (HKF.o.setCell (p:=⟨bj,5,none⟩) (fun _=>H9.o.jl.fj) _) (UD.o.Cv rfl rfl (by rw[ae UD.o.blk];rfl)) (by rw[if_pos Yq,HN.o]));clear Yq hle10;go_wp2;go_ret2;exact UJ.o
       ·have t6:((k:Int)==(j.files:Int)-1)=false:=by simp;omega
        have t7: ¬((k:Int)=(j.files:Int)-1):=by omega
        have UJ:=qH (Jf.o w10 j.lasts HKF.o UD.o (by rw[if_neg Yq]));clear Yq hle10 q4 q5 q5f;go_wp2;go_ret2;exact UJ.o
      ·have Vk:=qS (wm I fv G F H bj bd bt (j.rew1 kb k) (aq++bU (aT j.per k j.es)) w (j.nM kb k) (j.jH kb k) (.returned (.tuple #[.int .i64 0,.int .i64 (j.dk.bz (aO j.name k) (aF seg2))])) (w9.setCell ⟨bj,6,none⟩ (.int .i64 (j.dk.bz (aO j.name k) (aF seg2))))) (by
        rw[Vr.o,Xz.o,sF.o,if_pos hE,if_pos hE,Uh.o];refine⟨rfl,G9,F,H',v,H9.o.own HK.o (H9.o.jl.Cv rfl rfl ?_) ((ah.refl F w9).setCell (p:=⟨bj,6,none⟩) (fun _=>H9.o.jl.fj) _),?_,HG9.o,fun _ h=>.inl h,HH.o,XH.o.setCell (p:=⟨bj,6,none⟩) (fun _=>.inr (.inl H9.o.jl.fj)) _⟩;·rw[ae H9.o.jl.blk];rfl
        ·exact⟨HO.o.per1,HO.o.per2,HO.o.nm,HO.o.num,HO.o.fl,HO.o.O5,HO.o.may⟩);clear d3 d4 d5 Yz;generalize j.dk.bz (aO j.name k) (aF seg2)=er at*;go_wp2_with fail;with_reducible refine(qG w9 bj _ d6 RZ er).mono ?_
       rintro r w10⟨rfl,rfl⟩;go_wp2;go_ret2;exact Vk.o
end
end Go.Proofs.YtladegonienapaaGreatDoor
