/-
  A row of events of the call's own that is sorted in place: two are swapped.
-/
import Derived.Test.YtcmmclliabhnjaaGreatDoorWTaleRow
import Derived.Test.YtcmmclliabhnjaaGreatDoorWEvForget
import Derived.Test.YtcmmclliabhnjaaGreatDoorWSets
import Derived.Deep.MidRow
import Derived.Test.YtcmmclliabhnjaaGreatDoorWItk
import Derived.IntWalk
set_option maxRecDepth 100000
set_option maxHeartbeats 16000000
namespace Go.Proofs.YtcmmclliabhnjaaGreatDoor
open Go.RowKit Go.Maps Go.Sort
theorem cmpE_neg{a b:Ev}:cmpE a b<0↔LtE a b:=by
 unfold cmpE orI LtE;have h1:= @cI_neg a.at_ b.at_;have h2:= @cI_zero a.at_ b.at_;have k:=cB_all a.src b.src;have n3:= @cI_neg a.num b.num;by_cases e:Lib.compareInt a.at_ b.at_=0
 ·have ea:=h2.1 e;rw[if_neg (by simp[e])];by_cases e2:Lib.compareBytes a.src b.src=0
  ·have es:=k.2.1.1 e2;rw[if_neg (by simp[e2]),n3];constructor;·intro h;exact .inr ⟨ea,.inr ⟨es,h⟩⟩
   ·rintro(h|⟨_,h|⟨_,h⟩⟩);·omega
    ·rw[es,bb_irrefl]at h;cases h
    ·exact h
  ·rw[if_pos (by simpa using e2),k.1];constructor;·intro h;exact .inr ⟨ea,.inl h⟩
   ·rintro(h|⟨_,h|⟨h,_⟩⟩);·omega
    ·exact h
    ·exact absurd (k.2.1.2 h) e2
 ·rw[if_pos (by simpa using e),h1];constructor;·exact fun h=>.inl h
  ·rintro(h|⟨h,_⟩);·exact h
   ·exact absurd (h2.2 h) e
theorem LeE.refl(a:Ev):LeE a a:=LtE.irrefl a
theorem LeE.trans{a b c:Ev}(h:LeE a b)(h':LeE b c):LeE a c:=fun hc=>h' (h.lt hc)
theorem LtE.le{a b:Ev}(h:LtE a b):LeE a b:=fun hb=>LtE.irrefl a (h.trans hb)
theorem LeE.lt2{a b e:Ev}(h:LeE a b)(h':LtE b e):LtE a e:=by
 by_cases hae:LtE a e;·exact hae
 ·exact absurd h' (fun hbe=>by have h1:LeE e a:=hae;exact absurd hbe (h1.trans h))
theorem sorted_append{a b:List Ev}:SortedE (a++b)↔SortedE a∧SortedE b∧ ∀x∈a,∀y∈b,LeE x y:=List.pairwise_append
theorem sorted_at{l:List Ev}(h:SortedE l){i j:Nat}(hij:i≤j)(hj:j<l.length):LeE l[i] l[j]:=by
 rcases Nat.lt_or_eq_of_le hij with h'|h';·exact List.pairwise_iff_getElem.1 h i j (by omega) hj h'
 ·subst h';exact LeE.refl _
theorem sorted_put{a b:List Ev}{x:Ev}(h:SortedE (a++b))(h1: ∀y∈a,LeE y x)(h2: ∀y∈b,LeE x y):SortedE (a++x::b):=by
 rw[sorted_append]at h⊢;refine⟨h.1,List.pairwise_cons.2 ⟨h2,h.2.1⟩,fun y hy z hz=>?_⟩;rcases List.mem_cons.1 hz with rfl|hz;·exact h1 y hy
 ·exact h.2.2 y hy z hz
/-- sorted blocks of so many, the last one perhaps shorter -/
inductive Blocks (s : Nat) : List Ev → Prop
  | last (l : List Ev) : SortedE l → l.length ≤ s → Blocks s l
  | cons (b r : List Ev) : SortedE b → b.length = s → Blocks s r → Blocks s (b ++ r)
theorem Blocks.two{s:Nat}{l:List Ev}(h:Blocks s l)(hs:0<s)(hl:2*s≤l.length): ∃e1 e2 r,l=e1++e2++r∧SortedE e1∧SortedE e2∧e1.length=s∧e2.length=s∧Blocks s r:=by cases h with|last _ h1 h2=>omega|cons b r h1 h2 h3=>rw[List.length_append]at hl;cases h3 with|last _ k1 k2=>exact⟨b,r,[],by simp,h1,k1,h2,by omega,.last [] List.Pairwise.nil (Nat.zero_le _)⟩|cons b2 r2 k1 k2 k3=>exact⟨b,b2,r2,by simp,h1,k1,h2,k2,k3⟩
theorem Blocks.one{s:Nat}{l:List Ev}(h:Blocks s l)(hl:l.length≤s):SortedE l:=by cases h with|last _ h1 _=>exact h1|cons b r h1 h2 h3=>rw[List.length_append]at hl;have:r=[]:=List.eq_nil_of_length_eq_zero (by omega);subst this;simpa using h1
theorem Blocks.rest{s:Nat}{l:List Ev}(h:Blocks s l)(h1:s<l.length)(h2:l.length<2*s): ∃e1 e2,l=e1++e2∧SortedE e1∧SortedE e2∧e1.length=s∧0<e2.length:=by cases h with|last _ _ h=>omega|cons b r k1 k2 k3=>rw[List.length_append]at h1 h2;exact⟨b,r,rfl,k1,k3.one (by omega),k2,by omega⟩
def Done(s:Nat)(l:List Ev):Prop:= ∀r,Blocks s r→Blocks s (l++r)
theorem Done.nil(s:Nat):Done s []:=fun _ h=>h
theorem Done.more{s:Nat}{l m:List Ev}(h:Done s l)(hm:SortedE m)(hl:m.length=s):Done s (l++m):=fun r hr=>by rw[List.append_assoc];exact h _ (.cons m r hm hl hr)
theorem merge_parts{A B A1 A2 B1 B2 M N:List Ev}(hA:SortedE A)(hB:SortedE B)(eA:A=A1++A2)(eB:B=B1++B2)(h1: ∀x∈A1,∀y∈B2,LeE x y)(h2: ∀x∈B1,∀y∈A2,LeE x y)(hM:SortedE M)(hN:SortedE N)(pM:M.Perm (A1++B1))(pN:N.Perm (A2++B2)):SortedE (M++N)∧(M++N).Perm (A++B):=by
 subst eA eB;obtain⟨_,_,ha⟩:=sorted_append.1 hA;obtain⟨_,_,hb⟩:=sorted_append.1 hB;refine⟨sorted_append.2 ⟨hM,hN,fun x hx y hy=>?_⟩,?_⟩
 ·rcases List.mem_append.1 (pM.mem_iff.1 hx)with hx|hx<;>rcases List.mem_append.1 (pN.mem_iff.1 hy)with hy|hy;·exact ha x hx y hy
  ·exact h1 x hx y hy
  ·exact h2 x hx y hy
  ·exact hb x hx y hy
 ·refine(pM.append pN).trans ?_;have e1:A1++B1++(A2++B2)=A1++(B1++A2)++B2:=by simp
  have e2:A1++A2++(B1++B2)=A1++(A2++B1)++B2:=by simp
  rw[e1,e2];exact((List.perm_append_comm).append_left A1).append_right B2
structure Parts(A B:List Ev)(a1 b1:Nat):Prop where
 la:a1≤A.length
 lb:b1≤B.length
 ab: ∀(h1:0<a1)(h2:b1<B.length),LeE (A[a1-1]'(by omega)) B[b1]
 ba: ∀(h1:0<b1)(h2:a1<A.length),LeE (B[b1-1]'(by omega)) A[a1]
theorem Parts.le1{A B:List Ev}{a1 b1:Nat}(h:Parts A B a1 b1)(hA:SortedE A)(hB:SortedE B): ∀x∈A.take a1,∀y∈B.drop b1,LeE x y:=fun x hx y hy=>by obtain⟨i,hi,rfl⟩:=List.getElem_of_mem hx;obtain⟨j,hj,rfl⟩:=List.getElem_of_mem hy;rw[List.length_take]at hi;rw[List.length_drop]at hj;rw[List.getElem_take,List.getElem_drop];have:=h.la;exact((sorted_at hA (j:=a1-1) (by omega) (by omega)).trans (h.ab (by omega) (by omega))).trans (sorted_at hB (by omega) (by omega))
theorem Parts.le2{A B:List Ev}{a1 b1:Nat}(h:Parts A B a1 b1)(hA:SortedE A)(hB:SortedE B): ∀x∈B.take b1,∀y∈A.drop a1,LeE x y:=fun x hx y hy=>by obtain⟨i,hi,rfl⟩:=List.getElem_of_mem hx;obtain⟨j,hj,rfl⟩:=List.getElem_of_mem hy;rw[List.length_take]at hi;rw[List.length_drop]at hj;rw[List.getElem_take,List.getElem_drop];have:=h.lb;exact((sorted_at hB (j:=b1-1) (by omega) (by omega)).trans (h.ba (by omega) (by omega))).trans (sorted_at hA (by omega) (by omega))
def setEv(w:World)(g o:Nat)(y:Ev):World:=(((((((w.setCell ⟨g,o,none⟩ (.string ⟨y.src.toArray⟩)).setCell ⟨g,o+1,none⟩ (.int .i64 y.num)).setCell ⟨g,o+2,none⟩ (.int .i64 y.at_)).setCell ⟨g,o+3,none⟩ (.int .i64 y.kind)).setCell ⟨g,o+4,none⟩ (.string ⟨y.per.toArray⟩)).setCell ⟨g,o+5,none⟩ (.string ⟨y.item.toArray⟩)).setCell ⟨g,o+6,none⟩ (.int .i64 y.val)).setCell ⟨g,o+7,none⟩ (.string ⟨y.text.toArray⟩)
theorem evCells_set(l:List Ev)(i:Nat)(y:Ev)(hi:i<l.length):evCells (l.set i y)=((((((((evCells l).set (i*8) (.string ⟨y.src.toArray⟩)).set (i*8+1) (.int .i64 y.num)).set (i*8+2) (.int .i64 y.at_)).set (i*8+3) (.int .i64 y.kind)).set (i*8+4) (.string ⟨y.per.toArray⟩)).set (i*8+5) (.string ⟨y.item.toArray⟩)).set (i*8+6) (.int .i64 y.val)).set (i*8+7) (.string ⟨y.text.toArray⟩):=by
 induction l generalizing i with
  |nil=>simp at hi
  |cons e l ih=>
   cases i with
    |zero=>simp[evCells,Ev.cells]
    |succ i=>
     have ih':=ih i (by simpa using hi);have h8:e.cells.length=8:=rfl;have key: ∀(R:List Value)(j:Nat)(u:Value),(e.cells++R).set ((i+1)*8+j) u=e.cells++R.set (i*8+j) u:=fun R j u=>by rw[List.set_append_right _ _ (by rw[h8];omega),h8,show(i+1)*8+j-8=i*8+j by omega]
     have key0: ∀(R:List Value)(u:Value),(e.cells++R).set ((i+1)*8) u=e.cells++R.set (i*8) u:=fun R u=>key R 0 u;have e1:evCells (e::l)=e.cells++evCells l:=rfl;have e2:evCells ((e::l).set (i+1) y)=e.cells++evCells (l.set i y):=rfl;rw[e2,e1,ih',key0,key,key,key,key,key,key,key]
theorem OwnE.setEv{w:World}{base g n cap:Nat}{l:List Ev}(h:OwnE w base (.slice (some ⟨g,0,none⟩) n cap) l)(hn:n=l.length)(i:Nat)(hi:i<l.length)(y:Ev):OwnE (setEv w g (i*8) y) base (.slice (some ⟨g,0,none⟩) n cap) (l.set i y)∧w.grownBy (Go.Proofs.YtcmmclliabhnjaaGreatDoor.setEv w g (i*8) y) (some g):=by subst hn;unfold OwnE at h⊢;rw[evCells_set l i y hi,List.length_set];obtain⟨h0,g0⟩:=World.ownsRow.stored h (i*8) (.string ⟨y.src.toArray⟩);obtain⟨h1,g1⟩:=World.ownsRow.stored h0 (i*8+1) (.int .i64 y.num);obtain⟨h2,g2⟩:=World.ownsRow.stored h1 (i*8+2) (.int .i64 y.at_);obtain⟨h3,g3⟩:=World.ownsRow.stored h2 (i*8+3) (.int .i64 y.kind);obtain⟨h4,g4⟩:=World.ownsRow.stored h3 (i*8+4) (.string ⟨y.per.toArray⟩);obtain⟨h5,g5⟩:=World.ownsRow.stored h4 (i*8+5) (.string ⟨y.item.toArray⟩);obtain⟨h6,g6⟩:=World.ownsRow.stored h5 (i*8+6) (.int .i64 y.val);obtain⟨h7,g7⟩:=World.ownsRow.stored h6 (i*8+7) (.string ⟨y.text.toArray⟩);exact⟨h7,((((((g0.trans g1).trans g2).trans g3).trans g4).trans g5).trans g6).trans g7⟩
structure Srt(w0:World)(base g n cap:Nat)(l:List Ev)(wr:World):Prop where
 own:OwnE wr base (.slice (some ⟨g,0,none⟩) n cap) l
 len:n=l.length
 grown:w0.grownBy wr (some g)
theorem Srt.up{w0 wr w2:World}{base g n cap:Nat}{l:List Ev}(h:Srt w0 base g n cap l wr)(hb:Below wr.heap.size wr w2):Srt w0 base g n cap l w2:=have h2:wr.grownBy w2 none:=⟨hb.os,hb.tape,hb.output,hb.size,fun i hi _=>hb.block i hi⟩;⟨h.own.keep (fun b e=>hb.block b (h.own.lt e)),h.len,h.grown.andThen h2 (fun j hj=>by cases hj)⟩
theorem Srt.drewN{w0 wr:World}{base g n cap:Nat}{l:List Ev}(h:Srt w0 base g n cap l wr)(k:Nat):Srt w0 base g n cap l (wr.drewN k):=h.up (below_drewN (Below.refl _ _) k)
theorem Srt.ev{w0 wr:World}{base g n cap:Nat}{l:List Ev}(h:Srt w0 base g n cap l wr)(k:Nat)(hk:k<l.length):EvAt wr g (k*8) l[k]:=by have h1:=h.own;unfold OwnE at h1;rw[←h.len]at h1;have hev:Evs wr wr.heap.size (some ⟨g,0,none⟩) n cap l:=Cel.of_own h1;obtain⟨b,o,q,_,hz⟩:=hev.ev k hk;injection q with q;injection q with q1 q2;subst q1 q2;rw[Nat.zero_add]at hz;exact hz
theorem Srt.frozen{w0 wr:World}{base g n cap:Nat}{l:List Ev}(h:Srt w0 base g n cap l wr)(o:Nat):wr.frozen? ⟨g,o,none⟩=false:=by have h1:=h.own;unfold OwnE at h1;rw[←h.len]at h1;exact World.ownsRow.frozenAt h1 o
theorem Srt.set{w0 wr:World}{base g n cap:Nat}{l:List Ev}(h:Srt w0 base g n cap l wr)(i:Nat)(hi:i<l.length)(y:Ev):Srt w0 base g n cap (l.set i y) (setEv wr g (i*8) y):=by obtain⟨h1,h2⟩:=h.own.setEv h.len i hi y;exact⟨h1,by rw[List.length_set];exact h.len,h.grown.andThen h2 (fun j hj=>.inr hj)⟩
def swapL(l:List Ev)(i j:Nat)(x y:Ev):List Ev:=(l.set i x).set j y
theorem Srt.swap{w0 wr:World}{base g n cap:Nat}{l:List Ev}(h:Srt w0 base g n cap l wr)(i j:Nat)(hi:i<l.length)(hj:j<l.length)(x y:Ev):Srt w0 base g n cap (swapL l i j x y) (setEv (setEv wr g (i*8) x) g (j*8) y).drew:=((h.set i hi x).set j (by rw[List.length_set];exact hj) y).drewN 1
theorem set_mid(p r:List Ev)(x y:Ev):(p++x::r).set p.length y=p++y::r:=by rw[List.set_append_right _ _ (Nat.le_refl _),Nat.sub_self];rfl
theorem swap_lo(p q r:List Ev)(x y:Ev):swapL (p++x::(q++y::r)) p.length (p.length+1+q.length) y x=p++y::(q++x::r):=by
 unfold swapL;rw[set_mid];have e:p++y::(q++y::r)=(p++y::q)++y::r:=by simp
 have e2:p.length+1+q.length=(p++y::q).length:=by simp;omega
 rw[e,e2,set_mid];simp
theorem swap_hi(p q r:List Ev)(x y:Ev):swapL (p++x::(q++y::r)) (p.length+1+q.length) p.length x y=p++y::(q++x::r):=by
 unfold swapL;have e:p++x::(q++y::r)=(p++x::q)++y::r:=by simp
 have e2:p.length+1+q.length=(p++x::q).length:=by simp;omega
 rw[e,e2,set_mid];have e3:p++x::q++x::r=p++x::(q++x::r):=by simp
 rw[e3,set_mid]
theorem get_mid(p r:List Ev)(x:Ev)(h:p.length<(p++x::r).length):(p++x::r)[p.length]'h=x:=by simp
structure SwF(w0:World)(base g n cap:Nat)(l:List Ev)(i j:Nat)(x y:Ev)(wr:World):Prop where
 ex:EvAt wr g (i*8) x
 ey:EvAt wr g (j*8) y
 fr: ∀o,wr.frozen? ⟨g,o,none⟩=false
 lo:(∃z,EvAt (setEv wr g (i*8) y) g (j*8) z)∧ ∀o,(setEv wr g (i*8) y).frozen? ⟨g,o,none⟩=false
 hi:(∃z,EvAt (setEv wr g (j*8) x) g (i*8) z)∧ ∀o,(setEv wr g (j*8) x).frozen? ⟨g,o,none⟩=false
 resLo:Srt w0 base g n cap l (setEv (setEv wr g (i*8) y) g (j*8) x).drew
 resHi:Srt w0 base g n cap l (setEv (setEv wr g (j*8) x) g (i*8) y).drew
 lt:j<n
theorem Srt.swf{w0 wr:World}{base g n cap:Nat}{P Q R:List Ev}{x y:Ev}(h:Srt w0 base g n cap (P++x::(Q++y::R)) wr){i j:Nat}(hi:P.length=i)(hj:P.length+1+Q.length=j):SwF w0 base g n cap (P++y::(Q++x::R)) i j x y wr:=by
 subst hi hj;have hi1:P.length<(P++x::(Q++y::R)).length:=by simp
 have hi2:P.length+1+Q.length<(P++x::(Q++y::R)).length:=by simp;omega
 have hx:=h.ev P.length hi1;have hy:=h.ev (P.length+1+Q.length) hi2;rw[get_mid]at hx;have hy2:(P++x::(Q++y::R))[P.length+1+Q.length]'hi2=y:=by
  have e:P++x::(Q++y::R)=(P++x::Q)++y::R:=by simp
  have e2:P.length+1+Q.length=(P++x::Q).length:=by simp;omega
  simp only[e,e2];simp
 rw[hy2]at hy;have h1:=h.set P.length hi1 y;have h2:=h.set (P.length+1+Q.length) hi2 x;have r1:=h.swap P.length (P.length+1+Q.length) hi1 hi2 y x;have r2:=h.swap (P.length+1+Q.length) P.length hi2 hi1 x y;rw[swap_lo]at r1;rw[swap_hi]at r2;exact⟨hx,hy,h.frozen,⟨⟨_,h1.ev (P.length+1+Q.length) (by rw[List.length_set];exact hi2)⟩,h1.frozen⟩,⟨⟨_,h2.ev P.length (by rw[List.length_set];exact hi1)⟩,h2.frozen⟩,r1,r2,by rw[h.len];exact hi2⟩
def SwRRel(w0:World)(base g n cap:Nat)(X U Z V Y:List Ev)(i:Value)(wr:World):Prop:= ∃k:Nat,i=.int .i64 k∧k≤U.length∧Srt w0 base g n cap (X++(V.take k++U.drop k)++Z++(U.take k++V.drop k)++Y) wr
def SrwPost(w0:World)(base g n cap:Nat)(l:List Ev)(e:Ending)(w':World):Prop:=e=.returned (.tuple #[])∧Srt w0 base g n cap l w'
theorem swapRange_any(w0 w:World)(base g n cap:Nat)(X U Z V Y:List Ev)(h:Srt w0 base g n cap (X++U++Z++V++Y) w)(hUV:U.length=V.length)(hn:n≤1000000)(a b m:Nat)(ha:X.length=a)(hb:X.length+U.length+Z.length=b)(hm:U.length=m)(cmp:Value):Calls Tryz.prog 261 #[.slice (some ⟨g,0,none⟩) n cap,.int .i64 a,.int .i64 b,.int .i64 m,cmp] w (SrwPost w0 base g n cap (X++V++Z++U++Y)):=by
 have HH:=qH (show SwRRel w0 base g n cap X U Z V Y (.int .i64 ((0:Nat):Int)) w from⟨0,rfl,Nat.zero_le _,by simpa using h⟩);have hlen:n=X.length+U.length+Z.length+V.length+Y.length:=by have:=h.len;simp at this;omega
 have hbn:b+m≤n:=by omega
 have hab:a+m≤b:=by omega
 have HA:=qH ha;have HB:=qH hb;have HM:=qH hm;have HUV:=qH hUV;clear h hlen hUV ha hb hm;go_enter Tryz.func261,Tryz.ntmps261;go_wp2;go_loopw[10](fun i wr=>SwRRel w0 base g n cap X U Z V Y i wr)(fun i _=>m-(intOf i).toNat);case atStart=>exact HH.out
 case round=>
  obtain⟨k,rfl,hk,hS⟩:=hrel;have HS:=qH hS;clear hS;rw[HM.out]at hk;by_cases hkn:k<m
  ·have hkU:k<U.length:=by have:=HM.out;omega
   have hkV:k<V.length:=by have:=HUV.out;omega
   have t1:(k:Int)<m:=by omega
   obtain⟨i,hi⟩: ∃i,i=a+k:=⟨_,rfl⟩;obtain⟨j,hj⟩: ∃j,j=b+k:=⟨_,rfl⟩;have hSW:=(show Srt w0 base g n cap ((X++V.take k)++U[k]::((U.drop (k+1)++Z++U.take k)++V[k]::(V.drop (k+1)++Y))) wr by have h1:=HS.out;rw[List.drop_eq_getElem_cons hkU,List.drop_eq_getElem_cons hkV]at h1;simpa only[List.append_assoc,List.cons_append]using h1).swf (i:=i) (j:=j) (by have:=HA.out;simp;omega) (by have:=HA.out;have:=HB.out;simp;omega);have HR:=qH (show SwRRel w0 base g n cap X U Z V Y (.int .i64 ((k+1:Nat):Int)) (setEv (setEv wr g (i*8) V[k]) g (j*8) U[k]).drew from⟨k+1,rfl,hkU,by have h2:=hSW.resLo;rw[List.take_add_one,List.take_add_one,List.getElem?_eq_getElem hkU,List.getElem?_eq_getElem hkV];simpa only[List.append_assoc,List.cons_append,List.nil_append,Option.toList_some]using h2⟩);generalize U[k]=x at*;generalize V[k]=y at*;have hij:i<j:=by omega
   have hjn:=hSW.lt;obtain⟨e0,e1,e2,e3,e4,e5,e6,e7⟩:=hSW.ex;obtain⟨f0,f1,f2,f3,f4,f5,f6,f7⟩:=hSW.ey;have hfr:=hSW.fr;obtain⟨⟨z,z0,z1,z2,z3,z4,z5,z6,z7⟩,hf5⟩:=hSW.lo;unfold setEv at z0 z1 z2 z3 z4 z5 z6 z7 hf5;have hin:(i:Int)<n:=by omega
   have hjn':(j:Int)<n:=by omega
   obtain⟨s1,s2,s3,s4⟩:(a:Int)+(k:Int)=(i:Int)∧(b:Int)+(k:Int)=(j:Int)∧IntKind.i64.wrap (i:Int)=(i:Int)∧IntKind.i64.wrap (j:Int)=(j:Int):=⟨by omega,by omega,IntWalk.i64_in _ (by omega),IntWalk.i64_in _ (by omega)⟩;clear hSW HS hi hj;go_wp2;go_region_law(fail);all_goals
    clear z0 z1 z2 z3 z4 z5 z6 z7 hf5 e0 e1 e2 e3 e4 e5 e6 e7 f0 f1 f2 f3 f4 f5 f6 f7 hfr s1 s2 s3 s4;change Exit.inBlock _ _ _ _ (setEv (setEv wr g (i*8) y) g (j*8) x).drew;generalize(setEv (setEv wr g (i*8) y) g (j*8) x).drew=w5 at*;go_wp2;go_roundw;case rel=>exact HR.out
    case measure=>simp[intOf];omega
  ·have t1: ¬(k:Int)<m:=by omega
   have HF:=qH (show Srt w0 base g n cap (X++V++Z++U++Y) wr by
    have h1:=HS.out;have hkm:k=U.length:=by have:=HM.out;omega
    have hkv:k=V.length:=by have:=HUV.out;omega
    rw[List.drop_eq_nil_of_le (by omega),List.take_of_length_le (by omega),List.drop_eq_nil_of_le (by omega),List.take_of_length_le (by omega)]at h1;simpa using h1);go_wp2;go_end0;first|exact⟨rfl,HF.out⟩|exact⟨rfl,by simpa only[List.append_assoc]using HF.out⟩
end Go.Proofs.YtcmmclliabhnjaaGreatDoor
