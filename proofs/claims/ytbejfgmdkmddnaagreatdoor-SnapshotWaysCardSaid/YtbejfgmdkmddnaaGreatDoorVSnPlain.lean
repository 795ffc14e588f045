/-
  Layer 8: parts in memory of which one row is changed.
-/
import Derived.Test.YtbejfgmdkmddnaaGreatDoorVOf
set_option maxRecDepth 100000
set_option maxHeartbeats 16000000
namespace Go.Proofs.YtbejfgmdkmddnaaGreatDoor
open Go.RowKit
theorem gW{l:List UInt8}(h:ag l=true):1≤l.length∧l.length≤24:=by unfold ag at h;simp only[Bool.and_eq_true,decide_eq_true_eq]at h;exact⟨h.1.1,h.1.2⟩
theorem yg(c:UInt8): ∀(k:Nat)(s:ByteArray),(∀t∈Lib.splitB ⟨#[c]⟩ 0 k s,t.size≤24)→s.size+1≤25*(Lib.splitB ⟨#[c]⟩ 0 k s).length
 |0,s,h=>by rw[Lib.splitB_zero]at h⊢;have:=h s (by simp);simp;omega
 |k+1,s,h=>by
  rcases Lib.indexB_cases s ⟨#[c]⟩with hi|⟨i,hi,hle⟩;·rw[Lib.splitB_miss _ _ _ _ hi]at h⊢;have:=h s (by simp);simp;omega
  ·rw[Lib.splitB_hit _ _ _ _ _ hi]at h⊢;have h1:=h _ (List.mem_cons_self ..);have ih:=yg c k (s.extract (i+(⟨#[c]⟩:ByteArray).size) s.size) (fun t ht=>h t (List.mem_cons_of_mem _ ht));have hc:(⟨#[c]⟩:ByteArray).size=1:=rfl;rw[hc]at hle ih h⊢;simp only[ByteArray.size_extract,List.length_cons]at h1 ih⊢;omega
theorem E9{s:List UInt8}(h:bQ s=true):s.length≤224:=by
 unfold bQ at h;simp only[Bool.and_eq_true,decide_eq_true_eq]at h;obtain⟨⟨⟨h1,h2⟩,h3⟩,h4⟩:=h;have hm:=(gW h2).2;unfold Lib.cut at h1 hm;by_cases hi:0≤Lib.index s [59]
 ·rw[if_pos hi]at hm;change(s.take _).length≤24 at hm;have hlen:s.length≤(s.take (Lib.index s [59]).toNat).length+1+(gy s).length:=by unfold gy Lib.cut;rw[if_pos hi];simp;omega
  have hr:(gy s).length≤199:=by
   unfold fw at h3 h4;by_cases he:(gy s).isEmpty;·rw[List.isEmpty_iff.1 he];simp
   ·rw[if_neg he]at h3 h4;have key:=yg 44 (Lib.countB ⟨(gy s).toArray⟩ ⟨#[44]⟩) ⟨(gy s).toArray⟩ (fun t ht=>by
     obtain⟨k,hk,e⟩:=List.getElem_of_mem ht;unfold lW at h4;rw[List.all_eq_true]at h4;have:=h4 k (by simpa using hk);unfold qG at this;have h5:ag ((List.map (fun b:ByteArray=>b.data.toList) (Lib.splitB ⟨#[44]⟩ 0 (Lib.countB ⟨(gy s).toArray⟩ ⟨#[44]⟩) ⟨(gy s).toArray⟩)).getD k [])=true:=by simp only[Bool.and_eq_true]at this;exact this.1
     have h6:=(gW h5).2;simp only[List.getD,List.getElem?_map,List.getElem?_eq_getElem hk,Option.map_some,Option.getD_some,e]at h6;show t.data.size≤24;rw[←Array.length_toList];exact h6);have hs:(⟨(gy s).toArray⟩:ByteArray).size=(gy s).length:=by simp[ByteArray.size]
    rw[hs]at key;simp only[List.length_map]at h3;omega
  omega
 ·rw[if_neg hi]at h1;simp at h1
structure Ev.Fit(e:Ev):Prop where
 src:e.src.length≤24
 per:e.per.length≤24
 item:e.item.length≤24
 text:e.text.length≤224
 num0:1≤e.num
 num1:e.num≤1099511627776
 at0:0≤e.at_
 at1:e.at_≤1099511627776
 val0:0≤e.val
 val1:e.val≤1048576
 kind0:0≤e.kind
 kind1:e.kind≤14
theorem kY{e:Ev}(h:bA e=true):e.Fit:=by
 unfold bA at h;rw[Bool.and_eq_true]at h;obtain⟨hh,ht⟩:=h;unfold nk at hh;simp only[Bool.and_eq_true,decide_eq_true_eq]at hh;obtain⟨⟨⟨⟨a1,a2⟩,a3⟩,a4⟩,a5⟩:=hh;have hs:=(gW a1).2;have key:e.per.length≤24∧e.item.length≤24∧e.text.length≤224∧0≤e.val∧e.val≤1048576∧0≤e.kind∧e.kind≤14:=by
  unfold iy at ht;have hk:e.kind=0∨e.kind=1∨e.kind=2∨e.kind=3∨e.kind=4∨e.kind=5∨e.kind=6∨e.kind=7∨e.kind=8∨e.kind=9∨e.kind=10∨e.kind=11∨e.kind=12∨e.kind=13∨e.kind=14∨ ¬(0≤e.kind∧e.kind≤14):=by omega
  have n1:=fun h:ag e.per=true=>(gW h).2;have n2:=fun h:ag e.item=true=>(gW h).2;have n3:=fun h:ag e.text=true=>(gW h).2;have n4:=fun h:bQ e.text=true=>E9 h;rcases hk with k|k|k|k|k|k|k|k|k|k|k|k|k|k|k|k;case inr.inr.inr.inr.inr.inr.inr.inr.inr.inr.inr.inr.inr.inr.inr=>rw[if_neg (by omega),if_neg (by omega),if_neg (by omega),if_neg (by omega),if_neg (by omega),if_neg (by omega),if_neg (by omega),if_neg (by omega),if_neg (by omega),if_neg (by omega),if_neg (by omega),if_neg (by omega),if_neg (by omega),if_neg (by omega),if_neg (by omega)]at ht;cases ht
  all_goals(simp[k]at ht;simp only[ht,forall_const,List.length_nil]at n1 n2 n3 n4;simp only[ht,k,List.length_nil];first|omega|(simp;omega)|(simp_all;omega))
 exact⟨hs,key.1,key.2.1,key.2.2.1,a2,a3,a4,a5,key.2.2.2.1,key.2.2.2.2.1,key.2.2.2.2.2.1,key.2.2.2.2.2.2⟩
theorem Ev.Fit.small{e:Ev}(h:e.Fit):e.small:=⟨by have:=h.src;omega,by have:=h.per;omega,by have:=h.item;omega,by have:=h.text;omega⟩
theorem Ev.Fit.len{e:Ev}(h:e.Fit):(ik e).length≤1229:=PD (by have:=h.src;omega) (by have:=h.per;omega) (by have:=h.item;omega) (by have:=h.text;omega) h.num1 h.at1 (by have:=h.val1;omega)
open Go.Maps Go.Sort
open Go.Shelf
theorem wH{e:Ev}(h:bA e=true):e.small:=by have:=kY h;exact⟨by have:=this.src;omega,by have:=this.per;omega,by have:=this.item;omega,by have:=this.text;omega⟩
theorem fA{r ks:List (List UInt8)}(h:fI r ks):r.length≤ks.length:=by
 have hnd:r.Nodup:=List.pairwise_iff_getElem.2 fun i j hi hj hij e=>by have:=List.pairwise_iff_getElem.1 h.1 i j hi hj hij;rw[e]at this;exact yG _ this
 have key: ∀(r ks:List (List UInt8)),r.Nodup→(∀x,x∈r→x∈ks)→r.length≤ks.length:=by intro r;induction r with|nil=>intro ks _ _;simp|cons a l ih=>intro ks hnd hsub;have hnd':=List.nodup_cons.1 hnd;have ha:a∈ks:=hsub a List.mem_cons_self;have:=ih (ks.erase a) hnd'.2 (fun x hx=>by have hxa:x≠a:=fun e=>hnd'.1 (by rw[←e];exact hx);exact(List.mem_erase_of_ne hxa).2 (hsub x (List.mem_cons_of_mem _ hx)));rw[List.length_erase_of_mem ha]at this;have:=List.length_pos_of_mem ha;simp only[List.length_cons];omega
 exact key r ks hnd fun x hx=>(h.2 x).1 hx
structure bY(N:Nat)(x:ay):Prop where
 yx:aO x
 pt:dI x
 au:fD x.au
 ok:dR N x
 gone:x.gone.length≤N
theorem bY.tZ{N:Nat}{x:ay}(h:bY N x):(aX x.au).length≤100+69*N:=by have h1:=h.au;have h2:=oV h1 x.au.src.length;rw[List.take_length]at h2;have h3:=h.ok.src;have k1:=h1.aa;have k2:=h1.idle;have k3:=h1.now;have k4:=h1.mark;have h4:=jw [99,108,111,99,107] [x.au.aa,x.au.idle,x.au.now,x.au.mark] (by intro v hv;simp at hv;rcases hv with rfl|rfl|rfl|rfl<;>omega);simp only[List.length_cons,List.length_nil]at h4;unfold aX;rw[List.length_append];omega
theorem bY.dc{N:Nat}{x:ay}(h:bY N x):ze (aX x.au)=some x.au:=PK h.au h.yx.Et
theorem bY.dh{N:Nat}{x:ay}(h:bY N x)(hN:N≤600):uf (bV x.had)=.ok x.had []:=PH h.yx.ok (by have:=h.ok.had;omega) (fun p hp=>by have:=h.ok.yS h.yx.ok p hp;omega)
theorem bY.bd{N:Nat}{x:ay}(h:bY N x)(hN:N≤600):Tj N (aX x.au) (bV x.had):=⟨fun c hc=>by rw[h.dc]at hc;injection hc with hc;subst hc;exact h.ok.src,fun m r hm=>by rw[h.dh hN]at hm;injection hm with hm _;subst hm;exact⟨h.ok.had,h.ok.yS h.yx.ok⟩⟩
theorem bY.parts{N:Nat}{x:ay}(h:bY N x)(hN:N≤600){r:List (List UInt8)}(hr:fI r x.gone):mq x.au.aa x.au.idle (aX x.au) (bV x.had) r x.taken x.late x.au x.had:=⟨h.dc,⟨[],h.dh hN⟩,rfl,rfl,SG h.pt hr,(h.yx.right h.pt (by have:=h.ok.taken;omega)).congr fun p=>(hr.2 p).symm⟩
theorem aU.VJ{w:World}{F:Nat→Prop}{bi N:Nat}{x:ay}{g:List (List UInt8)}(h:aU w F bi N {x with gone:=g})(hg: ∀p,p∈g↔p∈x.gone):aU w F bi N x:=by obtain⟨A,hM,hO,h3,h4,h5,h6⟩:=h;exact⟨A,⟨hM.blk,hM.au,hM.had,hM.taken,hM.late,hM.bu,hM.gone.congr hg,hM.ml,hM.mg,hM.lg,hM.gm,hM.gl,hM.gg,hM.tl⟩,⟨hO.sorted,hO.may,hO.src,hO.had,hO.rows,hO.taken,hO.late⟩,h3,h4,h5,h6⟩
def Ns(w:World)(N:Nat)(x:ay)(e:Ending)(w':World):Prop:= ∃bi F,e=.returned (.tuple #[.pointer (some ⟨bi,0,none⟩),.int .i64 0])∧aU w' F bi N x∧RowKit.Below w.heap.size w w'∧ ∀b,F b→w.heap.size≤b
theorem uH(x:ay)(e:Ev):(x.took e).gone.length≤x.gone.length+1:=by
 unfold ay.took;split;·show(e.per::x.gone).length≤_;simp
 ·exact Nat.le_succ _
theorem MM(x:ay)(d:Dd):(x.deed d).gone.length≤x.gone.length+1:=by
 unfold ay.deed;split
 ·unfold ay.offer;split;·exact Nat.le_succ _
  ·split;·exact uH _ _
   ·unfold ay.bu;split;·exact Nat.le_succ _
    ·exact Nat.le_succ _
 split
 ·unfold ay.admits;split;·exact Nat.le_succ _
  ·exact uH _ _
 split;·exact Nat.le_succ _
 split;·exact Nat.le_succ _
 ·exact Nat.le_succ _
def jh(x:ay)(ds:List Dd):ay:=ds.foldl ay.deed x
theorem IP(aa idle:Int)(ds:List Dd):(ay.grown aa idle ds).gone.length≤ds.length:=by
 have key: ∀(ds:List Dd)(x:ay),(ds.foldl ay.deed x).gone.length≤x.gone.length+ds.length:=fun ds=>by induction ds with|nil=>exact fun x=>Nat.le_refl _|cons d ds ih=>intro x;have h1:=ih (x.deed d);have h2:=MM x d;simp only[List.foldl_cons,List.length_cons];omega
 have:=key ds (ay.new aa idle);have h0:(ay.new aa idle).gone.length=0:=rfl;unfold ay.grown;omega
theorem bY.grown{w:World}{F:Nat→Prop}{bi N:Nat}{aa idle:Int}{ds:List Dd}(h:aU w F bi N (ay.grown aa idle ds))(hl:ds.length≤N):bY N (ay.grown aa idle ds):=by obtain⟨A,hM,hO,_⟩:=h;exact⟨aO.grown aa idle ds,dI.grown aa idle ds,hM.au.ok,hO,Nat.le_trans (IP aa idle ds) hl⟩
/-- how a reader stands: what is left, or what was wrong first -/
inductive oM where
  | ok (r : List UInt8)
  | bz
  | form
def oM.err:oM→Int|.ok _=>0|.bz=>3|.form=>2
def Ou:oM→oM|.ok (_::r)=>.ok r|.ok []=>.bz|s=>s
def Ih:oM→UInt8|.ok (c::_)=>c|_=>0
def uG:oM→oM|.ok (c::r)=>if r.length<c.toNat then .bz else .ok (r.drop c.toNat)|.ok []=>.bz|s=>s
def jV:oM→List UInt8|.ok (c::r)=>if r.length<c.toNat then[]else r.take c.toNat|_=>[]
def pq:oM→oM
 |.ok l=>match jM l with|.ok _ r=>.ok r|.bz=>.bz|.form=>.form
 |s=>s
def mI:oM→Nat
 |.ok l=>match jM l with|.ok v _=>v|_=>0
 |_=>0
theorem R3(s:oM):(Ih s).toNat<256:=(Ih s).toNat_lt
theorem sK(s:oM):(jV s).length≤255:=by
 unfold jV;split
 ·rename_i c r;have:=c.toNat_lt;split;·simp
  ·rw[List.length_take];omega
 ·simp
def st1(l:List UInt8):oM:=Ou (.ok l)
def st2(l:List UInt8):oM:=uG (st1 l)
def st3(l:List UInt8):oM:=pq (st2 l)
def st4(l:List UInt8):oM:=pq (st3 l)
def st5(l:List UInt8):oM:=uG (st4 l)
def st6(l:List UInt8):oM:=uG (st5 l)
def st7(l:List UInt8):oM:=pq (st6 l)
def st8(l:List UInt8):oM:=uG (st7 l)
def Xi(l:List UInt8):Ev:={src:=jV (st1 l),num:=mI (st2 l),at_:=mI (st3 l),kind:=(Ih (.ok l)).toNat,per:=jV (st4 l),item:=jV (st5 l),val:=mI (st6 l),text:=jV (st7 l)}
def pM(l:List UInt8):oJ Ev:=match st8 l with|.ok r=>if bA (Xi l)then .ok (Xi l) r else .form|.bz=>.bz|.form=>.form
theorem MJ(l:List UInt8):(Xi l).small:=by have h1:=sK (st1 l);have h2:=sK (st4 l);have h3:=sK (st5 l);have h4:=sK (st7 l);exact⟨by show(jV (st1 l)).length≤_;omega,by show(jV (st4 l)).length≤_;omega,by show(jV (st5 l)).length≤_;omega,by show(jV (st7 l)).length≤_;omega⟩
theorem sJ(s r:List UInt8)(h:s.length<256):uG (.ok (aR s++r))=.ok r∧jV (.ok (aR s++r))=s:=by
 have e:(UInt8.ofNat s.length).toNat=s.length:=by simp;omega
 unfold aR uG jV;simp only[List.cons_append,e];rw[if_neg (by simp),if_neg (by simp)];simp
theorem Cr(n:Nat)(r:List UInt8)(h:n<4398046511104):pq (.ok (aJ n++r))=.ok r∧mI (.ok (aJ n++r))=n:=by unfold pq mI;simp only[mW n r h,and_self]
theorem PI{e:Ev}(hm:bA e=true)(r:List UInt8):pM (ik e++r)=.ok e r:=by
 have hf:=kY hm;obtain⟨a1,a2,a3,a4,a5,a6,a7,a8,a9,a10,a11,a12⟩:=hf;have hk:(UInt8.ofNat e.kind.toNat).toNat=e.kind.toNat:=by simp;omega
 have D0:ik e++r=UInt8.ofNat e.kind.toNat::(aR e.src++(aJ e.num.toNat++(aJ e.at_.toNat++(aR e.per++(aR e.item++(aJ e.val.toNat++(aR e.text++r))))))):=by unfold ik;simp
 have h1:st1 (ik e++r)=.ok (aR e.src++(aJ e.num.toNat++(aJ e.at_.toNat++(aR e.per++(aR e.item++(aJ e.val.toNat++(aR e.text++r))))))):=by unfold st1;rw[D0];rfl
 have h0:Ih (.ok (ik e++r))=UInt8.ofNat e.kind.toNat:=by rw[D0];rfl
 have t1:=sJ e.src (aJ e.num.toNat++(aJ e.at_.toNat++(aR e.per++(aR e.item++(aJ e.val.toNat++(aR e.text++r)))))) (by omega);rw[←h1]at t1;have t2:=Cr e.num.toNat (aJ e.at_.toNat++(aR e.per++(aR e.item++(aJ e.val.toNat++(aR e.text++r))))) (by omega);rw[←t1.1]at t2;have t3:=Cr e.at_.toNat (aR e.per++(aR e.item++(aJ e.val.toNat++(aR e.text++r)))) (by omega);rw[←t2.1]at t3;have t4:=sJ e.per (aR e.item++(aJ e.val.toNat++(aR e.text++r))) (by omega);rw[←t3.1]at t4;have t5:=sJ e.item (aJ e.val.toNat++(aR e.text++r)) (by omega);rw[←t4.1]at t5;have t6:=Cr e.val.toNat (aR e.text++r) (by omega);rw[←t5.1]at t6;have t7:=sJ e.text r (by omega);rw[←t6.1]at t7;have he:Xi (ik e++r)=e:=by unfold Xi;rw[h0,hk,show jV (st1 (ik e++r))=e.src from t1.2,show mI (st2 (ik e++r))=e.num.toNat from t2.2,show mI (st3 (ik e++r))=e.at_.toNat from t3.2,show jV (st4 (ik e++r))=e.per from t4.2,show jV (st5 (ik e++r))=e.item from t5.2,show mI (st6 (ik e++r))=e.val.toNat from t6.2,show jV (st7 (ik e++r))=e.text from t7.2];rw[Int.toNat_of_nonneg (by omega),Int.toNat_of_nonneg (by omega),Int.toNat_of_nonneg (by omega),Int.toNat_of_nonneg (by omega)]
 unfold pM;rw[he,show st8 (ik e++r)=.ok r from t7.1];simp[hm]
theorem Ot{s:oM}{r:List UInt8}(h:Ou s=.ok r): ∃l,s=.ok l∧ ∃k,0<k∧k≤l.length∧r=l.drop k:=by cases s with|bz=>cases h|form=>cases h|ok l=>cases l with|nil=>cases h|cons c t=>injection h with h;exact⟨_,rfl,1,by omega,by simp,by rw[←h];rfl⟩
theorem sM{s:oM}{r:List UInt8}(h:uG s=.ok r): ∃l,s=.ok l∧ ∃k,0<k∧k≤l.length∧r=l.drop k:=by
 cases s with
  |bz=>cases h
  |form=>cases h
  |ok l=>
   cases l with
    |nil=>cases h
    |cons c t=>
     simp only[uG]at h;split at h;·cases h
     ·injection h with h;exact⟨_,rfl,c.toNat+1,by omega,by simp;omega,by rw[←h];simp⟩
theorem yE{s:oM}{r:List UInt8}(h:pq s=.ok r): ∃l,s=.ok l∧ ∃k,0<k∧k≤l.length∧r=l.drop k:=by
 cases s with
  |bz=>cases h
  |form=>cases h
  |ok l=>
   simp only[pq]at h;split at h;·rename_i h1;injection h with h;subst h;exact⟨_,rfl,(kz h1).2⟩
   ·cases h
   ·cases h
theorem kR{l m r:List UInt8}(h: ∃k,0<k∧k≤l.length∧m=l.drop k)(h': ∃k,0<k∧k≤m.length∧r=m.drop k): ∃k,0<k∧k≤l.length∧r=l.drop k:=by obtain⟨a,h1,h2,rfl⟩:=h;obtain⟨b,h3,h4,rfl⟩:=h';rw[List.length_drop]at h4;exact⟨a+b,by omega,by omega,by rw[List.drop_drop]⟩
theorem Ry{l r:List UInt8}(h:st8 l=.ok r): ∃k,0<k∧k≤l.length∧r=l.drop k:=by obtain⟨l7,g7,k7⟩:=sM h;obtain⟨l6,g6,k6⟩:=yE g7;obtain⟨l5,g5,k5⟩:=sM g6;obtain⟨l4,g4,k4⟩:=sM g5;obtain⟨l3,g3,k3⟩:=yE g4;obtain⟨l2,g2,k2⟩:=yE g3;obtain⟨l1,g1,k1⟩:=sM g2;obtain⟨l0,g0,k0⟩:=Ot g1;injection g0 with g0;subst g0;exact kR (kR (kR (kR (kR (kR (kR k0 k1) k2) k3) k4) k5) k6) k7
theorem SQ{l r:List UInt8}{e:Ev}(h:pM l=.ok e r):bA e=true∧ ∃k,0<k∧k≤l.length∧r=l.drop k:=by
 unfold pM at h;split at h
 ·rename_i r' h1;split at h;·rename_i hm;injection h with h2 h3;subst h2 h3;exact⟨hm,Ry h1⟩
  ·cases h
 ·cases h
 ·cases h
def dG(es:List Ev):List UInt8:=es.flatMap ik
def bI(gs:List (List UInt8)):List UInt8:=gs.flatMap fun g=>g++[10]
def ed:List UInt8:=[115,110,97,112,115,104,111,116]
def cZ:List UInt8:=[115,108,97,99,107]
def eu:List UInt8:=[105,100,108,101]
def bW:List UInt8:=[99,108,111,99,107]
def gV:List UInt8:=[104,97,100]
def bE:List UInt8:=[116,97,107,101,110]
def dz:List UInt8:=[108,97,116,101]
def dw:List UInt8:=[103,111,110,101]
def AO(n a b:Int)(lc lh:List UInt8)(ts ls:List Ev)(gs:List (List UInt8)):List UInt8:=ah ed [n]++(ah cZ [a]++(ah eu [b]++(ah bW [(lc.length:Int)]++(lc++(ah gV [(lh.length:Int)]++(lh++(ah bE [(ts.length:Int)]++(dG ts++(ah dz [(ls.length:Int)]++(dG ls++(ah dw [(gs.length:Int)]++bI gs)))))))))))
structure Sn where
 b:List UInt8
 ok:Bool
def qF(s:Sn):Sn:=if(Lib.cut s.b [10]).2.2 then⟨(Lib.cut s.b [10]).2.1,s.ok⟩else⟨s.b,false⟩
def iB(s:Sn):List UInt8:=if(Lib.cut s.b [10]).2.2 then(Lib.cut s.b [10]).1 else[]
def lnF(w t:List UInt8):Bool:=Lib.hasPrefix t (w++[32])
def LZ(w t:List UInt8):List UInt8:=if lnF w t then t.drop (w.length+1)else t
def zT(w t:List UInt8):Bool:=lnF w t&&kr (LZ w t)&&!decide (dQ (LZ w t)<0)
def iJ(w:List UInt8)(s:Sn):Sn:=if zT w (iB s)then qF s else⟨(qF s).b,false⟩
def gL(w:List UInt8)(s:Sn):Int:=if zT w (iB s)then dQ (LZ w (iB s))else 0
def Cf(w:List UInt8)(s:Sn):Sn:=if((iJ w s).b.length:Int)<gL w s then⟨(iJ w s).b,false⟩else⟨(iJ w s).b.drop (gL w s).toNat,(iJ w s).ok⟩
def Ce(w:List UInt8)(s:Sn):List UInt8:=if((iJ w s).b.length:Int)<gL w s then[]else(iJ w s).b.take (gL w s).toNat
def xn:Nat→Sn→List Ev→List Ev×Sn|0,s,l=>(l,s)|n+1,s,l=>match pM s.b with|.ok e r=>xn n ⟨r,s.ok⟩ (l++[e])|_=>([],⟨s.b,false⟩)
def SK(w:List UInt8)(s:Sn):Sn:=(xn (gL w s).toNat (iJ w s) []).2
def SI(w:List UInt8)(s:Sn):List Ev:=(xn (gL w s).toNat (iJ w s) []).1
def yV:Nat→Sn→List (List UInt8)→List (List UInt8)×Sn|0,s,l=>(l,s)|n+1,s,l=>if s.ok then yV n (qF s) (l++[iB s])else(l,s)
structure SnD where
 off:Int
 aa:Int
 idle:Int
 au:List UInt8
 had:List UInt8
 tk:List Ev
 lt:List Ev
 gn:List (List UInt8)
 ok:Bool
def sn1(l:List UInt8):Sn:=iJ ed ⟨l,true⟩
def sn2(l:List UInt8):Sn:=iJ cZ (sn1 l)
def sn3(l:List UInt8):Sn:=iJ eu (sn2 l)
def sn4(l:List UInt8):Sn:=Cf bW (sn3 l)
def sn5(l:List UInt8):Sn:=Cf gV (sn4 l)
def sn6(l:List UInt8):Sn:=SK bE (sn5 l)
def sn7(l:List UInt8):Sn:=SK dz (sn6 l)
def sn8(l:List UInt8):Sn:=iJ dw (sn7 l)
def sn9(l:List UInt8):List (List UInt8)×Sn:=yV (gL dw (sn7 l)).toNat (sn8 l) []
def yl(l:List UInt8):SnD:={off:=gL ed ⟨l,true⟩,aa:=gL cZ (sn1 l),idle:=gL eu (sn2 l),au:=Ce bW (sn3 l),had:=Ce gV (sn4 l),tk:=SI bE (sn5 l),lt:=SI dz (sn6 l),gn:=(sn9 l).1,ok:=(sn9 l).2.ok&&(sn9 l).2.b.isEmpty}
/-!### what is written is read -/
theorem BV(a r:List UInt8)(ok:Bool)(h:10∉a):qF ⟨a++10::r,ok⟩=⟨r,ok⟩∧iB ⟨a++10::r,ok⟩=a:=by unfold qF iB;simp only[mh 10 a r h,if_true,and_self]
theorem zZ(a b:List UInt8):Lib.hasPrefix (a++b) a=true:=by induction a with|nil=>cases b<;>rfl|cons x a _=>simp[Lib.hasPrefix]
theorem mX(w:List UInt8)(n:Int)(r:List UInt8)(ok:Bool)(hw:10∉w)(h0:0≤n)(h1:n≤9223372036854775807):iJ w ⟨ah w [n]++r,ok⟩=⟨r,ok⟩∧gL w ⟨ah w [n]++r,ok⟩=n:=by
 have e:ah w [n]++r=(w++32::Lib.itoa n)++10::r:=by unfold ah dC;simp
 have hn:10∉w++32::Lib.itoa n:=fun hm=>by
  rcases List.mem_append.1 hm with hm|hm;·exact hw hm
  ·rcases List.mem_cons.1 hm with hm|hm;·exact absurd hm (by decide)
   ·exact CF n 10 (by decide) (by decide) hm
 obtain⟨t1,t2⟩:=BV _ r ok hn;rw[←e]at t1 t2;have e2:w++32::Lib.itoa n=(w++[32])++Lib.itoa n:=by simp
 have hf:lnF w (w++32::Lib.itoa n)=true:=by unfold lnF;rw[e2];exact zZ _ _
 have hd:LZ w (w++32::Lib.itoa n)=Lib.itoa n:=by unfold LZ;rw[if_pos hf,e2];exact List.drop_left' (by simp)
 have ha:=rQ (n:=n) (by omega) h1;have he:kr (Lib.itoa n)=true:=by unfold kr;rw[qA n (by omega) h1]
 have hk:zT w (w++32::Lib.itoa n)=true:=by unfold zT;rw[hf,hd,he,ha];simp;omega
 unfold iJ gL;rw[t2,hk,t1,hd,ha];simp
theorem Ed(w lc r:List UInt8)(ok:Bool)(hw:10∉w)(hl:lc.length≤9223372036854775807):Cf w ⟨ah w [(lc.length:Int)]++(lc++r),ok⟩=⟨r,ok⟩∧Ce w ⟨ah w [(lc.length:Int)]++(lc++r),ok⟩=lc:=by
 obtain⟨h1,h2⟩:=mX w lc.length (lc++r) ok hw (by omega) (by omega);unfold Cf Ce;rw[h1,h2];have: ¬(((lc++r).length:Nat):Int)<lc.length:=by rw[List.length_append];omega
 rw[if_neg this,if_neg this];simp
theorem FR: ∀(es:List Ev)(r:List UInt8)(ok:Bool)(l:List Ev),(∀e∈es,bA e=true)→xn es.length ⟨dG es++r,ok⟩ l=(l++es,⟨r,ok⟩)
 |[],r,ok,l,_=>by simp[xn,dG]
 |e::es,r,ok,l,h=>by
  have e1:dG (e::es)++r=ik e++(dG es++r):=by simp[dG]
  rw[List.length_cons,xn,e1];simp only[PI (h e (by simp))];rw[FR es r ok (l++[e]) fun x hx=>h x (by simp[hx])];simp
theorem Ki(w:List UInt8)(es:List Ev)(r:List UInt8)(ok:Bool)(hw:10∉w)(hl:es.length≤9223372036854775807)(h: ∀e∈es,bA e=true):SK w ⟨ah w [(es.length:Int)]++(dG es++r),ok⟩=⟨r,ok⟩∧SI w ⟨ah w [(es.length:Int)]++(dG es++r),ok⟩=es:=by obtain⟨h1,h2⟩:=mX w es.length (dG es++r) ok hw (by omega) (by omega);have h3:=FR es r ok [] h;unfold SK SI;rw[h1,h2,Int.toNat_natCast,h3];simp
theorem yU: ∀(gs:List (List UInt8))(r:List UInt8)(l:List (List UInt8)),(∀g∈gs,10∉g)→yV gs.length ⟨bI gs++r,true⟩ l=(l++gs,⟨r,true⟩)
 |[],r,l,_=>by simp[yV,bI]
 |g::gs,r,l,h=>by
  have e1:bI (g::gs)++r=g++10::(bI gs++r):=by simp[bI]
  obtain⟨t1,t2⟩:=BV g (bI gs++r) true (h g (by simp));rw[List.length_cons,yV,e1,t1,t2,if_pos rfl,yU gs r (l++[g]) fun x hx=>h x (by simp[hx])];simp
structure KH(n a b:Int)(lc lh:List UInt8)(ts ls:List Ev)(gs:List (List UInt8)):Prop where
 n0:0≤n
 n1:n≤9223372036854775807
 a0:0≤a
 a1:a≤9223372036854775807
 b0:0≤b
 b1:b≤9223372036854775807
 lc:lc.length≤9223372036854775807
 lh:lh.length≤9223372036854775807
 tl:ts.length≤9223372036854775807
 ll:ls.length≤9223372036854775807
 gl:gs.length≤9223372036854775807
 tm: ∀e∈ts,bA e=true
 lm: ∀e∈ls,bA e=true
 gm: ∀g∈gs,10∉g
theorem Cg{n a b:Int}{lc lh:List UInt8}{ts ls:List Ev}{gs:List (List UInt8)}(h:KH n a b lc lh ts ls gs)(R:List UInt8):yl (AO n a b lc lh ts ls gs++R)=⟨n,a,b,lc,lh,ts,ls,gs,R.isEmpty⟩:=by
 have h1:=mX ed n (ah cZ [a]++(ah eu [b]++(ah bW [(lc.length:Int)]++(lc++(ah gV [(lh.length:Int)]++(lh++(ah bE [(ts.length:Int)]++(dG ts++(ah dz [(ls.length:Int)]++(dG ls++(ah dw [(gs.length:Int)]++(bI gs++R)))))))))))) true (by decide) h.n0 h.n1;have h2:=mX cZ a (ah eu [b]++(ah bW [(lc.length:Int)]++(lc++(ah gV [(lh.length:Int)]++(lh++(ah bE [(ts.length:Int)]++(dG ts++(ah dz [(ls.length:Int)]++(dG ls++(ah dw [(gs.length:Int)]++(bI gs++R))))))))))) true (by decide) h.a0 h.a1;have h3:=mX eu b (ah bW [(lc.length:Int)]++(lc++(ah gV [(lh.length:Int)]++(lh++(ah bE [(ts.length:Int)]++(dG ts++(ah dz [(ls.length:Int)]++(dG ls++(ah dw [(gs.length:Int)]++(bI gs++R)))))))))) true (by decide) h.b0 h.b1;have h4:=Ed bW lc (ah gV [(lh.length:Int)]++(lh++(ah bE [(ts.length:Int)]++(dG ts++(ah dz [(ls.length:Int)]++(dG ls++(ah dw [(gs.length:Int)]++(bI gs++R)))))))) true (by decide) h.lc;have h5:=Ed gV lh (ah bE [(ts.length:Int)]++(dG ts++(ah dz [(ls.length:Int)]++(dG ls++(ah dw [(gs.length:Int)]++(bI gs++R)))))) true (by decide) h.lh;have h6:=Ki bE ts (ah dz [(ls.length:Int)]++(dG ls++(ah dw [(gs.length:Int)]++(bI gs++R)))) true (by decide) h.tl h.tm;have h7:=Ki dz ls (ah dw [(gs.length:Int)]++(bI gs++R)) true (by decide) h.ll h.lm;have h8:=mX dw gs.length (bI gs++R) true (by decide) (by omega) (by have:=h.gl;omega);have h9:=yU gs R [] h.gm;rw[List.nil_append]at h9;have hA:AO n a b lc lh ts ls gs++R=ah ed [n]++(ah cZ [a]++(ah eu [b]++(ah bW [(lc.length:Int)]++(lc++(ah gV [(lh.length:Int)]++(lh++(ah bE [(ts.length:Int)]++(dG ts++(ah dz [(ls.length:Int)]++(dG ls++(ah dw [(gs.length:Int)]++(bI gs++R)))))))))))):=by unfold AO;simp only[List.append_assoc]
 rw[←hA]at h1;generalize AO n a b lc lh ts ls gs++R=T at*;have e1:sn1 T=_:=h1.1;have e2:sn2 T=_:=(congrArg (iJ cZ) e1).trans h2.1;have e3:sn3 T=_:=(congrArg (iJ eu) e2).trans h3.1;have e4:sn4 T=_:=(congrArg (Cf bW) e3).trans h4.1;have e5:sn5 T=_:=(congrArg (Cf gV) e4).trans h5.1;have e6:sn6 T=_:=(congrArg (SK bE) e5).trans h6.1;have e7:sn7 T=_:=(congrArg (SK dz) e6).trans h7.1;have e8:sn8 T=_:=(congrArg (iJ dw) e7).trans h8.1;have v0:gL ed ⟨T,true⟩=n:=h1.2;have e9:sn9 T=(gs,⟨R,true⟩):=by unfold sn9;rw[e7,e8,h8.2,Int.toNat_natCast];exact h9
 unfold yl;rw[v0,e1,e2,e3,e4,e5,e6,e9,h2.2,h3.2,h4.2,h5.2,h6.2,h7.2];simp
section
variable{a b:Int}{lc lh:List UInt8}{gs:List (List UInt8)}{ts ls:List Ev}{c:aZ}{m:eZ}{e:Ev}
end
section
variable{w w':World}{B:Nat}{vc vh vt vl vg v':Value}{lc lh l':List UInt8}{ts ls es':List Ev}{gs gs':List (List UInt8)}
theorem own_ne{e1 e2:TypeId}{n1 n2 s1 s2:Nat}{v1 v2:Value}{x1 x2:List Value}(h1:w.ownsRow B e1 s1 v1 n1 x1)(h2:w.ownsRow B e2 s2 v2 n2 x2)(hne:e1≠e2): ∀b,v1.ownBlock=some b→some b≠v2.ownBlock:=fun b h1' h2'=>by obtain⟨c1,k1⟩:=lZ h1 h1';obtain⟨c2,k2⟩:=lZ h2 h2'.symm;rw[k1]at k2;injection k2 with k2;injection k2 with _ k2;exact hne k2
theorem EK{e1:TypeId}{n1 s1:Nat}{v1 v2:Value}{x1:List Value}(h1:w.ownsRow B e1 s1 v1 n1 x1)(hg:w.grownBy w' v2.ownBlock)(hne: ∀b,v1.ownBlock=some b→some b≠v2.ownBlock):w'.ownsRow B e1 s1 v1 n1 x1:=dK h1 fun b hb=>hg.block b (World.ownsRow.lt h1 b hb).2 (hne b hb)
end
end Go.Proofs.YtbejfgmdkmddnaaGreatDoor
