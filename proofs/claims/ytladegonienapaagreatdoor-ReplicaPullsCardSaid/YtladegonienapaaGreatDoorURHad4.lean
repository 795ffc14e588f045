/-
  Layer 7, the document's: Put.
-/
import Derived.Test.YtladegonienapaaGreatDoorUEvLen
import Derived.Test.YtladegonienapaaGreatDoorURClk3
set_option maxRecDepth 100000
set_option maxHeartbeats 16000000
namespace Go.Proofs.YtladegonienapaaGreatDoor
open Go.RowKit Go.Maps Go.Sort
def bZ(l:List Int):List Value:=l.map fun n=>.int .i64 n
def jJ(w:World)(S:Nat→Prop)(v:Value)(l:List Int):Prop:= ∃A c,v=.slice A l.length c∧ax w w.heap.size 1 A l.length c (bZ l)∧j4 S A l.length
abbrev fG:=List UInt8×List Int×Value
def tH(q:fG):List Value:=[.string ⟨q.1.toArray⟩,q.2.2]
def cu(R:List fG):List Value:=R.flatMap tH
theorem vE(l:List fG):(cu l).length=l.length*2:=by induction l with|nil=>rfl|cons p l ih=>simp only[cu,List.flatMap_cons,List.length_append,List.length_cons]at*;rw[ih];simp[tH];omega
theorem Bf(l:List fG)(k j:Nat)(hk:k<l.length)(hj:j<2):(cu l)[k*2+j]?=(tH l[k])[j]?:=by induction l generalizing k with|nil=>simp at hk|cons p l ih=>have hc:(tH p).length=2:=rfl;simp only[cu,List.flatMap_cons];cases k with|zero=>rw[Nat.zero_mul,Nat.zero_add,List.getElem?_append_left (by omega)];rfl|succ k=>rw[List.getElem?_append_right (by omega),hc,show(k+1)*2+j-2=k*2+j by omega];exact ih k (by simpa using hk)
structure oH(w:World)(S:Nat→Prop)(A:Option Addr)(n c:Nat)(R:List fG):Prop where
 YA:ax w w.heap.size 2 A n c (cu R)
 row: ∀q∈R,jJ w S q.2.2 q.2.1
 vw:j4 S A n
theorem oH.len{w:World}{S:Nat→Prop}{n c:Nat}{A:Option Addr}{R:List fG}(h:oH w S A n c R):R.length=n:=by have:=h.YA.len;rw[vE]at this;omega
theorem oH.at_{w:World}{S:Nat→Prop}{n c:Nat}{A:Option Addr}{R:List fG}(h:oH w S A n c R)(k:Nat)(hk:k<R.length): ∃b off,A=some ⟨b,off,none⟩∧b<w.heap.size∧S b∧w.cell? ⟨b,off+k*2,none⟩=some (.string ⟨R[k].1.toArray⟩)∧w.cell? ⟨b,off+k*2+1,none⟩=some R[k].2.2:=by
 have hl:=h.len;obtain⟨b,off,e,hb,hc⟩:=h.YA.cell (by omega);have key: ∀j u,j<2→(tH R[k])[j]?=some u→w.cell? ⟨b,off+k*2+j,none⟩=some u:=fun j u hj hu=>by rw[Nat.add_assoc];exact hc _ u (by rw[Bf R k j hk hj,hu])
 exact⟨b,off,e,hb,h.vw _ e (by omega),key 0 _ (by omega) rfl,key 1 _ (by omega) rfl⟩
theorem jJ.at_{w:World}{S:Nat→Prop}{A:Option Addr}{n c:Nat}{l:List Int}(h:jJ w S (.slice A n c) l)(k:Nat)(hk:k<l.length): ∃b off,A=some ⟨b,off,none⟩∧b<w.heap.size∧w.cell? ⟨b,off+k,none⟩=some (.int .i64 l[k]):=by obtain⟨A',c',e,hc,_⟩:=h;injection e with e1 e2 e3;subst e1 e2 e3;obtain⟨b,off,e,hb,hc⟩:=hc.cell (by omega);exact⟨b,off,e,hb,hc k _ (by unfold bZ;rw[List.getElem?_map,List.getElem?_eq_getElem hk];rfl)⟩
def DY(R:List fG)(s:List UInt8):Int:=match R.findIdx? (fun q=>q.1==s)with|some i=>i|none=> -1
theorem PV(w:World)(S:Nat→Prop)(A:Option Addr)(n c:Nat)(R:List fG)(h:oH w S A n c R)(hn:n≤100000)(s:List UInt8):Calls Tryz.prog 208 #[.slice A n c,.string ⟨s.toArray⟩] w fun e w'=>e=.returned (.int .i64 (DY R s))∧w'=w:=by
 have HH:=qH h;clear h;have HL:=qH HH.o.len;go_enter Tryz.func208,Tryz.ntmps208;go_wp2;go_loop[5](fun i=> ∃k:Nat,i=.int .i64 k∧k≤n∧Hid (∀j(hj:j<R.length),j<k→(R[j].1==s)=false))(fun i=>n-(intOf i).toNat);case atStart=>exact⟨0,rfl,Nat.zero_le _,fun j _ h=>by omega⟩
 case round=>
  obtain⟨k,rfl,hk,HK⟩:=hrel;by_cases hkn:k<n
  ·have hkl:k<R.length:=by rw[HL.o];exact hkn
   obtain⟨b,off,rfl,hb,_,e0,e1⟩:=HH.o.at_ k hkl;have t1:(k:Int)<n:=by omega
   clear e1;cases hs:(R[k].1==s)
   ·have HN:=qS (∀j(hj:j<R.length),j<k+1→(R[j].1==s)=false) (fun j hj hlt=>by
     by_cases e:j=k;·subst e;exact hs
     ·exact HK.o j hj (by omega));generalize R[k].1=t at*;go_wp2;go_round;case rel=>exact⟨k+1,by go_num,by omega,HN.o⟩
    case measure=>simp[intOf];omega
   ·have HI:=qS (DY R s=k) (by unfold DY;rw[List.findIdx?_eq_some_iff_getElem.2 ⟨hkl,hs,fun j hj=>by simpa using HK.o j (by omega) hj⟩]);generalize R[k].1=t at*;go_wp2;go_ret;exact⟨aY HI.o.symm,rfl⟩
  ·have t1: ¬(k:Int)<n:=by omega
   have HI:=qS (DY R s= -1) (by unfold DY;rw[List.findIdx?_eq_none_iff.2 (fun q hq=>by obtain⟨j,hj,rfl⟩:=List.getElem_of_mem hq;exact HK.o j hj (by have:=HL.o;omega))]);go_wp2;go_ret;exact⟨aY HI.o.symm,rfl⟩
def kI(R:List fG)(s:List UInt8):List Int:=((R.find? fun q=>q.1==s).map fun q=>q.2.1).getD []
theorem MX(R:List fG)(s:List UInt8):(DY R s= -1∧kI R s=[])∨ ∃(k:Nat)(hk:k<R.length),DY R s=k∧kI R s=R[k].2.1:=by
 unfold DY kI;cases hf:R.findIdx? (fun q=>q.1==s)with
  |none=>
   left;have:=List.findIdx?_eq_none_iff.1 hf;have h2:R.find? (fun q=>q.1==s)=none:=List.find?_eq_none.2 fun q hq=>by rw[this q hq];simp
   rw[h2];exact⟨rfl,rfl⟩
  |some k=>right;obtain⟨hk,h1,h2⟩:=List.findIdx?_eq_some_iff_getElem.1 hf;refine⟨k,hk,rfl,?_⟩;have h3:R.find? (fun q=>q.1==s)=some R[k]:=List.find?_eq_some_iff_getElem.2 ⟨h1,k,hk,rfl,fun j hj=>by simpa using h2 j hj⟩;rw[h3];rfl
theorem wY(w:World)(S:Nat→Prop)(A:Option Addr)(n c:Nat)(R:List fG)(h:oH w S A n c R)(hn:n≤100000)(s:List UInt8)(x:Int)(hrow: ∀q∈R,q.2.1.length≤100000):Calls Tryz.prog 157 #[.slice A n c,.string ⟨s.toArray⟩,.int .i64 x] w fun e w'=>e=.returned (.bool (decide (x∈kI R s)))∧w'=w:=by
 have HH:=qH h;clear h;have HL:=qH HH.o.len;have HRW:=qH hrow;clear hrow;go_enter Tryz.func157,Tryz.ntmps157;go_wp2_with fail;refine(PV w S A n c R HH.o hn s).mono ?_;rintro r w1⟨rfl,hw⟩;rw[hw];clear hw;rcases MX R s with⟨hi,hr⟩|⟨k,hk,hi,hr⟩;·rw[hi];have HR:=qH hr;clear hi hr;go_wp2;go_ret;exact⟨aa (by rw[HR.o];rfl),rfl⟩
 ·rw[hi];have HR:=qH hr;clear hi hr;have hkn:k<n:=by have:=HL.o;omega
  have hki:(k:Int)<n:=by omega
  obtain⟨b,off,rfl,hb,_,e0,e1⟩:=HH.o.at_ k hk;have hl9:=HRW.o _ (List.getElem_mem hk);have XJ:=qH (HH.o.row _ (List.getElem_mem hk));generalize R[k]=q at*;obtain⟨nm,l,v⟩:=q;simp only at*;obtain⟨A2,c2,hv,_,_⟩:=XJ.o;subst hv;clear e0;go_wp2;go_loop[8](fun i=> ∃j:Nat,i=.int .i64 j∧j≤l.length∧Hid (∀t(ht:t<l.length),t<j→(l[t]==x)=false))(fun i=>l.length-(intOf i).toNat);case atStart=>exact⟨0,rfl,Nat.zero_le _,fun j _ h=>by omega⟩
  case round=>
   obtain⟨j,rfl,hj,HJ⟩:=hrel;by_cases hjn:j<l.length
   ·obtain⟨b2,off2,rfl,hb2,e2⟩:=XJ.o.at_ j hjn;have t1:(j:Int)<l.length:=by omega
    cases hx:(l[j]==x)
    ·have HN:=qS (∀t(ht:t<l.length),t<j+1→(l[t]==x)=false) (fun t ht hlt=>by
      by_cases e:t=j;·subst e;exact hx
      ·exact HJ.o t ht (by omega));generalize l[j]=y at*;go_wp2;go_round;case rel=>exact⟨j+1,by go_num,by omega,HN.o⟩
     case measure=>simp[intOf];omega
    ·have HY:=qS (decide (x∈kI R s)=true) (by rw[HR.o];apply decide_eq_true;have:=List.getElem_mem hjn;rw[beq_iff_eq.1 hx]at this;exact this);generalize l[j]=y at*;go_wp2;go_ret;exact⟨aa HY.o.symm,rfl⟩
   ·have t1: ¬(j:Int)<l.length:=by omega
    have HY:=qS (decide (x∈kI R s)=false) (by rw[HR.o];apply decide_eq_false;intro hc;obtain⟨t,ht,he⟩:=List.getElem_of_mem hc;have:=HJ.o t ht (by omega);rw[he]at this;simp at this);go_wp2;go_ret;exact⟨aa HY.o.symm,rfl⟩
theorem MU:(Tryz.prog.info? 3).map (fun i=>(i.zero,i.size,i.bytes))=some (some (.int .i64 0),1,8):=by kernel_rfl
def IW(w:World)(l:List Int)(x:Int)(v d i:Value)(wr:World):Prop:= ∃(k:Nat)(done:Bool)(out:List Int),i=.int .i64 k∧k≤l.length∧d=.bool done∧wr.ownsRow w.heap.size 3 1 v out.length (bZ out)∧Below w.heap.size w wr∧out.length≤k+1∧eT x l=out++(if done then l.drop k else eT x (l.drop k))∧(done=false→out.length≤k)
def GK(w:World)(l:List Int)(e:Ending)(w':World):Prop:= ∃v,e=.returned v∧w'.ownsRow w.heap.size 3 1 v l.length (bZ l)∧Below w.heap.size w w'
theorem Fy(w:World)(S:Nat→Prop)(v:Value)(l:List Int)(h:jJ w S v l)(hn:l.length≤100000)(x:Int):Calls Tryz.prog 211 #[v,.int .i64 x] w (GK w (eT x l)):=by
 have HH:=qH h;obtain⟨A,c,hv,_,_⟩:=h;subst hv;obtain⟨i0,hi,hz0,hz1,hz2⟩:=info_parts MU;have HI:=qH hi;have HZ0:=qH hz0;have HZ1:=qH hz1;have HZ2:=qH hz2;clear hi hz0 hz1 hz2;have kv:=qS (∀(out:List Int)(y:Int),bZ (out++[y])=bZ out++[.int .i64 y]) (fun out y=>by simp[bZ]);go_enter Tryz.func211,Tryz.ntmps211;go_wp2;go_loopw[5,6,7](fun v d i wr=>IW w l x v d i wr)(fun _ _ i _=>l.length-(intOf i).toNat);case atStart=>exact⟨0,false,[],rfl,Nat.zero_le _,rfl,World.ownsRow_lit w #[] 0 (Nat.le_refl _) (by simp[maxLen]) rfl,(Below.refl _ _).alloc (Nat.le_refl _) _,by simp,by simp,by simp⟩
 case round=>
  obtain⟨k,done,out,rfl,hk,rfl,hown,hbel,hlen,hins,hdl⟩:=hrel;have HO:=qH hown;have HX:=qH hins;have HDL:=qH hdl;clear hown hins hdl;have hsz:=hbel.size;by_cases hkn:k<l.length
  ·obtain⟨b,off,rfl,hb,hc⟩:=HH.o.at_ k hkn;have hc':wr.cell? ⟨b,off+k,none⟩=some (.int .i64 l[k]):=(hbel.cell (p:=⟨b,off+k,none⟩) hb).trans hc;have HDR:=qS (l.drop k=l[k]::l.drop (k+1)) (List.drop_eq_getElem_cons hkn);generalize l[k]=y at*;have t1:(k:Int)<l.length:=by omega
   clear hc;cases done
   ·have hdl:=HDL.o rfl;by_cases hlt:x<y
    ·have pM:=qH hlt;go_wp2_with(at_builtin;refine aj (P:=Tryz.prog) rfl (.tmp 25) (.tmp 27) 55 rfl 3 i0 _ 1 8 Tryz.underlying55 HI.o HZ0.o HZ1.o HZ2.o rfl (by decide) w.heap.size _ out.length (bZ out) rfl ?c1 (wr.heap.size+1) _ _ _ [.int .i64 x] rfl ?c2 ?c3 ?c4 ?c5 ?c6 ?_);case c1=>exact World.ownsRow.alloc HO.o _
     case c2=>exact ax.new wr #[.int .i64 x] _ (by unfold maxLen;omega) rfl
     case c3=>simp[Value.oneCell']
     case c4=>unfold maxLen;omega
     case c5=>omega
     case c6=>first|omega|(simp;omega)
     intro v2 w2 hown2 hg2 _;have hb2:Below w.heap.size w w2:=Below.grown (hbel.alloc hsz (.cells #[.int .i64 x] 3)) hg2 (by simp;omega) (fun j hj=>(HO.o.lt j hj).1);have hs2:=hb2.size;have hc2:w2.cell? ⟨b,off+k,none⟩=some (.int .i64 y):=(hb2.cell (p:=⟨b,off+k,none⟩) hb).trans ((hbel.cell (p:=⟨b,off+k,none⟩) hb).symm.trans hc');have dA:=qH hown2;clear hown2 hg2 hlt hc';go_wp2_with(at_builtin;refine aj (P:=Tryz.prog) rfl (.tmp 29) (.tmp 34) 55 rfl 3 i0 _ 1 8 Tryz.underlying55 HI.o HZ0.o HZ1.o HZ2.o rfl (by decide) w.heap.size _ (out.length+1) (bZ out++[.int .i64 x]) rfl ?c1 (w2.heap.size+1) _ _ _ [.int .i64 y] rfl ?c2 ?c3 ?c4 ?c5 ?c6 ?_);case c1=>exact World.ownsRow.alloc dA.o _
     case c2=>exact ax.new w2 #[.int .i64 y] _ (by unfold maxLen;omega) rfl
     case c3=>simp[Value.oneCell']
     case c4=>unfold maxLen;omega
     case c5=>omega
     case c6=>first|omega|(simp;omega)
     intro v3 w3 hown3 hg3 _;have hb3:Below w.heap.size w w3:=Below.grown (hb2.alloc hs2 (.cells #[.int .i64 y] 3)) hg3 (by simp;omega) (fun j hj=>(dA.o.lt j hj).1);have HR:=qS (IW w l x v3 (.bool true) (.int .i64 ((k+1:Nat):Int)) w3) (⟨k+1,true,out++[x]++[y],rfl,by omega,rfl,by rw[kv.o,kv.o,show(out++[x]++[y]).length=out.length+1+1 by simp,List.append_assoc];exact hown3,hb3,by simp;omega,by rw[HX.o,HDR.o];simp[eT,pM.o],by simp⟩);clear hown3 hg3 hc2 hb3;go_wp2;go_roundw;case rel=>exact HR.o
     case measure=>simp[intOf];omega
    ·have pM:=qH hlt;go_wp2_with(at_builtin;refine aj (P:=Tryz.prog) rfl (.tmp 29) (.tmp 34) 55 rfl 3 i0 _ 1 8 Tryz.underlying55 HI.o HZ0.o HZ1.o HZ2.o rfl (by decide) w.heap.size _ out.length (bZ out) rfl ?c1 (wr.heap.size+1) _ _ _ [.int .i64 y] rfl ?c2 ?c3 ?c4 ?c5 ?c6 ?_);case c1=>exact World.ownsRow.alloc HO.o _
     case c2=>exact ax.new wr #[.int .i64 y] _ (by unfold maxLen;omega) rfl
     case c3=>simp[Value.oneCell']
     case c4=>unfold maxLen;omega
     case c5=>omega
     case c6=>first|omega|(simp;omega)
     intro v3 w3 hown3 hg3 _;have hb3:Below w.heap.size w w3:=Below.grown (hbel.alloc hsz (.cells #[.int .i64 y] 3)) hg3 (by simp;omega) (fun j hj=>(HO.o.lt j hj).1);have HR:=qS (IW w l x v3 (.bool false) (.int .i64 ((k+1:Nat):Int)) w3) (⟨k+1,false,out++[y],rfl,by omega,rfl,by rw[kv.o,show(out++[y]).length=out.length+1 by simp];exact hown3,hb3,by simp;omega,by rw[HX.o,HDR.o];have hnl: ¬x<y:=(by have:=pM.o;omega);simp[eT,hnl],by simp;omega⟩);clear hown3 hg3 hb3 hlt hc';go_wp2;go_roundw;case rel=>exact HR.o
     case measure=>simp[intOf];omega
   ·go_wp2_with(at_builtin;refine aj (P:=Tryz.prog) rfl (.tmp 29) (.tmp 34) 55 rfl 3 i0 _ 1 8 Tryz.underlying55 HI.o HZ0.o HZ1.o HZ2.o rfl (by decide) w.heap.size _ out.length (bZ out) rfl ?c1 (wr.heap.size+1) _ _ _ [.int .i64 y] rfl ?c2 ?c3 ?c4 ?c5 ?c6 ?_);case c1=>exact World.ownsRow.alloc HO.o _
    case c2=>exact ax.new wr #[.int .i64 y] _ (by unfold maxLen;omega) rfl
    case c3=>simp[Value.oneCell']
    case c4=>unfold maxLen;omega
    case c5=>omega
    case c6=>first|omega|(simp;omega)
    intro v3 w3 hown3 hg3 _;have hb3:Below w.heap.size w w3:=Below.grown (hbel.alloc hsz (.cells #[.int .i64 y] 3)) hg3 (by simp;omega) (fun j hj=>(HO.o.lt j hj).1);have HR:=qS (IW w l x v3 (.bool true) (.int .i64 ((k+1:Nat):Int)) w3) (⟨k+1,true,out++[y],rfl,by omega,rfl,by rw[kv.o,show(out++[y]).length=out.length+1 by simp];exact hown3,hb3,by simp;omega,by rw[HX.o,HDR.o];simp,by simp⟩);clear hown3 hg3 hb3 hc';go_wp2;go_roundw;case rel=>exact HR.o
    case measure=>simp[intOf];omega
  ·have HDR:=qS (l.drop k=[]) (List.drop_eq_nil_iff.2 (by omega));have t1: ¬(k:Int)<l.length:=by omega
   cases done
   ·have hdl:=HDL.o rfl;go_wp2_with(at_builtin;refine aj (P:=Tryz.prog) rfl (.tmp 38) (.tmp 40) 55 rfl 3 i0 _ 1 8 Tryz.underlying55 HI.o HZ0.o HZ1.o HZ2.o rfl (by decide) w.heap.size _ out.length (bZ out) rfl ?c1 (wr.heap.size+1) _ _ _ [.int .i64 x] rfl ?c2 ?c3 ?c4 ?c5 ?c6 ?_);case c1=>exact World.ownsRow.alloc HO.o _
    case c2=>exact ax.new wr #[.int .i64 x] _ (by unfold maxLen;omega) rfl
    case c3=>simp[Value.oneCell']
    case c4=>unfold maxLen;omega
    case c5=>omega
    case c6=>first|omega|(simp;omega)
    intro v3 w3 hown3 hg3 _;have hb3:Below w.heap.size w w3:=Below.grown (hbel.alloc hsz (.cells #[.int .i64 x] 3)) hg3 (by simp;omega) (fun j hj=>(HO.o.lt j hj).1);have HR:=qS (GK w (eT x l) (.returned v3) w3) (⟨v3,rfl,by rw[HX.o,HDR.o];simp only[Bool.false_eq_true,if_false,eT];rw[kv.o,show(out++[x]).length=out.length+1 by simp];exact hown3,hb3⟩);clear hown3 hg3 hb3;go_wp2;go_ret;exact HR.o
   ·have HR:=qS (GK w (eT x l) (.returned u5) wr) (⟨u5,rfl,by rw[HX.o,HDR.o];simp only[if_true,List.append_nil];exact HO.o,hbel⟩);go_wp2;go_ret;exact HR.o
section
variable{α:Type}
theorem PX{k:List UInt8}{v:α}{y:List UInt8×α}{r:Row α}(h:bP (y::r))(hb:bytesBefore k y.1=true):aL k v (y::r)=(k,v)::y::r:=by
 obtain⟨h1,h2⟩:=List.pairwise_cons.1 h;have hr: ∀p∈y::r,p.1≠k:=fun p hp he=>by
  rcases List.mem_cons.1 hp with rfl|hp;·rw[he,az]at hb;cases hb
  ·have:=fq hb (h1 p hp);rw[he,az]at this;cases this
 unfold aL;rw[List.filter_eq_self.2 (fun p hp=>by simp[hr p hp]),fQ,if_pos hb]
theorem PZ{k:List UInt8}{v:α}{y:List UInt8×α}{r:Row α}(h:bP (y::r))(e:y.1=k):aL k v (y::r)=(k,v)::r:=by
 obtain⟨h1,h2⟩:=List.pairwise_cons.1 h;have hr: ∀p∈r,p.1≠k:=fun p hp he=>by have:=h1 p hp;rw[he,e,az]at this;cases this
 unfold aL;rw[List.filter_cons_of_neg (by simp[e]),List.filter_eq_self.2 (fun p hp=>by simp[hr p hp])];cases r with|nil=>rfl|cons z t=>rw[fQ,if_pos (by have:=h1 z (by simp);rw[e]at this;exact this)]
theorem PY{k:List UInt8}{v:α}{y:List UInt8×α}{r:Row α}(hb:bytesBefore y.1 k=true):aL k v (y::r)=y::aL k v r:=by
 have hne:y.1≠k:=fun e=>by rw[e,az]at hb;cases hb
 have hnk:bytesBefore k y.1=false:=by
  cases hq:bytesBefore k y.1;·rfl
  ·have:=fq hb hq;rw[az]at this;cases this
 unfold aL;rw[List.filter_cons_of_pos (by simp[hne]),fQ,if_neg (by simp[hnk])]
end
def bA(R:List fG):Row (List Int):=R.map fun q=>(q.1,q.2.1)
theorem Wz: ∀a b:List UInt8,Op.bytesLess a b=bytesBefore a b|[],[]=>rfl|[],_::_=>rfl|_::_,[]=>rfl|x::a,y::b=>by unfold Op.bytesLess bytesBefore;rw[Wz a b]
theorem Nf:(Tryz.prog.info? 167).map (fun i=>(i.zero,i.size,i.bytes))=some (some (.agg #[.string ByteArray.empty,.slice none 0 0]),2,40):=by kernel_rfl
def qN(w:World)(R:List fG)(s:List UInt8)(v:List Int)(wr:World)(q:fG):Prop:=q∈R∨(q.1=s∧q.2.1=v∧wr.ownsRow w.heap.size 3 1 q.2.2 v.length (bZ v))
theorem qN.keep{w wr w':World}{R:List fG}{s:List UInt8}{v:List Int}{q:fG}{base n:Nat}{vo:Value}{xs:List Value}(h:qN w R s v wr q)(ho:wr.ownsRow base 167 2 vo n xs)(hg:wr.grownBy w' vo.ownBlock):qN w R s v w' q:=by
 rcases h with h|⟨h1,h2,h3⟩;·exact .inl h
 ·refine .inr ⟨h1,h2,World.ownsRow.kept h3 hg ?_⟩;exact dR h3 ho (by decide)
def yl(w:World)(R:List fG)(s:List UInt8)(v:List Int)(vo d i:Value)(wr:World):Prop:= ∃(k:Nat)(done:Bool)(out:List fG),i=.int .i64 k∧k≤R.length∧d=.bool done∧wr.ownsRow w.heap.size 167 2 vo out.length (cu out)∧Below w.heap.size w wr∧out.length≤k+1∧aL s v (bA R)=bA out++(if done then bA (R.drop k)else aL s v (bA (R.drop k)))∧(∀q∈out,qN w R s v wr q)∧(done=false→out.length≤k∧ ∀q∈R.take k,bytesBefore q.1 s=true)∧(done=true→ ∀q∈R.drop k,q.1≠s)
theorem zi{R:List fG}{s:List UInt8}(h: ∀q∈R,q.1≠s):kI R s=[]:=by unfold kI;rw[List.find?_eq_none.2 (fun q hq=>by simp[h q hq])];rfl
theorem PL{R:List fG}{s:List UInt8}(k:Nat)(hk:k<R.length)(h1:R[k].1=s)(h2: ∀q∈R.take k,q.1≠s):kI R s=R[k].2.1:=by unfold kI;rw[List.find?_eq_some_iff_getElem.2 ⟨by simp[h1],k,hk,rfl,fun j hj=>by have:=h2 R[j] (List.mem_take_iff_getElem.2 ⟨j,by omega,rfl⟩);simpa using this⟩];rfl
theorem jJ.below{w w':World}{S:Nat→Prop}{v:Value}{l:List Int}(h:jJ w S v l)(hb:Below w.heap.size w w'):jJ w' S v l:=by obtain⟨A,c,hv,hc,hvw⟩:=h;exact⟨A,c,hv,ax.more (ax.below hc hb) hb.size,hvw⟩
theorem jJ.wide{w:World}{S T:Nat→Prop}{v:Value}{l:List Int}(h:jJ w S v l)(hT: ∀b,S b→T b):jJ w T v l:=by obtain⟨A,c,hv,hc,hvw⟩:=h;exact⟨A,c,hv,hc,hvw.mono hT⟩
theorem P5{w:World}{base base' n:Nat}{e:TypeId}{size:Nat}{v:Value}{xs:List Value}(h:w.ownsRow base e size v n xs)(hb:base'≤base):w.ownsRow base' e size v n xs:=by
 refine⟨h.1,?_⟩;rcases h.2 with h'|⟨g,cap,cur,e,hg,rest⟩;·exact .inl h'
 ·exact .inr ⟨g,cap,cur,e,by omega,rest⟩
theorem fB(R:List fG)(q:fG):cu (R++[q])=cu R++tH q:=by simp[cu]
theorem gz(a b:List fG):bA (a++b)=bA a++bA b:=by simp[bA]
def j6(w:World)(S:Nat→Prop)(R:List fG)(s:List UInt8)(v:List Int)(e:Ending)(w':World):Prop:= ∃A' c' R',e=.returned (.tuple #[.slice A' R'.length c',.bool true])∧bA R'=aL s v (bA R)∧oH w' (fun b=>S b∨(w.heap.size≤b∧b<w'.heap.size)) A' R'.length c' R'∧Below w.heap.size w w'∧R'.length≤R.length+1
theorem j6.of{w wr:World}{S:Nat→Prop}{R out:List fG}{s:List UInt8}{v:List Int}{vo:Value}(hR: ∀q∈R,jJ w S q.2.2 q.2.1)(ho:wr.ownsRow w.heap.size 167 2 vo out.length (cu out))(hb:Below w.heap.size w wr)(hk:bA out=aL s v (bA R))(hold: ∀q∈out,qN w R s v wr q)(hl:out.length≤R.length+1):j6 w S R s v (.returned (.tuple #[vo,.bool true])) wr:=by
 obtain⟨A,c,rfl⟩:=ownsRow_form ho;refine⟨A,c,out,rfl,hk,⟨ax.aQ ho,fun q hq=>?_,(FN ho).mono fun b h=>.inr h⟩,hb,hl⟩;rcases hold q hq with h|⟨h1,h2,h3⟩;·exact((hR q h).below hb).wide fun b h=>.inl h
 ·obtain⟨A2,c2,hv2⟩:=ownsRow_form h3;rw[h2,hv2];rw[hv2]at h3;exact⟨A2,c2,rfl,ax.aQ h3,(FN h3).mono fun b h=>.inr h⟩
theorem Ma(w:World)(S:Nat→Prop)(A:Option Addr)(n c:Nat)(R:List fG)(h:oH w S A n c R)(hn:n≤90000)(hrow: ∀q∈R,q.2.1.length≤90000)(hup:bP (bA R))(s:List UInt8)(hs:af s=true)(hsl:s.length≤1000000000)(x:Int)(hx1:1≤x)(hx2:x≤1099511627776)(hnot:x∉kI R s):Calls Tryz.prog 162 #[.slice A n c,.string ⟨s.toArray⟩,.int .i64 x] w (j6 w S R s (eT x (kI R s))):=by
 have HH:=qH h;clear h;have HL:=qH HH.o.len;have HRW:=qH hrow;have HUP:=qH hup;have HS:=qH hs;have aal:=qS (decide (x∈kI R s)=false) (decide_eq_false hnot);clear hrow hup hs hnot;obtain⟨i0,hi,hz0,hz1,hz2⟩:=info_parts Nf;have HI:=qH hi;have HZ0:=qH hz0;have HZ1:=qH hz1;have HZ2:=qH hz2;clear hi hz0 hz1 hz2;have Sv:=qS (∀vy nm,∀u∈([.string ⟨(nm:List UInt8).toArray⟩,vy]:List Value),(∃A n c,vy=.slice A n c)→u.oneCell'=true) (fun vy nm u hu hv=>by obtain⟨A,n,c,rfl⟩:=hv;simp only[List.mem_cons,List.not_mem_nil,or_false]at hu;rcases hu with rfl|rfl<;>rfl);go_enter Tryz.func162,Tryz.ntmps162;go_wp2_with fail;refine(rn07 w s hsl).mono ?_;rintro r w1⟨rfl,rfl⟩;rw[HS.o];go_wp2_with fail;refine(wY w S A n c R HH.o (by omega) s x (fun q hq=>by have:=HRW.o q hq;omega)).mono ?_;rintro r w1⟨rfl,hw1⟩;rw[hw1,aal.o];clear hw1;generalize hv:eT x (kI R s)=v at*;have HV:=qH hv;clear hv;go_wp2;go_loopw[8,9,10](fun vo d i wr=>yl w R s v vo d i wr)(fun _ _ i _=>n-(intOf i).toNat);case atStart=>exact⟨0,false,[],rfl,Nat.zero_le _,rfl,World.ownsRow_lit w #[] 0 (Nat.le_refl _) (by simp[maxLen]) rfl,(Below.refl _ _).alloc (Nat.le_refl _) _,by simp,by simp[bA],by simp,fun _=>⟨by simp,by simp⟩,fun h=>by cases h⟩
 case round=>
  obtain⟨k,done,out,rfl,hk,rfl,hown,hbel,hlen,hput,hold,hdf,hdt⟩:=hrel;have HO:=qH hown;have HP:=qH hput;have HOLD:=qH hold;have UN:=qH hdf;have X3:=qH hdt;clear hown hput hold hdf hdt;have hsz:=hbel.size;have hkn':k≤n:=by have:=HL.o;omega
  by_cases hkn:k<n
  ·have hkl:k<R.length:=by have:=HL.o;omega
   obtain⟨b,off,rfl,hb,hSb,e0,e1⟩:=HH.o.at_ k hkl;have RX:=(hbel.cell (p:=⟨b,off+k*2,none⟩) hb).trans e0;have RV:=(hbel.cell (p:=⟨b,off+k*2+1,none⟩) hb).trans e1;have XJ:=qH (HH.o.row _ (List.getElem_mem hkl));have Le:=qH (List.getElem_mem hkl);have HDR:=qS (R.drop k=R[k]::R.drop (k+1)) (List.drop_eq_getElem_cons hkl);have df:=qS (R.take (k+1)=R.take k++[R[k]]) (by rw[List.take_add_one,List.getElem?_eq_getElem hkl];rfl);have HAT:=qS (R[k].1=s→(∀q∈R.take k,q.1≠s)→kI R s=R[k].2.1) (fun h1 h2=>PL k hkl h1 h2);have YD:=qS (bP (bA (R.drop k))) (by
    have:bA (R.drop k)=(bA R).drop k:=by unfold bA;rw[List.map_drop]
    rw[this];exact List.Pairwise.drop HUP.o);have hl9:=HRW.o _ (List.getElem_mem hkl);clear e0 e1;generalize R[k]=y at*;obtain⟨nm,l,vy⟩:=y;simp only at*;obtain⟨Ay,cy,hvy,_,_⟩:=XJ.o;subst hvy;have t1:(k:Int)<n:=by omega
   cases done
   ·have hdl:=(UN.o rfl).1;have GZ:=qH (UN.o rfl).2;clear UN X3;have Ky:=Wz s nm;by_cases hlt:bytesBefore s nm=true
    ·have Sl:=qS (∀q∈R,q.1≠s) (fun q hq he=>by
      rw[←List.take_append_drop k R]at hq;rcases List.mem_append.1 hq with hq|hq;·have:=GZ.o q hq;rw[he,az]at this;cases this
      ·rw[HDR.o]at hq;rcases List.mem_cons.1 hq with hq|hq;·rw[hq]at he;simp only at he;rw[he,az]at hlt;cases hlt
       ·have h1:bytesBefore nm q.1=true:=by have h2:=YD.o;rw[HDR.o]at h2;exact(List.pairwise_cons.1 h2).1 (q.1,q.2.1) (List.mem_map.2 ⟨q,hq,rfl⟩)
        have:=fq hlt h1;rw[he,az]at this;cases this);have Ov:=qS (v=[x]) (by rw[←HV.o,zi Sl.o];rfl);have pM:=qH hlt;have b0:Op.bytesLess s nm=true:=by rw[Ky];exact hlt
     have b1:(nm==s)=false:=by rw[beq_eq_false_iff_ne];intro e;rw[e,az]at hlt;cases hlt
     clear hlt Ky;go_wp2_with(at_builtin;refine aj (P:=Tryz.prog) rfl (.tmp 48) (.tmp 53) 114 rfl 167 i0 _ 2 40 Tryz.underlying114 HI.o HZ0.o HZ1.o HZ2.o rfl (by decide) w.heap.size _ out.length (cu out) rfl ?c1 (wr.heap.size+2) _ _ _ [.string ⟨s.toArray⟩,.slice (some ⟨wr.heap.size,0,none⟩) 1 1] rfl ?c2 ?c3 ?c4 ?c5 ?c6 ?_);case c1=>exact World.ownsRow.alloc (World.ownsRow.alloc HO.o _) _
     case c2=>(have:=ax.new (size:=2) (n:=1) (wr.alloc (.cells #[.int .i64 x] 3)) #[.string ⟨s.toArray⟩,.slice (some ⟨wr.heap.size,0,none⟩) 1 1] 167 (by unfold maxLen;omega) rfl;simpa using this)
     case c3=>first|exact⟨rfl,rfl⟩|(simp[Value.oneCell'])
     case c4=>unfold maxLen;omega
     case c5=>omega
     case c6=>first|omega|(simp;omega)
     intro v2 w2 how2 hgw2 _;have bL:wr.grownBy ((wr.alloc (.cells #[.int .i64 x] 3)).alloc (.cells #[.string ⟨s.toArray⟩,.slice (some ⟨wr.heap.size,0,none⟩) 1 1] 167)) none:=(World.grownBy_alloc wr _ none).trans (World.grownBy_alloc _ _ none);have hg2:=(bL.but _).andThen hgw2 (fun j hj=>.inr hj);have hb2:Below w.heap.size w w2:=Below.grown hbel hg2 (by omega) (fun j hj=>(HO.o.lt j hj).1);have hnew:w2.ownsRow w.heap.size 3 1 (.slice (some ⟨wr.heap.size,0,none⟩) 1 1) 1 (bZ [x]):=by have h1:(wr.alloc (.cells #[.int .i64 x] 3)).ownsRow w.heap.size 3 1 (.slice (some ⟨wr.heap.size,0,none⟩) 1 1) 1 (bZ [x]):=World.ownsRow_lit wr #[.int .i64 x] 1 hsz (by simp[maxLen]) rfl;have h2:=World.ownsRow.alloc h1 (.cells #[.string ⟨s.toArray⟩,.slice (some ⟨wr.heap.size,0,none⟩) 1 1] 167);exact World.ownsRow.kept h2 hgw2 (dR h2 (World.ownsRow.alloc (World.ownsRow.alloc HO.o _) _) (by decide))
     have dA:=qS (w2.ownsRow w.heap.size 167 2 v2 (out++[(s,[x],Value.slice (some ⟨wr.heap.size,0,none⟩) 1 1)]).length (cu (out++[(s,[x],Value.slice (some ⟨wr.heap.size,0,none⟩) 1 1)]))) (by rw[fB,List.length_append];exact how2);have OI:=qS (∀q∈out++[(s,[x],Value.slice (some ⟨wr.heap.size,0,none⟩) 1 1)],qN w R s v w2 q) (fun q hq=>by
      rcases List.mem_append.1 hq with hq|hq;·exact(HOLD.o q hq).keep HO.o hg2
      ·rw[List.mem_singleton]at hq;rw[hq];exact .inr ⟨rfl,Ov.o.symm,by rw[Ov.o];exact hnew⟩);have c0:w2.cell? ⟨b,off+k*2,none⟩=some (.string ⟨nm.toArray⟩):=(hb2.cell (p:=⟨b,off+k*2,none⟩) hb).trans ((hbel.cell (p:=⟨b,off+k*2,none⟩) hb).symm.trans RX);have c1:w2.cell? ⟨b,off+k*2+1,none⟩=some (.slice Ay l.length cy):=(hb2.cell (p:=⟨b,off+k*2+1,none⟩) hb).trans ((hbel.cell (p:=⟨b,off+k*2+1,none⟩) hb).symm.trans RV);have hol:(out++[(s,[x],Value.slice (some ⟨wr.heap.size,0,none⟩) 1 1)]).length=out.length+1:=by simp
     have Ja:=qH hol;have HKO:=qS (bA (out++[(s,[x],Value.slice (some ⟨wr.heap.size,0,none⟩) 1 1)])=bA out++[(s,[x])]) (by rw[gz];rfl);have hol2:(out++[(s,[x],Value.slice (some ⟨wr.heap.size,0,none⟩) 1 1)]).length≤k+1:=by simp;omega
     have hs2:=hb2.size;clear how2 hgw2 bL hg2 hnew RX RV hol;generalize out++[(s,[x],Value.slice (some ⟨wr.heap.size,0,none⟩) 1 1)]=out2 at*;go_wp2_with(at_builtin;refine aj (P:=Tryz.prog) rfl (.tmp 69) (.tmp 71) 114 rfl 167 i0 _ 2 40 Tryz.underlying114 HI.o HZ0.o HZ1.o HZ2.o rfl (by decide) w.heap.size _ out2.length (cu out2) rfl ?c1 (w2.heap.size+2) _ _ _ [.string ⟨nm.toArray⟩,.slice Ay l.length cy] rfl ?c2 ?c3 ?c4 ?c5 ?c6 ?_);case c1=>exact World.ownsRow.alloc (World.ownsRow.alloc dA.o _) _
     case c2=>(have:=ax.new (size:=2) (n:=1) (w2.alloc (.cells #[.string ⟨nm.toArray⟩,.slice Ay l.length cy] 167)) #[.string ⟨nm.toArray⟩,.slice Ay l.length cy] 167 (by unfold maxLen;omega) rfl;simpa using this)
     case c3=>first|exact⟨rfl,rfl⟩|(simp[Value.oneCell'])
     case c4=>unfold maxLen;omega
     case c5=>omega
     case c6=>first|omega|(simp;omega)
     intro v9 w9 how9 hgw9 _;have bL:w2.grownBy ((w2.alloc (.cells #[.string ⟨nm.toArray⟩,.slice Ay l.length cy] 167)).alloc (.cells #[.string ⟨nm.toArray⟩,.slice Ay l.length cy] 167)) none:=(World.grownBy_alloc w2 _ none).trans (World.grownBy_alloc _ _ none);have hg9:=(bL.but _).andThen hgw9 (fun j hj=>.inr hj);have hb9:Below w.heap.size w w9:=Below.grown hb2 hg9 (by have:=hb2.size;omega) (fun j hj=>(dA.o.lt j hj).1);have HR:=qS (yl w R s v v9 (.bool true) (.int .i64 ((k+1:Nat):Int)) w9) (⟨k+1,true,out2++[(nm,l,Value.slice Ay l.length cy)],rfl,by have:=HL.o;omega,rfl,by rw[fB,List.length_append];exact how9,hb9,by simp;omega,by rw[HP.o,gz,HKO.o,HDR.o];simp only[Bool.false_eq_true,if_false,if_true];rw[show bA ((nm,l,Value.slice Ay l.length cy)::R.drop (k+1))=(nm,l)::bA (R.drop (k+1))from rfl,PX (by have h2:=YD.o;rw[HDR.o]at h2;exact h2) pM.o,Ov.o];simp[bA],fun q hq=>by
      rcases List.mem_append.1 hq with hq|hq;·exact(OI.o q hq).keep dA.o hg9
      ·rw[List.mem_singleton]at hq;rw[hq];exact .inl Le.o,fun h=>(by cases h),fun _ q hq=>Sl.o q (List.mem_of_mem_drop hq)⟩);clear how9 hgw9 bL hg9 hb9 c0 c1;go_wp2;go_roundw;case rel=>exact HR.o
     case measure=>simp[intOf];omega
    ·by_cases hes:nm=s
     ·have Ov:=qS (v=eT x l) (by rw[←HV.o,HAT.o hes (fun q hq he=>by have:=GZ.o q hq;rw[he,az]at this;cases this)]);subst hes;have b0:Op.bytesLess nm nm=false:=by rw[Ky,az]
      have b1:(nm==nm)=true:=by simp
      have Pm:=qS (∀q∈R.drop (k+1),q.1≠nm) (fun q hq he=>by have h2:=YD.o;rw[HDR.o]at h2;have:=(List.pairwise_cons.1 h2).1 (q.1,q.2.1) (List.mem_map.2 ⟨q,hq,rfl⟩);simp only at this;rw[he,az]at this;cases this);clear hlt Ky;have Wi:Below wr.heap.size wr (wr.alloc (.cells #[.string ⟨nm.toArray⟩,.slice Ay l.length cy] 167)):=(Below.refl _ _).alloc (Nat.le_refl _) _;have hbw:Below w.heap.size w (wr.alloc (.cells #[.string ⟨nm.toArray⟩,.slice Ay l.length cy] 167)):=hbel.alloc hsz _;have HIW:=qS (jJ (wr.alloc (.cells #[.string ⟨nm.toArray⟩,.slice Ay l.length cy] 167)) S (.slice Ay l.length cy) l) (XJ.o.below hbw);go_wp2_with fail;refine(Fy _ S _ l HIW.o (by omega) x).mono ?_;rintro r w3⟨nv,rfl,Yp,hb3⟩;obtain⟨An,cn,U8⟩:=ownsRow_form Yp;subst U8;have hsA:(wr.alloc (.cells #[.string ⟨nm.toArray⟩,.slice Ay l.length cy] 167)).heap.size=wr.heap.size+1:=by simp
      have hs3:=hb3.size;rw[hsA]at hs3;have hblk3:w3.heap[wr.heap.size]?=some (.cells #[.string ⟨nm.toArray⟩,.slice Ay l.length cy] 167):=(hb3.block wr.heap.size (by rw[hsA];omega)).trans (heap_alloc_new wr _);have x0:w3.cell? ⟨wr.heap.size,0,none⟩=some (.string ⟨nm.toArray⟩):=(cell_of_row w3 wr.heap.size 0 _ _ (0,0) hblk3).trans rfl;have x1:w3.cell? ⟨wr.heap.size,1,none⟩=some (.slice Ay l.length cy):=(cell_of_row w3 wr.heap.size 1 _ _ (0,0) hblk3).trans rfl;have xf: ∀o,w3.frozen? ⟨wr.heap.size,o,none⟩=false:=fun o=>frozen_of_row w3 wr.heap.size o _ _ hblk3;have hg3:wr.grownBy w3 none:=⟨hb3.os.trans Wi.os,hb3.tape.trans Wi.tape,hb3.output.trans Wi.output,by omega,fun i hi _=>(hb3.block i (by rw[hsA];omega)).trans (Wi.block i hi)⟩;have pK:=qH (ownsRow_below HO.o (show Below wr.heap.size wr w3 from⟨hg3.os,hg3.tape,hg3.output,hg3.size,fun i hi=>hg3.block i hi (by simp)⟩) (Nat.le_refl _));have hown4: ∀(vv:Value)(e:TypeId)(size nn base:Nat)(xs:List Value),w3.ownsRow base e size vv nn xs→vv.ownBlock≠some wr.heap.size→((w3.setCell ⟨wr.heap.size,0,none⟩ (.string ⟨nm.toArray⟩)).setCell ⟨wr.heap.size,1,none⟩ (.slice An (eT x l).length cn)).ownsRow base e size vv nn xs:=fun vv e size nn base xs h hne=>ownsRow_setCell_other (ownsRow_setCell_other h hne _) hne _;have Jb:=qH (hown4 _ _ _ _ _ _ pK.o (fun e=>by have:=(World.ownsRow.lt HO.o _ e).2;omega));have Xx:=qH (hown4 _ _ _ _ _ _ Yp (fun e=>by have:=(World.ownsRow.lt Yp _ e).1;rw[hsA]at this;omega));have hg4:wr.grownBy ((w3.setCell ⟨wr.heap.size,0,none⟩ (.string ⟨nm.toArray⟩)).setCell ⟨wr.heap.size,1,none⟩ (.slice An (eT x l).length cn)) none:=⟨hg3.os,hg3.tape,hg3.output,by simp[World.setCell];exact hg3.size,fun i hi hn=>(Below.heap_setCell _ _ _ i (by show i≠wr.heap.size;omega)).trans ((Below.heap_setCell _ _ _ i (by show i≠wr.heap.size;omega)).trans (hg3.block i hi hn))⟩;have oK:=qH hg4;have hbk4:((w3.setCell ⟨wr.heap.size,0,none⟩ (.string ⟨nm.toArray⟩)).setCell ⟨wr.heap.size,1,none⟩ (.slice An (eT x l).length cn)).heap[wr.heap.size]?=some (.cells #[.string ⟨nm.toArray⟩,.slice An (eT x l).length cn] 167):=ae (ae hblk3);have hs4:((w3.setCell ⟨wr.heap.size,0,none⟩ (.string ⟨nm.toArray⟩)).setCell ⟨wr.heap.size,1,none⟩ (.slice An (eT x l).length cn)).heap.size=w3.heap.size:=by simp[World.setCell]
      have y0:((w3.setCell ⟨wr.heap.size,0,none⟩ (.string ⟨nm.toArray⟩)).setCell ⟨wr.heap.size,1,none⟩ (.slice An (eT x l).length cn)).cell? ⟨wr.heap.size,0,none⟩=some (.string ⟨nm.toArray⟩):=(cell_of_row _ wr.heap.size 0 _ _ (0,0) hbk4).trans rfl;have y1:((w3.setCell ⟨wr.heap.size,0,none⟩ (.string ⟨nm.toArray⟩)).setCell ⟨wr.heap.size,1,none⟩ (.slice An (eT x l).length cn)).cell? ⟨wr.heap.size,1,none⟩=some (.slice An (eT x l).length cn):=(cell_of_row _ wr.heap.size 1 _ _ (0,0) hbk4).trans rfl;have HIL:=qH (nU x l);clear Yp hb3 hg3 hg4 hown4 Wi hbw pK;go_upto_region 15 with fail;clear x0 x1 xf hblk3 hbk4;generalize(w3.setCell ⟨wr.heap.size,0,none⟩ (.string ⟨nm.toArray⟩)).setCell ⟨wr.heap.size,1,none⟩ (.slice An (eT x l).length cn)=w4 at*;have hb4:Below w.heap.size w w4:=Below.grown hbel oK.o (by omega) (fun k hk=>by cases hk);have aaO:=oK.o.size;clear hs4;go_wp2_with(at_builtin;refine aj (P:=Tryz.prog) rfl (.tmp 69) (.tmp 71) 114 rfl 167 i0 _ 2 40 Tryz.underlying114 HI.o HZ0.o HZ1.o HZ2.o rfl (by decide) w.heap.size _ out.length (cu out) rfl ?c1 (w4.heap.size+1) _ _ _ [.string ⟨nm.toArray⟩,.slice An (eT x l).length cn] rfl ?c2 ?c3 ?c4 ?c5 ?c6 ?_);case c1=>exact World.ownsRow.alloc Jb.o _
      case c2=>exact ax.new (size:=2) (n:=1) w4 #[.string ⟨nm.toArray⟩,.slice An (eT x l).length cn] 167 (by unfold maxLen;omega) rfl
      case c3=>first|exact⟨rfl,rfl⟩|(simp[Value.oneCell'])
      case c4=>unfold maxLen;omega
      case c5=>omega
      case c6=>first|omega|(simp;omega)
      intro v9 w9 how9 hgw9 _;have hg9:=((World.grownBy_alloc w4 (.cells #[.string ⟨nm.toArray⟩,.slice An (eT x l).length cn] 167) none).but _).andThen hgw9 (fun j hj=>.inr hj);have hb9:Below w.heap.size w w9:=Below.grown hb4 hg9 (by have:=hb4.size;omega) (fun j hj=>(Jb.o.lt j hj).1);have hnew:w9.ownsRow w.heap.size 3 1 (.slice An (eT x l).length cn) (eT x l).length (bZ (eT x l)):=by have h1:=World.ownsRow.kept Xx.o hg9 (dR Xx.o Jb.o (by decide));exact P5 h1 (by rw[hsA];omega)
      have HR:=qS (yl w R nm v v9 (.bool true) (.int .i64 ((k+1:Nat):Int)) w9) (⟨k+1,true,out++[(nm,eT x l,Value.slice An (eT x l).length cn)],rfl,by have:=HL.o;omega,rfl,by rw[fB,List.length_append];exact how9,hb9,by simp;omega,by rw[HP.o,gz,HDR.o];simp only[Bool.false_eq_true,if_false,if_true];rw[show bA ((nm,l,Value.slice Ay l.length cy)::R.drop (k+1))=(nm,l)::bA (R.drop (k+1))from rfl,PZ (k:=nm) (y:=(nm,l)) (by have h2:=YD.o;rw[HDR.o]at h2;exact h2) rfl,Ov.o];simp[bA],fun q hq=>by
       rcases List.mem_append.1 hq with hq|hq
       ·rcases HOLD.o q hq with h|⟨h1,h2,h3⟩;·exact .inl h
        ·refine .inr ⟨h1,h2,?_⟩;have h4:=World.ownsRow.kept h3 oK.o (by rcases h3.2 with⟨e,_⟩|⟨g,cap,cur,e,_⟩<;>(rw[e];simp[Value.ownBlock]));exact World.ownsRow.kept h4 hg9 (dR h4 Jb.o (by decide))
       ·rw[List.mem_singleton]at hq;rw[hq];exact .inr ⟨rfl,Ov.o.symm,by rw[Ov.o];exact hnew⟩,fun h=>(by cases h),fun _=>Pm.o⟩);clear how9 hgw9 hg9 hb9 hnew y0 y1 RX RV Xx Jb;go_wp2;go_roundw;case rel=>exact HR.o
      case measure=>simp[intOf];omega
     ·have YL:=qS (bytesBefore nm s=true) (by
       rcases jv hes with h'|h';·exact h'
       ·exact absurd h' hlt);have b1:(nm==s)=false:=by simp[hes]
      have b0:Op.bytesLess s nm=false:=by rw[Ky];simpa using hlt
      clear hlt hes Ky;go_wp2_with(at_builtin;refine aj (P:=Tryz.prog) rfl (.tmp 69) (.tmp 71) 114 rfl 167 i0 _ 2 40 Tryz.underlying114 HI.o HZ0.o HZ1.o HZ2.o rfl (by decide) w.heap.size _ out.length (cu out) rfl ?c1 (wr.heap.size+2) _ _ _ [.string ⟨nm.toArray⟩,.slice Ay l.length cy] rfl ?c2 ?c3 ?c4 ?c5 ?c6 ?_);case c1=>exact World.ownsRow.alloc (World.ownsRow.alloc HO.o _) _
      case c2=>exact(by have:=ax.new (size:=2) (n:=1) (wr.alloc (.cells #[.string ⟨nm.toArray⟩,.slice Ay l.length cy] 167)) #[.string ⟨nm.toArray⟩,.slice Ay l.length cy] 167 (by unfold maxLen;omega) rfl;simpa using this)
      case c3=>first|exact⟨rfl,rfl⟩|(simp[Value.oneCell'])
      case c4=>unfold maxLen;omega
      case c5=>omega
      case c6=>first|omega|(simp;omega)
      intro v9 w9 how9 hgw9 _;have bL:wr.grownBy ((wr.alloc (.cells #[.string ⟨nm.toArray⟩,.slice Ay l.length cy] 167)).alloc (.cells #[.string ⟨nm.toArray⟩,.slice Ay l.length cy] 167)) none:=(World.grownBy_alloc wr _ none).trans (World.grownBy_alloc _ _ none);have hg9:=(bL.but _).andThen hgw9 (fun j hj=>.inr hj);have hb9:Below w.heap.size w w9:=Below.grown hbel hg9 (by have:=hbel.size;omega) (fun j hj=>(HO.o.lt j hj).1);have HR:=qS (yl w R s v v9 (.bool false) (.int .i64 ((k+1:Nat):Int)) w9) (⟨k+1,false,out++[(nm,l,Value.slice Ay l.length cy)],rfl,by have:=HL.o;omega,rfl,by rw[fB,List.length_append];exact how9,hb9,by simp;omega,by rw[HP.o,gz,HDR.o];simp only[Bool.false_eq_true,if_false];rw[show bA ((nm,l,Value.slice Ay l.length cy)::R.drop (k+1))=(nm,l)::bA (R.drop (k+1))from rfl,PY YL.o];simp[bA],fun q hq=>by
       rcases List.mem_append.1 hq with hq|hq;·exact(HOLD.o q hq).keep HO.o hg9
       ·rw[List.mem_singleton]at hq;rw[hq];exact .inl Le.o,fun _=>⟨by simp;omega,fun q hq=>by
       rw[df.o]at hq;rcases List.mem_append.1 hq with hq|hq;·exact GZ.o q hq
       ·rw[List.mem_singleton]at hq;rw[hq];exact YL.o⟩,fun h=>(by cases h)⟩);clear how9 hgw9 bL hg9 hb9 RX RV;go_wp2;go_roundw;case rel=>exact HR.o
      case measure=>simp[intOf];omega
   ·have Pn:=qH (X3.o rfl (nm,l,.slice Ay l.length cy) (by rw[HDR.o];simp));have b1:(nm==s)=false:=by simpa using Pn.o
    have HDU:=qH (X3.o rfl);clear UN X3;go_wp2_with(at_builtin;refine aj (P:=Tryz.prog) rfl (.tmp 69) (.tmp 71) 114 rfl 167 i0 _ 2 40 Tryz.underlying114 HI.o HZ0.o HZ1.o HZ2.o rfl (by decide) w.heap.size _ out.length (cu out) rfl ?c1 (wr.heap.size+2) _ _ _ [.string ⟨nm.toArray⟩,.slice Ay l.length cy] rfl ?c2 ?c3 ?c4 ?c5 ?c6 ?_);case c1=>exact World.ownsRow.alloc (World.ownsRow.alloc HO.o _) _
    case c2=>exact(by have:=ax.new (size:=2) (n:=1) (wr.alloc (.cells #[.string ⟨nm.toArray⟩,.slice Ay l.length cy] 167)) #[.string ⟨nm.toArray⟩,.slice Ay l.length cy] 167 (by unfold maxLen;omega) rfl;simpa using this)
    case c3=>first|exact⟨rfl,rfl⟩|(simp[Value.oneCell'])
    case c4=>unfold maxLen;omega
    case c5=>omega
    case c6=>first|omega|(simp;omega)
    intro v9 w9 how9 hgw9 _;have bL:wr.grownBy ((wr.alloc (.cells #[.string ⟨nm.toArray⟩,.slice Ay l.length cy] 167)).alloc (.cells #[.string ⟨nm.toArray⟩,.slice Ay l.length cy] 167)) none:=(World.grownBy_alloc wr _ none).trans (World.grownBy_alloc _ _ none);have hg9:=(bL.but _).andThen hgw9 (fun j hj=>.inr hj);have hb9:Below w.heap.size w w9:=Below.grown hbel hg9 (by have:=hbel.size;omega) (fun j hj=>(HO.o.lt j hj).1);have HR:=qS (yl w R s v v9 (.bool true) (.int .i64 ((k+1:Nat):Int)) w9) (⟨k+1,true,out++[(nm,l,Value.slice Ay l.length cy)],rfl,by have:=HL.o;omega,rfl,by rw[fB,List.length_append];exact how9,hb9,by simp;omega,by rw[HP.o,gz,HDR.o];simp[bA],fun q hq=>by
     rcases List.mem_append.1 hq with hq|hq;·exact(HOLD.o q hq).keep HO.o hg9
     ·rw[List.mem_singleton]at hq;rw[hq];exact .inl Le.o,fun h=>(by cases h),fun _ q hq=>HDU.o q (by rw[HDR.o];exact List.mem_cons_of_mem _ hq)⟩);clear how9 hgw9 bL hg9 hb9 RX RV;go_wp2;go_roundw;case rel=>exact HR.o
    case measure=>simp[intOf];omega
  ·have t1: ¬(k:Int)<n:=by omega
   have HDR:=qS (R.drop k=[]) (List.drop_eq_nil_iff.2 (by have:=HL.o;omega));cases done
   ·have hdl:=(UN.o rfl).1;have GZ:=qH (UN.o rfl).2;clear UN X3;have Sl:=qS (∀q∈R,q.1≠s) (fun q hq he=>by rw[←List.take_append_drop k R,HDR.o,List.append_nil]at hq;have:=GZ.o q hq;rw[he,az]at this;cases this);have Ov:=qS (v=[x]) (by rw[←HV.o,zi Sl.o];rfl);go_wp2_with(at_builtin;refine aj (P:=Tryz.prog) rfl (.tmp 75) (.tmp 80) 114 rfl 167 i0 _ 2 40 Tryz.underlying114 HI.o HZ0.o HZ1.o HZ2.o rfl (by decide) w.heap.size _ out.length (cu out) rfl ?c1 (wr.heap.size+2) _ _ _ [.string ⟨s.toArray⟩,.slice (some ⟨wr.heap.size,0,none⟩) 1 1] rfl ?c2 ?c3 ?c4 ?c5 ?c6 ?_);case c1=>exact World.ownsRow.alloc (World.ownsRow.alloc HO.o _) _
    case c2=>(have:=ax.new (size:=2) (n:=1) (wr.alloc (.cells #[.int .i64 x] 3)) #[.string ⟨s.toArray⟩,.slice (some ⟨wr.heap.size,0,none⟩) 1 1] 167 (by unfold maxLen;omega) rfl;simpa using this)
    case c3=>first|exact⟨rfl,rfl⟩|(simp[Value.oneCell'])
    case c4=>unfold maxLen;omega
    case c5=>omega
    case c6=>first|omega|(simp;omega)
    intro v2 w2 how2 hgw2 _;have bL:wr.grownBy ((wr.alloc (.cells #[.int .i64 x] 3)).alloc (.cells #[.string ⟨s.toArray⟩,.slice (some ⟨wr.heap.size,0,none⟩) 1 1] 167)) none:=(World.grownBy_alloc wr _ none).trans (World.grownBy_alloc _ _ none);have hg2:=(bL.but _).andThen hgw2 (fun j hj=>.inr hj);have hb2:Below w.heap.size w w2:=Below.grown hbel hg2 (by omega) (fun j hj=>(HO.o.lt j hj).1);have hnew:w2.ownsRow w.heap.size 3 1 (.slice (some ⟨wr.heap.size,0,none⟩) 1 1) 1 (bZ [x]):=by have h1:(wr.alloc (.cells #[.int .i64 x] 3)).ownsRow w.heap.size 3 1 (.slice (some ⟨wr.heap.size,0,none⟩) 1 1) 1 (bZ [x]):=World.ownsRow_lit wr #[.int .i64 x] 1 hsz (by simp[maxLen]) rfl;have h2:=World.ownsRow.alloc h1 (.cells #[.string ⟨s.toArray⟩,.slice (some ⟨wr.heap.size,0,none⟩) 1 1] 167);exact World.ownsRow.kept h2 hgw2 (dR h2 (World.ownsRow.alloc (World.ownsRow.alloc HO.o _) _) (by decide))
    have dA:=qS (w2.ownsRow w.heap.size 167 2 v2 (out++[(s,[x],Value.slice (some ⟨wr.heap.size,0,none⟩) 1 1)]).length (cu (out++[(s,[x],Value.slice (some ⟨wr.heap.size,0,none⟩) 1 1)]))) (by rw[fB,List.length_append];exact how2);have OI:=qS (∀q∈out++[(s,[x],Value.slice (some ⟨wr.heap.size,0,none⟩) 1 1)],qN w R s v w2 q) (fun q hq=>by
     rcases List.mem_append.1 hq with hq|hq;·exact(HOLD.o q hq).keep HO.o hg2
     ·rw[List.mem_singleton]at hq;rw[hq];exact .inr ⟨rfl,Ov.o.symm,by rw[Ov.o];exact hnew⟩);have HR:=qS (j6 w S R s v (.returned (.tuple #[v2,.bool true])) w2) (j6.of HH.o.row dA.o hb2 (by rw[HP.o,HDR.o,gz];simp only[Bool.false_eq_true,if_false];rw[Ov.o];rfl) OI.o (by have:=HL.o;simp;omega));clear how2 hgw2 bL hg2 hnew hb2;go_wp2;go_ret2;exact HR.o
   ·have HR:=qS (j6 w S R s v (.returned (.tuple #[u8,.bool true])) wr) (j6.of HH.o.row HO.o hbel (by have:=HP.o;rw[HDR.o]at this;simpa[bA]using this.symm) HOLD.o (by have:=HL.o;omega));go_wp2;go_ret2;exact HR.o
end Go.Proofs.YtladegonienapaaGreatDoor
