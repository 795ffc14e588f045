/-
  Layer 7, the document's: Put.
-/
import Derived.Test.YtbejfgmdkmddnaaGreatDoorVClkEnc2
import Derived.Test.YtbejfgmdkmddnaaGreatDoorVRClk3
set_option maxRecDepth 100000
set_option maxHeartbeats 16000000
namespace Go.Proofs.YtbejfgmdkmddnaaGreatDoor
open Go.RowKit Go.Maps Go.Sort
def dE(l:List Int):List Value:=l.map fun n=>.int .i64 n
def ku(w:World)(S:Nat→Prop)(v:Value)(l:List Int):Prop:= ∃A c,v=.slice A l.length c∧az w w.heap.size 1 A l.length c (dE l)∧lF S A l.length
abbrev gu:=List UInt8×List Int×Value
def ve(q:gu):List Value:=[.string ⟨q.1.toArray⟩,q.2.2]
def dF(R:List gu):List Value:=R.flatMap ve
theorem xk(l:List gu):(dF l).length=l.length*2:=by induction l with|nil=>rfl|cons p l ih=>simp only[dF,List.flatMap_cons,List.length_append,List.length_cons]at*;rw[ih];simp[ve];omega
theorem CO(l:List gu)(k j:Nat)(hk:k<l.length)(hj:j<2):(dF l)[k*2+j]?=(ve l[k])[j]?:=by induction l generalizing k with|nil=>simp at hk|cons p l ih=>have hc:(ve p).length=2:=rfl;simp only[dF,List.flatMap_cons];cases k with|zero=>rw[Nat.zero_mul,Nat.zero_add,List.getElem?_append_left (by omega)];rfl|succ k=>rw[List.getElem?_append_right (by omega),hc,show(k+1)*2+j-2=k*2+j by omega];exact ih k (by simpa using hk)
structure p9(w:World)(S:Nat→Prop)(A:Option Addr)(n c:Nat)(R:List gu):Prop where
 cel:az w w.heap.size 2 A n c (dF R)
 row: ∀q∈R,ku w S q.2.2 q.2.1
 vw:lF S A n
theorem p9.len{w:World}{S:Nat→Prop}{n c:Nat}{A:Option Addr}{R:List gu}(h:p9 w S A n c R):R.length=n:=by have:=h.cel.len;rw[xk]at this;omega
theorem p9.at_{w:World}{S:Nat→Prop}{n c:Nat}{A:Option Addr}{R:List gu}(h:p9 w S A n c R)(k:Nat)(hk:k<R.length): ∃b off,A=some ⟨b,off,none⟩∧b<w.heap.size∧S b∧w.cell? ⟨b,off+k*2,none⟩=some (.string ⟨R[k].1.toArray⟩)∧w.cell? ⟨b,off+k*2+1,none⟩=some R[k].2.2:=by
 have hl:=h.len;obtain⟨b,off,e,hb,hc⟩:=h.cel.cell (by omega);have key: ∀j u,j<2→(ve R[k])[j]?=some u→w.cell? ⟨b,off+k*2+j,none⟩=some u:=fun j u hj hu=>by rw[Nat.add_assoc];exact hc _ u (by rw[CO R k j hk hj,hu])
 exact⟨b,off,e,hb,h.vw _ e (by omega),key 0 _ (by omega) rfl,key 1 _ (by omega) rfl⟩
theorem ku.at_{w:World}{S:Nat→Prop}{A:Option Addr}{n c:Nat}{l:List Int}(h:ku w S (.slice A n c) l)(k:Nat)(hk:k<l.length): ∃b off,A=some ⟨b,off,none⟩∧b<w.heap.size∧w.cell? ⟨b,off+k,none⟩=some (.int .i64 l[k]):=by obtain⟨A',c',e,hc,_⟩:=h;injection e with e1 e2 e3;subst e1 e2 e3;obtain⟨b,off,e,hb,hc⟩:=hc.cell (by omega);exact⟨b,off,e,hb,hc k _ (by unfold dE;rw[List.getElem?_map,List.getElem?_eq_getElem hk];rfl)⟩
def FC(R:List gu)(s:List UInt8):Int:=match R.findIdx? (fun q=>q.1==s)with|some i=>i|none=> -1
theorem RP(w:World)(S:Nat→Prop)(A:Option Addr)(n c:Nat)(R:List gu)(h:p9 w S A n c R)(hn:n≤100000)(s:List UInt8):Calls Tryz.prog 74 #[.slice A n c,.string ⟨s.toArray⟩] w fun e w'=>e=.returned (.int .i64 (FC R s))∧w'=w:=by
 have HH:=qH h;clear h;have HL:=qH HH.o.len;go_enter Tryz.func74,Tryz.ntmps74;go_wp2;go_loop[5](fun i=> ∃k:Nat,i=.int .i64 k∧k≤n∧Hid (∀j(hj:j<R.length),j<k→(R[j].1==s)=false))(fun i=>n-(intOf i).toNat);case atStart=>exact⟨0,rfl,Nat.zero_le _,fun j _ h=>by omega⟩
 case round=>
  obtain⟨k,rfl,hk,HK⟩:=hrel;by_cases hkn:k<n
  ·have hkl:k<R.length:=by rw[HL.o];exact hkn
   obtain⟨b,off,rfl,hb,_,e0,e1⟩:=HH.o.at_ k hkl;have t1:(k:Int)<n:=by omega
   clear e1;cases hs:(R[k].1==s)
   ·have HN:=qS (∀j(hj:j<R.length),j<k+1→(R[j].1==s)=false) (fun j hj hlt=>by
     by_cases e:j=k;·subst e;exact hs
     ·exact HK.o j hj (by omega));generalize R[k].1=t at*;go_wp2;go_round;case rel=>exact⟨k+1,by go_num,by omega,HN.o⟩
    case measure=>simp[intOf];omega
   ·have HI:=qS (FC R s=k) (by unfold FC;rw[List.findIdx?_eq_some_iff_getElem.2 ⟨hkl,hs,fun j hj=>by simpa using HK.o j (by omega) hj⟩]);generalize R[k].1=t at*;go_wp2;go_ret;exact⟨aQ HI.o.symm,rfl⟩
  ·have t1: ¬(k:Int)<n:=by omega
   have HI:=qS (FC R s= -1) (by unfold FC;rw[List.findIdx?_eq_none_iff.2 (fun q hq=>by obtain⟨j,hj,rfl⟩:=List.getElem_of_mem hq;exact HK.o j hj (by have:=HL.o;omega))]);go_wp2;go_ret;exact⟨aQ HI.o.symm,rfl⟩
def lS(R:List gu)(s:List UInt8):List Int:=((R.find? fun q=>q.1==s).map fun q=>q.2.1).getD []
theorem O8(R:List gu)(s:List UInt8):(FC R s= -1∧lS R s=[])∨ ∃(k:Nat)(hk:k<R.length),FC R s=k∧lS R s=R[k].2.1:=by
 unfold FC lS;cases hf:R.findIdx? (fun q=>q.1==s)with
  |none=>
   left;have:=List.findIdx?_eq_none_iff.1 hf;have h2:R.find? (fun q=>q.1==s)=none:=List.find?_eq_none.2 fun q hq=>by rw[this q hq];simp
   rw[h2];exact⟨rfl,rfl⟩
  |some k=>right;obtain⟨hk,h1,h2⟩:=List.findIdx?_eq_some_iff_getElem.1 hf;refine⟨k,hk,rfl,?_⟩;have h3:R.find? (fun q=>q.1==s)=some R[k]:=List.find?_eq_some_iff_getElem.2 ⟨h1,k,hk,rfl,fun j hj=>by simpa using h2 j hj⟩;rw[h3];rfl
theorem yu(w:World)(S:Nat→Prop)(A:Option Addr)(n c:Nat)(R:List gu)(h:p9 w S A n c R)(hn:n≤100000)(s:List UInt8)(x:Int)(hrow: ∀q∈R,q.2.1.length≤100000):Calls Tryz.prog 30 #[.slice A n c,.string ⟨s.toArray⟩,.int .i64 x] w fun e w'=>e=.returned (.bool (decide (x∈lS R s)))∧w'=w:=by
 have HH:=qH h;clear h;have HL:=qH HH.o.len;have HRW:=qH hrow;clear hrow;go_enter Tryz.func30,Tryz.ntmps30;go_wp2_with fail;refine(RP w S A n c R HH.o hn s).mono ?_;rintro r w1⟨rfl,hw⟩;rw[hw];clear hw;rcases O8 R s with⟨hi,hr⟩|⟨k,hk,hi,hr⟩;·rw[hi];have HR:=qH hr;clear hi hr;go_wp2;go_ret;exact⟨ae (by rw[HR.o];rfl),rfl⟩
 ·rw[hi];have HR:=qH hr;clear hi hr;have hkn:k<n:=by have:=HL.o;omega
  have hki:(k:Int)<n:=by omega
  obtain⟨b,off,rfl,hb,_,e0,e1⟩:=HH.o.at_ k hk;have hl9:=HRW.o _ (List.getElem_mem hk);have ZF:=qH (HH.o.row _ (List.getElem_mem hk));generalize R[k]=q at*;obtain⟨nm,l,v⟩:=q;simp only at*;obtain⟨A2,c2,hv,_,_⟩:=ZF.o;subst hv;clear e0;go_wp2;go_loop[8](fun i=> ∃j:Nat,i=.int .i64 j∧j≤l.length∧Hid (∀t(ht:t<l.length),t<j→(l[t]==x)=false))(fun i=>l.length-(intOf i).toNat);case atStart=>exact⟨0,rfl,Nat.zero_le _,fun j _ h=>by omega⟩
  case round=>
   obtain⟨j,rfl,hj,HJ⟩:=hrel;by_cases hjn:j<l.length
   ·obtain⟨b2,off2,rfl,hb2,e2⟩:=ZF.o.at_ j hjn;have t1:(j:Int)<l.length:=by omega
    cases hx:(l[j]==x)
    ·have HN:=qS (∀t(ht:t<l.length),t<j+1→(l[t]==x)=false) (fun t ht hlt=>by
      by_cases e:t=j;·subst e;exact hx
      ·exact HJ.o t ht (by omega));generalize l[j]=y at*;go_wp2;go_round;case rel=>exact⟨j+1,by go_num,by omega,HN.o⟩
     case measure=>simp[intOf];omega
    ·have HY:=qS (decide (x∈lS R s)=true) (by rw[HR.o];apply decide_eq_true;have:=List.getElem_mem hjn;rw[beq_iff_eq.1 hx]at this;exact this);generalize l[j]=y at*;go_wp2;go_ret;exact⟨ae HY.o.symm,rfl⟩
   ·have t1: ¬(j:Int)<l.length:=by omega
    have HY:=qS (decide (x∈lS R s)=false) (by rw[HR.o];apply decide_eq_false;intro hc;obtain⟨t,ht,he⟩:=List.getElem_of_mem hc;have:=HJ.o t ht (by omega);rw[he]at this;simp at this);go_wp2;go_ret;exact⟨ae HY.o.symm,rfl⟩
theorem O5:(Tryz.prog.info? 3).map (fun i=>(i.zero,i.size,i.bytes))=some (some (.int .i64 0),1,8):=by kernel_rfl
def KI(w:World)(l:List Int)(x:Int)(v d i:Value)(wr:World):Prop:= ∃(k:Nat)(done:Bool)(out:List Int),i=.int .i64 k∧k≤l.length∧d=.bool done∧wr.ownsRow w.heap.size 3 1 v out.length (dE out)∧Below w.heap.size w wr∧out.length≤k+1∧fH x l=out++(if done then l.drop k else fH x (l.drop k))∧(done=false→out.length≤k)
def Je(w:World)(l:List Int)(e:Ending)(w':World):Prop:= ∃v,e=.returned v∧w'.ownsRow w.heap.size 3 1 v l.length (dE l)∧Below w.heap.size w w'
theorem Hr(w:World)(S:Nat→Prop)(v:Value)(l:List Int)(h:ku w S v l)(hn:l.length≤100000)(x:Int):Calls Tryz.prog 214 #[v,.int .i64 x] w (Je w (fH x l)):=by
 have HH:=qH h;obtain⟨A,c,hv,_,_⟩:=h;subst hv;obtain⟨i0,hi,hz0,hz1,hz2⟩:=info_parts O5;have HI:=qH hi;have HZ0:=qH hz0;have HZ1:=qH hz1;have HZ2:=qH hz2;clear hi hz0 hz1 hz2;have oo:=qS (∀(out:List Int)(y:Int),dE (out++[y])=dE out++[.int .i64 y]) (fun out y=>by simp[dE]);go_enter Tryz.func214,Tryz.ntmps214;go_wp2;go_loopw[5,6,7](fun v d i wr=>KI w l x v d i wr)(fun _ _ i _=>l.length-(intOf i).toNat);case atStart=>exact⟨0,false,[],rfl,Nat.zero_le _,rfl,World.ownsRow_lit w #[] 0 (Nat.le_refl _) (by simp[maxLen]) rfl,(Below.refl _ _).alloc (Nat.le_refl _) _,by simp,by simp,by simp⟩
 case round=>
  obtain⟨k,done,out,rfl,hk,rfl,hown,hbel,hlen,hins,hdl⟩:=hrel;have HO:=qH hown;have HX:=qH hins;have HDL:=qH hdl;clear hown hins hdl;have hsz:=hbel.size;by_cases hkn:k<l.length
  ·obtain⟨b,off,rfl,hb,hc⟩:=HH.o.at_ k hkn;have hc':wr.cell? ⟨b,off+k,none⟩=some (.int .i64 l[k]):=(hbel.cell (p:=⟨b,off+k,none⟩) hb).trans hc;have HDR:=qS (l.drop k=l[k]::l.drop (k+1)) (List.drop_eq_getElem_cons hkn);generalize l[k]=y at*;have t1:(k:Int)<l.length:=by omega
   clear hc;cases done
   ·have hdl:=HDL.o rfl;by_cases hlt:x<y
    ·have kE:=qH hlt;go_wp2_with(at_builtin;refine av (P:=Tryz.prog) rfl (.tmp 25) (.tmp 27) 128 rfl 3 i0 _ 1 8 Tryz.underlying128 HI.o HZ0.o HZ1.o HZ2.o rfl (by decide) w.heap.size _ out.length (dE out) rfl ?c1 (wr.heap.size+1) _ _ _ [.int .i64 x] rfl ?c2 ?c3 ?c4 ?c5 ?c6 ?_);case c1=>exact World.ownsRow.alloc HO.o _
     case c2=>exact az.new wr #[.int .i64 x] _ (by unfold maxLen;omega) rfl
     case c3=>simp[Value.oneCell']
     case c4=>unfold maxLen;omega
     case c5=>omega
     case c6=>first|omega|(simp;omega)
     intro v2 w2 hown2 hg2 _;have hb2:Below w.heap.size w w2:=Below.grown (hbel.alloc hsz (.cells #[.int .i64 x] 3)) hg2 (by simp;omega) (fun j hj=>(HO.o.lt j hj).1);have hs2:=hb2.size;have hc2:w2.cell? ⟨b,off+k,none⟩=some (.int .i64 y):=(hb2.cell (p:=⟨b,off+k,none⟩) hb).trans ((hbel.cell (p:=⟨b,off+k,none⟩) hb).symm.trans hc');have dW:=qH hown2;clear hown2 hg2 hlt hc';go_wp2_with(at_builtin;refine av (P:=Tryz.prog) rfl (.tmp 29) (.tmp 34) 128 rfl 3 i0 _ 1 8 Tryz.underlying128 HI.o HZ0.o HZ1.o HZ2.o rfl (by decide) w.heap.size _ (out.length+1) (dE out++[.int .i64 x]) rfl ?c1 (w2.heap.size+1) _ _ _ [.int .i64 y] rfl ?c2 ?c3 ?c4 ?c5 ?c6 ?_);case c1=>exact World.ownsRow.alloc dW.o _
     case c2=>exact az.new w2 #[.int .i64 y] _ (by unfold maxLen;omega) rfl
     case c3=>simp[Value.oneCell']
     case c4=>unfold maxLen;omega
     case c5=>omega
     case c6=>first|omega|(simp;omega)
     intro v3 w3 hown3 hg3 _;have hb3:Below w.heap.size w w3:=Below.grown (hb2.alloc hs2 (.cells #[.int .i64 y] 3)) hg3 (by simp;omega) (fun j hj=>(dW.o.lt j hj).1);have HR:=qS (KI w l x v3 (.bool true) (.int .i64 ((k+1:Nat):Int)) w3) (⟨k+1,true,out++[x]++[y],rfl,by omega,rfl,by rw[oo.o,oo.o,show(out++[x]++[y]).length=out.length+1+1 by simp,List.append_assoc];exact hown3,hb3,by simp;omega,by rw[HX.o,HDR.o];simp[fH,kE.o],by simp⟩);clear hown3 hg3 hc2 hb3;go_wp2;go_roundw;case rel=>exact HR.o
     case measure=>simp[intOf];omega
    ·have kE:=qH hlt;go_wp2_with(at_builtin;refine av (P:=Tryz.prog) rfl (.tmp 29) (.tmp 34) 128 rfl 3 i0 _ 1 8 Tryz.underlying128 HI.o HZ0.o HZ1.o HZ2.o rfl (by decide) w.heap.size _ out.length (dE out) rfl ?c1 (wr.heap.size+1) _ _ _ [.int .i64 y] rfl ?c2 ?c3 ?c4 ?c5 ?c6 ?_);case c1=>exact World.ownsRow.alloc HO.o _
     case c2=>exact az.new wr #[.int .i64 y] _ (by unfold maxLen;omega) rfl
     case c3=>simp[Value.oneCell']
     case c4=>unfold maxLen;omega
     case c5=>omega
     case c6=>first|omega|(simp;omega)
     intro v3 w3 hown3 hg3 _;have hb3:Below w.heap.size w w3:=Below.grown (hbel.alloc hsz (.cells #[.int .i64 y] 3)) hg3 (by simp;omega) (fun j hj=>(HO.o.lt j hj).1);have HR:=qS (KI w l x v3 (.bool false) (.int .i64 ((k+1:Nat):Int)) w3) (⟨k+1,false,out++[y],rfl,by omega,rfl,by rw[oo.o,show(out++[y]).length=out.length+1 by simp];exact hown3,hb3,by simp;omega,by rw[HX.o,HDR.o];have hnl: ¬x<y:=(by have:=kE.o;omega);simp[fH,hnl],by simp;omega⟩);clear hown3 hg3 hb3 hlt hc';go_wp2;go_roundw;case rel=>exact HR.o
     case measure=>simp[intOf];omega
   ·go_wp2_with(at_builtin;refine av (P:=Tryz.prog) rfl (.tmp 29) (.tmp 34) 128 rfl 3 i0 _ 1 8 Tryz.underlying128 HI.o HZ0.o HZ1.o HZ2.o rfl (by decide) w.heap.size _ out.length (dE out) rfl ?c1 (wr.heap.size+1) _ _ _ [.int .i64 y] rfl ?c2 ?c3 ?c4 ?c5 ?c6 ?_);case c1=>exact World.ownsRow.alloc HO.o _
    case c2=>exact az.new wr #[.int .i64 y] _ (by unfold maxLen;omega) rfl
    case c3=>simp[Value.oneCell']
    case c4=>unfold maxLen;omega
    case c5=>omega
    case c6=>first|omega|(simp;omega)
    intro v3 w3 hown3 hg3 _;have hb3:Below w.heap.size w w3:=Below.grown (hbel.alloc hsz (.cells #[.int .i64 y] 3)) hg3 (by simp;omega) (fun j hj=>(HO.o.lt j hj).1);have HR:=qS (KI w l x v3 (.bool true) (.int .i64 ((k+1:Nat):Int)) w3) (⟨k+1,true,out++[y],rfl,by omega,rfl,by rw[oo.o,show(out++[y]).length=out.length+1 by simp];exact hown3,hb3,by simp;omega,by rw[HX.o,HDR.o];simp,by simp⟩);clear hown3 hg3 hb3 hc';go_wp2;go_roundw;case rel=>exact HR.o
    case measure=>simp[intOf];omega
  ·have HDR:=qS (l.drop k=[]) (List.drop_eq_nil_iff.2 (by omega));have t1: ¬(k:Int)<l.length:=by omega
   cases done
   ·have hdl:=HDL.o rfl;go_wp2_with(at_builtin;refine av (P:=Tryz.prog) rfl (.tmp 38) (.tmp 40) 128 rfl 3 i0 _ 1 8 Tryz.underlying128 HI.o HZ0.o HZ1.o HZ2.o rfl (by decide) w.heap.size _ out.length (dE out) rfl ?c1 (wr.heap.size+1) _ _ _ [.int .i64 x] rfl ?c2 ?c3 ?c4 ?c5 ?c6 ?_);case c1=>exact World.ownsRow.alloc HO.o _
    case c2=>exact az.new wr #[.int .i64 x] _ (by unfold maxLen;omega) rfl
    case c3=>simp[Value.oneCell']
    case c4=>unfold maxLen;omega
    case c5=>omega
    case c6=>first|omega|(simp;omega)
    intro v3 w3 hown3 hg3 _;have hb3:Below w.heap.size w w3:=Below.grown (hbel.alloc hsz (.cells #[.int .i64 x] 3)) hg3 (by simp;omega) (fun j hj=>(HO.o.lt j hj).1);have HR:=qS (Je w (fH x l) (.returned v3) w3) (⟨v3,rfl,by rw[HX.o,HDR.o];simp only[Bool.false_eq_true,if_false,fH];rw[oo.o,show(out++[x]).length=out.length+1 by simp];exact hown3,hb3⟩);clear hown3 hg3 hb3;go_wp2;go_ret;exact HR.o
   ·have HR:=qS (Je w (fH x l) (.returned u5) wr) (⟨u5,rfl,by rw[HX.o,HDR.o];simp only[if_true,List.append_nil];exact HO.o,hbel⟩);go_wp2;go_ret;exact HR.o
section
variable{α:Type}
theorem RQ{k:List UInt8}{v:α}{y:List UInt8×α}{r:Row α}(h:fT (y::r))(hb:bytesBefore k y.1=true):bL k v (y::r)=(k,v)::y::r:=by
 obtain⟨h1,h2⟩:=List.pairwise_cons.1 h;have hr: ∀p∈y::r,p.1≠k:=fun p hp he=>by
  rcases List.mem_cons.1 hp with rfl|hp;·rw[he,aF]at hb;cases hb
  ·have:=gQ hb (h1 p hp);rw[he,aF]at this;cases this
 unfold bL;rw[List.filter_eq_self.2 (fun p hp=>by simp[hr p hp]),iD,if_pos hb]
theorem RX{k:List UInt8}{v:α}{y:List UInt8×α}{r:Row α}(h:fT (y::r))(e:y.1=k):bL k v (y::r)=(k,v)::r:=by
 obtain⟨h1,h2⟩:=List.pairwise_cons.1 h;have hr: ∀p∈r,p.1≠k:=fun p hp he=>by have:=h1 p hp;rw[he,e,aF]at this;cases this
 unfold bL;rw[List.filter_cons_of_neg (by simp[e]),List.filter_eq_self.2 (fun p hp=>by simp[hr p hp])];cases r with|nil=>rfl|cons z t=>rw[iD,if_pos (by have:=h1 z (by simp);rw[e]at this;exact this)]
theorem RV{k:List UInt8}{v:α}{y:List UInt8×α}{r:Row α}(hb:bytesBefore y.1 k=true):bL k v (y::r)=y::bL k v r:=by
 have hne:y.1≠k:=fun e=>by rw[e,aF]at hb;cases hb
 have hnk:bytesBefore k y.1=false:=by
  cases hq:bytesBefore k y.1;·rfl
  ·have:=gQ hb hq;rw[aF]at this;cases this
 unfold bL;rw[List.filter_cons_of_pos (by simp[hne]),iD,if_neg (by simp[hnk])]
end
def bF(R:List gu):Row (List Int):=R.map fun q=>(q.1,q.2.1)
theorem YL: ∀a b:List UInt8,Op.bytesLess a b=bytesBefore a b|[],[]=>rfl|[],_::_=>rfl|_::_,[]=>rfl|x::a,y::b=>by unfold Op.bytesLess bytesBefore;rw[YL a b]
theorem Po:(Tryz.prog.info? 130).map (fun i=>(i.zero,i.size,i.bytes))=some (some (.agg #[.string ByteArray.empty,.slice none 0 0]),2,40):=by kernel_rfl
def rU(w:World)(R:List gu)(s:List UInt8)(v:List Int)(wr:World)(q:gu):Prop:=q∈R∨(q.1=s∧q.2.1=v∧wr.ownsRow w.heap.size 3 1 q.2.2 v.length (dE v))
theorem rU.keep{w wr w':World}{R:List gu}{s:List UInt8}{v:List Int}{q:gu}{base n:Nat}{vo:Value}{xs:List Value}(h:rU w R s v wr q)(ho:wr.ownsRow base 130 2 vo n xs)(hg:wr.grownBy w' vo.ownBlock):rU w R s v w' q:=by
 rcases h with h|⟨h1,h2,h3⟩;·exact .inl h
 ·refine .inr ⟨h1,h2,World.ownsRow.kept h3 hg ?_⟩;exact eU h3 ho (by decide)
def zt(w:World)(R:List gu)(s:List UInt8)(v:List Int)(vo d i:Value)(wr:World):Prop:= ∃(k:Nat)(done:Bool)(out:List gu),i=.int .i64 k∧k≤R.length∧d=.bool done∧wr.ownsRow w.heap.size 130 2 vo out.length (dF out)∧Below w.heap.size w wr∧out.length≤k+1∧bL s v (bF R)=bF out++(if done then bF (R.drop k)else bL s v (bF (R.drop k)))∧(∀q∈out,rU w R s v wr q)∧(done=false→out.length≤k∧ ∀q∈R.take k,bytesBefore q.1 s=true)∧(done=true→ ∀q∈R.drop k,q.1≠s)
theorem AU{R:List gu}{s:List UInt8}(h: ∀q∈R,q.1≠s):lS R s=[]:=by unfold lS;rw[List.find?_eq_none.2 (fun q hq=>by simp[h q hq])];rfl
theorem RH{R:List gu}{s:List UInt8}(k:Nat)(hk:k<R.length)(h1:R[k].1=s)(h2: ∀q∈R.take k,q.1≠s):lS R s=R[k].2.1:=by unfold lS;rw[List.find?_eq_some_iff_getElem.2 ⟨by simp[h1],k,hk,rfl,fun j hj=>by have:=h2 R[j] (List.mem_take_iff_getElem.2 ⟨j,by omega,rfl⟩);simpa using this⟩];rfl
theorem ku.below{w w':World}{S:Nat→Prop}{v:Value}{l:List Int}(h:ku w S v l)(hb:Below w.heap.size w w'):ku w' S v l:=by obtain⟨A,c,hv,hc,hvw⟩:=h;exact⟨A,c,hv,az.more (az.below hc hb) hb.size,hvw⟩
theorem ku.wide{w:World}{S T:Nat→Prop}{v:Value}{l:List Int}(h:ku w S v l)(hT: ∀b,S b→T b):ku w T v l:=by obtain⟨A,c,hv,hc,hvw⟩:=h;exact⟨A,c,hv,hc,hvw.mono hT⟩
theorem RY{w:World}{base base' n:Nat}{e:TypeId}{size:Nat}{v:Value}{xs:List Value}(h:w.ownsRow base e size v n xs)(hb:base'≤base):w.ownsRow base' e size v n xs:=by
 refine⟨h.1,?_⟩;rcases h.2 with h'|⟨g,cap,cur,e,hg,rest⟩;·exact .inl h'
 ·exact .inr ⟨g,cap,cur,e,by omega,rest⟩
theorem fU(R:List gu)(q:gu):dF (R++[q])=dF R++ve q:=by simp[dF]
theorem gY(a b:List gu):bF (a++b)=bF a++bF b:=by simp[bF]
def lI(w:World)(S:Nat→Prop)(R:List gu)(s:List UInt8)(v:List Int)(e:Ending)(w':World):Prop:= ∃A' c' R',e=.returned (.tuple #[.slice A' R'.length c',.bool true])∧bF R'=bL s v (bF R)∧p9 w' (fun b=>S b∨(w.heap.size≤b∧b<w'.heap.size)) A' R'.length c' R'∧Below w.heap.size w w'∧R'.length≤R.length+1
theorem lI.of{w wr:World}{S:Nat→Prop}{R out:List gu}{s:List UInt8}{v:List Int}{vo:Value}(hR: ∀q∈R,ku w S q.2.2 q.2.1)(ho:wr.ownsRow w.heap.size 130 2 vo out.length (dF out))(hb:Below w.heap.size w wr)(hk:bF out=bL s v (bF R))(hold: ∀q∈out,rU w R s v wr q)(hl:out.length≤R.length+1):lI w S R s v (.returned (.tuple #[vo,.bool true])) wr:=by
 obtain⟨A,c,rfl⟩:=ownsRow_form ho;refine⟨A,c,out,rfl,hk,⟨az.aI ho,fun q hq=>?_,(Ig ho).mono fun b h=>.inr h⟩,hb,hl⟩;rcases hold q hq with h|⟨h1,h2,h3⟩;·exact((hR q h).below hb).wide fun b h=>.inl h
 ·obtain⟨A2,c2,hv2⟩:=ownsRow_form h3;rw[h2,hv2];rw[hv2]at h3;exact⟨A2,c2,rfl,az.aI h3,(Ig h3).mono fun b h=>.inr h⟩
theorem NW(w:World)(S:Nat→Prop)(A:Option Addr)(n c:Nat)(R:List gu)(h:p9 w S A n c R)(hn:n≤90000)(hrow: ∀q∈R,q.2.1.length≤90000)(hup:fT (bF R))(s:List UInt8)(hs:ag s=true)(hsl:s.length≤1000000000)(x:Int)(hx1:1≤x)(hx2:x≤1099511627776)(hnot:x∉lS R s):Calls Tryz.prog 179 #[.slice A n c,.string ⟨s.toArray⟩,.int .i64 x] w (lI w S R s (fH x (lS R s))):=by
 have HH:=qH h;clear h;have HL:=qH HH.o.len;have HRW:=qH hrow;have HUP:=qH hup;have HS:=qH hs;have aa3:=qS (decide (x∈lS R s)=false) (decide_eq_false hnot);clear hrow hup hs hnot;obtain⟨i0,hi,hz0,hz1,hz2⟩:=info_parts Po;have HI:=qH hi;have HZ0:=qH hz0;have HZ1:=qH hz1;have HZ2:=qH hz2;clear hi hz0 hz1 hz2;have NC:=qS (∀vy nm,∀u∈([.string ⟨(nm:List UInt8).toArray⟩,vy]:List Value),(∃A n c,vy=.slice A n c)→u.oneCell'=true) (fun vy nm u hu hv=>by obtain⟨A,n,c,rfl⟩:=hv;simp only[List.mem_cons,List.not_mem_nil,or_false]at hu;rcases hu with rfl|rfl<;>rfl);go_enter Tryz.func179,Tryz.ntmps179;go_wp2_with fail;refine(rn07 w s hsl).mono ?_;rintro r w1⟨rfl,rfl⟩;rw[HS.o];go_wp2_with fail;refine(yu w S A n c R HH.o (by omega) s x (fun q hq=>by have:=HRW.o q hq;omega)).mono ?_;rintro r w1⟨rfl,hw1⟩;rw[hw1,aa3.o];clear hw1;generalize hv:fH x (lS R s)=v at*;have HV:=qH hv;clear hv;go_wp2;go_loopw[8,9,10](fun vo d i wr=>zt w R s v vo d i wr)(fun _ _ i _=>n-(intOf i).toNat);case atStart=>exact⟨0,false,[],rfl,Nat.zero_le _,rfl,World.ownsRow_lit w #[] 0 (Nat.le_refl _) (by simp[maxLen]) rfl,(Below.refl _ _).alloc (Nat.le_refl _) _,by simp,by simp[bF],by simp,fun _=>⟨by simp,by simp⟩,fun h=>by cases h⟩
 case round=>
  obtain⟨k,done,out,rfl,hk,rfl,hown,hbel,hlen,hput,hold,hdf,hdt⟩:=hrel;have HO:=qH hown;have HP:=qH hput;have HOLD:=qH hold;have WK:=qH hdf;have Z0:=qH hdt;clear hown hput hold hdf hdt;have hsz:=hbel.size;have hkn':k≤n:=by have:=HL.o;omega
  by_cases hkn:k<n
  ·have hkl:k<R.length:=by have:=HL.o;omega
   obtain⟨b,off,rfl,hb,hSb,e0,e1⟩:=HH.o.at_ k hkl;have Ut:=(hbel.cell (p:=⟨b,off+k*2,none⟩) hb).trans e0;have Rf:=(hbel.cell (p:=⟨b,off+k*2+1,none⟩) hb).trans e1;have ZF:=qH (HH.o.row _ (List.getElem_mem hkl));have Nh:=qH (List.getElem_mem hkl);have HDR:=qS (R.drop k=R[k]::R.drop (k+1)) (List.drop_eq_getElem_cons hkl);have dx:=qS (R.take (k+1)=R.take k++[R[k]]) (by rw[List.take_add_one,List.getElem?_eq_getElem hkl];rfl);have HAT:=qS (R[k].1=s→(∀q∈R.take k,q.1≠s)→lS R s=R[k].2.1) (fun h1 h2=>RH k hkl h1 h2);have HUK:=qS (fT (bF (R.drop k))) (by
    have:bF (R.drop k)=(bF R).drop k:=by unfold bF;rw[List.map_drop]
    rw[this];exact List.Pairwise.drop HUP.o);have hl9:=HRW.o _ (List.getElem_mem hkl);clear e0 e1;generalize R[k]=y at*;obtain⟨nm,l,vy⟩:=y;simp only at*;obtain⟨Ay,cy,hvy,_,_⟩:=ZF.o;subst hvy;have t1:(k:Int)<n:=by omega
   cases done
   ·have hdl:=(WK.o rfl).1;have BO:=qH (WK.o rfl).2;clear WK Z0;have Mw:=YL s nm;by_cases hlt:bytesBefore s nm=true
    ·have UD:=qS (∀q∈R,q.1≠s) (fun q hq he=>by
      rw[←List.take_append_drop k R]at hq;rcases List.mem_append.1 hq with hq|hq;·have:=BO.o q hq;rw[he,aF]at this;cases this
      ·rw[HDR.o]at hq;rcases List.mem_cons.1 hq with hq|hq;·rw[hq]at he;simp only at he;rw[he,aF]at hlt;cases hlt
       ·have h1:bytesBefore nm q.1=true:=by have h2:=HUK.o;rw[HDR.o]at h2;exact(List.pairwise_cons.1 h2).1 (q.1,q.2.1) (List.mem_map.2 ⟨q,hq,rfl⟩)
        have:=gQ hlt h1;rw[he,aF]at this;cases this);have Qu:=qS (v=[x]) (by rw[←HV.o,AU UD.o];rfl);have kE:=qH hlt;have b0:Op.bytesLess s nm=true:=by rw[Mw];exact hlt
     have b1:(nm==s)=false:=by rw[beq_eq_false_iff_ne];intro e;rw[e,aF]at hlt;cases hlt
     clear hlt Mw;go_wp2_with(at_builtin;refine av (P:=Tryz.prog) rfl (.tmp 48) (.tmp 53) 61 rfl 130 i0 _ 2 40 Tryz.underlying61 HI.o HZ0.o HZ1.o HZ2.o rfl (by decide) w.heap.size _ out.length (dF out) rfl ?c1 (wr.heap.size+2) _ _ _ [.string ⟨s.toArray⟩,.slice (some ⟨wr.heap.size,0,none⟩) 1 1] rfl ?c2 ?c3 ?c4 ?c5 ?c6 ?_);case c1=>exact World.ownsRow.alloc (World.ownsRow.alloc HO.o _) _
     case c2=>(have:=az.new (size:=2) (n:=1) (wr.alloc (.cells #[.int .i64 x] 3)) #[.string ⟨s.toArray⟩,.slice (some ⟨wr.heap.size,0,none⟩) 1 1] 130 (by unfold maxLen;omega) rfl;simpa using this)
     case c3=>first|exact⟨rfl,rfl⟩|(simp[Value.oneCell'])
     case c4=>unfold maxLen;omega
     case c5=>omega
     case c6=>first|omega|(simp;omega)
     intro v2 w2 how2 hgw2 _;have bJ:wr.grownBy ((wr.alloc (.cells #[.int .i64 x] 3)).alloc (.cells #[.string ⟨s.toArray⟩,.slice (some ⟨wr.heap.size,0,none⟩) 1 1] 130)) none:=(World.grownBy_alloc wr _ none).trans (World.grownBy_alloc _ _ none);have hg2:=(bJ.but _).andThen hgw2 (fun j hj=>.inr hj);have hb2:Below w.heap.size w w2:=Below.grown hbel hg2 (by omega) (fun j hj=>(HO.o.lt j hj).1);have hnew:w2.ownsRow w.heap.size 3 1 (.slice (some ⟨wr.heap.size,0,none⟩) 1 1) 1 (dE [x]):=by have h1:(wr.alloc (.cells #[.int .i64 x] 3)).ownsRow w.heap.size 3 1 (.slice (some ⟨wr.heap.size,0,none⟩) 1 1) 1 (dE [x]):=World.ownsRow_lit wr #[.int .i64 x] 1 hsz (by simp[maxLen]) rfl;have h2:=World.ownsRow.alloc h1 (.cells #[.string ⟨s.toArray⟩,.slice (some ⟨wr.heap.size,0,none⟩) 1 1] 130);exact World.ownsRow.kept h2 hgw2 (eU h2 (World.ownsRow.alloc (World.ownsRow.alloc HO.o _) _) (by decide))
     have dW:=qS (w2.ownsRow w.heap.size 130 2 v2 (out++[(s,[x],Value.slice (some ⟨wr.heap.size,0,none⟩) 1 1)]).length (dF (out++[(s,[x],Value.slice (some ⟨wr.heap.size,0,none⟩) 1 1)]))) (by rw[fU,List.length_append];exact how2);have QF:=qS (∀q∈out++[(s,[x],Value.slice (some ⟨wr.heap.size,0,none⟩) 1 1)],rU w R s v w2 q) (fun q hq=>by
      rcases List.mem_append.1 hq with hq|hq;·exact(HOLD.o q hq).keep HO.o hg2
      ·rw[List.mem_singleton]at hq;rw[hq];exact .inr ⟨rfl,Qu.o.symm,by rw[Qu.o];exact hnew⟩);have c0:w2.cell? ⟨b,off+k*2,none⟩=some (.string ⟨nm.toArray⟩):=(hb2.cell (p:=⟨b,off+k*2,none⟩) hb).trans ((hbel.cell (p:=⟨b,off+k*2,none⟩) hb).symm.trans Ut);have c1:w2.cell? ⟨b,off+k*2+1,none⟩=some (.slice Ay l.length cy):=(hb2.cell (p:=⟨b,off+k*2+1,none⟩) hb).trans ((hbel.cell (p:=⟨b,off+k*2+1,none⟩) hb).symm.trans Rf);have hol:(out++[(s,[x],Value.slice (some ⟨wr.heap.size,0,none⟩) 1 1)]).length=out.length+1:=by simp
     have HOL:=qH hol;have HKO:=qS (bF (out++[(s,[x],Value.slice (some ⟨wr.heap.size,0,none⟩) 1 1)])=bF out++[(s,[x])]) (by rw[gY];rfl);have hol2:(out++[(s,[x],Value.slice (some ⟨wr.heap.size,0,none⟩) 1 1)]).length≤k+1:=by simp;omega
     have hs2:=hb2.size;clear how2 hgw2 bJ hg2 hnew Ut Rf hol;generalize out++[(s,[x],Value.slice (some ⟨wr.heap.size,0,none⟩) 1 1)]=out2 at*;go_wp2_with(at_builtin;refine av (P:=Tryz.prog) rfl (.tmp 69) (.tmp 71) 61 rfl 130 i0 _ 2 40 Tryz.underlying61 HI.o HZ0.o HZ1.o HZ2.o rfl (by decide) w.heap.size _ out2.length (dF out2) rfl ?c1 (w2.heap.size+2) _ _ _ [.string ⟨nm.toArray⟩,.slice Ay l.length cy] rfl ?c2 ?c3 ?c4 ?c5 ?c6 ?_);case c1=>exact World.ownsRow.alloc (World.ownsRow.alloc dW.o _) _
     case c2=>(have:=az.new (size:=2) (n:=1) (w2.alloc (.cells #[.string ⟨nm.toArray⟩,.slice Ay l.length cy] 130)) #[.string ⟨nm.toArray⟩,.slice Ay l.length cy] 130 (by unfold maxLen;omega) rfl;simpa using this)
     case c3=>first|exact⟨rfl,rfl⟩|(simp[Value.oneCell'])
     case c4=>unfold maxLen;omega
     case c5=>omega
     case c6=>first|omega|(simp;omega)
     intro v9 w9 how9 hgw9 _;have bJ:w2.grownBy ((w2.alloc (.cells #[.string ⟨nm.toArray⟩,.slice Ay l.length cy] 130)).alloc (.cells #[.string ⟨nm.toArray⟩,.slice Ay l.length cy] 130)) none:=(World.grownBy_alloc w2 _ none).trans (World.grownBy_alloc _ _ none);have hg9:=(bJ.but _).andThen hgw9 (fun j hj=>.inr hj);have hb9:Below w.heap.size w w9:=Below.grown hb2 hg9 (by have:=hb2.size;omega) (fun j hj=>(dW.o.lt j hj).1);have HR:=qS (zt w R s v v9 (.bool true) (.int .i64 ((k+1:Nat):Int)) w9) (⟨k+1,true,out2++[(nm,l,Value.slice Ay l.length cy)],rfl,by have:=HL.o;omega,rfl,by rw[fU,List.length_append];exact how9,hb9,by simp;omega,by rw[HP.o,gY,HKO.o,HDR.o];simp only[Bool.false_eq_true,if_false,if_true];rw[show bF ((nm,l,Value.slice Ay l.length cy)::R.drop (k+1))=(nm,l)::bF (R.drop (k+1))from rfl,RQ (by have h2:=HUK.o;rw[HDR.o]at h2;exact h2) kE.o,Qu.o];simp[bF],fun q hq=>by
      rcases List.mem_append.1 hq with hq|hq;·exact(QF.o q hq).keep dW.o hg9
      ·rw[List.mem_singleton]at hq;rw[hq];exact .inl Nh.o,fun h=>(by cases h),fun _ q hq=>UD.o q (List.mem_of_mem_drop hq)⟩);clear how9 hgw9 bJ hg9 hb9 c0 c1;go_wp2;go_roundw;case rel=>exact HR.o
     case measure=>simp[intOf];omega
    ·by_cases hes:nm=s
     ·have Qu:=qS (v=fH x l) (by rw[←HV.o,HAT.o hes (fun q hq he=>by have:=BO.o q hq;rw[he,aF]at this;cases this)]);subst hes;have b0:Op.bytesLess nm nm=false:=by rw[Mw,aF]
      have b1:(nm==nm)=true:=by simp
      have Rj:=qS (∀q∈R.drop (k+1),q.1≠nm) (fun q hq he=>by have h2:=HUK.o;rw[HDR.o]at h2;have:=(List.pairwise_cons.1 h2).1 (q.1,q.2.1) (List.mem_map.2 ⟨q,hq,rfl⟩);simp only at this;rw[he,aF]at this;cases this);clear hlt Mw;have Yq:Below wr.heap.size wr (wr.alloc (.cells #[.string ⟨nm.toArray⟩,.slice Ay l.length cy] 130)):=(Below.refl _ _).alloc (Nat.le_refl _) _;have hbw:Below w.heap.size w (wr.alloc (.cells #[.string ⟨nm.toArray⟩,.slice Ay l.length cy] 130)):=hbel.alloc hsz _;have HIW:=qS (ku (wr.alloc (.cells #[.string ⟨nm.toArray⟩,.slice Ay l.length cy] 130)) S (.slice Ay l.length cy) l) (ZF.o.below hbw);go_wp2_with fail;refine(Hr _ S _ l HIW.o (by omega) x).mono ?_;rintro r w3⟨nv,rfl,hnv,hb3⟩;obtain⟨An,cn,hvn⟩:=ownsRow_form hnv;subst hvn;have hsA:(wr.alloc (.cells #[.string ⟨nm.toArray⟩,.slice Ay l.length cy] 130)).heap.size=wr.heap.size+1:=by simp
      have hs3:=hb3.size;rw[hsA]at hs3;have hblk3:w3.heap[wr.heap.size]?=some (.cells #[.string ⟨nm.toArray⟩,.slice Ay l.length cy] 130):=(hb3.block wr.heap.size (by rw[hsA];omega)).trans (heap_alloc_new wr _);have x0:w3.cell? ⟨wr.heap.size,0,none⟩=some (.string ⟨nm.toArray⟩):=(cell_of_row w3 wr.heap.size 0 _ _ (0,0) hblk3).trans rfl;have x1:w3.cell? ⟨wr.heap.size,1,none⟩=some (.slice Ay l.length cy):=(cell_of_row w3 wr.heap.size 1 _ _ (0,0) hblk3).trans rfl;have xf: ∀o,w3.frozen? ⟨wr.heap.size,o,none⟩=false:=fun o=>frozen_of_row w3 wr.heap.size o _ _ hblk3;have hg3:wr.grownBy w3 none:=⟨hb3.os.trans Yq.os,hb3.tape.trans Yq.tape,hb3.output.trans Yq.output,by omega,fun i hi _=>(hb3.block i (by rw[hsA];omega)).trans (Yq.block i hi)⟩;have ow:=qH (ownsRow_below HO.o (show Below wr.heap.size wr w3 from⟨hg3.os,hg3.tape,hg3.output,hg3.size,fun i hi=>hg3.block i hi (by simp)⟩) (Nat.le_refl _));have hown4: ∀(vv:Value)(e:TypeId)(size nn base:Nat)(xs:List Value),w3.ownsRow base e size vv nn xs→vv.ownBlock≠some wr.heap.size→((w3.setCell ⟨wr.heap.size,0,none⟩ (.string ⟨nm.toArray⟩)).setCell ⟨wr.heap.size,1,none⟩ (.slice An (fH x l).length cn)).ownsRow base e size vv nn xs:=fun vv e size nn base xs h hne=>ownsRow_setCell_other (ownsRow_setCell_other h hne _) hne _;have xL:=qH (hown4 _ _ _ _ _ _ ow.o (fun e=>by have:=(World.ownsRow.lt HO.o _ e).2;omega));have Wp:=qH (hown4 _ _ _ _ _ _ hnv (fun e=>by have:=(World.ownsRow.lt hnv _ e).1;rw[hsA]at this;omega));have hg4:wr.grownBy ((w3.setCell ⟨wr.heap.size,0,none⟩ (.string ⟨nm.toArray⟩)).setCell ⟨wr.heap.size,1,none⟩ (.slice An (fH x l).length cn)) none:=⟨hg3.os,hg3.tape,hg3.output,by simp[World.setCell];exact hg3.size,fun i hi hn=>(Below.heap_setCell _ _ _ i (by show i≠wr.heap.size;omega)).trans ((Below.heap_setCell _ _ _ i (by show i≠wr.heap.size;omega)).trans (hg3.block i hi hn))⟩;have qM:=qH hg4;have hbk4:((w3.setCell ⟨wr.heap.size,0,none⟩ (.string ⟨nm.toArray⟩)).setCell ⟨wr.heap.size,1,none⟩ (.slice An (fH x l).length cn)).heap[wr.heap.size]?=some (.cells #[.string ⟨nm.toArray⟩,.slice An (fH x l).length cn] 130):=af (af hblk3);have hs4:((w3.setCell ⟨wr.heap.size,0,none⟩ (.string ⟨nm.toArray⟩)).setCell ⟨wr.heap.size,1,none⟩ (.slice An (fH x l).length cn)).heap.size=w3.heap.size:=by simp[World.setCell]
      have y0:((w3.setCell ⟨wr.heap.size,0,none⟩ (.string ⟨nm.toArray⟩)).setCell ⟨wr.heap.size,1,none⟩ (.slice An (fH x l).length cn)).cell? ⟨wr.heap.size,0,none⟩=some (.string ⟨nm.toArray⟩):=(cell_of_row _ wr.heap.size 0 _ _ (0,0) hbk4).trans rfl;have y1:((w3.setCell ⟨wr.heap.size,0,none⟩ (.string ⟨nm.toArray⟩)).setCell ⟨wr.heap.size,1,none⟩ (.slice An (fH x l).length cn)).cell? ⟨wr.heap.size,1,none⟩=some (.slice An (fH x l).length cn):=(cell_of_row _ wr.heap.size 1 _ _ (0,0) hbk4).trans rfl;have HIL:=qH (pG x l);clear hnv hb3 hg3 hg4 hown4 Yq hbw ow;go_upto_region 15 with fail;clear x0 x1 xf hblk3 hbk4;generalize(w3.setCell ⟨wr.heap.size,0,none⟩ (.string ⟨nm.toArray⟩)).setCell ⟨wr.heap.size,1,none⟩ (.slice An (fH x l).length cn)=w4 at*;have hb4:Below w.heap.size w w4:=Below.grown hbel qM.o (by omega) (fun k hk=>by cases hk);have abA:=qM.o.size;clear hs4;go_wp2_with(at_builtin;refine av (P:=Tryz.prog) rfl (.tmp 69) (.tmp 71) 61 rfl 130 i0 _ 2 40 Tryz.underlying61 HI.o HZ0.o HZ1.o HZ2.o rfl (by decide) w.heap.size _ out.length (dF out) rfl ?c1 (w4.heap.size+1) _ _ _ [.string ⟨nm.toArray⟩,.slice An (fH x l).length cn] rfl ?c2 ?c3 ?c4 ?c5 ?c6 ?_);case c1=>exact World.ownsRow.alloc xL.o _
      case c2=>exact az.new (size:=2) (n:=1) w4 #[.string ⟨nm.toArray⟩,.slice An (fH x l).length cn] 130 (by unfold maxLen;omega) rfl
      case c3=>first|exact⟨rfl,rfl⟩|(simp[Value.oneCell'])
      case c4=>unfold maxLen;omega
      case c5=>omega
      case c6=>first|omega|(simp;omega)
      intro v9 w9 how9 hgw9 _;have hg9:=((World.grownBy_alloc w4 (.cells #[.string ⟨nm.toArray⟩,.slice An (fH x l).length cn] 130) none).but _).andThen hgw9 (fun j hj=>.inr hj);have hb9:Below w.heap.size w w9:=Below.grown hb4 hg9 (by have:=hb4.size;omega) (fun j hj=>(xL.o.lt j hj).1);have hnew:w9.ownsRow w.heap.size 3 1 (.slice An (fH x l).length cn) (fH x l).length (dE (fH x l)):=by have h1:=World.ownsRow.kept Wp.o hg9 (eU Wp.o xL.o (by decide));exact RY h1 (by rw[hsA];omega)
      have HR:=qS (zt w R nm v v9 (.bool true) (.int .i64 ((k+1:Nat):Int)) w9) (⟨k+1,true,out++[(nm,fH x l,Value.slice An (fH x l).length cn)],rfl,by have:=HL.o;omega,rfl,by rw[fU,List.length_append];exact how9,hb9,by simp;omega,by rw[HP.o,gY,HDR.o];simp only[Bool.false_eq_true,if_false,if_true];rw[show bF ((nm,l,Value.slice Ay l.length cy)::R.drop (k+1))=(nm,l)::bF (R.drop (k+1))from rfl,RX (k:=nm) (y:=(nm,l)) (by have h2:=HUK.o;rw[HDR.o]at h2;exact h2) rfl,Qu.o];simp[bF],fun q hq=>by
       rcases List.mem_append.1 hq with hq|hq
       ·rcases HOLD.o q hq with h|⟨h1,h2,h3⟩;·exact .inl h
        ·refine .inr ⟨h1,h2,?_⟩;have h4:=World.ownsRow.kept h3 qM.o (by rcases h3.2 with⟨e,_⟩|⟨g,cap,cur,e,_⟩<;>(rw[e];simp[Value.ownBlock]));exact World.ownsRow.kept h4 hg9 (eU h4 xL.o (by decide))
       ·rw[List.mem_singleton]at hq;rw[hq];exact .inr ⟨rfl,Qu.o.symm,by rw[Qu.o];exact hnew⟩,fun h=>(by cases h),fun _=>Rj.o⟩);clear how9 hgw9 hg9 hb9 hnew y0 y1 Ut Rf Wp xL;go_wp2;go_roundw;case rel=>exact HR.o
      case measure=>simp[intOf];omega
     ·have HGT:=qS (bytesBefore nm s=true) (by
       rcases jQ hes with h'|h';·exact h'
       ·exact absurd h' hlt);have b1:(nm==s)=false:=by simp[hes]
      have b0:Op.bytesLess s nm=false:=by rw[Mw];simpa using hlt
      clear hlt hes Mw;go_wp2_with(at_builtin;refine av (P:=Tryz.prog) rfl (.tmp 69) (.tmp 71) 61 rfl 130 i0 _ 2 40 Tryz.underlying61 HI.o HZ0.o HZ1.o HZ2.o rfl (by decide) w.heap.size _ out.length (dF out) rfl ?c1 (wr.heap.size+2) _ _ _ [.string ⟨nm.toArray⟩,.slice Ay l.length cy] rfl ?c2 ?c3 ?c4 ?c5 ?c6 ?_);case c1=>exact World.ownsRow.alloc (World.ownsRow.alloc HO.o _) _
      case c2=>exact(by have:=az.new (size:=2) (n:=1) (wr.alloc (.cells #[.string ⟨nm.toArray⟩,.slice Ay l.length cy] 130)) #[.string ⟨nm.toArray⟩,.slice Ay l.length cy] 130 (by unfold maxLen;omega) rfl;simpa using this)
      case c3=>first|exact⟨rfl,rfl⟩|(simp[Value.oneCell'])
      case c4=>unfold maxLen;omega
      case c5=>omega
      case c6=>first|omega|(simp;omega)
      intro v9 w9 how9 hgw9 _;have bJ:wr.grownBy ((wr.alloc (.cells #[.string ⟨nm.toArray⟩,.slice Ay l.length cy] 130)).alloc (.cells #[.string ⟨nm.toArray⟩,.slice Ay l.length cy] 130)) none:=(World.grownBy_alloc wr _ none).trans (World.grownBy_alloc _ _ none);have hg9:=(bJ.but _).andThen hgw9 (fun j hj=>.inr hj);have hb9:Below w.heap.size w w9:=Below.grown hbel hg9 (by have:=hbel.size;omega) (fun j hj=>(HO.o.lt j hj).1);have HR:=qS (zt w R s v v9 (.bool false) (.int .i64 ((k+1:Nat):Int)) w9) (⟨k+1,false,out++[(nm,l,Value.slice Ay l.length cy)],rfl,by have:=HL.o;omega,rfl,by rw[fU,List.length_append];exact how9,hb9,by simp;omega,by rw[HP.o,gY,HDR.o];simp only[Bool.false_eq_true,if_false];rw[show bF ((nm,l,Value.slice Ay l.length cy)::R.drop (k+1))=(nm,l)::bF (R.drop (k+1))from rfl,RV HGT.o];simp[bF],fun q hq=>by
       rcases List.mem_append.1 hq with hq|hq;·exact(HOLD.o q hq).keep HO.o hg9
       ·rw[List.mem_singleton]at hq;rw[hq];exact .inl Nh.o,fun _=>⟨by simp;omega,fun q hq=>by
       rw[dx.o]at hq;rcases List.mem_append.1 hq with hq|hq;·exact BO.o q hq
       ·rw[List.mem_singleton]at hq;rw[hq];exact HGT.o⟩,fun h=>(by cases h)⟩);clear how9 hgw9 bJ hg9 hb9 Ut Rf;go_wp2;go_roundw;case rel=>exact HR.o
      case measure=>simp[intOf];omega
   ·have zH:=qH (Z0.o rfl (nm,l,.slice Ay l.length cy) (by rw[HDR.o];simp));have b1:(nm==s)=false:=by simpa using zH.o
    have HDU:=qH (Z0.o rfl);clear WK Z0;go_wp2_with(at_builtin;refine av (P:=Tryz.prog) rfl (.tmp 69) (.tmp 71) 61 rfl 130 i0 _ 2 40 Tryz.underlying61 HI.o HZ0.o HZ1.o HZ2.o rfl (by decide) w.heap.size _ out.length (dF out) rfl ?c1 (wr.heap.size+2) _ _ _ [.string ⟨nm.toArray⟩,.slice Ay l.length cy] rfl ?c2 ?c3 ?c4 ?c5 ?c6 ?_);case c1=>exact World.ownsRow.alloc (World.ownsRow.alloc HO.o _) _
    case c2=>exact(by have:=az.new (size:=2) (n:=1) (wr.alloc (.cells #[.string ⟨nm.toArray⟩,.slice Ay l.length cy] 130)) #[.string ⟨nm.toArray⟩,.slice Ay l.length cy] 130 (by unfold maxLen;omega) rfl;simpa using this)
    case c3=>first|exact⟨rfl,rfl⟩|(simp[Value.oneCell'])
    case c4=>unfold maxLen;omega
    case c5=>omega
    case c6=>first|omega|(simp;omega)
    intro v9 w9 how9 hgw9 _;have bJ:wr.grownBy ((wr.alloc (.cells #[.string ⟨nm.toArray⟩,.slice Ay l.length cy] 130)).alloc (.cells #[.string ⟨nm.toArray⟩,.slice Ay l.length cy] 130)) none:=(World.grownBy_alloc wr _ none).trans (World.grownBy_alloc _ _ none);have hg9:=(bJ.but _).andThen hgw9 (fun j hj=>.inr hj);have hb9:Below w.heap.size w w9:=Below.grown hbel hg9 (by have:=hbel.size;omega) (fun j hj=>(HO.o.lt j hj).1);have HR:=qS (zt w R s v v9 (.bool true) (.int .i64 ((k+1:Nat):Int)) w9) (⟨k+1,true,out++[(nm,l,Value.slice Ay l.length cy)],rfl,by have:=HL.o;omega,rfl,by rw[fU,List.length_append];exact how9,hb9,by simp;omega,by rw[HP.o,gY,HDR.o];simp[bF],fun q hq=>by
     rcases List.mem_append.1 hq with hq|hq;·exact(HOLD.o q hq).keep HO.o hg9
     ·rw[List.mem_singleton]at hq;rw[hq];exact .inl Nh.o,fun h=>(by cases h),fun _ q hq=>HDU.o q (by rw[HDR.o];exact List.mem_cons_of_mem _ hq)⟩);clear how9 hgw9 bJ hg9 hb9 Ut Rf;go_wp2;go_roundw;case rel=>exact HR.o
    case measure=>simp[intOf];omega
  ·have t1: ¬(k:Int)<n:=by omega
   have HDR:=qS (R.drop k=[]) (List.drop_eq_nil_iff.2 (by have:=HL.o;omega));cases done
   ·have hdl:=(WK.o rfl).1;have BO:=qH (WK.o rfl).2;clear WK Z0;have UD:=qS (∀q∈R,q.1≠s) (fun q hq he=>by rw[←List.take_append_drop k R,HDR.o,List.append_nil]at hq;have:=BO.o q hq;rw[he,aF]at this;cases this);have Qu:=qS (v=[x]) (by rw[←HV.o,AU UD.o];rfl);go_wp2_with(at_builtin;refine av (P:=Tryz.prog) rfl (.tmp 75) (.tmp 80) 61 rfl 130 i0 _ 2 40 Tryz.underlying61 HI.o HZ0.o HZ1.o HZ2.o rfl (by decide) w.heap.size _ out.length (dF out) rfl ?c1 (wr.heap.size+2) _ _ _ [.string ⟨s.toArray⟩,.slice (some ⟨wr.heap.size,0,none⟩) 1 1] rfl ?c2 ?c3 ?c4 ?c5 ?c6 ?_);case c1=>exact World.ownsRow.alloc (World.ownsRow.alloc HO.o _) _
    case c2=>(have:=az.new (size:=2) (n:=1) (wr.alloc (.cells #[.int .i64 x] 3)) #[.string ⟨s.toArray⟩,.slice (some ⟨wr.heap.size,0,none⟩) 1 1] 130 (by unfold maxLen;omega) rfl;simpa using this)
    case c3=>first|exact⟨rfl,rfl⟩|(simp[Value.oneCell'])
    case c4=>unfold maxLen;omega
    case c5=>omega
    case c6=>first|omega|(simp;omega)
    intro v2 w2 how2 hgw2 _;have bJ:wr.grownBy ((wr.alloc (.cells #[.int .i64 x] 3)).alloc (.cells #[.string ⟨s.toArray⟩,.slice (some ⟨wr.heap.size,0,none⟩) 1 1] 130)) none:=(World.grownBy_alloc wr _ none).trans (World.grownBy_alloc _ _ none);have hg2:=(bJ.but _).andThen hgw2 (fun j hj=>.inr hj);have hb2:Below w.heap.size w w2:=Below.grown hbel hg2 (by omega) (fun j hj=>(HO.o.lt j hj).1);have hnew:w2.ownsRow w.heap.size 3 1 (.slice (some ⟨wr.heap.size,0,none⟩) 1 1) 1 (dE [x]):=by have h1:(wr.alloc (.cells #[.int .i64 x] 3)).ownsRow w.heap.size 3 1 (.slice (some ⟨wr.heap.size,0,none⟩) 1 1) 1 (dE [x]):=World.ownsRow_lit wr #[.int .i64 x] 1 hsz (by simp[maxLen]) rfl;have h2:=World.ownsRow.alloc h1 (.cells #[.string ⟨s.toArray⟩,.slice (some ⟨wr.heap.size,0,none⟩) 1 1] 130);exact World.ownsRow.kept h2 hgw2 (eU h2 (World.ownsRow.alloc (World.ownsRow.alloc HO.o _) _) (by decide))
    have dW:=qS (w2.ownsRow w.heap.size 130 2 v2 (out++[(s,[x],Value.slice (some ⟨wr.heap.size,0,none⟩) 1 1)]).length (dF (out++[(s,[x],Value.slice (some ⟨wr.heap.size,0,none⟩) 1 1)]))) (by rw[fU,List.length_append];exact how2);have QF:=qS (∀q∈out++[(s,[x],Value.slice (some ⟨wr.heap.size,0,none⟩) 1 1)],rU w R s v w2 q) (fun q hq=>by
     rcases List.mem_append.1 hq with hq|hq;·exact(HOLD.o q hq).keep HO.o hg2
     ·rw[List.mem_singleton]at hq;rw[hq];exact .inr ⟨rfl,Qu.o.symm,by rw[Qu.o];exact hnew⟩);have HR:=qS (lI w S R s v (.returned (.tuple #[v2,.bool true])) w2) (lI.of HH.o.row dW.o hb2 (by rw[HP.o,HDR.o,gY];simp only[Bool.false_eq_true,if_false];rw[Qu.o];rfl) QF.o (by have:=HL.o;simp;omega));clear how2 hgw2 bJ hg2 hnew hb2;go_wp2;go_ret2;exact HR.o
   ·have HR:=qS (lI w S R s v (.returned (.tuple #[u8,.bool true])) wr) (lI.of HH.o.row HO.o hbel (by have:=HP.o;rw[HDR.o]at this;simpa[bF]using this.symm) HOLD.o (by have:=HL.o;omega));go_wp2;go_ret2;exact HR.o
end Go.Proofs.YtbejfgmdkmddnaaGreatDoor
