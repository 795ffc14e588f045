/-
  Layer 2: the document's Same and Texts at any two rows.
-/
import Derived.Test.YtbejfgmdkmddnaaGreatDoorVEvListing
import Derived.Laws.StructEq
set_option maxRecDepth 100000
set_option maxHeartbeats 16000000
namespace Go.Proofs.YtbejfgmdkmddnaaGreatDoor
open Go.RowKit Go.Maps Go.Sort
theorem sN{α:Type}{l l':List α}{k:Nat}(h:l.take k=l'.take k)(hk:k<l.length)(hk':k<l'.length)(he:l[k]=l'[k]):l.take (k+1)=l'.take (k+1):=by rw[List.take_add_one,List.take_add_one,List.getElem?_eq_getElem hk,List.getElem?_eq_getElem hk',h,he]
theorem VC(x y:Ev)(h:x≠y)(W:World):(binOp .neq 31 x.agg y.agg).run Tryz.prog W=.ok (.bool true) W:=by
 have u3:=Tryz.underlying3;have u9:=Tryz.underlying9;have hS:Tryz.prog.underlying 31=some (.struct (Tryz.prog.fieldsOf 31)):=by kernel_rfl
 have hp:Tryz.prog.stoodInHeld 31=false:=by kernel_rfl
 have hE:(Op.equalIn 10000 31 x.agg y.agg).run Tryz.prog W=.ok false W:=by unfold Ev.agg;rw[show(10000:Nat)=9999+1 from rfl,run_equalIn_agg W 9999 31 _ _ hS hp];simp only[Program.fieldsOf,Tryz.underlying31];go_simp;intro a b c d e f g i;exact h (by cases x;cases y;simp_all)
 unfold Ev.agg at hE⊢;rw[run_neq_struct,hE];rfl
theorem Ru(w:World)(B B':Nat)(A A':Option Addr)(n n' c c':Nat)(ss ss':List (List UInt8))(h:Strs w B A n c ss)(h':Strs w B' A' n' c' ss')(hn:n≤100000)(hn':n'≤100000):Calls Tryz.prog 53 #[.slice A n c,.slice A' n' c'] w fun e w'=>e=.returned (.bool (decide (ss=ss')))∧ ∃k,w'=w.drewN k:=by
 have HH:=qH h;clear h;have ND:=qH h';clear h';have HL:=qH HH.o.len;have Wx:=qH ND.o.len;go_enter Tryz.func53,Tryz.ntmps53;by_cases hnn:n=n';case neg=>
  have hne:((n:Int)!=(n':Int))=true:=by simp;omega
  have HD:=qS (decide (ss=ss')=false) (decide_eq_false fun e=>hnn (by rw[←HL.o,←Wx.o,e]));go_wp2;go_ret;exact⟨ae HD.o.symm,0,rfl⟩
 subst hnn;have hne:((n:Int)!=(n:Int))=false:=by simp
 go_wp2;clear hne;go_loopw[5](fun i wr=> ∃k q:Nat,i=.int .i64 k∧k≤n∧ss.take k=ss'.take k∧wr=w.drewN q)(fun i _=>n-(intOf i).toNat);case atStart=>exact⟨0,0,rfl,Nat.zero_le _,rfl,rfl⟩
 case round=>
  obtain⟨k,q,rfl,hk,htk,rfl⟩:=hrel;have dx:=qH htk;clear htk;by_cases hkn:k<n
  ·have hkl:k<ss.length:=by rw[HL.o];exact hkn
   have hkl':k<ss'.length:=by rw[Wx.o];exact hkn
   obtain⟨b,off,rfl,hb,hc⟩:=HH.o.at_ k hkl;obtain⟨b',off',rfl,hb',hc'⟩:=ND.o.at_ k hkl';have t1:(k:Int)<n:=by omega
   have HST:=qH (fun he=>sN dx.o hkl hkl' he);have zH:=qS (ss[k]≠ss'[k]→decide (ss=ss')=false) (fun hx=>decide_eq_false fun e=>hx (by subst e;rfl));generalize ss[k]=x at*;generalize ss'[k]=y at*;by_cases hxy:x=y
   ·subst hxy;have HS2:=qH (HST.o rfl);have t5:(!(x==x))=false:=by simp
    go_wp2;go_quiet(fail);go_wp2;go_roundw;case rel=>exact⟨k+1,_,by go_num,by omega,HS2.o,rfl⟩
    case measure=>simp[intOf];omega
   ·have HN:=qH (zH.o hxy);have t5:(!(x==y))=true:=by simp[hxy]
    clear hxy;go_wp2;go_quiet(fail);go_wp2;go_ret;exact⟨ae HN.o.symm,_,World.drewN_drewN ..⟩
  ·have HD:=qS (decide (ss=ss')=true) (decide_eq_true (by have:=dx.o;rwa[List.take_of_length_le (by rw[HL.o];omega),List.take_of_length_le (by rw[Wx.o];omega)]at this));go_wp2;go_ret;exact⟨ae HD.o.symm,_,rfl⟩
theorem Eh(w:World)(B B':Nat)(A A':Option Addr)(n n' c c':Nat)(es es':List Ev)(h:fV w B A n c es)(h':fV w B' A' n' c' es')(hn:n≤100000)(hn':n'≤100000):Calls Tryz.prog 52 #[.slice A n c,.slice A' n' c'] w fun e w'=>e=.returned (.bool (decide (es=es')))∧ ∃k,w'=w.drewN k:=by
 have HH:=qH h;clear h;have ND:=qH h';clear h';have HL:=qH HH.o.len;have Wx:=qH ND.o.len;go_enter Tryz.func52,Tryz.ntmps52;by_cases hnn:n=n';case neg=>
  have hne:((n:Int)!=(n':Int))=true:=by simp;omega
  have HD:=qS (decide (es=es')=false) (decide_eq_false fun e=>hnn (by rw[←HL.o,←Wx.o,e]));go_wp2;go_ret;exact⟨ae HD.o.symm,0,rfl⟩
 subst hnn;have hne:((n:Int)!=(n:Int))=false:=by simp
 go_wp2;clear hne;go_loopw[5](fun i wr=> ∃k q:Nat,i=.int .i64 k∧k≤n∧es.take k=es'.take k∧wr=w.drewN q)(fun i _=>n-(intOf i).toNat);case atStart=>exact⟨0,0,rfl,Nat.zero_le _,rfl,rfl⟩
 case round=>
  obtain⟨k,q,rfl,hk,htk,rfl⟩:=hrel;have dx:=qH htk;clear htk;by_cases hkn:k<n
  ·have hkl:k<es.length:=by rw[HL.o];exact hkn
   have hkl':k<es'.length:=by rw[Wx.o];exact hkn
   obtain⟨b,off,rfl,hb,hc⟩:=HH.o.ev k hkl;obtain⟨b',off',rfl,hb',hc'⟩:=ND.o.ev k hkl';obtain⟨e0,e1,e2,e3,e4,e5,e6,e7⟩:=hc;obtain⟨f0,f1,f2,f3,f4,f5,f6,f7⟩:=hc';have t1:(k:Int)<n:=by omega
   have HST:=qH (fun he=>sN dx.o hkl hkl' he);have zH:=qS (es[k]≠es'[k]→decide (es=es')=false) (fun hx=>decide_eq_false fun e=>hx (by subst e;rfl));generalize es[k]=x at*;generalize es'[k]=y at*;by_cases hxy:x=y
   ·subst hxy;have HS2:=qH (HST.o rfl);go_wp2;go_quiet(fail);go_wp2;go_roundw;case rel=>exact⟨k+1,q+nq,by go_num,by omega,HS2.o,by first|rfl|exact World.drewN_drewN ..⟩
    case measure=>simp[intOf];omega
   ·have HN:=qH (zH.o hxy);have kne:=VC x y hxy;unfold Ev.agg at kne;clear hxy;go_wp2;go_quiet(fail);go_wp2;go_ret;exact⟨ae HN.o.symm,_,World.drewN_drewN ..⟩
  ·have HD:=qS (decide (es=es')=true) (decide_eq_true (by have:=dx.o;rwa[List.take_of_length_le (by rw[HL.o];omega),List.take_of_length_le (by rw[Wx.o];omega)]at this));go_wp2;go_ret;exact⟨ae HD.o.symm,_,rfl⟩
end Go.Proofs.YtbejfgmdkmddnaaGreatDoor
