/-
  Layer 33, the document's: the intake that has read some entries.
-/
import Derived.Test.YtladegonienapaaGreatDoorUROf
import Derived.Test.YtladegonienapaaGreatDoorURpMore
import Derived.Test.YtladegonienapaaGreatDoorUEven
set_option maxRecDepth 100000
set_option maxHeartbeats 16000000
namespace Go.Proofs.YtladegonienapaaGreatDoor
open Go.RowKit Go.Maps Go.Sort
theorem Ms(ag idle:Int)(l:List Ev):bH (bE (aG.new ag idle) l):=by
 have key: ∀(l:List Ev)(x:aG),bH x→bH (bE x l):=fun l=>by induction l with|nil=>exact fun x h=>h|cons e l ih=>exact fun x h=>ih _ (h.admits e)
 exact key l _ (bH.new ag idle)
theorem NY(x:aG)(l:List Ev)(e:Ev):bE x (l++[e])=(bE x l).admits e:=by unfold bE;rw[List.foldl_append];rfl
def zT(w:World)(N:Nat)(x:aG)(e:Ending)(w':World):Prop:= ∃bm bc S,e=.returned (.pointer (some ⟨bm,0,none⟩))∧dH w' bm bc S N x∧RowKit.Below w.heap.size w w'
def si(w:World)(ag idle:Int)(os:List (Option Ev))(bm bc:Nat)(i:Value)(wr:World):Prop:= ∃(k:Nat)(S:Nat→Prop),i=.int .i64 k∧k≤os.length∧dH wr bm bc S (3*k) (bE (aG.new ag idle) (bU (os.take k)))∧(∀b,S b→w.heap.size≤b)∧w.heap.size≤bm∧w.heap.size≤bc∧RowKit.Below w.heap.size w wr
theorem Cz(w:World)(A:Option Addr)(n c:Nat)(os:List (Option Ev))(h:oM w w.heap.size A n c os)(hn:n≤100)(hsm: ∀e,some e∈os→e.small)(ag idle:Int):Calls Tryz.prog 32 #[.slice A n c,.int .i64 ag,.int .i64 idle] w (zT w (3*n) (bE (aG.new ag idle) (bU os))):=by
 have HH:=qH h;have HL:=qH h.len;have sw:=qH hsm;clear h hsm;go_enter Tryz.func32,Tryz.ntmps32;go_wp2_with fail;with_reducible refine(CO w ag idle).mono ?_
 rintro r w1⟨bm,bc,rfl,hR1,yI,hbc,hb1⟩;have BU:=qS (si w ag idle os bm bc (.int .i64 ((0:Nat):Int)) w1) (⟨0,fun _=>False,rfl,Nat.zero_le _,hR1,fun _ h=>h.elim,yI,hbc,hb1⟩);clear hR1 yI hbc hb1;go_wp2;go_loopw[8](fun i wr=>si w ag idle os bm bc i wr)(fun i _=>n-(intOf i).toNat);case atStart=>exact BU.o
 case round=>
  obtain⟨k,S,rfl,hk,hit,hS,yI,hbc,hbel⟩:=hrel;have HIT:=qH hit;have HS:=qH hS;have sG:=qH hbel;have Vb:k≤n:=by rw[←HL.o];exact hk
  clear hit hS;by_cases hkn:k<n
  ·have hkl:k<os.length:=by rw[HL.o];exact hkn
   obtain⟨b,off,rfl,hb,hd⟩:=HH.o.at_ k hkl;obtain⟨e0,e1,e2,e3,e4,e5,e6,e7,e8⟩:=hd.below hbel hb;have df:=qS (bU (os.take (k+1))=bU (os.take k)++os[k].toList) (by rw[List.take_add_one,List.getElem?_eq_getElem hkl,Option.toList_some,oP]);have uY:=qS (∀e,os[k]=some e→e.small) (fun e he=>sw.o e (he▸List.getElem_mem hkl));have EW:=qH (Ms ag idle (bU (os.take k))).sorted;generalize os[k]=x at*;have t1:(k:Int)<n:=by omega
   have hsz:=hbel.size;clear hd hb hbel hkn;cases x with
    |none=>
     simp only[Option.isNone_none]at e8;have HZ:=qS (si w ag idle os bm bc (.int .i64 ((k:Int)+1)) wr) (⟨k+1,S,rfl,hkl,by rw[df.o,Option.toList_none,List.append_nil];exact HIT.o.more (by omega),HS.o,yI,hbc,sG.o⟩);clear e0 e1 e2 e3 e4 e5 e6 e7;go_wp2;go_roundw;case rel=>exact HZ.o
     case measure=>simp[intOf];omega
    |some e=>
     simp only[dw,Option.getD_some,Option.isNone_some]at e0 e1 e2 e3 e4 e5 e6 e7 e8;have HAD:=qH (FD wr bm bc S (3*k) _ HIT.o (by omega) e (uY.o e rfl) EW.o);unfold Ev.agg at HAD;go_wp2_with fail;with_reducible refine HAD.o.mono ?_
     rintro r w2⟨rfl,S2,hi2,hk2,hS2⟩;have HZ:=qS (si w ag idle os bm bc (.int .i64 ((k:Int)+1)) w2) (⟨k+1,S2,rfl,hkl,by rw[df.o,Option.toList_some,NY,show 3*(k+1)=3*k+3 by omega];exact hi2,fun b hb=>by
      rcases hS2 b hb with h|h;·exact HS.o b h
      ·omega,yI,hbc,sG.o.trans (hk2.below sG.o.size (fun b hb hg=>by omega))⟩);clear e0 e1 e2 e3 e4 e5 e6 e7 e8 hi2 hk2 hS2 HAD;go_wp2;go_roundw;case rel=>exact HZ.o
     case measure=>simp[intOf];omega
  ·have t1: ¬(k:Int)<n:=by omega
   have HZ:=qS (zT w (3*n) (bE (aG.new ag idle) (bU os)) (.returned (.pointer (some ⟨bm,0,none⟩))) wr) (⟨bm,bc,S,rfl,by have h1:=HIT.o;rw[List.take_of_length_le (by rw[HL.o];omega),show k=n by omega]at h1;exact h1,sG.o⟩);go_wp2;go_ret;exact HZ.o
end Go.Proofs.YtladegonienapaaGreatDoor
