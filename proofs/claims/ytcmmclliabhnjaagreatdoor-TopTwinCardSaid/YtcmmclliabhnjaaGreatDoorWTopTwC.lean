/-
  The law ciceronetop.TopTwin: for every input the call returns true, and its arguments read as before. No condition. The card: what its row lists is tied to the program's text.
-/
import Derived.Test.YtcmmclliabhnjaaGreatDoorWTopTw
import Derived.Test.YtcmmclliabhnjaaGreatDoorWTwCc
import Derived.Test.YtcmmclliabhnjaaGreatDoorWLaidW9
import Derived.Test.YtcmmclliabhnjaaGreatDoorCards
import Derived.Test.YtcmmclliabhnjaaGreatDoorTie
import Derived.Deep.DeepHandedRow
set_option maxRecDepth 100000
set_option maxHeartbeats 16000000
namespace Go.Proofs.YtcmmclliabhnjaaGreatDoor.topTwin
open Go.ChangeShapes Go.WideShapes Go.ChangeAt Go.RowKit
open Go.ChangeMaps(open_string shut_string)
set_option linter.unusedVariables false
theorem laid_met(os:Os):laidMet Tryz.prog Rows.topTwinRow.laid ((laidWorld os).forCall (fun _ _=>0) ⟨#[],#[.slice none 0 0,.slice none 0 0],[]⟩).memory:=laidMet_of_run' 8 (by kernel_rfl) (by kernel_rfl)
theorem reads(os:Os){H:Type}(enc:TypeId×Value→H): ∃places,DataW.whole enc Tryz.prog ((laidWorld os).forCall (fun _ _=>0) ⟨#[],#[.slice none 0 0,.slice none 0 0],[]⟩).memory Tryz.f3.params.toList Rows.topTwinSpec.vars false (#[.slice none 0 0,.slice none 0 0]:Array Value).toList 8=some ([.nil,.nil],[],places):=⟨[],by kernel_rfl⟩
theorem contract(H:Type)(enc:TypeId×Value→H)(W:World)(base:Nat)(args:Array Value)(ds gs:List (DataW H))(before:List MemPlace)(hval: ∀(j:Nat)t v,Tryz.f3.params[j]?=some t→args[j]?=some v→Value.okWide Tryz.prog W .any base t v)(hW:DataW.Whole enc Tryz.prog Tryz.f3.params.toList Rows.topTwinSpec.vars false W args.toList ds gs before)(hld:laidMetH Tryz.prog Rows.topTwinRow.laid W)(hsh:W.ShapedOpen Tryz.prog)(hsz:(DataW.weightsEach Tryz.prog (Tryz.f3.params.toList++Rows.topTwinSpec.plain.varTypes Tryz.prog) (ds++gs)).all (·≤reachBytes)=true):Calls Tryz.prog 3 args W fun e W'=> ∃v,e=.returned v∧Rows.topTwinSpec.post enc Tryz.prog Tryz.f3 false true false false W args v W':=by
 have hW':=hW;obtain⟨p,q,hA0,hV,rfl,hfz,hnd⟩:=hW;have hA:DataW.TrodAll enc Tryz.prog W 0 (fun _=>true) true Tryz.f3.params.toList args.toList ds p:=hA0;have hsz': ∀(j:Nat)(t:TypeId)(d:DataW H),Tryz.f3.params.toList[j]?=some t→ds[j]?=some d→ ∀m∈d.weights Tryz.prog t,m≤reachBytes:=fun j t d ht hd m hm=>by have:=List.all_eq_true.1 hsz m (DataW.weights_mem_each (j:=j) (t:=t) (d:=d) (by rw[List.getElem?_append_left (List.getElem?_eq_some_iff.1 ht).1];exact ht) (by rw[List.getElem?_append_left (List.getElem?_eq_some_iff.1 hd).1];exact hd) m hm);simpa using this
 rw[Tryz.params3]at hA hval hsz';obtain⟨v0,vs0,d0,ds0,p0,q0,hargs,rfl,rfl,h0,r0⟩:=trodAll_cons hA;obtain⟨v1,vs1,d1,ds1,p1,q1,rfl,rfl,rfl,h1,r1⟩:=trodAll_cons r0;obtain⟨rfl,rfl,rfl⟩:=trodAll_nil r1;obtain rfl:args= #[v0,v1]:=by cases args;simp_all
 obtain⟨rfl,rfl⟩:=trodVars_none hV;obtain⟨a0,len0,cap0,rfl⟩:=okWide_slice Tryz.underlying22 (hval 0 22 v0 rfl rfl);have k0:=h0;have lt0: ∀x∈p0,x.block<W.heap.size:=by obtain⟨m,hm⟩:=k0;exact DataW.trod_lt m _ _ _ hm
 obtain⟨l0,b0⟩:=byt_of_trod Tryz.underlying22 Tryz.underlying5 (by kernel_rfl) h0;obtain⟨a1,len1,cap1,rfl⟩:=okWide_slice Tryz.underlying22 (hval 1 22 v1 rfl rfl);have k1:=h1;have lt1: ∀x∈p1,x.block<W.heap.size:=by obtain⟨m,hm⟩:=k1;exact DataW.trod_lt m _ _ _ hm
 obtain⟨l1,b1⟩:=byt_of_trod Tryz.underlying22 Tryz.underlying5 (by kernel_rfl) h1;clear hA0;have hmx:MaxAt W:=by obtain⟨m,hm⟩:=Tryz.laysM145.s1_3 W hsh;exact⟨m,hm⟩
 obtain⟨her,htb,hkn,hkd⟩:=laid9 hld;refine(toptwin_any W a0 len0 cap0 l0 b0 a1 len1 cap1 l1 b1 hkd hmx her hkn htb).mono fun e W'⟨he,bel⟩=>?_;subst he;exact⟨_,rfl,_,_,_,[],_,[],hW',trodAll_mk1 (shut_bool Tryz.underlying4 _),(trodAll_cons_mk (Below.trod laidOut (by kernel_rfl) (of_decide_eq_true (by kernel_rfl)) k0 bel lt0) (trodAll_cons_mk (Below.trod laidOut (by kernel_rfl) (of_decide_eq_true (by kernel_rfl)) k1 bel lt1) trodAll_mk0)),rfl,bel.frame _,fun h=>by cases h⟩
theorem lifted (os : Os) (started : os.Started) (H : Type) (enc : TypeId × Value → H) (Fs : Stop.Interp) :
    ReturnsInHanded {} Tryz.checked os 3 .any ((OpenSpec.ofChange Rows.topTwinSpec).preRow enc Tryz.prog Tryz.f3 Rows.topTwinRow.domain false Rows.topTwinRow.laid) (((OpenSpec.ofChange Rows.topTwinSpec).at Fs).post enc Tryz.prog Tryz.f3 false true false false) := by
  obtain ⟨places, hx⟩ := reads os enc
  refine returnsInHanded_of_row (C := Tryz.checked) (s := OpenSpec.ofChange Rows.topTwinSpec) own started (by kernel_rfl) Tryz.func3
    (witness_row_at (enc := enc) (C := Tryz.checked) false (laidWorld os) #[.slice none 0 0, .slice none 0 0] rfl (by kernel_rfl) (by kernel_rfl) (by kernel_rfl)
      (OpenSpec.preRow_of_cond 8 hx (by kernel_rfl) (fun k hk => by cases hk) (by kernel_rfl) (laid_met os))) ?_
  intro W base args ds gs before hval hW _ _ hsz hld hsh _
  exact contract H enc W base args ds gs before hval hW hld hsh hsz
theorem over:Rows.TopTwinSaid:=OpenClaim.holds_of_cond 3 Tryz.f3 rfl rfl rfl rfl rfl rfl rfl ⟨rfl,rfl,rfl,rfl,rfl⟩ rfl rfl rfl rfl rfl (by kernel_rfl) Tryz.func3 (by unfold joinedFacts;repeat'(refine Bool.and_eq_true_iff.2 ⟨?_,?_⟩);all_goals(as_aux_lemma=>kernel_rfl)) (of_decide_eq_true (by kernel_rfl)) (by unfold Func.isWrapper;first|(rw[if_pos (by decide+kernel)];kernel_rfl)|(rw[if_neg (by decide+kernel)];exact⟨rfl,rfl⟩)) (fun os started H enc _ Fs=>by rw[OpenClaim.pre_eq_preRow];exact lifted os started H enc Fs)
theorem plain(f:FuncId)(fn:Func)(hf:Tryz.pinned.checked.prog.funcNamed "cicerone/ciceronetop.TopTwin"=some f)(hfn:Tryz.pinned.checked.prog.funcs[f]?=some fn):true=Tryz.pinned.checked.prog.looks []∧ ∀(j:Nat)t,fn.params[j]?=some t→Tryz.pinned.checked.prog.wantsStandIn t=false:=by
 obtain rfl:f=3:=Option.some.inj ((show Tryz.prog.funcNamed "cicerone/ciceronetop.TopTwin"=some 3 by kernel_rfl).symm.trans hf)|>.symm;obtain rfl:fn=Tryz.f3:=(Option.some.inj (Tryz.func3.symm.trans hfn)).symm;refine⟨by kernel_rfl,fun j t ht=>?_⟩;rw[Tryz.params3]at ht;have ht':t=22:=by have:=Array.mem_of_getElem? ht;first|simpa using this|(simp at this;rcases this with h|h|h<;>simp[h];done)|(simp at this;rcases this with h|h|h|h<;>simp[h];done)|(simp at this;rcases this with h|h|h|h|h<;>simp[h];done)|(simp at this;rcases this with h|h|h|h|h|h<;>simp[h])
 rcases ht' with rfl;·exact(show Tryz.prog.wantsStandIn 22=false by kernel_rfl)
theorem proved:Rows.TopTwinCardSaid:=Claim7.holds_tied_plain_at .later [] _ _ _ _ over (fun _ h=>by cases h) (by kernel_rfl) (fun _ h=>by cases h) topTwin_row_tie rfl ⟨rfl,rfl⟩ (by kernel_rfl) rfl plain (by kernel_rfl)
#print axioms proved
end Go.Proofs.YtcmmclliabhnjaaGreatDoor.topTwin
