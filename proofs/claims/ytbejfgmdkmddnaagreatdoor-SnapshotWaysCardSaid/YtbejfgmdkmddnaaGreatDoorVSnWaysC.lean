/-
  The law ciceronelaw30.SnapshotWays: for every input the call returns true, and its arguments read as before. No condition. The card: what its row lists is tied to the program's text.
-/
import Derived.Test.YtbejfgmdkmddnaaGreatDoorVSnWays
import Derived.Test.YtbejfgmdkmddnaaGreatDoorCards
import Derived.Test.YtbejfgmdkmddnaaGreatDoorTie
import Derived.Deep.DeepHandedRow
set_option maxRecDepth 100000
set_option maxHeartbeats 16000000
namespace Go.Proofs.YtbejfgmdkmddnaaGreatDoor.snapshotWays
open Go.ChangeShapes Go.WideShapes Go.ChangeAt Go.RowKit
open Go.ChangeMaps(open_string shut_string)
set_option linter.unusedVariables false
theorem laid_met(os:Os):laidMet Tryz.prog Rows.snapshotWaysRow.laid ((gX os).forCall (fun _ _=>0) ⟨#[],#[.int .i64 0,.int .i64 0,.slice none 0 0,.slice none 0 0],[]⟩).memory:=laidMet_of_run' 8 (by kernel_rfl) (by kernel_rfl)
theorem reads(os:Os){H:Type}(enc:TypeId×Value→H): ∃places,DataW.whole enc Tryz.prog ((gX os).forCall (fun _ _=>0) ⟨#[],#[.int .i64 0,.int .i64 0,.slice none 0 0,.slice none 0 0],[]⟩).memory Tryz.f9.params.toList Rows.snapshotWaysSpec.vars false (#[.int .i64 0,.int .i64 0,.slice none 0 0,.slice none 0 0]:Array Value).toList 8=some ([.lit (.int .i64 0),.lit (.int .i64 0),.nil,.nil],[],places):=⟨[],by kernel_rfl⟩
theorem contract(H:Type)(enc:TypeId×Value→H)(W:World)(base:Nat)(args:Array Value)(ds gs:List (DataW H))(before:List MemPlace)(hval: ∀(j:Nat)t v,Tryz.f9.params[j]?=some t→args[j]?=some v→Value.okWide Tryz.prog W .any base t v)(hW:DataW.Whole enc Tryz.prog Tryz.f9.params.toList Rows.snapshotWaysSpec.vars false W args.toList ds gs before)(hld:laidMetH Tryz.prog Rows.snapshotWaysRow.laid W)(hsh:W.ShapedOpen Tryz.prog)(hsz:(DataW.weightsEach Tryz.prog (Tryz.f9.params.toList++Rows.snapshotWaysSpec.plain.varTypes Tryz.prog) (ds++gs)).all (·≤reachBytes)=true):Calls Tryz.prog 9 args W fun e W'=> ∃v,e=.returned v∧Rows.snapshotWaysSpec.post enc Tryz.prog Tryz.f9 false true false false W args v W':=by
 have hW':=hW;obtain⟨p,q,MB,hV,rfl,hfz,hnd⟩:=hW;have hA:DataW.TrodAll enc Tryz.prog W 0 (fun _=>true) true Tryz.f9.params.toList args.toList ds p:=MB;have hsz': ∀(j:Nat)(t:TypeId)(d:DataW H),Tryz.f9.params.toList[j]?=some t→ds[j]?=some d→ ∀m∈d.weights Tryz.prog t,m≤reachBytes:=fun j t d ht hd m hm=>by have:=List.all_eq_true.1 hsz m (DataW.weights_mem_each (j:=j) (t:=t) (d:=d) (by rw[List.getElem?_append_left (List.getElem?_eq_some_iff.1 ht).1];exact ht) (by rw[List.getElem?_append_left (List.getElem?_eq_some_iff.1 hd).1];exact hd) m hm);simpa using this
 rw[Tryz.params9]at hA hval hsz';obtain⟨v0,vs0,d0,ds0,p0,q0,hargs,rfl,rfl,h0,r0⟩:=trodAll_cons hA;obtain⟨v1,vs1,d1,ds1,p1,q1,rfl,rfl,rfl,h1,r1⟩:=trodAll_cons r0;obtain⟨v2,vs2,d2,ds2,p2,q2,rfl,rfl,rfl,h2,r2⟩:=trodAll_cons r1;obtain⟨v3,vs3,d3,ds3,p3,q3,rfl,rfl,rfl,h3,r3⟩:=trodAll_cons r2;obtain⟨rfl,rfl,rfl⟩:=trodAll_nil r3;obtain rfl:args= #[v0,v1,v2,v3]:=by cases args;simp_all
 obtain⟨rfl,rfl⟩:=trodVars_none hV;obtain⟨a0,rfl,rfl,rfl,w0⟩:=open_int Tryz.underlying3 (hval 0 3 v0 rfl rfl) h0;obtain⟨lo0,hi0⟩:=bounds_i64 w0;obtain⟨a1,rfl,rfl,rfl,w1⟩:=open_int Tryz.underlying3 (hval 1 3 v1 rfl rfl) h1;obtain⟨lo1,hi1⟩:=bounds_i64 w1;obtain⟨a2,len2,cap2,rfl⟩:=okWide_slice Tryz.underlying48 (hval 2 48 v2 rfl rfl);have k2:=h2;have lt2: ∀x∈p2,x.block<W.heap.size:=by obtain⟨m,hm⟩:=k2;exact DataW.trod_lt m _ _ _ hm
 obtain⟨l2,b2,n2,f2⟩:=jP h2 (hsz' 2 48 d2 rfl rfl);obtain⟨a3,len3,cap3,rfl⟩:=okWide_slice Tryz.underlying48 (hval 3 48 v3 rfl rfl);have k3:=h3;have lt3: ∀x∈p3,x.block<W.heap.size:=by obtain⟨m,hm⟩:=k3;exact DataW.trod_lt m _ _ _ hm
 obtain⟨l3,b3,n3,f3⟩:=jP h3 (hsz' 3 48 d3 rfl rfl);clear MB;have hmx:bf W:=by obtain⟨m,hm⟩:=Tryz.yI.s1_3 W hsh;exact⟨m,hm⟩
 obtain⟨her,htb⟩:=laid7 hld;refine(G6 W a0 a1 a2 len2 cap2 l2 b2 n2 f2 a3 len3 cap3 l3 b3 n3 f3 hmx her htb).mono fun e W'⟨he,bN⟩=>?_;subst he;exact⟨_,rfl,_,_,_,[],_,[],hW',trodAll_mk1 (shut_bool Tryz.underlying4 _),(trodAll_cons_mk (shut_int Tryz.underlying3 w0) (trodAll_cons_mk (shut_int Tryz.underlying3 w1) (trodAll_cons_mk (Below.trod laidOut (by kernel_rfl) (of_decide_eq_true (by kernel_rfl)) k2 bN lt2) (trodAll_cons_mk (Below.trod laidOut (by kernel_rfl) (of_decide_eq_true (by kernel_rfl)) k3 bN lt3) trodAll_mk0)))),rfl,bN.frame _,fun h=>by cases h⟩
theorem lifted (os : Os) (started : os.Started) (H : Type) (enc : TypeId × Value → H) (Fs : Stop.Interp) :
    ReturnsInHanded {} Tryz.checked os 9 .any ((OpenSpec.ofChange Rows.snapshotWaysSpec).preRow enc Tryz.prog Tryz.f9 Rows.snapshotWaysRow.domain false Rows.snapshotWaysRow.laid) (((OpenSpec.ofChange Rows.snapshotWaysSpec).at Fs).post enc Tryz.prog Tryz.f9 false true false false) := by
  obtain ⟨places, hx⟩ := reads os enc
  refine returnsInHanded_of_row (C := Tryz.checked) (s := OpenSpec.ofChange Rows.snapshotWaysSpec) own started (by kernel_rfl) Tryz.func9
    (witness_row_at (enc := enc) (C := Tryz.checked) false (gX os) #[.int .i64 0, .int .i64 0, .slice none 0 0, .slice none 0 0] rfl (by kernel_rfl) (by kernel_rfl) (by kernel_rfl)
      (OpenSpec.preRow_of_cond 8 hx (by kernel_rfl) (fun k hk => by cases hk) (by kernel_rfl) (laid_met os))) ?_
  intro W base args ds gs before hval hW _ _ hsz hld hsh _
  exact contract H enc W base args ds gs before hval hW hld hsh hsz
theorem over:Rows.SnapshotWaysSaid:=OpenClaim.holds_of_cond 9 Tryz.f9 rfl rfl rfl rfl rfl rfl rfl ⟨rfl,rfl,rfl,rfl,rfl⟩ rfl rfl rfl rfl rfl (by kernel_rfl) Tryz.func9 (by unfold joinedFacts;repeat'(refine Bool.and_eq_true_iff.2 ⟨?_,?_⟩);all_goals(as_aux_lemma=>kernel_rfl)) (of_decide_eq_true (by kernel_rfl)) (by unfold Func.isWrapper;first|(rw[if_pos (by decide+kernel)];kernel_rfl)|(rw[if_neg (by decide+kernel)];exact⟨rfl,rfl⟩)) (fun os started H enc _ Fs=>by rw[OpenClaim.pre_eq_preRow];exact lifted os started H enc Fs)
theorem plain(f:FuncId)(fn:Func)(hf:Tryz.pinned.checked.prog.funcNamed "cicerone/ciceronelaw30.SnapshotWays"=some f)(hfn:Tryz.pinned.checked.prog.funcs[f]?=some fn):true=Tryz.pinned.checked.prog.looks []∧ ∀(j:Nat)t,fn.params[j]?=some t→Tryz.pinned.checked.prog.wantsStandIn t=false:=by
 obtain rfl:f=9:=Option.some.inj ((show Tryz.prog.funcNamed "cicerone/ciceronelaw30.SnapshotWays"=some 9 by kernel_rfl).symm.trans hf)|>.symm;obtain rfl:fn=Tryz.f9:=(Option.some.inj (Tryz.func9.symm.trans hfn)).symm;refine⟨by kernel_rfl,fun j t ht=>?_⟩;rw[Tryz.params9]at ht;have ht':t=3∨t=48:=by have:=Array.mem_of_getElem? ht;first|simpa using this|(simp at this;rcases this with h|h|h<;>simp[h];done)|(simp at this;rcases this with h|h|h|h<;>simp[h];done)|(simp at this;rcases this with h|h|h|h|h<;>simp[h])
 rcases ht' with rfl|rfl;·exact(show Tryz.prog.wantsStandIn 3=false by kernel_rfl)
 ·exact(show Tryz.prog.wantsStandIn 48=false by kernel_rfl)
theorem proved:Rows.SnapshotWaysCardSaid:=Claim7.holds_tied_plain_at .later [] _ _ _ _ over (fun _ h=>by cases h) (by kernel_rfl) (fun _ h=>by cases h) snapshotWays_row_tie rfl ⟨rfl,rfl⟩ (by kernel_rfl) rfl plain (by kernel_rfl)
#print axioms proved
end Go.Proofs.YtbejfgmdkmddnaaGreatDoor.snapshotWays
