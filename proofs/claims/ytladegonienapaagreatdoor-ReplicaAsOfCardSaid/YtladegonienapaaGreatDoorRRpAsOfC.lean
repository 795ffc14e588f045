/-
  The law ciceronelaw33.ReplicaAsOf: for every input the call returns true, and its arguments read as before. No condition. The card: what its row lists is tied to the program's text.
-/
import Derived.Test.YtladegonienapaaGreatDoorRRpAsLaw
import Derived.Test.YtladegonienapaaGreatDoorROpenEvs
import Derived.Test.YtladegonienapaaGreatDoorCards
import Derived.Test.YtladegonienapaaGreatDoorTie
import Derived.Deep.DeepHandedRow
set_option maxRecDepth 100000
set_option maxHeartbeats 16000000
namespace Go.Proofs.YtladegonienapaaGreatDoor.replicaAsOf
open Go.ChangeShapes Go.WideShapes Go.ChangeAt Go.RowKit
open Go.ChangeMaps(open_string shut_string)
set_option linter.unusedVariables false
theorem laid_met(os:Os):laidMet Tryz.prog Rows.replicaAsOfRow.laid ((bY os).forCall (fun _ _=>0) ⟨#[],#[.int .i64 0,.slice none 0 0,.int .i64 0,.int .i64 0,.int .i64 0],[]⟩).memory:=laidMet_of_run' 8 (by kernel_rfl) (by kernel_rfl)
theorem reads(os:Os){H:Type}(enc:TypeId×Value→H): ∃places,DataW.whole enc Tryz.prog ((bY os).forCall (fun _ _=>0) ⟨#[],#[.int .i64 0,.slice none 0 0,.int .i64 0,.int .i64 0,.int .i64 0],[]⟩).memory Tryz.f6.params.toList Rows.replicaAsOfSpec.vars false (#[.int .i64 0,.slice none 0 0,.int .i64 0,.int .i64 0,.int .i64 0]:Array Value).toList 8=some ([.lit (.int .i64 0),.nil,.lit (.int .i64 0),.lit (.int .i64 0),.lit (.int .i64 0)],[],places):=⟨[],by kernel_rfl⟩
theorem contract(H:Type)(enc:TypeId×Value→H)(W:World)(base:Nat)(args:Array Value)(ds gs:List (DataW H))(before:List MemPlace)(hval: ∀(j:Nat)t v,Tryz.f6.params[j]?=some t→args[j]?=some v→Value.okWide Tryz.prog W .any base t v)(hW:DataW.Whole enc Tryz.prog Tryz.f6.params.toList Rows.replicaAsOfSpec.vars false W args.toList ds gs before)(hld:laidMetH Tryz.prog Rows.replicaAsOfRow.laid W)(hsh:W.ShapedOpen Tryz.prog)(hsz:(DataW.weightsEach Tryz.prog (Tryz.f6.params.toList++Rows.replicaAsOfSpec.plain.varTypes Tryz.prog) (ds++gs)).all (·≤reachBytes)=true):Calls Tryz.prog 6 args W fun e W'=> ∃v,e=.returned v∧Rows.replicaAsOfSpec.post enc Tryz.prog Tryz.f6 false true false false W args v W':=by
 have hW':=hW;obtain⟨p,q,zY,hV,rfl,hfz,hnd⟩:=hW;have hA:DataW.TrodAll enc Tryz.prog W 0 (fun _=>true) true Tryz.f6.params.toList args.toList ds p:=zY;have hsz': ∀(j:Nat)(t:TypeId)(d:DataW H),Tryz.f6.params.toList[j]?=some t→ds[j]?=some d→ ∀m∈d.weights Tryz.prog t,m≤reachBytes:=fun j t d ht hd m hm=>by have:=List.all_eq_true.1 hsz m (DataW.weights_mem_each (j:=j) (t:=t) (d:=d) (by rw[List.getElem?_append_left (List.getElem?_eq_some_iff.1 ht).1];exact ht) (by rw[List.getElem?_append_left (List.getElem?_eq_some_iff.1 hd).1];exact hd) m hm);simpa using this
 rw[Tryz.params6]at hA hval hsz';obtain⟨v0,vs0,d0,ds0,p0,q0,hargs,rfl,rfl,h0,r0⟩:=trodAll_cons hA;obtain⟨v1,vs1,d1,ds1,p1,q1,rfl,rfl,rfl,h1,r1⟩:=trodAll_cons r0;obtain⟨v2,vs2,d2,ds2,p2,q2,rfl,rfl,rfl,h2,r2⟩:=trodAll_cons r1;obtain⟨v3,vs3,d3,ds3,p3,q3,rfl,rfl,rfl,h3,r3⟩:=trodAll_cons r2;obtain⟨v4,vs4,d4,ds4,p4,q4,rfl,rfl,rfl,h4,r4⟩:=trodAll_cons r3;obtain⟨rfl,rfl,rfl⟩:=trodAll_nil r4;obtain rfl:args= #[v0,v1,v2,v3,v4]:=by cases args;simp_all
 obtain⟨rfl,rfl⟩:=trodVars_none hV;obtain⟨a0,rfl,rfl,rfl,w0⟩:=open_int Tryz.underlying3 (hval 0 3 v0 rfl rfl) h0;obtain⟨lo0,hi0⟩:=bounds_i64 w0;obtain⟨a1,len1,cap1,rfl⟩:=okWide_slice Tryz.underlying22 (hval 1 22 v1 rfl rfl);have k1:=h1;have lt1: ∀x∈p1,x.block<W.heap.size:=by obtain⟨m,hm⟩:=k1;exact DataW.trod_lt m _ _ _ hm
 obtain⟨l1,b1,n1,f1⟩:=jc h1 (hsz' 1 22 d1 rfl rfl);obtain⟨a2,rfl,rfl,rfl,w2⟩:=open_int Tryz.underlying3 (hval 2 3 v2 rfl rfl) h2;obtain⟨lo2,hi2⟩:=bounds_i64 w2;obtain⟨a3,rfl,rfl,rfl,w3⟩:=open_int Tryz.underlying3 (hval 3 3 v3 rfl rfl) h3;obtain⟨lo3,hi3⟩:=bounds_i64 w3;obtain⟨a4,rfl,rfl,rfl,w4⟩:=open_int Tryz.underlying3 (hval 4 3 v4 rfl rfl) h4;obtain⟨lo4,hi4⟩:=bounds_i64 w4;clear zY;have hmx:aM W:=by obtain⟨m,hm⟩:=Tryz.nX.s1_3 W hsh;exact⟨m,hm⟩
 obtain⟨her,htb⟩:=laid7 hld;refine(yl W a0 a1 len1 cap1 l1 b1 n1 a2 a3 a4 hmx her htb).mono fun e W'⟨he,fw⟩=>?_;subst he;exact⟨_,rfl,_,_,_,[],_,[],hW',trodAll_mk1 (shut_bool Tryz.underlying4 _),(trodAll_cons_mk (shut_int Tryz.underlying3 w0) (trodAll_cons_mk (Below.trod laidOut (by kernel_rfl) (of_decide_eq_true (by kernel_rfl)) k1 fw lt1) (trodAll_cons_mk (shut_int Tryz.underlying3 w2) (trodAll_cons_mk (shut_int Tryz.underlying3 w3) (trodAll_cons_mk (shut_int Tryz.underlying3 w4) trodAll_mk0))))),rfl,fw.frame _,fun h=>by cases h⟩
theorem lifted (os : Os) (started : os.Started) (H : Type) (enc : TypeId × Value → H) (Fs : Stop.Interp) :
    ReturnsInHanded {} Tryz.checked os 6 .any ((OpenSpec.ofChange Rows.replicaAsOfSpec).preRow enc Tryz.prog Tryz.f6 Rows.replicaAsOfRow.domain false Rows.replicaAsOfRow.laid) (((OpenSpec.ofChange Rows.replicaAsOfSpec).at Fs).post enc Tryz.prog Tryz.f6 false true false false) := by
  obtain ⟨places, hx⟩ := reads os enc
  refine returnsInHanded_of_row (C := Tryz.checked) (s := OpenSpec.ofChange Rows.replicaAsOfSpec) own started (by kernel_rfl) Tryz.func6
    (witness_row_at (enc := enc) (C := Tryz.checked) false (bY os) #[.int .i64 0, .slice none 0 0, .int .i64 0, .int .i64 0, .int .i64 0] rfl (by kernel_rfl) (by kernel_rfl) (by kernel_rfl)
      (OpenSpec.preRow_of_cond 8 hx (by kernel_rfl) (fun k hk => by cases hk) (by kernel_rfl) (laid_met os))) ?_
  intro W base args ds gs before hval hW _ _ hsz hld hsh _
  exact contract H enc W base args ds gs before hval hW hld hsh hsz
theorem over:Rows.ReplicaAsOfSaid:=OpenClaim.holds_of_cond 6 Tryz.f6 rfl rfl rfl rfl rfl rfl rfl ⟨rfl,rfl,rfl,rfl,rfl⟩ rfl rfl rfl rfl rfl (by kernel_rfl) Tryz.func6 (by unfold joinedFacts;repeat'(refine Bool.and_eq_true_iff.2 ⟨?_,?_⟩);all_goals(as_aux_lemma=>kernel_rfl)) (of_decide_eq_true (by kernel_rfl)) (by unfold Func.isWrapper;first|(rw[if_pos (by decide+kernel)];kernel_rfl)|(rw[if_neg (by decide+kernel)];exact⟨rfl,rfl⟩)) (fun os started H enc _ Fs=>by rw[OpenClaim.pre_eq_preRow];exact lifted os started H enc Fs)
theorem plain(f:FuncId)(fn:Func)(hf:Tryz.pinned.checked.prog.funcNamed "cicerone/ciceronelaw33.ReplicaAsOf"=some f)(hfn:Tryz.pinned.checked.prog.funcs[f]?=some fn):true=Tryz.pinned.checked.prog.looks []∧ ∀(j:Nat)t,fn.params[j]?=some t→Tryz.pinned.checked.prog.wantsStandIn t=false:=by
 obtain rfl:f=6:=Option.some.inj ((show Tryz.prog.funcNamed "cicerone/ciceronelaw33.ReplicaAsOf"=some 6 by kernel_rfl).symm.trans hf)|>.symm;obtain rfl:fn=Tryz.f6:=(Option.some.inj (Tryz.func6.symm.trans hfn)).symm;refine⟨by kernel_rfl,fun j t ht=>?_⟩;rw[Tryz.params6]at ht;have ht':t=3∨t=22:=by have:=Array.mem_of_getElem? ht;first|simpa using this|(simp at this;rcases this with h|h|h<;>simp[h];done)|(simp at this;rcases this with h|h|h|h<;>simp[h];done)|(simp at this;rcases this with h|h|h|h|h<;>simp[h];done)|(simp at this;rcases this with h|h|h|h|h|h<;>simp[h])
 rcases ht' with rfl|rfl;·exact(show Tryz.prog.wantsStandIn 3=false by kernel_rfl)
 ·exact(show Tryz.prog.wantsStandIn 22=false by kernel_rfl)
theorem proved:Rows.ReplicaAsOfCardSaid:=Claim7.holds_tied_plain_at .later [] _ _ _ _ over (fun _ h=>by cases h) (by kernel_rfl) (fun _ h=>by cases h) replicaAsOf_row_tie rfl ⟨rfl,rfl⟩ (by kernel_rfl) rfl plain (by kernel_rfl)
#print axioms proved
end Go.Proofs.YtladegonienapaaGreatDoor.replicaAsOf
