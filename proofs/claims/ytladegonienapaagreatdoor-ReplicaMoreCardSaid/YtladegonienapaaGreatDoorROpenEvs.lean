/-
  A world for the witness: the settled one, where the five tables and the two errors that the row lists hold what their initialisers lay; and what the row's list gives a walk.
-/
import Derived.ProofKit
import Derived.OpenShut
import Derived.ShutString
import Derived.ChangeOld
import Derived.Deep.Slices
import Derived.SizedLaws
import Derived.Test.YtladegonienapaaGreatDoorRClkDec1
import Derived.Stop.LaidErr
import Derived.Lib.LaidTab
import Derived.Lib.AppendIntMem
set_option maxRecDepth 100000
set_option maxHeartbeats 16000000
namespace Go.Proofs.YtladegonienapaaGreatDoor
open Go.RowKit Go.ChangeShapes Go.WideShapes Go.ChangeAt
theorem own:ownKnob Tryz.prog.godebug=none:=by kernel_rfl
theorem laidOut:laidOutB Tryz.prog=true:=by kernel_rfl
open Go.Maps Go.Sort
def Ev.fit(e:Ev):Prop:=e.src.length≤140737488355328∧e.per.length≤140737488355328∧e.item.length≤140737488355328∧e.text.length≤140737488355328
def Ev.dat{H:Type}(e:Ev):DataW H:=.agg [.lit (.string e.src),.lit (.int .i64 e.num),.lit (.int .i64 e.at_),.lit (.int .i64 e.kind),.lit (.string e.per),.lit (.string e.item),.lit (.int .i64 e.val),.lit (.string e.text)]
theorem zu:Tryz.prog.cellsOf 28=8:=by kernel_rfl
theorem JV:Tryz.prog.cellsOf 9=1:=by kernel_rfl
theorem JW:Tryz.prog.cellsOf 3=1:=by kernel_rfl
theorem GK:Tryz.prog.cellsOf 26=1:=by kernel_rfl
instance:Inhabited Ev:=⟨⟨[],0,0,0,[],[],0,[]⟩⟩
theorem sS{H:Type}{enc:TypeId×Value→H}{W:World}{base fuel:Nat}{sp:Nat→Bool}{held:Bool}{cs:List Value}{d:DataW H}{ps:List MemPlace}(h:DataW.trod enc Tryz.prog W base sp held fuel 28 cs=some (d,ps)): ∃e:Ev,cs=e.cells∧d=e.dat:=by
 obtain⟨xs,n,_,hx,hl,hlen,hf⟩:=DataW.trod_struct Tryz.underlying28 h;rw[zu]at hl;match cs,hl with
  |[c0,c1,c2,c3,c4,c5,c6,c7],_=>
   match xs,hlen with
    |[x0,x1,x2,x3,x4,x5,x6,x7],_=>
     have h0:=hf 0 _ rfl;have h1:=hf 1 _ rfl;have h2:=hf 2 _ rfl;have h3:=hf 3 _ rfl;have h4:=hf 4 _ rfl;have h5:=hf 5 _ rfl;have h6:=hf 6 _ rfl;have h7:=hf 7 _ rfl;set_option linter.unusedSimpArgs false in
      simp only[JV,JW,GK,List.drop_succ_cons,List.drop_zero,List.take_succ_cons,List.take_zero,List.getElem?_cons_zero,List.getElem?_cons_succ]at h0 h1 h2 h3 h4 h5 h6 h7;obtain⟨s0,e0,rfl,_⟩:=DataW.trod_string Tryz.underlying9 h0;obtain⟨n1,e1,rfl,_⟩:=DataW.trod_int Tryz.underlying3 h1;obtain⟨n2,e2,rfl,_⟩:=DataW.trod_int Tryz.underlying3 h2;obtain⟨n3,e3,rfl,_⟩:=DataW.trod_int Tryz.underlying26 h3;obtain⟨s4,e4,rfl,_⟩:=DataW.trod_string Tryz.underlying9 h4;obtain⟨s5,e5,rfl,_⟩:=DataW.trod_string Tryz.underlying9 h5;obtain⟨n6,e6,rfl,_⟩:=DataW.trod_int Tryz.underlying3 h6;obtain⟨s7,e7,rfl,_⟩:=DataW.trod_string Tryz.underlying9 h7;injection e0 with e0;injection e1 with e1;injection e2 with e2;injection e3 with e3;injection e4 with e4;injection e5 with e5;injection e6 with e6;injection e7 with e7;subst e0 e1 e2 e3 e4 e5 e6 e7;refine⟨⟨s0.data.toList,n1,n2,n3,s4.data.toList,s5.data.toList,n6,s7.data.toList⟩,?_,?_⟩;·simp[Ev.cells]
      ·injection hx with hx _
theorem kG{H:Type}{P:Program}{e:TypeId}: ∀{ds:List (DataW H)}{d:DataW H},d∈ds→ ∀n∈d.weights P e,n∈DataW.weightsAll P e ds
 |d0::ds,d,hd,n,hn=>by
  simp only[DataW.weightsAll,List.mem_append];rcases List.mem_cons.1 hd with rfl|h;·exact Or.inl hn
  ·exact Or.inr (kG h n hn)
 |[],_,hd,_,_=>by cases hd
theorem Bq{H:Type}(e:Ev):(e.dat (H:=H)).weights Tryz.prog 28=[e.src.length,e.per.length,e.item.length,e.text.length]:=by unfold Ev.dat;rw[DataW.weights,Tryz.underlying28];simp[DataW.weightsEach,DataW.weights]
theorem tL(b o i:Nat):(⟨b,o,none⟩:Addr).add i=⟨b,o+i,none⟩:=by unfold Addr.add;split<;>simp_all
theorem jc{H:Type}{enc:TypeId×Value→H}{W:World}{A:Option Addr}{n c:Nat}{d:DataW H}{ps:List MemPlace}(h:DataW.Trod enc Tryz.prog W 0 (fun _=>true) true 22 (Value.slice A n c) d ps)(hz: ∀m∈d.weights Tryz.prog 22,m≤reachBytes): ∃es,eD W W.heap.size A n c es∧n≤140737488355328∧ ∀e∈es,e.fit:=by
 obtain⟨fuel,hf⟩:=h;have hr:reachBytes≤140737488355328:=by decide
 rcases Deep.open_slice Tryz.underlying22 hf with⟨hcs,_⟩|⟨a,len,cap,m,fl,D,Pl,hcs,_,hl,hm,hmm,hx,hV⟩;·simp[Value.cells]at hcs;obtain⟨rfl,rfl,rfl⟩:=hcs;exact⟨[],aI.nil _ _ _ _ _ (by unfold maxLen;omega),by omega,fun e he=>by cases he⟩
 ·simp[Value.cells]at hcs;obtain⟨rfl,rfl,rfl⟩:=hcs;have hmc:m=c:=by simpa using hmm
  subst hmc;injection hx with hd _;rw[zu]at hV;have key: ∀i,i<n→ ∃e:Ev,(∀j,j<8→W.cell? ((a.add (i*8)).add j)=e.cells[j]?)∧D i=e.dat:=fun i hi=>by obtain⟨cs,h1,h2⟩:=hV i (by omega);obtain⟨_,_,h3⟩:=World.cells?_some h1;obtain⟨e,rfl,he⟩:=sS h2;exact⟨e,h3,he⟩
  obtain⟨f,NH⟩:=Deep.choose_lt (α:=Ev) (p:=fun i e=>(∀j,j<8→W.cell? ((a.add (i*8)).add j)=e.cells[j]?)∧D i=e.dat) key;have hwt: ∀i,i<n→(f i).fit:=fun i hi=>by have hmem:(f i).dat∈(List.range n).map D:=List.mem_map.2 ⟨i,by simpa using hi,(NH i hi).2⟩;have hw: ∀k∈(f i).dat.weights (H:=H) Tryz.prog 28,k≤reachBytes:=fun k hk=>hz k (by rw[hd,DataW.weights,Tryz.underlying22];simp only[List.mem_cons,List.mem_append];exact Or.inr (Or.inl (kG hmem k hk)));rw[Bq]at hw;exact⟨Nat.le_trans (hw _ (by simp)) hr,Nat.le_trans (hw _ (by simp)) hr,Nat.le_trans (hw _ (by simp)) hr,Nat.le_trans (hw _ (by simp)) hr⟩
  have hnn:n≤140737488355328:=by
   have:=hz ((((List.range n).map D).length+((List.range (m-n)).map fun j=>D (n+j)).length)*Tryz.prog.bytesOf 28) (by rw[hd,DataW.weights,Tryz.underlying22];exact List.mem_cons_self ..);have hb:Tryz.prog.bytesOf 28=96:=by kernel_rfl
   rw[hb]at this;simp at this;omega
  refine⟨(List.range n).map f,⟨by rw[fG];simp,hl,hm,fun h0=>?_⟩,hnn,fun e he=>?_⟩
  ·obtain⟨b,off,spot⟩:=a;have hc0:=(NH 0 h0).1 0 (by omega);have hspot:spot=none:=by have:=World.cell?_spot (hc0.trans (show(f 0).cells[0]?=some _ from rfl));simpa[Addr.add]using this
   subst hspot;refine⟨b,off,rfl,World.block_lt_of_cell? W ⟨b,off,none⟩ (u:=.string ⟨(f 0).src.toArray⟩) ?_,fun i u hi=>?_⟩;·simpa[tL]using hc0.trans (show(f 0).cells[0]?=some _ from rfl)
   ·have hil:i<n*8:=by have:=(List.getElem?_eq_some_iff.1 hi).1;rw[fG]at this;simpa using this
    have e1:i=(i/8)*8+i%8:=by omega
    have hq:i/8<((List.range n).map f).length:=by simp;omega
    rw[e1,qJ _ (i/8) (i%8) hq (by omega)]at hi;have hq':i/8<n:=by omega
    have:=(NH (i/8) hq').1 (i%8) (by omega);rw[tL,tL]at this;have e2:off+i=off+i/8*8+i%8:=by omega
    rw[e2,this];simpa using hi
  ·obtain⟨i,hi,rfl⟩:=List.mem_map.1 he;exact hwt i (by simpa using hi)
def Ez:List Int:=List.replicate 128 240++List.replicate 66 241++List.replicate 30 2++[19]++List.replicate 12 3++[35,3,3,52,4,4,4,68]++List.replicate 11 241
def DX:List Int:=[128,191,160,191,128,159,144,191,128,143]++List.replicate 22 0
def Cy(l:List Int):Obj→Obj|.cells _ t frozen=>.cells (l.map (Value.int .u8)).toArray t frozen|o=>o
def MF:DataW Unit→Value|.lit (.int k z)=>.int k z|_=>.bool false
def JZ:DataW Unit→List Value|.agg l=>l.map MF|_=>[]
def wO(d:DataW Unit):Obj→Obj|.cells _ t frozen=>.cells (JZ d).toArray t frozen|o=>o
def Gl(k:Nat):Obj→Obj|.cells _ t frozen=>.cells #[.iface 320 (.pointer (some ⟨k,0,none⟩))] t frozen|o=>o
abbrev LZ:ByteArray:=⟨#[118,97,108,117,101,32,111,117,116,32,111,102,32,114,97,110,103,101]⟩
abbrev Jd:ByteArray:=⟨#[105,110,118,97,108,105,100,32,115,121,110,116,97,120]⟩
noncomputable def Ob:Nat:=(World.holding Tryz.prog default ⟨#[],#[],[]⟩).heap.size
noncomputable def bY(os:Os):World:=let w0:=World.holding Tryz.prog os ⟨#[.cells #[.string LZ] 322,.cells #[.string Jd] 322],#[],[]⟩;{w0 with heap:=((((((w0.heap.modify 4 (Cy Ez)).modify 5 (Cy DX)).modify 6 (wO Rows.laid_math_bits_deBruijn32tab)).modify 7 (wO Rows.laid_math_bits_deBruijn64tab)).modify 3 (wO Rows.laid_internal_strconv_uint64pow10)).modify 2 (Gl Ob)).modify 1 (Gl (Ob+1))}
theorem star7: "*"++ "errors.errorString"= "*errors.errorString":=by decide
theorem row7(u:TypeId)(h:Tryz.prog.typeName? 3 u=some "*errors.errorString"):u=320:=typeName_ptr_named (nm:= "errors.errorString") (by rw[star7];kernel_rfl) (by kernel_rfl) (by decide) u (by rw[star7];exact h)
theorem tab7{W:World}{r:List (String×DataW Unit)}(h:laidMet Tryz.prog (("internal/strconv.uint64pow10",Rows.laid_internal_strconv_uint64pow10)::r) W):Lib.TabBelow Tryz.prog W.heap.size W "internal/strconv.uint64pow10" .u64 Lib.pow10Tab:=Lib.tabBelow_of_tabIs (Lib.tabIs_of_head (g:=3) (by kernel_rfl) (by kernel_rfl) Tryz.underlying314 Tryz.underlying254 (by kernel_rfl) (by kernel_rfl) h)
theorem O3{W:World}{r:List (String×DataW Unit)}(h:laidMet Tryz.prog (("strconv.ErrRange",Rows.laid_strconv_ErrRange)::r) W): ∃v,W.cell? ⟨2,0,none⟩=some v∧(v=.nilIface∨ ∃t p,v=.iface t p):=by obtain⟨a,s,hv,_⟩:=laid_sentinel (g:=2) (ts:=9) (te:=322) h (by kernel_rfl) (by kernel_rfl) Tryz.underlying195 row7 Tryz.underlying320 Tryz.underlying322 rfl rfl Tryz.underlying9 (by kernel_rfl) (by kernel_rfl);have h0:=World.var?_cell (g:=2) (by kernel_rfl) hv 0;exact⟨_,by simpa using h0,.inr ⟨_,_,rfl⟩⟩
theorem O1{W:World}{r:List (String×DataW Unit)}(h:laidMet Tryz.prog (("strconv.ErrSyntax",Rows.laid_strconv_ErrSyntax)::r) W): ∃v,W.cell? ⟨1,0,none⟩=some v∧(v=.nilIface∨ ∃t p,v=.iface t p):=by obtain⟨a,s,hv,_⟩:=laid_sentinel (g:=1) (ts:=9) (te:=322) h (by kernel_rfl) (by kernel_rfl) Tryz.underlying195 row7 Tryz.underlying320 Tryz.underlying322 rfl rfl Tryz.underlying9 (by kernel_rfl) (by kernel_rfl);have h0:=World.var?_cell (g:=1) (by kernel_rfl) hv 0;exact⟨_,by simpa using h0,.inr ⟨_,_,rfl⟩⟩
abbrev list7:List (String×DataW Unit):=[("math/bits.deBruijn32tab",Rows.laid_math_bits_deBruijn32tab),("math/bits.deBruijn64tab",Rows.laid_math_bits_deBruijn64tab),("internal/strconv.uint64pow10",Rows.laid_internal_strconv_uint64pow10),("unicode/utf8.acceptRanges",Rows.laid_unicode_utf8_acceptRanges),("strconv.ErrRange",Rows.laid_strconv_ErrRange),("strconv.ErrSyntax",Rows.laid_strconv_ErrSyntax),("unicode/utf8.first",Rows.laid_unicode_utf8_first)]
theorem laid7{W:World}(h:laidMetH Tryz.prog list7 W):eQ W∧Lib.TabBelow Tryz.prog W.heap.size W "internal/strconv.uint64pow10" .u64 Lib.pow10Tab:=by
 have h':laidMet Tryz.prog list7 W:=by
  have e:list7.filter (fun x=>x.2.handleName?.isSome)=[]:=by kernel_rfl
  unfold laidMetH at h;rw[e]at h;exact h
 have h3:=laidMet.tail (laidMet.tail h');have h5:=laidMet.tail (laidMet.tail h3);exact⟨⟨O1 (laidMet.tail h5),O3 h5⟩,tab7 h3⟩
end Go.Proofs.YtladegonienapaaGreatDoor
