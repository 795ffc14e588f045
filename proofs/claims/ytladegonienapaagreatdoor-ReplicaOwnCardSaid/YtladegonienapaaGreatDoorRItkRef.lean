/-
  Layer 8: identity, refused.
-/
import Derived.DeepKeys4
import Derived.Test.YtladegonienapaaGreatDoorRItkPlain
import Derived.Test.YtladegonienapaaGreatDoorRHad
import Derived.Test.YtladegonienapaaGreatDoorRClkHear
set_option maxRecDepth 100000
set_option maxHeartbeats 16000000
namespace Go.Proofs.YtladegonienapaaGreatDoor
open Go.RowKit Go.Maps Go.Sort
def Qy(s:List UInt8)(n:Int):Value:=.agg #[.string ⟨s.toArray⟩,.int .i64 n]
def om(s:List UInt8)(n:Int):Lit:=.string (keyBytes [.string s,.int .i64 n])
def zl(s:List UInt8)(n:Int):Prop:=s.length≤1000000000∧ -9223372036854775808≤n∧n≤9223372036854775807
theorem JG:laidOutB Tryz.prog=true:=by kernel_rfl
theorem Ml:(209:TypeId)<Tryz.prog.types.size:=of_decide_eq_true (by kernel_rfl)
theorem JD:(match Tryz.prog.underlying 209 with|some (.array _ _)|some (.struct _)=>true|_=>false)=true:=by rw[Tryz.underlying209]
theorem Od:Tryz.prog.keyTypeAt 2 209=true:=by kernel_rfl
theorem Cz:Keyed Tryz.prog 209:=Keyed.of_law (deep_law_laid JG (m:=2) (by omega) Ml Od JD)
theorem JE:Tryz.prog.keyType 209=true:=by kernel_rfl
theorem zk:Tryz.prog.cellsOf 209=2:=by kernel_rfl
theorem Ba:Tryz.prog.cellsOf 9=1:=by kernel_rfl
theorem Bb:Tryz.prog.cellsOf 3=1:=by kernel_rfl
theorem JF: ∃k,Tryz.prog.types.size=k+1:=⟨Tryz.prog.types.size-1,by kernel_rfl⟩
theorem sH(s:List UInt8)(n:Int)(h:zl s n):keyOf Tryz.prog 209 (Qy s n)=some (om s n):=by
 obtain⟨h1,h2,h3⟩:=h;obtain⟨k,hk⟩:=JF;have hs:(⟨s.toArray⟩:ByteArray).size≤maxLen:=by simp[ByteArray.size];unfold maxLen;omega
 have hw:(Lit.int .i64 n).wf=true:=by simp[Lit.wf,IntKind.min,IntKind.max,IntKind.bits,IntKind.signed];omega
 have Oo: ∀d,Tryz.prog.keyLits (d+2) 209 [.string ⟨s.toArray⟩,.int .i64 n]=some [.string s,.int .i64 n]:=fun d=>by simp[Program.keyLits,Tryz.underlying209,Tryz.underlying9,Tryz.underlying3,zk,Ba,Bb,hs,hw]
 unfold keyOf Qy om;rw[Tryz.underlying209,hk];simp only[JE,Value.formed,Tryz.underlying209,zk];simp[Value.cells,Oo]
theorem Er{s s':List UInt8}{n n':Int}(h:zl s n)(h':zl s' n')(e:om s n=om s' n'):s=s'∧n=n':=by have:=Cz.inj (sH s n h) (by rw[e];exact sH s' n' h');unfold Qy at this;simpa using this
def eH(w:World)(b n:Nat)(ks:List (List UInt8×Int)):Prop:= ∃D:DataW Unit,w.ownsMap Tryz.prog 209 (plainElem Tryz.prog 4) b n D∧Tidy D∧ ∀s k,zl s k→D.atKey (om s k) (.lit (.bool false))=.lit (.bool (decide ((s,k)∈ks)))
theorem eH.made(w:World):eH (w.alloc (.map #[] 0)) w.heap.size 0 []:=⟨.map [],World.ownsMap_made _ _ _ _,tidy_empty,fun s k _=>by simp[DataW.atKey]⟩
theorem eH.lt{w:World}{b n:Nat}{ks:List (List UInt8×Int)}(h:eH w b n ks):b<w.heap.size:=by obtain⟨D,h1,_⟩:=h;exact h1.lt
theorem eH.block{w w':World}{b n:Nat}{ks:List (List UInt8×Int)}(h:eH w b n ks)(hb:w'.heap[b]?=w.heap[b]?):eH w' b n ks:=by obtain⟨D,⟨es,clock,h1,h2⟩,h3⟩:=h;exact⟨D,⟨es,clock,hb.trans h1,h2⟩,h3⟩
theorem eH.isMap{w:World}{b n:Nat}{ks:List (List UInt8×Int)}(h:eH w b n ks): ∃es clock,w.heap[b]?=some (.map es clock):=by obtain⟨D,⟨es,clock,h1,h2⟩,h3⟩:=h;exact⟨es,clock,h1⟩
theorem dJ.isMap{w:World}{b n:Nat}{ks:List (List UInt8)}(h:dJ w b n ks): ∃es clock,w.heap[b]?=some (.map es clock):=by obtain⟨D,⟨es,clock,h1,h2⟩,h3⟩:=h;exact⟨es,clock,h1⟩
theorem eH.look{w:World}{b n:Nat}{ks:List (List UInt8×Int)}(h:eH w b n ks)(s:List UInt8)(k:Int)(hk:zl s k):(Instr.lookup 76 (.map (some b)) (.agg #[.string ⟨s.toArray⟩,.int .i64 k]) false).run Tryz.prog w=.ok (.bool (decide ((s,k)∈ks))) w:=by obtain⟨D,h1,_,h3⟩:=h;obtain⟨v,ps,hr,hv⟩:=h1.lookup Cz Tryz.underlying76 (KP w) (plainElem_bool (P:=Tryz.prog) Tryz.underlying4 false) (sH s k hk);unfold Qy at hr;rw[hr];rw[h3 s k hk]at hv;rw[iB Tryz.underlying4 hv]
theorem eH.put{w:World}{b n:Nat}{ks:List (List UInt8×Int)}(h:eH w b n ks)(hn:n<maxLen)(s:List UInt8)(k:Int)(hk:zl s k): ∃w',(Instr.mapUpdate 76 (.map (some b)) (.agg #[.string ⟨s.toArray⟩,.int .i64 k]) (.bool true)).run Tryz.prog w=.ok () w'∧eH w' b (n+1) ((s,k)::ks)∧w.grownBy w' (some b):=by
 obtain⟨D,h1,h2,h3⟩:=h;obtain⟨w',hr,r1,r2⟩:=h1.update Cz Tryz.underlying76 hn (sH s k hk) (plainElem_bool (P:=Tryz.prog) Tryz.underlying4 true);have hkl:WideAt.IsKeyLit (om s k):=Cz.key (sH s k hk);refine⟨w',hr,⟨D.put (om s k) (.lit (.bool true)),r1,h2.put hkl _,fun s' k' hk'=>?_⟩,r2⟩;by_cases e:(s',k')=(s,k);·cases e;rw[atKey_put_same h2.isMap hkl];simp
 ·have hne:om s' k'≠om s k:=fun h=>e (by obtain⟨rfl,rfl⟩:=Er hk' hk h;rfl);rw[atKey_put_other hne,h3 s' k' hk'];have:decide ((s',k')∈(s,k)::ks)=decide ((s',k')∈ks):=by simp[e]
  rw[this]
theorem wB{ops:Array Oper}{rest:List Oper}{o:Oper}{a:Act}{Q:Exit→Act→World→Prop}{w:World}(hg:o.guard=none)(m x v:Operand)(hop:o.op=Op.mapUpdate 76 m x v)(b n:Nat)(ks:List (List UInt8×Int))(hm:a.eval m=.map (some b))(hown:eH w b n ks)(hn:n<maxLen)(s:List UInt8)(k:Int)(hx:a.eval x=.agg #[.string ⟨s.toArray⟩,.int .i64 k])(hk:zl s k)(hv:a.eval v=.bool true)(h: ∀w',eH w' b (n+1) ((s,k)::ks)→w.grownBy w' (some b)→wpList Tryz.prog ops Q rest (a.put o.dst undef) w'):wpList Tryz.prog ops Q (o::rest) a w:=by refine wpList_plain hg fun K hK=>?_;obtain⟨w',hr,h1,h2⟩:=hown.put hn s k hk;unfold Oper.wp;simp[execOp,hop,hm,hx,hv,hr,Result.andThen];exact hK _ _ (h w' h1 h2)
structure oN where
 bc:Nat
 bm:Nat
 bs:Nat
 bh:Nat
 G:Nat→Prop
 V:List UInt8→Value
 vt:Value
 vl:Value
 bl:Nat
 nl:Nat
 bg:Nat
 ng:Nat
abbrev jU(A:oN):Obj:=.cells #[.pointer (some ⟨A.bc,0,none⟩),.pointer (some ⟨A.bs,0,none⟩),A.vt,A.vl,.map (some A.bl),.map (some A.bg)] 79
theorem aU.typ{w:World}{base:Nat}{v:Value}{l:List Ev}(h:aU w base v l){b:Nat}(hb:v.ownBlock=some b): ∃cs,w.heap[b]?=some (.cells cs 28 (0,0)):=by
 rcases h.2 with⟨rfl,_⟩|⟨g,cap,cur,rfl,_,hg,_⟩;·cases hb
 ·injection hb with hb;subst hb;exact⟨cur,hg⟩
theorem aU.keep{w w':World}{base:Nat}{v:Value}{l:List Ev}(h:aU w base v l)(hb: ∀b,v.ownBlock=some b→w'.heap[b]?=w.heap[b]?):aU w' base v l:=by
 refine⟨h.1,?_⟩;rcases h.2 with h'|⟨g,cap,cur,rfl,hb',hg,hr⟩;·exact .inl h'
 ·exact .inr ⟨g,cap,cur,rfl,hb',(hb g rfl).trans hg,hr⟩
theorem aU.lt{w:World}{base:Nat}{v:Value}{l:List Ev}(h:aU w base v l){b:Nat}(hb:v.ownBlock=some b):b<w.heap.size:=(World.ownsRow.lt h b hb).2
theorem aU.low{w:World}{base:Nat}{v:Value}{l:List Ev}(h:aU w base v l):aU w 0 v l:=by
 refine⟨h.1,?_⟩;rcases h.2 with h'|⟨g,cap,cur,e,_,r⟩;·exact .inl h'
 ·exact .inr ⟨g,cap,cur,e,Nat.zero_le _,r⟩
theorem gz{w:World}{a b:Nat}{c1 c2:Array Value}{t1 t2:TypeId}{f1 f2:Nat×Nat}(h1:w.heap[a]?=some (.cells c1 t1 f1))(h2:w.heap[b]?=some (.cells c2 t2 f2))(h:t1≠t2):a≠b:=by rintro rfl;rw[h1]at h2;injection h2 with h2;injection h2 with _ h2;exact h h2
theorem gK{w:World}{a b:Nat}{c1:Array Value}{t1:TypeId}{f1:Nat×Nat}{es:Array MapEntry}{cl:Nat}(h1:w.heap[a]?=some (.cells c1 t1 f1))(h2:w.heap[b]?=some (.map es cl)):a≠b:=by rintro rfl;rw[h1]at h2;cases h2
theorem aX.pz{w:World}{G:Nat→Prop}{bs bm:Nat}{m:dV}{V:List UInt8→Value}(h:aX w G bs bm m V){b:Nat}{cs:Array Value}{t:TypeId}{f:Nat×Nat}(hb:w.heap[b]?=some (.cells cs t f))(h1:t≠150)(h2:t≠153): ¬G b:=by
 intro hg;obtain⟨es,cl,hm⟩:=h.map.isMap;rcases h.typ b hg with e|e|⟨c,hc⟩;·exact gz hb h.blk h1 e
 ·exact gK hb hm e
 ·exact gz hb hc h2 rfl
structure aD(w:World)(bi:Nat)(A:oN)(x:az):Prop where
 blk:w.heap[bi]?=some (jU A)
 aG:ay w A.bc A.bm x.aG
 had:aX w A.G A.bs A.bh x.had A.V
 taken:aU w 0 A.vt x.taken
 late:aU w 0 A.vl x.late
 dx:eH w A.bl A.nl (x.late.map aO)
 gone:dJ w A.bg A.ng x.gone
 ml:A.bm≠A.bl
 mg:A.bm≠A.bg
 lg:A.bl≠A.bg
 gm: ¬A.G A.bm
 gl: ¬A.G A.bl
 gg: ¬A.G A.bg
 tl: ∀b,A.vt.ownBlock=some b→A.vl.ownBlock≠some b
def oN.foot(A:oN)(bi b:Nat):Prop:=b=bi∨b=A.bc∨b=A.bm∨A.G b∨A.vt.ownBlock=some b∨A.vl.ownBlock=some b∨b=A.bl∨b=A.bg
section
variable{w w':World}{bi:Nat}{A:oN}{x:az}
theorem aD.lt(h:aD w bi A x){b:Nat}(hb:A.foot bi b):b<w.heap.size:=by
 rcases hb with rfl|rfl|rfl|hb|hb|hb|rfl|rfl;·exact ax h.blk
 ·exact h.aG.lt
 ·exact h.aG.map.lt
 ·exact h.had.lt b hb
 ·exact h.taken.lt hb
 ·exact h.late.lt hb
 ·exact h.dx.lt
 ·exact h.gone.lt
theorem aD.keep(h:aD w bi A x)(hsz:w.heap.size≤w'.heap.size)(hk: ∀b,A.foot bi b→w'.heap[b]?=w.heap[b]?):aD w' bi A x:={h with blk:=(hk _ (.inl rfl)).trans h.blk,aG:=h.aG.keep (hk _ (.inr (.inl rfl))) (hk _ (.inr (.inr (.inl rfl)))),had:=h.had.keep hsz fun b hb=>hk b (.inr (.inr (.inr (.inl hb)))),taken:=h.taken.keep fun b hb=>hk b (.inr (.inr (.inr (.inr (.inl hb))))),late:=h.late.keep fun b hb=>hk b (.inr (.inr (.inr (.inr (.inr (.inl hb)))))),dx:=h.dx.block (hk _ (.inr (.inr (.inr (.inr (.inr (.inr (.inl rfl)))))))),gone:=h.gone.block (hk _ (.inr (.inr (.inr (.inr (.inr (.inr (.inr rfl))))))))}
theorem aD.up(h:aD w bi A x)(hb:Below w.heap.size w w'):aD w' bi A x:=h.keep hb.size fun b hf=>hb.block b (h.lt hf)
theorem aD.ic(h:aD w bi A x):bi≠A.bc:=gz h.blk h.aG.blk (by decide)
theorem aD.im(h:aD w bi A x):bi≠A.bm:=by obtain⟨es,cl,hm⟩:=h.aG.map.isMap;exact gK h.blk hm
theorem aD.il(h:aD w bi A x):bi≠A.bl:=by obtain⟨es,cl,hm⟩:=h.dx.isMap;exact gK h.blk hm
theorem aD.ig(h:aD w bi A x):bi≠A.bg:=by obtain⟨es,cl,hm⟩:=h.gone.isMap;exact gK h.blk hm
theorem aD.iG(h:aD w bi A x): ¬A.G bi:=h.had.pz h.blk (by decide) (by decide)
theorem aD.cG(h:aD w bi A x): ¬A.G A.bc:=h.had.pz h.aG.blk (by decide) (by decide)
theorem aD.cl(h:aD w bi A x):A.bc≠A.bl:=by obtain⟨es,cl,hm⟩:=h.dx.isMap;exact gK h.aG.blk hm
theorem aD.cg(h:aD w bi A x):A.bc≠A.bg:=by obtain⟨es,cl,hm⟩:=h.gone.isMap;exact gK h.aG.blk hm
theorem aD.ev(h:aD w bi A x){b:Nat}(hb: ∃cs,w.heap[b]?=some (.cells cs 28 (0,0))):b≠bi∧b≠A.bc∧b≠A.bm∧ ¬A.G b∧b≠A.bl∧b≠A.bg:=by obtain⟨cs,hc⟩:=hb;obtain⟨e1,c1,m1⟩:=h.aG.map.isMap;obtain⟨e2,c2,m2⟩:=h.dx.isMap;obtain⟨e3,c3,m3⟩:=h.gone.isMap;exact⟨gz hc h.blk (by decide),gz hc h.aG.blk (by decide),gK hc m1,h.had.pz hc (by decide) (by decide),gK hc m2,gK hc m3⟩
theorem aD.rJ(h:aD w bi A x){c:bq}(hc:ay w' A.bc A.bm c)(hk:ai (fun b=>b=A.bc∨b=A.bm) w w'):aD w' bi A {x with aG:=c}:=by have keep: ∀b,A.foot bi b→b≠A.bc→b≠A.bm→w'.heap[b]?=w.heap[b]?:=fun b hb h1 h2=>hk.block b (h.lt hb) (fun e=>e.elim h1 h2);exact{h with blk:=(keep _ (.inl rfl) h.ic h.im).trans h.blk,aG:=hc,had:=h.had.keep hk.size fun b hb=>keep b (.inr (.inr (.inr (.inl hb)))) (fun e=>h.cG (e▸hb)) (fun e=>h.gm (e▸hb)),taken:=h.taken.keep fun b hb=>keep b (.inr (.inr (.inr (.inr (.inl hb))))) (h.ev (h.taken.typ hb)).2.1 (h.ev (h.taken.typ hb)).2.2.1,late:=h.late.keep fun b hb=>keep b (.inr (.inr (.inr (.inr (.inr (.inl hb)))))) (h.ev (h.late.typ hb)).2.1 (h.ev (h.late.typ hb)).2.2.1,dx:=h.dx.block (keep _ (.inr (.inr (.inr (.inr (.inr (.inr (.inl rfl))))))) (Ne.symm h.cl) (Ne.symm h.ml)),gone:=h.gone.block (keep _ (.inr (.inr (.inr (.inr (.inr (.inr (.inr rfl))))))) (Ne.symm h.cg) (Ne.symm h.mg))}
theorem aD.LX(h:aD w bi A x){G':Nat→Prop}{V':List UInt8→Value}{m:dV}(hh:aX w' G' A.bs A.bh m V')(hk:ai A.G w w')(hG: ∀b,G' b→A.G b∨w.heap.size≤b):aD w' bi {A with G:=G',V:=V'} {x with had:=m}:=by
 have keep: ∀b,A.foot bi b→ ¬A.G b→w'.heap[b]?=w.heap[b]?:=fun b hb h1=>hk.block b (h.lt hb) h1;have no: ∀b,A.foot bi b→ ¬A.G b→ ¬G' b:=fun b hb h1 hg=>by
  rcases hG b hg with h'|h';·exact h1 h'
  ·have:=h.lt hb;omega
 exact{h with blk:=(keep _ (.inl rfl) h.iG).trans h.blk,aG:=h.aG.keep (keep _ (.inr (.inl rfl)) h.cG) (keep _ (.inr (.inr (.inl rfl))) h.gm),had:=hh,taken:=h.taken.keep fun b hb=>keep b (.inr (.inr (.inr (.inr (.inl hb))))) (h.ev (h.taken.typ hb)).2.2.2.1,late:=h.late.keep fun b hb=>keep b (.inr (.inr (.inr (.inr (.inr (.inl hb)))))) (h.ev (h.late.typ hb)).2.2.2.1,dx:=h.dx.block (keep _ (.inr (.inr (.inr (.inr (.inr (.inr (.inl rfl))))))) h.gl),gone:=h.gone.block (keep _ (.inr (.inr (.inr (.inr (.inr (.inr (.inr rfl))))))) h.gg),gm:=no _ (.inr (.inr (.inl rfl))) h.gm,gl:=no _ (.inr (.inr (.inr (.inr (.inr (.inr (.inl rfl))))))) h.gl,gg:=no _ (.inr (.inr (.inr (.inr (.inr (.inr (.inr rfl))))))) h.gg}
theorem aD.FL(h:aD w bi A x){w1:World}{v:Value}{l:List Ev}(hg:w.grownBy w1 A.vt.ownBlock)(ho:aU w1 0 v l)(hv:v.ownBlock=A.vt.ownBlock∨ ∃k,v.ownBlock=some k∧w.heap.size≤k):aD (w1.setCell ⟨bi,2,none⟩ v) bi {A with vt:=v} {x with taken:=l}:=by
 have hbi:bi<w.heap.size:=h.lt (.inl rfl);have keep1: ∀b,A.foot bi b→A.vt.ownBlock≠some b→w1.heap[b]?=w.heap[b]?:=fun b hb h1=>hg.block b (h.lt hb) (Ne.symm h1);have keep: ∀b,A.foot bi b→b≠bi→A.vt.ownBlock≠some b→(w1.setCell ⟨bi,2,none⟩ v).heap[b]?=w.heap[b]?:=fun b hb h0 h1=>(Below.heap_setCell w1 ⟨bi,2,none⟩ v b h0).trans (keep1 b hb h1);have nt: ∀b,(∀b',(∃cs,w.heap[b']?=some (.cells cs 28 (0,0)))→b'≠b)→A.vt.ownBlock≠some b:=fun b hb e=>hb b (h.taken.typ e) rfl;have hb1:w1.heap[bi]?=some (jU A):=(keep1 bi (.inl rfl) (nt _ fun b' hb'=>(h.ev hb').1)).trans h.blk;exact{h with
  blk:=af hb1
  aG:=h.aG.keep (keep _ (.inr (.inl rfl)) (Ne.symm h.ic) (nt _ fun b' hb'=>(h.ev hb').2.1)) (keep _ (.inr (.inr (.inl rfl))) (Ne.symm h.im) (nt _ fun b' hb'=>(h.ev hb').2.2.1))
  had:=h.had.keep (by simpa[World.setCell]using hg.size) fun b hb=>keep b (.inr (.inr (.inr (.inl hb)))) (fun e=>h.iG (e▸hb)) (fun e=>(h.ev (h.taken.typ e)).2.2.2.1 hb)
  taken:=ho.keep fun b hb=>by refine Below.heap_setCell w1 ⟨bi,2,none⟩ v b ?_;obtain⟨cs,hc⟩:=ho.typ hb;exact gz hc hb1 (by decide)
  late:=h.late.keep fun b hb=>keep b (.inr (.inr (.inr (.inr (.inr (.inl hb)))))) (h.ev (h.late.typ hb)).1 (fun e=>h.tl b e hb)
  dx:=h.dx.block (keep _ (.inr (.inr (.inr (.inr (.inr (.inr (.inl rfl))))))) (Ne.symm h.il) (nt _ fun b' hb'=>(h.ev hb').2.2.2.2.1))
  gone:=h.gone.block (keep _ (.inr (.inr (.inr (.inr (.inr (.inr (.inr rfl))))))) (Ne.symm h.ig) (nt _ fun b' hb'=>(h.ev hb').2.2.2.2.2))
  tl:=fun b hb=>by
   rcases hv with e|⟨k,hk,hkl⟩;·exact h.tl b (e▸hb)
   ·intro hl;have:=h.late.lt hl;have:v.ownBlock=some b:=hb;rw[hk]at this;injection this with this;omega}
theorem eH.congr{w:World}{b n:Nat}{ks ks':List (List UInt8×Int)}(h:eH w b n ks)(he: ∀k,k∈ks↔k∈ks'):eH w b n ks':=by obtain⟨D,h1,h2,h3⟩:=h;exact⟨D,h1,h2,fun s k hk=>by rw[h3 s k hk,decide_eq_decide.2 (he (s,k))]⟩
theorem aD.Jj(h:aD w bi A x){p:List UInt8}{n:Nat}(hs:dJ w' A.bg n (p::x.gone))(hg:w.grownBy w' (some A.bg)):aD w' bi {A with ng:=n} {x with gone:=p::x.gone}:=by have keep: ∀b,A.foot bi b→b≠A.bg→w'.heap[b]?=w.heap[b]?:=fun b hb h1=>hg.block b (h.lt hb) (fun e=>h1 (by injection e));exact{h with blk:=(keep _ (.inl rfl) h.ig).trans h.blk,aG:=h.aG.keep (keep _ (.inr (.inl rfl)) h.cg) (keep _ (.inr (.inr (.inl rfl))) h.mg),had:=h.had.keep hg.size fun b hb=>keep b (.inr (.inr (.inr (.inl hb)))) (fun e=>h.gg (e▸hb)),taken:=h.taken.keep fun b hb=>keep b (.inr (.inr (.inr (.inr (.inl hb))))) (h.ev (h.taken.typ hb)).2.2.2.2.2,late:=h.late.keep fun b hb=>keep b (.inr (.inr (.inr (.inr (.inr (.inl hb)))))) (h.ev (h.late.typ hb)).2.2.2.2.2,dx:=h.dx.block (keep _ (.inr (.inr (.inr (.inr (.inr (.inr (.inl rfl))))))) h.lg),gone:=hs}
theorem aD.Jk(h:aD w bi A x){vt vl:Value}{bl nl:Nat}{t l:List Ev}(hk:ai (fun b=>b=bi) w w')(hb:w'.heap[bi]?=some (jU {A with vt:=vt,vl:=vl,bl:=bl,nl:=nl}))(ht:aU w' 0 vt t)(hl:aU w' 0 vl l)(hs:eH w' bl nl (l.map aO))(_ht1: ∀b,vt.ownBlock=some b→w.heap.size≤b)(_hl1: ∀b,vl.ownBlock=some b→w.heap.size≤b)(hbl:w.heap.size≤bl)(htl: ∀b,vt.ownBlock=some b→vl.ownBlock≠some b):aD w' bi {A with vt:=vt,vl:=vl,bl:=bl,nl:=nl} {x with taken:=t,late:=l}:=by have keep: ∀b,A.foot bi b→b≠bi→w'.heap[b]?=w.heap[b]?:=fun b hb h1=>hk.block b (h.lt hb) h1;exact{blk:=hb,aG:=h.aG.keep (keep _ (.inr (.inl rfl)) (Ne.symm h.ic)) (keep _ (.inr (.inr (.inl rfl))) (Ne.symm h.im)),had:=h.had.keep hk.size fun b hb=>keep b (.inr (.inr (.inr (.inl hb)))) (fun e=>h.iG (e▸hb)),taken:=ht,late:=hl,dx:=hs,gone:=h.gone.block (keep _ (.inr (.inr (.inr (.inr (.inr (.inr (.inr rfl))))))) (Ne.symm h.ig)),ml:=fun e=>by have:=h.aG.map.lt;have e':A.bm=bl:=e;omega,mg:=h.mg,lg:=fun e=>by have:=h.gone.lt;have e':bl=A.bg:=e;omega,gm:=h.gm,gl:=fun e=>by have:=h.had.lt _ e;have e':bl<w.heap.size:=this;omega,gg:=h.gg,tl:=htl}
end
def aS(w:World)(F:Nat→Prop)(bi N:Nat)(x:az):Prop:= ∃A,aD w bi A x∧bU N x∧A.nl≤N∧A.ng≤N∧(∀b,A.foot bi b→F b)∧ ∀b,F b→b<w.heap.size
theorem aS.keep{w w':World}{F:Nat→Prop}{bi N:Nat}{x:az}(h:aS w F bi N x)(hsz:w.heap.size≤w'.heap.size)(hk: ∀b,F b→w'.heap[b]?=w.heap[b]?):aS w' F bi N x:=by obtain⟨A,h1,h2,h3,h4,h5,h6⟩:=h;exact⟨A,h1.keep hsz (fun b hb=>hk b (h5 b hb)),h2,h3,h4,h5,fun b hb=>Nat.lt_of_lt_of_le (h6 b hb) hsz⟩
theorem aS.up{w w':World}{F:Nat→Prop}{bi N:Nat}{x:az}(h:aS w F bi N x)(hb:Below w.heap.size w w'):aS w' F bi N x:=by obtain⟨A,h1,h2,h3,h4,h5,h6⟩:=h;exact aS.keep ⟨A,h1,h2,h3,h4,h5,h6⟩ hb.size fun b hf=>hb.block b (h6 b hf)
theorem aS.more{w:World}{F:Nat→Prop}{bi N M:Nat}{x:az}(h:aS w F bi N x)(hN:N≤M):aS w F bi M x:=by obtain⟨A,h1,h2,h3,h4,h5⟩:=h;exact⟨A,h1,h2.more hN,Nat.le_trans h3 hN,Nat.le_trans h4 hN,h5⟩
def uj(w:World)(F:Nat→Prop)(bi N:Nat)(x:az)(w':World):Prop:= ∃F',aS w' F' bi N x∧ai F w w'∧ ∀b,F' b→F b∨w.heap.size≤b
structure Im(w:World)(bi:Nat)(A:oN):Prop where
 c0:w.cell? ⟨bi,0,none⟩=some (.pointer (some ⟨A.bc,0,none⟩))
 c1:w.cell? ⟨bi,1,none⟩=some (.pointer (some ⟨A.bs,0,none⟩))
 c2:w.cell? ⟨bi,2,none⟩=some A.vt
 c3:w.cell? ⟨bi,3,none⟩=some A.vl
 c4:w.cell? ⟨bi,4,none⟩=some (.map (some A.bl))
 c5:w.cell? ⟨bi,5,none⟩=some (.map (some A.bg))
 f2:w.frozen? ⟨bi,2,none⟩=false
 f3:w.frozen? ⟨bi,3,none⟩=false
 f4:w.frozen? ⟨bi,4,none⟩=false
theorem aD.cells{w:World}{bi:Nat}{A:oN}{x:az}(h:aD w bi A x):Im w bi A:=by have key: ∀o,w.cell? ⟨bi,o,none⟩=_:=fun o=>cell_of_row w bi o _ _ (0,0) h.blk;exact⟨(key 0).trans rfl,(key 1).trans rfl,(key 2).trans rfl,(key 3).trans rfl,(key 4).trans rfl,(key 5).trans rfl,frozen_of_row w bi 2 _ _ h.blk,frozen_of_row w bi 3 _ _ h.blk,frozen_of_row w bi 4 _ _ h.blk⟩
theorem aU.form{w:World}{base:Nat}{v:Value}{l:List Ev}(h:aU w base v l): ∃B c,v=.slice B l.length c∧c≤maxLen:=by
 rcases h.2 with⟨e,h0⟩|⟨g,c,cur,e,_,_,_,hm,_⟩;·exact⟨none,0,by rw[e,h0],by unfold maxLen;omega⟩
 ·exact⟨_,_,e,hm⟩
theorem pI(w:World)(e:Ev):Calls Tryz.prog 138 #[e.agg] w fun r w'=>r=.returned (.agg #[.string ⟨e.src.toArray⟩,.int .i64 e.num])∧Below w.heap.size w w':=by unfold Ev.agg;go_enter Tryz.func138,Tryz.ntmps138;go_wp2;exact bodyPost_ret (v:=.agg #[.string ⟨e.src.toArray⟩,.int .i64 e.num]) (by simp[results,Tryz.results138,go_sem]) rfl ⟨rfl,((Below.refl _ _).alloc (Nat.le_refl _) _).alloc (by simp) _⟩
def Kb(x:az)(e:Ev)(w:World)(r:Ending)(w':World):Prop:=r=.returned (.tuple #[.int .i64 (x.verdict e),.bool (x.refuses e)])∧Below w.heap.size w w'
theorem yA(w:World)(F:Nat→Prop)(bi N:Nat)(x:az)(h:aS w F bi N x)(hN:N≤100000)(e:Ev)(hs:e.small)(hmx:aM w):Calls Tryz.prog 50 #[.pointer (some ⟨bi,0,none⟩),e.agg] w (Kb x e w):=by
 obtain⟨A,hM,hO,hnl,Bf,iF,nk⟩:=h;have HM:=qH hM;have HO:=qH hO;have dO:=qH hmx;have hlt:bi<w.heap.size:=hM.lt (.inl rfl);clear hM hO iF nk hmx;have HV:=qS (x.verdict e=if x.wrong e then 3 else if hadB x.had e.src e.num then 1 else 0) (rfl);have HR:=qS (x.refuses e=(x.wrong e||hadB x.had e.src e.num)) (rfl);have HW:=qS (x.wrong e=(!aB e||(decide (e.per∈x.gone)&&(e.kind !=14))||decide (1048576≤x.taken.length))) (rfl);go_enter Tryz.func50,Tryz.ntmps50;unfold Ev.agg;go_wp2_with fail;have bQ:Below w.heap.size w (w.alloc (aj e)):=(Below.refl _ _).alloc (Nat.le_refl _) _;have hin:=dK.new w e;have hsA:(w.alloc (aj e)).heap.size=w.heap.size+1:=by simp
 generalize w.alloc (aj e)=w0 at*;have hag:(Value.agg #[.string ⟨e.src.toArray⟩,.int .i64 e.num,.int .i64 e.at_,.int .i64 e.kind,.string ⟨e.per.toArray⟩,.string ⟨e.item.toArray⟩,.int .i64 e.val,.string ⟨e.text.toArray⟩])=e.agg:=rfl;rw[hag];refine(nU w0 e hs (dO.o.up bQ)).mono ?_;rintro r w1⟨rfl,hb1⟩;have hbw1:Below w.heap.size w w1:=bQ.trans (hb1.mono bQ.size);have lH:=qH (HM.o.up hbw1);obtain⟨c0,c1,c2,c3,c4,c5,f2,f3,f4⟩:=lH.o.cells;obtain⟨e0,e1,e2,e3,e4,e5,e6,e7⟩:=hin.below hb1 (by omega);clear hag hin hb1 bQ;cases l8:aB e;·have WV:=qS (x.wrong e=true) (by rw[HW.o,l8];rfl);clear l8;go_wp2;go_ret2;exact⟨by rw[HV.o,HR.o,WV.o];rfl,hbw1⟩
 have Gs:e.per.length≤maxLen:=by obtain⟨_,h2,_⟩:=hs;unfold maxLen;omega
 have hlk: ∀k,(Instr.lookup 77 (.map (some A.bg)) (.string ⟨e.per.toArray⟩) false).run Tryz.prog (w1.drewN k)=.ok (.bool (decide (e.per∈x.gone))) (w1.drewN k):=fun k=>(lH.o.gone.drewN k).look e.per Gs;have hl0:(Instr.lookup 77 (.map (some A.bg)) (.string ⟨e.per.toArray⟩) false).run Tryz.prog w1=.ok (.bool (decide (e.per∈x.gone))) w1:=lH.o.gone.look e.per Gs;have l9:=qH l8;clear l8 Gs;have HW2:=qS (x.wrong e=((decide (e.per∈x.gone)&&(e.kind !=14))||decide (1048576≤x.taken.length))) (by rw[HW.o,l9.o];simp);have ht20: ¬1048576≤x.taken.length:=by have:=HO.o.taken;omega
 have HW3:=qS (x.wrong e=(decide (e.per∈x.gone)&&(e.kind !=14))) (by rw[HW2.o,decide_eq_false ht20];simp);have TY:decide ((1048576:Int)≤(x.taken.length:Int))=false:=decide_eq_false (by omega);clear HW HW2 ht20;generalize decide (e.per∈x.gone)=g at*;obtain⟨B,c,uk,hcm⟩:=HM.o.taken.form;rw[uk]at c2;cases hg:g
 ·have Pn:=qS (x.wrong e=false) (by rw[HW3.o,hg];rfl);subst hg;go_wp2;go_quiet(fail);have hbq:Below w.heap.size w (w1.drewN nq):=below_drewN hbw1 nq;have Xw:=qH (HM.o.up hbq);have d1:(w1.drewN nq).cell? ⟨bi,1,none⟩=_:=c1;have d2:(w1.drewN nq).cell? ⟨bi,2,none⟩=_:=c2;have g0:(w1.drewN nq).cell? ⟨w.heap.size,0,none⟩=_:=e0;have g1:(w1.drewN nq).cell? ⟨w.heap.size,1,none⟩=_:=e1;clear hl0 hlk c0 c1 c2 c3 c4 c5 f2 f3 f4 e0 e1 e2 e3 e4 e5 e6 e7 hbw1;generalize w1.drewN nq=w2 at*;go_wp2;go_still_tail 8,(by kernel_rfl);change wpList _ _ _ _ _ (w2.drewN 1);have hbq2:Below w.heap.size w (w2.drewN 1):=below_drewN hbq 1;have SN:=qH (HM.o.up hbq2);clear d1 d2 g0 g1;generalize w2.drewN 1=w3 at*;go_wp2_with fail;refine(qY w3 A.G A.bs A.bh x.had A.V SN.o.had e.src hs.1 (by have:=HO.o.rows e.src;omega) e.num).mono ?_;rintro r w4⟨rfl,hb4⟩;have hb5:Below w.heap.size w w4:=hbq2.trans (hb4.mono hbq2.size);clear hb4;generalize hadB x.had e.src e.num=hd at*;cases hd;·go_wp2;go_ret2;exact⟨by rw[HV.o,HR.o,Pn.o];rfl,hb5⟩
  ·go_wp2;go_ret2;exact⟨by rw[HV.o,HR.o,Pn.o];rfl,hb5⟩
 ·subst hg;by_cases hk:e.kind=14
  ·have Pn:=qS (x.wrong e=false) (by rw[HW3.o,hk];rfl);have bk:(e.kind !=14)=false:=by simpa using hk
   clear hk;go_wp2;go_quiet(fail);have hbq:Below w.heap.size w (w1.drewN nq):=below_drewN hbw1 nq;have Xw:=qH (HM.o.up hbq);have d1:(w1.drewN nq).cell? ⟨bi,1,none⟩=_:=c1;have d2:(w1.drewN nq).cell? ⟨bi,2,none⟩=_:=c2;have g0:(w1.drewN nq).cell? ⟨w.heap.size,0,none⟩=_:=e0;have g1:(w1.drewN nq).cell? ⟨w.heap.size,1,none⟩=_:=e1;clear hl0 hlk c0 c1 c2 c3 c4 c5 f2 f3 f4 e0 e1 e2 e3 e4 e5 e6 e7 hbw1;generalize w1.drewN nq=w2 at*;go_wp2;go_still_tail 8,(by kernel_rfl);change wpList _ _ _ _ _ (w2.drewN 1);have hbq2:Below w.heap.size w (w2.drewN 1):=below_drewN hbq 1;have SN:=qH (HM.o.up hbq2);clear d1 d2 g0 g1;generalize w2.drewN 1=w3 at*;go_wp2_with fail;refine(qY w3 A.G A.bs A.bh x.had A.V SN.o.had e.src hs.1 (by have:=HO.o.rows e.src;omega) e.num).mono ?_;rintro r w4⟨rfl,hb4⟩;have hb5:Below w.heap.size w w4:=hbq2.trans (hb4.mono hbq2.size);clear hb4;generalize hadB x.had e.src e.num=hd at*;cases hd;·go_wp2;go_ret2;exact⟨by rw[HV.o,HR.o,Pn.o];rfl,hb5⟩
   ·go_wp2;go_ret2;exact⟨by rw[HV.o,HR.o,Pn.o];rfl,hb5⟩
  ·have WW:=qS (x.wrong e=true) (by rw[HW3.o];simpa using hk);have bk:(e.kind !=14)=true:=by simpa using hk
   clear hk;go_wp2;go_quiet(fail);go_wp2;go_ret2;exact⟨by rw[HV.o,HR.o,WW.o];rfl,below_drewN hbw1 _⟩
end Go.Proofs.YtladegonienapaaGreatDoor
