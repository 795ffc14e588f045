/-
  Layer 8: take.
-/
import Derived.DeepKeys4
import Derived.Test.YtbejfgmdkmddnaaGreatDoorVRSort1
import Derived.Test.YtbejfgmdkmddnaaGreatDoorVHadPut
set_option maxRecDepth 100000
set_option maxHeartbeats 16000000
namespace Go.Proofs.YtbejfgmdkmddnaaGreatDoor
open Go.RowKit Go.Maps Go.Sort
def idV(s:List UInt8)(n:Int):Value:=.agg #[.string ⟨s.toArray⟩,.int .i64 n]
def tL(s:List UInt8)(n:Int):Lit:=.string (keyBytes [.string s,.int .i64 n])
def FE(s:List UInt8)(n:Int):Prop:=s.length≤1000000000∧ -9223372036854775808≤n∧n≤9223372036854775807
theorem Sj:laidOutB Tryz.prog=true:=by kernel_rfl
theorem Vn:(102:TypeId)<Tryz.prog.types.size:=of_decide_eq_true (by kernel_rfl)
theorem Sd:(match Tryz.prog.underlying 102 with|some (.array _ _)|some (.struct _)=>true|_=>false)=true:=by rw[Tryz.underlying102]
theorem XW:Tryz.prog.keyTypeAt 2 102=true:=by kernel_rfl
theorem J7:Keyed Tryz.prog 102:=Keyed.of_law (deep_law_laid Sj (m:=2) (by omega) Vn XW Sd)
theorem Sg:Tryz.prog.keyType 102=true:=by kernel_rfl
theorem FD:Tryz.prog.cellsOf 102=2:=by kernel_rfl
theorem IA:Tryz.prog.cellsOf 9=1:=by kernel_rfl
theorem IB:Tryz.prog.cellsOf 3=1:=by kernel_rfl
theorem Si: ∃k,Tryz.prog.types.size=k+1:=⟨Tryz.prog.types.size-1,by kernel_rfl⟩
theorem yN(s:List UInt8)(n:Int)(h:FE s n):keyOf Tryz.prog 102 (idV s n)=some (tL s n):=by
 obtain⟨h1,h2,h3⟩:=h;obtain⟨k,hk⟩:=Si;have hs:(⟨s.toArray⟩:ByteArray).size≤maxLen:=by simp[ByteArray.size];unfold maxLen;omega
 have hw:(Lit.int .i64 n).wf=true:=by simp[Lit.wf,IntKind.min,IntKind.max,IntKind.bits,IntKind.signed];omega
 have X7: ∀d,Tryz.prog.keyLits (d+2) 102 [.string ⟨s.toArray⟩,.int .i64 n]=some [.string s,.int .i64 n]:=fun d=>by simp[Program.keyLits,Tryz.underlying102,Tryz.underlying9,Tryz.underlying3,FD,IA,IB,hs,hw]
 unfold keyOf idV tL;rw[Tryz.underlying102,hk];simp only[Sg,Value.formed,Tryz.underlying102,FD];simp[Value.cells,X7]
theorem Mo{s s':List UInt8}{n n':Int}(h:FE s n)(h':FE s' n')(e:tL s n=tL s' n'):s=s'∧n=n':=by have:=J7.inj (yN s n h) (by rw[e];exact yN s' n' h');unfold idV at this;simpa using this
def fP(w:World)(b n:Nat)(ks:List (List UInt8×Int)):Prop:= ∃D:DataW Unit,w.ownsMap Tryz.prog 102 (plainElem Tryz.prog 4) b n D∧Tidy D∧ ∀s k,FE s k→D.atKey (tL s k) (.lit (.bool false))=.lit (.bool (decide ((s,k)∈ks)))
theorem fP.made(w:World):fP (w.alloc (.map #[] 0)) w.heap.size 0 []:=⟨.map [],World.ownsMap_made _ _ _ _,tidy_empty,fun s k _=>by simp[DataW.atKey]⟩
theorem fP.lt{w:World}{b n:Nat}{ks:List (List UInt8×Int)}(h:fP w b n ks):b<w.heap.size:=by obtain⟨D,h1,_⟩:=h;exact h1.lt
theorem fP.block{w w':World}{b n:Nat}{ks:List (List UInt8×Int)}(h:fP w b n ks)(hb:w'.heap[b]?=w.heap[b]?):fP w' b n ks:=by obtain⟨D,⟨es,clock,h1,h2⟩,h3⟩:=h;exact⟨D,⟨es,clock,hb.trans h1,h2⟩,h3⟩
theorem fP.isMap{w:World}{b n:Nat}{ks:List (List UInt8×Int)}(h:fP w b n ks): ∃es clock,w.heap[b]?=some (.map es clock):=by obtain⟨D,⟨es,clock,h1,h2⟩,h3⟩:=h;exact⟨es,clock,h1⟩
theorem fQ.isMap{w:World}{b n:Nat}{ks:List (List UInt8)}(h:fQ w b n ks): ∃es clock,w.heap[b]?=some (.map es clock):=by obtain⟨D,⟨es,clock,h1,h2⟩,h3⟩:=h;exact⟨es,clock,h1⟩
theorem fP.look{w:World}{b n:Nat}{ks:List (List UInt8×Int)}(h:fP w b n ks)(s:List UInt8)(k:Int)(hk:FE s k):(Instr.lookup 81 (.map (some b)) (.agg #[.string ⟨s.toArray⟩,.int .i64 k]) false).run Tryz.prog w=.ok (.bool (decide ((s,k)∈ks))) w:=by obtain⟨D,h1,_,h3⟩:=h;obtain⟨v,ps,hr,hv⟩:=h1.lookup J7 Tryz.underlying81 (Uc w) (plainElem_bool (P:=Tryz.prog) Tryz.underlying4 false) (yN s k hk);unfold idV at hr;rw[hr];rw[h3 s k hk]at hv;rw[kU Tryz.underlying4 hv]
theorem fP.put{w:World}{b n:Nat}{ks:List (List UInt8×Int)}(h:fP w b n ks)(hn:n<maxLen)(s:List UInt8)(k:Int)(hk:FE s k): ∃w',(Instr.mapUpdate 81 (.map (some b)) (.agg #[.string ⟨s.toArray⟩,.int .i64 k]) (.bool true)).run Tryz.prog w=.ok () w'∧fP w' b (n+1) ((s,k)::ks)∧w.grownBy w' (some b):=by
 obtain⟨D,h1,h2,h3⟩:=h;obtain⟨w',hr,r1,r2⟩:=h1.update J7 Tryz.underlying81 hn (yN s k hk) (plainElem_bool (P:=Tryz.prog) Tryz.underlying4 true);have hkl:WideAt.IsKeyLit (tL s k):=J7.key (yN s k hk);refine⟨w',hr,⟨D.put (tL s k) (.lit (.bool true)),r1,h2.put hkl _,fun s' k' hk'=>?_⟩,r2⟩;by_cases e:(s',k')=(s,k);·cases e;rw[atKey_put_same h2.isMap hkl];simp
 ·have hne:tL s' k'≠tL s k:=fun h=>e (by obtain⟨rfl,rfl⟩:=Mo hk' hk h;rfl);rw[atKey_put_other hne,h3 s' k' hk'];have:decide ((s',k')∈(s,k)::ks)=decide ((s',k')∈ks):=by simp[e]
  rw[this]
theorem sF{ops:Array Oper}{rest:List Oper}{o:Oper}{a:Act}{Q:Exit→Act→World→Prop}{w:World}(hg:o.guard=none)(m x v:Operand)(hop:o.op=Op.mapUpdate 81 m x v)(b n:Nat)(ks:List (List UInt8×Int))(hm:a.eval m=.map (some b))(hown:fP w b n ks)(hn:n<maxLen)(s:List UInt8)(k:Int)(hx:a.eval x=.agg #[.string ⟨s.toArray⟩,.int .i64 k])(hk:FE s k)(hv:a.eval v=.bool true)(h: ∀w',fP w' b (n+1) ((s,k)::ks)→w.grownBy w' (some b)→wpList Tryz.prog ops Q rest (a.put o.dst undef) w'):wpList Tryz.prog ops Q (o::rest) a w:=by refine wpList_plain hg fun K hK=>?_;obtain⟨w',hr,h1,h2⟩:=hown.put hn s k hk;unfold Oper.wp;simp[execOp,hop,hm,hx,hv,hr,Result.andThen];exact hK _ _ (h w' h1 h2)
structure uy where
 bc:Nat
 bm:Nat
 bs:Nat
 bh:Nat
 G:Nat→Prop
 V:List UInt8→Value
 vt:Value
 vl:Value
 bl:Nat
 nl:Nat
 bg:Nat
 ng:Nat
abbrev jZ(A:uy):Obj:=.cells #[.pointer (some ⟨A.bc,0,none⟩),.pointer (some ⟨A.bs,0,none⟩),A.vt,A.vl,.map (some A.bl),.map (some A.bg)] 84
theorem aP.typ{w:World}{base:Nat}{v:Value}{l:List Ev}(h:aP w base v l){b:Nat}(hb:v.ownBlock=some b): ∃cs,w.heap[b]?=some (.cells cs 31 (0,0)):=by
 rcases h.2 with⟨rfl,_⟩|⟨g,cap,cur,rfl,_,hg,_⟩;·cases hb
 ·injection hb with hb;subst hb;exact⟨cur,hg⟩
theorem aP.keep{w w':World}{base:Nat}{v:Value}{l:List Ev}(h:aP w base v l)(hb: ∀b,v.ownBlock=some b→w'.heap[b]?=w.heap[b]?):aP w' base v l:=by
 refine⟨h.1,?_⟩;rcases h.2 with h'|⟨g,cap,cur,rfl,hb',hg,hr⟩;·exact .inl h'
 ·exact .inr ⟨g,cap,cur,rfl,hb',(hb g rfl).trans hg,hr⟩
theorem aP.lt{w:World}{base:Nat}{v:Value}{l:List Ev}(h:aP w base v l){b:Nat}(hb:v.ownBlock=some b):b<w.heap.size:=(World.ownsRow.lt h b hb).2
theorem aP.low{w:World}{base:Nat}{v:Value}{l:List Ev}(h:aP w base v l):aP w 0 v l:=by
 refine⟨h.1,?_⟩;rcases h.2 with h'|⟨g,cap,cur,e,_,r⟩;·exact .inl h'
 ·exact .inr ⟨g,cap,cur,e,Nat.zero_le _,r⟩
theorem jd{w:World}{a b:Nat}{c1 c2:Array Value}{t1 t2:TypeId}{f1 f2:Nat×Nat}(h1:w.heap[a]?=some (.cells c1 t1 f1))(h2:w.heap[b]?=some (.cells c2 t2 f2))(h:t1≠t2):a≠b:=by rintro rfl;rw[h1]at h2;injection h2 with h2;injection h2 with _ h2;exact h h2
theorem jY{w:World}{a b:Nat}{c1:Array Value}{t1:TypeId}{f1:Nat×Nat}{es:Array MapEntry}{cl:Nat}(h1:w.heap[a]?=some (.cells c1 t1 f1))(h2:w.heap[b]?=some (.map es cl)):a≠b:=by rintro rfl;rw[h1]at h2;cases h2
theorem cO.uU{w:World}{G:Nat→Prop}{bs bm:Nat}{m:eZ}{V:List UInt8→Value}(h:cO w G bs bm m V){b:Nat}{cs:Array Value}{t:TypeId}{f:Nat×Nat}(hb:w.heap[b]?=some (.cells cs t f))(h1:t≠139)(h2:t≠173): ¬G b:=by
 intro hg;obtain⟨es,cl,hm⟩:=h.map.isMap;rcases h.typ b hg with e|e|⟨c,hc⟩;·exact jd hb h.blk h1 e
 ·exact jY hb hm e
 ·exact jd hb hc h2 rfl
structure aL(w:World)(bi:Nat)(A:uy)(x:ay):Prop where
 blk:w.heap[bi]?=some (jZ A)
 au:aH w A.bc A.bm x.au
 had:cO w A.G A.bs A.bh x.had A.V
 taken:aP w 0 A.vt x.taken
 late:aP w 0 A.vl x.late
 bu:fP w A.bl A.nl (x.late.map bB)
 gone:fQ w A.bg A.ng x.gone
 ml:A.bm≠A.bl
 mg:A.bm≠A.bg
 lg:A.bl≠A.bg
 gm: ¬A.G A.bm
 gl: ¬A.G A.bl
 gg: ¬A.G A.bg
 tl: ∀b,A.vt.ownBlock=some b→A.vl.ownBlock≠some b
def uy.foot(A:uy)(bi b:Nat):Prop:=b=bi∨b=A.bc∨b=A.bm∨A.G b∨A.vt.ownBlock=some b∨A.vl.ownBlock=some b∨b=A.bl∨b=A.bg
section
variable{w w':World}{bi:Nat}{A:uy}{x:ay}
theorem aL.lt(h:aL w bi A x){b:Nat}(hb:A.foot bi b):b<w.heap.size:=by
 rcases hb with rfl|rfl|rfl|hb|hb|hb|rfl|rfl;·exact aA h.blk
 ·exact h.au.lt
 ·exact h.au.map.lt
 ·exact h.had.lt b hb
 ·exact h.taken.lt hb
 ·exact h.late.lt hb
 ·exact h.bu.lt
 ·exact h.gone.lt
theorem aL.keep(h:aL w bi A x)(hsz:w.heap.size≤w'.heap.size)(hk: ∀b,A.foot bi b→w'.heap[b]?=w.heap[b]?):aL w' bi A x:={h with blk:=(hk _ (.inl rfl)).trans h.blk,au:=h.au.keep (hk _ (.inr (.inl rfl))) (hk _ (.inr (.inr (.inl rfl)))),had:=h.had.keep hsz fun b hb=>hk b (.inr (.inr (.inr (.inl hb)))),taken:=h.taken.keep fun b hb=>hk b (.inr (.inr (.inr (.inr (.inl hb))))),late:=h.late.keep fun b hb=>hk b (.inr (.inr (.inr (.inr (.inr (.inl hb)))))),bu:=h.bu.block (hk _ (.inr (.inr (.inr (.inr (.inr (.inr (.inl rfl)))))))),gone:=h.gone.block (hk _ (.inr (.inr (.inr (.inr (.inr (.inr (.inr rfl))))))))}
theorem aL.up(h:aL w bi A x)(hb:Below w.heap.size w w'):aL w' bi A x:=h.keep hb.size fun b hf=>hb.block b (h.lt hf)
theorem aL.ic(h:aL w bi A x):bi≠A.bc:=jd h.blk h.au.blk (by decide)
theorem aL.im(h:aL w bi A x):bi≠A.bm:=by obtain⟨es,cl,hm⟩:=h.au.map.isMap;exact jY h.blk hm
theorem aL.il(h:aL w bi A x):bi≠A.bl:=by obtain⟨es,cl,hm⟩:=h.bu.isMap;exact jY h.blk hm
theorem aL.ig(h:aL w bi A x):bi≠A.bg:=by obtain⟨es,cl,hm⟩:=h.gone.isMap;exact jY h.blk hm
theorem aL.iG(h:aL w bi A x): ¬A.G bi:=h.had.uU h.blk (by decide) (by decide)
theorem aL.cG(h:aL w bi A x): ¬A.G A.bc:=h.had.uU h.au.blk (by decide) (by decide)
theorem aL.cl(h:aL w bi A x):A.bc≠A.bl:=by obtain⟨es,cl,hm⟩:=h.bu.isMap;exact jY h.au.blk hm
theorem aL.cg(h:aL w bi A x):A.bc≠A.bg:=by obtain⟨es,cl,hm⟩:=h.gone.isMap;exact jY h.au.blk hm
theorem aL.ev(h:aL w bi A x){b:Nat}(hb: ∃cs,w.heap[b]?=some (.cells cs 31 (0,0))):b≠bi∧b≠A.bc∧b≠A.bm∧ ¬A.G b∧b≠A.bl∧b≠A.bg:=by obtain⟨cs,hc⟩:=hb;obtain⟨e1,c1,m1⟩:=h.au.map.isMap;obtain⟨e2,c2,m2⟩:=h.bu.isMap;obtain⟨e3,c3,m3⟩:=h.gone.isMap;exact⟨jd hc h.blk (by decide),jd hc h.au.blk (by decide),jY hc m1,h.had.uU hc (by decide) (by decide),jY hc m2,jY hc m3⟩
theorem aL.mF(h:aL w bi A x){c:aZ}(hc:aH w' A.bc A.bm c)(hk:ak (fun b=>b=A.bc∨b=A.bm) w w'):aL w' bi A {x with au:=c}:=by have keep: ∀b,A.foot bi b→b≠A.bc→b≠A.bm→w'.heap[b]?=w.heap[b]?:=fun b hb h1 h2=>hk.block b (h.lt hb) (fun e=>e.elim h1 h2);exact{h with blk:=(keep _ (.inl rfl) h.ic h.im).trans h.blk,au:=hc,had:=h.had.keep hk.size fun b hb=>keep b (.inr (.inr (.inr (.inl hb)))) (fun e=>h.cG (e▸hb)) (fun e=>h.gm (e▸hb)),taken:=h.taken.keep fun b hb=>keep b (.inr (.inr (.inr (.inr (.inl hb))))) (h.ev (h.taken.typ hb)).2.1 (h.ev (h.taken.typ hb)).2.2.1,late:=h.late.keep fun b hb=>keep b (.inr (.inr (.inr (.inr (.inr (.inl hb)))))) (h.ev (h.late.typ hb)).2.1 (h.ev (h.late.typ hb)).2.2.1,bu:=h.bu.block (keep _ (.inr (.inr (.inr (.inr (.inr (.inr (.inl rfl))))))) (Ne.symm h.cl) (Ne.symm h.ml)),gone:=h.gone.block (keep _ (.inr (.inr (.inr (.inr (.inr (.inr (.inr rfl))))))) (Ne.symm h.cg) (Ne.symm h.mg))}
theorem aL.Va(h:aL w bi A x){G':Nat→Prop}{V':List UInt8→Value}{m:eZ}(hh:cO w' G' A.bs A.bh m V')(hk:ak A.G w w')(hG: ∀b,G' b→A.G b∨w.heap.size≤b):aL w' bi {A with G:=G',V:=V'} {x with had:=m}:=by
 have keep: ∀b,A.foot bi b→ ¬A.G b→w'.heap[b]?=w.heap[b]?:=fun b hb h1=>hk.block b (h.lt hb) h1;have no: ∀b,A.foot bi b→ ¬A.G b→ ¬G' b:=fun b hb h1 hg=>by
  rcases hG b hg with h'|h';·exact h1 h'
  ·have:=h.lt hb;omega
 exact{h with blk:=(keep _ (.inl rfl) h.iG).trans h.blk,au:=h.au.keep (keep _ (.inr (.inl rfl)) h.cG) (keep _ (.inr (.inr (.inl rfl))) h.gm),had:=hh,taken:=h.taken.keep fun b hb=>keep b (.inr (.inr (.inr (.inr (.inl hb))))) (h.ev (h.taken.typ hb)).2.2.2.1,late:=h.late.keep fun b hb=>keep b (.inr (.inr (.inr (.inr (.inr (.inl hb)))))) (h.ev (h.late.typ hb)).2.2.2.1,bu:=h.bu.block (keep _ (.inr (.inr (.inr (.inr (.inr (.inr (.inl rfl))))))) h.gl),gone:=h.gone.block (keep _ (.inr (.inr (.inr (.inr (.inr (.inr (.inr rfl))))))) h.gg),gm:=no _ (.inr (.inr (.inl rfl))) h.gm,gl:=no _ (.inr (.inr (.inr (.inr (.inr (.inr (.inl rfl))))))) h.gl,gg:=no _ (.inr (.inr (.inr (.inr (.inr (.inr (.inr rfl))))))) h.gg}
theorem aL.NS(h:aL w bi A x){w1:World}{v:Value}{l:List Ev}(hg:w.grownBy w1 A.vt.ownBlock)(ho:aP w1 0 v l)(hv:v.ownBlock=A.vt.ownBlock∨ ∃k,v.ownBlock=some k∧w.heap.size≤k):aL (w1.setCell ⟨bi,2,none⟩ v) bi {A with vt:=v} {x with taken:=l}:=by
 have hbi:bi<w.heap.size:=h.lt (.inl rfl);have keep1: ∀b,A.foot bi b→A.vt.ownBlock≠some b→w1.heap[b]?=w.heap[b]?:=fun b hb h1=>hg.block b (h.lt hb) (Ne.symm h1);have keep: ∀b,A.foot bi b→b≠bi→A.vt.ownBlock≠some b→(w1.setCell ⟨bi,2,none⟩ v).heap[b]?=w.heap[b]?:=fun b hb h0 h1=>(Below.heap_setCell w1 ⟨bi,2,none⟩ v b h0).trans (keep1 b hb h1);have nt: ∀b,(∀b',(∃cs,w.heap[b']?=some (.cells cs 31 (0,0)))→b'≠b)→A.vt.ownBlock≠some b:=fun b hb e=>hb b (h.taken.typ e) rfl;have hb1:w1.heap[bi]?=some (jZ A):=(keep1 bi (.inl rfl) (nt _ fun b' hb'=>(h.ev hb').1)).trans h.blk;exact{h with
  blk:=af hb1
  au:=h.au.keep (keep _ (.inr (.inl rfl)) (Ne.symm h.ic) (nt _ fun b' hb'=>(h.ev hb').2.1)) (keep _ (.inr (.inr (.inl rfl))) (Ne.symm h.im) (nt _ fun b' hb'=>(h.ev hb').2.2.1))
  had:=h.had.keep (by simpa[World.setCell]using hg.size) fun b hb=>keep b (.inr (.inr (.inr (.inl hb)))) (fun e=>h.iG (e▸hb)) (fun e=>(h.ev (h.taken.typ e)).2.2.2.1 hb)
  taken:=ho.keep fun b hb=>by refine Below.heap_setCell w1 ⟨bi,2,none⟩ v b ?_;obtain⟨cs,hc⟩:=ho.typ hb;exact jd hc hb1 (by decide)
  late:=h.late.keep fun b hb=>keep b (.inr (.inr (.inr (.inr (.inr (.inl hb)))))) (h.ev (h.late.typ hb)).1 (fun e=>h.tl b e hb)
  bu:=h.bu.block (keep _ (.inr (.inr (.inr (.inr (.inr (.inr (.inl rfl))))))) (Ne.symm h.il) (nt _ fun b' hb'=>(h.ev hb').2.2.2.2.1))
  gone:=h.gone.block (keep _ (.inr (.inr (.inr (.inr (.inr (.inr (.inr rfl))))))) (Ne.symm h.ig) (nt _ fun b' hb'=>(h.ev hb').2.2.2.2.2))
  tl:=fun b hb=>by
   rcases hv with e|⟨k,hk,hkl⟩;·exact h.tl b (e▸hb)
   ·intro hl;have:=h.late.lt hl;have:v.ownBlock=some b:=hb;rw[hk]at this;injection this with this;omega}
theorem fP.congr{w:World}{b n:Nat}{ks ks':List (List UInt8×Int)}(h:fP w b n ks)(he: ∀k,k∈ks↔k∈ks'):fP w b n ks':=by obtain⟨D,h1,h2,h3⟩:=h;exact⟨D,h1,h2,fun s k hk=>by rw[h3 s k hk,decide_eq_decide.2 (he (s,k))]⟩
theorem aL.RD(h:aL w bi A x){w1 w2:World}{v:Value}{e:Ev}(hs:fP w1 A.bl (A.nl+1) (bB e::x.late.map bB))(hg1:w.grownBy w1 (some A.bl))(hg:w1.grownBy w2 A.vl.ownBlock)(ho:aP w2 0 v (x.late++[e]))(hv:v.ownBlock=A.vl.ownBlock∨ ∃k,v.ownBlock=some k∧w1.heap.size≤k):aL (w2.setCell ⟨bi,3,none⟩ v) bi {A with vl:=v,nl:=A.nl+1} {x with late:=x.late++[e]}:=by
 have hbi:bi<w.heap.size:=h.lt (.inl rfl);have keep2: ∀b,A.foot bi b→b≠A.bl→A.vl.ownBlock≠some b→w2.heap[b]?=w.heap[b]?:=fun b hb h1 h2=>(hg.block b (Nat.lt_of_lt_of_le (h.lt hb) hg1.size) (Ne.symm h2)).trans (hg1.block b (h.lt hb) (fun e=>h1 (by injection e)));have keep: ∀b,A.foot bi b→b≠bi→b≠A.bl→A.vl.ownBlock≠some b→(w2.setCell ⟨bi,3,none⟩ v).heap[b]?=w.heap[b]?:=fun b hb h0 h1 h2=>(Below.heap_setCell w2 ⟨bi,3,none⟩ v b h0).trans (keep2 b hb h1 h2);have nt: ∀b,(∀b',(∃cs,w.heap[b']?=some (.cells cs 31 (0,0)))→b'≠b)→A.vl.ownBlock≠some b:=fun b hb e=>hb b (h.late.typ e) rfl;have hb1:w2.heap[bi]?=some (jZ A):=(keep2 bi (.inl rfl) h.il (nt _ fun b' hb'=>(h.ev hb').1)).trans h.blk;exact{h with
  blk:=af hb1
  au:=h.au.keep (keep _ (.inr (.inl rfl)) (Ne.symm h.ic) h.cl (nt _ fun b' hb'=>(h.ev hb').2.1)) (keep _ (.inr (.inr (.inl rfl))) (Ne.symm h.im) h.ml (nt _ fun b' hb'=>(h.ev hb').2.2.1))
  had:=h.had.keep (by have:=hg1.size;have:=hg.size;simp[World.setCell];omega) fun b hb=>keep b (.inr (.inr (.inr (.inl hb)))) (fun e=>h.iG (e▸hb)) (fun e=>h.gl (e▸hb)) (fun e=>(h.ev (h.late.typ e)).2.2.2.1 hb)
  taken:=h.taken.keep fun b hb=>keep b (.inr (.inr (.inr (.inr (.inl hb))))) (h.ev (h.taken.typ hb)).1 (h.ev (h.taken.typ hb)).2.2.2.2.1 (h.tl b hb)
  late:=ho.keep fun b hb=>by refine Below.heap_setCell w2 ⟨bi,3,none⟩ v b ?_;obtain⟨cs,hc⟩:=ho.typ hb;exact jd hc hb1 (by decide)
  bu:=by refine fP.congr (ks:=bB e::x.late.map bB) (hs.block ?_) (fun k=>by simp;exact Or.comm);rw[Below.heap_setCell w2 ⟨bi,3,none⟩ v A.bl (Ne.symm h.il)];exact hg.block A.bl (Nat.lt_of_lt_of_le h.bu.lt hg1.size) (fun e=>(h.ev (h.late.typ e.symm)).2.2.2.2.1 rfl)
  gone:=h.gone.block (keep _ (.inr (.inr (.inr (.inr (.inr (.inr (.inr rfl))))))) (Ne.symm h.ig) (Ne.symm h.lg) (nt _ fun b' hb'=>(h.ev hb').2.2.2.2.2))
  tl:=fun b hb hl=>by
   rcases hv with e|⟨k,hk,hkl⟩;·exact h.tl b hb (e▸hl)
   ·have h1:=h.taken.lt hb;have h2:v.ownBlock=some b:=hl;have:=hg1.size;rw[hk]at h2;injection h2 with h2;omega}
theorem aL.RF(h:aL w bi A x){p:List UInt8}{n:Nat}(hs:fQ w' A.bg n (p::x.gone))(hg:w.grownBy w' (some A.bg)):aL w' bi {A with ng:=n} {x with gone:=p::x.gone}:=by have keep: ∀b,A.foot bi b→b≠A.bg→w'.heap[b]?=w.heap[b]?:=fun b hb h1=>hg.block b (h.lt hb) (fun e=>h1 (by injection e));exact{h with blk:=(keep _ (.inl rfl) h.ig).trans h.blk,au:=h.au.keep (keep _ (.inr (.inl rfl)) h.cg) (keep _ (.inr (.inr (.inl rfl))) h.mg),had:=h.had.keep hg.size fun b hb=>keep b (.inr (.inr (.inr (.inl hb)))) (fun e=>h.gg (e▸hb)),taken:=h.taken.keep fun b hb=>keep b (.inr (.inr (.inr (.inr (.inl hb))))) (h.ev (h.taken.typ hb)).2.2.2.2.2,late:=h.late.keep fun b hb=>keep b (.inr (.inr (.inr (.inr (.inr (.inl hb)))))) (h.ev (h.late.typ hb)).2.2.2.2.2,bu:=h.bu.block (keep _ (.inr (.inr (.inr (.inr (.inr (.inr (.inl rfl))))))) h.lg),gone:=hs}
theorem aL.RG(h:aL w bi A x){vt vl:Value}{bl nl:Nat}{t l:List Ev}(hk:ak (fun b=>b=bi) w w')(hb:w'.heap[bi]?=some (jZ {A with vt:=vt,vl:=vl,bl:=bl,nl:=nl}))(ht:aP w' 0 vt t)(hl:aP w' 0 vl l)(hs:fP w' bl nl (l.map bB))(_abL: ∀b,vt.ownBlock=some b→w.heap.size≤b)(_abN: ∀b,vl.ownBlock=some b→w.heap.size≤b)(hbl:w.heap.size≤bl)(htl: ∀b,vt.ownBlock=some b→vl.ownBlock≠some b):aL w' bi {A with vt:=vt,vl:=vl,bl:=bl,nl:=nl} {x with taken:=t,late:=l}:=by have keep: ∀b,A.foot bi b→b≠bi→w'.heap[b]?=w.heap[b]?:=fun b hb h1=>hk.block b (h.lt hb) h1;exact{blk:=hb,au:=h.au.keep (keep _ (.inr (.inl rfl)) (Ne.symm h.ic)) (keep _ (.inr (.inr (.inl rfl))) (Ne.symm h.im)),had:=h.had.keep hk.size fun b hb=>keep b (.inr (.inr (.inr (.inl hb)))) (fun e=>h.iG (e▸hb)),taken:=ht,late:=hl,bu:=hs,gone:=h.gone.block (keep _ (.inr (.inr (.inr (.inr (.inr (.inr (.inr rfl))))))) (Ne.symm h.ig)),ml:=fun e=>by have:=h.au.map.lt;have e':A.bm=bl:=e;omega,mg:=h.mg,lg:=fun e=>by have:=h.gone.lt;have e':bl=A.bg:=e;omega,gm:=h.gm,gl:=fun e=>by have:=h.had.lt _ e;have e':bl<w.heap.size:=this;omega,gg:=h.gg,tl:=htl}
end
def aU(w:World)(F:Nat→Prop)(bi N:Nat)(x:ay):Prop:= ∃A,aL w bi A x∧dR N x∧A.nl≤N∧A.ng≤N∧(∀b,A.foot bi b→F b)∧ ∀b,F b→b<w.heap.size
theorem aU.keep{w w':World}{F:Nat→Prop}{bi N:Nat}{x:ay}(h:aU w F bi N x)(hsz:w.heap.size≤w'.heap.size)(hk: ∀b,F b→w'.heap[b]?=w.heap[b]?):aU w' F bi N x:=by obtain⟨A,h1,h2,h3,h4,h5,h6⟩:=h;exact⟨A,h1.keep hsz (fun b hb=>hk b (h5 b hb)),h2,h3,h4,h5,fun b hb=>Nat.lt_of_lt_of_le (h6 b hb) hsz⟩
theorem aU.up{w w':World}{F:Nat→Prop}{bi N:Nat}{x:ay}(h:aU w F bi N x)(hb:Below w.heap.size w w'):aU w' F bi N x:=by obtain⟨A,h1,h2,h3,h4,h5,h6⟩:=h;exact aU.keep ⟨A,h1,h2,h3,h4,h5,h6⟩ hb.size fun b hf=>hb.block b (h6 b hf)
theorem aU.more{w:World}{F:Nat→Prop}{bi N M:Nat}{x:ay}(h:aU w F bi N x)(hN:N≤M):aU w F bi M x:=by obtain⟨A,h1,h2,h3,h4,h5⟩:=h;exact⟨A,h1,h2.more hN,Nat.le_trans h3 hN,Nat.le_trans h4 hN,h5⟩
def dP(w:World)(F:Nat→Prop)(bi N:Nat)(x:ay)(w':World):Prop:= ∃F',aU w' F' bi N x∧ak F w w'∧ ∀b,F' b→F b∨w.heap.size≤b
structure Qq(w:World)(bi:Nat)(A:uy):Prop where
 c0:w.cell? ⟨bi,0,none⟩=some (.pointer (some ⟨A.bc,0,none⟩))
 c1:w.cell? ⟨bi,1,none⟩=some (.pointer (some ⟨A.bs,0,none⟩))
 c2:w.cell? ⟨bi,2,none⟩=some A.vt
 c3:w.cell? ⟨bi,3,none⟩=some A.vl
 c4:w.cell? ⟨bi,4,none⟩=some (.map (some A.bl))
 c5:w.cell? ⟨bi,5,none⟩=some (.map (some A.bg))
 f2:w.frozen? ⟨bi,2,none⟩=false
 f3:w.frozen? ⟨bi,3,none⟩=false
 f4:w.frozen? ⟨bi,4,none⟩=false
theorem aL.cells{w:World}{bi:Nat}{A:uy}{x:ay}(h:aL w bi A x):Qq w bi A:=by have key: ∀o,w.cell? ⟨bi,o,none⟩=_:=fun o=>cell_of_row w bi o _ _ (0,0) h.blk;exact⟨(key 0).trans rfl,(key 1).trans rfl,(key 2).trans rfl,(key 3).trans rfl,(key 4).trans rfl,(key 5).trans rfl,frozen_of_row w bi 2 _ _ h.blk,frozen_of_row w bi 3 _ _ h.blk,frozen_of_row w bi 4 _ _ h.blk⟩
theorem aP.form{w:World}{base:Nat}{v:Value}{l:List Ev}(h:aP w base v l): ∃B c,v=.slice B l.length c∧c≤maxLen:=by
 rcases h.2 with⟨e,h0⟩|⟨g,c,cur,e,_,_,_,hm,_⟩;·exact⟨none,0,by rw[e,h0],by unfold maxLen;omega⟩
 ·exact⟨_,_,e,hm⟩
theorem qo(w:World)(e:Ev):Calls Tryz.prog 47 #[e.agg] w fun r w'=>r=.returned (.agg #[.string ⟨e.src.toArray⟩,.int .i64 e.num])∧Below w.heap.size w w':=by unfold Ev.agg;go_enter Tryz.func47,Tryz.ntmps47;go_wp2;exact bodyPost_ret (v:=.agg #[.string ⟨e.src.toArray⟩,.int .i64 e.num]) (by simp[results,Tryz.results47,go_sem]) rfl ⟨rfl,((Below.refl _ _).alloc (Nat.le_refl _) _).alloc (by simp) _⟩
def Ti(x:ay)(e:Ev)(w:World)(r:Ending)(w':World):Prop:=r=.returned (.tuple #[.int .i64 (x.verdict e),.bool (x.refuses e)])∧Below w.heap.size w w'
theorem wB(w:World)(F:Nat→Prop)(bi N:Nat)(x:ay)(h:aU w F bi N x)(hN:N≤100000)(e:Ev)(hs:e.small)(hmx:bf w):Calls Tryz.prog 36 #[.pointer (some ⟨bi,0,none⟩),e.agg] w (Ti x e w):=by
 obtain⟨A,hM,hO,hnl,Bq,jq,oD⟩:=h;have HM:=qH hM;have HO:=qH hO;have jS:=qH hmx;have hlt:bi<w.heap.size:=hM.lt (.inl rfl);clear hM hO jq oD hmx;have HV:=qS (x.verdict e=if x.wrong e then 3 else if hadB x.had e.src e.num then 1 else 0) (rfl);have HR:=qS (x.refuses e=(x.wrong e||hadB x.had e.src e.num)) (rfl);have HW:=qS (x.wrong e=(!bA e||(decide (e.per∈x.gone)&&(e.kind !=14))||decide (1048576≤x.taken.length))) (rfl);go_enter Tryz.func36,Tryz.ntmps36;unfold Ev.agg;go_wp2_with fail;have bJ:Below w.heap.size w (w.alloc (ai e)):=(Below.refl _ _).alloc (Nat.le_refl _) _;have hin:=dO.new w e;have hsA:(w.alloc (ai e)).heap.size=w.heap.size+1:=by simp
 generalize w.alloc (ai e)=w0 at*;have hag:(Value.agg #[.string ⟨e.src.toArray⟩,.int .i64 e.num,.int .i64 e.at_,.int .i64 e.kind,.string ⟨e.per.toArray⟩,.string ⟨e.item.toArray⟩,.int .i64 e.val,.string ⟨e.text.toArray⟩])=e.agg:=rfl;rw[hag];refine(tH w0 e hs (jS.o.up bJ)).mono ?_;rintro r w1⟨rfl,hb1⟩;have hbw1:Below w.heap.size w w1:=bJ.trans (hb1.mono bJ.size);have oH:=qH (HM.o.up hbw1);obtain⟨c0,c1,c2,c3,c4,c5,f2,f3,f4⟩:=oH.o.cells;obtain⟨e0,e1,e2,e3,e4,e5,e6,e7⟩:=hin.below hb1 (by omega);clear hag hin hb1 bJ;cases nV:bA e;·have HWW:=qS (x.wrong e=true) (by rw[HW.o,nV];rfl);clear nV;go_wp2;go_ret2;exact⟨by rw[HV.o,HR.o,HWW.o];rfl,hbw1⟩
 have O9:e.per.length≤maxLen:=by obtain⟨_,h2,_⟩:=hs;unfold maxLen;omega
 have hlk: ∀k,(Instr.lookup 82 (.map (some A.bg)) (.string ⟨e.per.toArray⟩) false).run Tryz.prog (w1.drewN k)=.ok (.bool (decide (e.per∈x.gone))) (w1.drewN k):=fun k=>(oH.o.gone.drewN k).look e.per O9;have hl0:(Instr.lookup 82 (.map (some A.bg)) (.string ⟨e.per.toArray⟩) false).run Tryz.prog w1=.ok (.bool (decide (e.per∈x.gone))) w1:=oH.o.gone.look e.per O9;have jT:=qH nV;clear nV O9;have HW2:=qS (x.wrong e=((decide (e.per∈x.gone)&&(e.kind !=14))||decide (1048576≤x.taken.length))) (by rw[HW.o,jT.o];simp);have ht20: ¬1048576≤x.taken.length:=by have:=HO.o.taken;omega
 have HW3:=qS (x.wrong e=(decide (e.per∈x.gone)&&(e.kind !=14))) (by rw[HW2.o,decide_eq_false ht20];simp);have abq:decide ((1048576:Int)≤(x.taken.length:Int))=false:=decide_eq_false (by omega);clear HW HW2 ht20;generalize decide (e.per∈x.gone)=g at*;obtain⟨B,c,wR,hcm⟩:=HM.o.taken.form;rw[wR]at c2;cases hg:g
 ·have YZ:=qS (x.wrong e=false) (by rw[HW3.o,hg];rfl);subst hg;go_wp2;go_quiet(fail);have hbq:Below w.heap.size w (w1.drewN nq):=below_drewN hbw1 nq;have HMq:=qH (HM.o.up hbq);have d1:(w1.drewN nq).cell? ⟨bi,1,none⟩=_:=c1;have d2:(w1.drewN nq).cell? ⟨bi,2,none⟩=_:=c2;have g0:(w1.drewN nq).cell? ⟨w.heap.size,0,none⟩=_:=e0;have g1:(w1.drewN nq).cell? ⟨w.heap.size,1,none⟩=_:=e1;clear hl0 hlk c0 c1 c2 c3 c4 c5 f2 f3 f4 e0 e1 e2 e3 e4 e5 e6 e7 hbw1;generalize w1.drewN nq=w2 at*;go_wp2;go_still_tail 8,(by kernel_rfl);change wpList _ _ _ _ _ (w2.drewN 1);have hbq2:Below w.heap.size w (w2.drewN 1):=below_drewN hbq 1;have HMr:=qH (HM.o.up hbq2);clear d1 d2 g0 g1;generalize w2.drewN 1=w3 at*;go_wp2_with fail;refine(xC w3 A.G A.bs A.bh x.had A.V HMr.o.had e.src hs.1 (by have:=HO.o.rows e.src;omega) e.num).mono ?_;rintro r w4⟨rfl,hb4⟩;have hb5:Below w.heap.size w w4:=hbq2.trans (hb4.mono hbq2.size);clear hb4;generalize hadB x.had e.src e.num=hd at*;cases hd;·go_wp2;go_ret2;exact⟨by rw[HV.o,HR.o,YZ.o];rfl,hb5⟩
  ·go_wp2;go_ret2;exact⟨by rw[HV.o,HR.o,YZ.o];rfl,hb5⟩
 ·subst hg;by_cases hk:e.kind=14
  ·have YZ:=qS (x.wrong e=false) (by rw[HW3.o,hk];rfl);have bk:(e.kind !=14)=false:=by simpa using hk
   clear hk;go_wp2;go_quiet(fail);have hbq:Below w.heap.size w (w1.drewN nq):=below_drewN hbw1 nq;have HMq:=qH (HM.o.up hbq);have d1:(w1.drewN nq).cell? ⟨bi,1,none⟩=_:=c1;have d2:(w1.drewN nq).cell? ⟨bi,2,none⟩=_:=c2;have g0:(w1.drewN nq).cell? ⟨w.heap.size,0,none⟩=_:=e0;have g1:(w1.drewN nq).cell? ⟨w.heap.size,1,none⟩=_:=e1;clear hl0 hlk c0 c1 c2 c3 c4 c5 f2 f3 f4 e0 e1 e2 e3 e4 e5 e6 e7 hbw1;generalize w1.drewN nq=w2 at*;go_wp2;go_still_tail 8,(by kernel_rfl);change wpList _ _ _ _ _ (w2.drewN 1);have hbq2:Below w.heap.size w (w2.drewN 1):=below_drewN hbq 1;have HMr:=qH (HM.o.up hbq2);clear d1 d2 g0 g1;generalize w2.drewN 1=w3 at*;go_wp2_with fail;refine(xC w3 A.G A.bs A.bh x.had A.V HMr.o.had e.src hs.1 (by have:=HO.o.rows e.src;omega) e.num).mono ?_;rintro r w4⟨rfl,hb4⟩;have hb5:Below w.heap.size w w4:=hbq2.trans (hb4.mono hbq2.size);clear hb4;generalize hadB x.had e.src e.num=hd at*;cases hd;·go_wp2;go_ret2;exact⟨by rw[HV.o,HR.o,YZ.o];rfl,hb5⟩
   ·go_wp2;go_ret2;exact⟨by rw[HV.o,HR.o,YZ.o];rfl,hb5⟩
  ·have HWT:=qS (x.wrong e=true) (by rw[HW3.o];simpa using hk);have bk:(e.kind !=14)=true:=by simpa using hk
   clear hk;go_wp2;go_quiet(fail);go_wp2;go_ret2;exact⟨by rw[HV.o,HR.o,HWT.o];rfl,below_drewN hbw1 _⟩
theorem zb(w:World)(A:Option Addr)(n c:Nat)(es:List Ev)(h:fV w w.heap.size A n c es)(bk F:Nat)(vG:Array Value)(hbk:w.cell? ⟨bk,0,none⟩=some (.func (.func F) #[] vG))(p:Ev→Bool)(hn:n≤200000)(hcall: ∀(args:Array Value)(w:World),(callFunc F args).run Tryz.prog w=.ok (.enter F args) w)(hf: ∀(w1:World)(e:Ev),e∈es→Below w.heap.size w w1→Calls Tryz.prog F (#[e.agg]++vG) w1 (Says (p e) w1)):Calls Tryz.prog 133 #[.slice A n c,.pointer (some ⟨bk,0,none⟩)] w (vN w es p):=by
 have HH:=qH h;clear h;have HF:=qH hf;clear hf;have Yn:bk<w.heap.size:=World.block_lt_of_cell? w ⟨bk,0,none⟩ hbk;have Dl:=qH hbk;clear hbk;go_enter Tryz.func133,Tryz.ntmps133;go_wp2;go_loopw[4,9](fun v i wr=>jR w n es p v i wr)(fun _ i _=>n-(intOf i).toNat);case atStart=>exact⟨0,rfl,Nat.zero_le _,World.ownsRow_nil _ _ _ _,Below.refl _ _⟩
 case round=>
  obtain⟨k,rfl,hk,hown,hbel⟩:=hrel;have HO:=qH hown;clear hown;by_cases hkn:k<n
  ·have hkl:k<es.length:=by rw[HH.o.len];exact hkn
   obtain⟨b,off,rfl,hb,hev⟩:=HH.o.ev k hkl;obtain⟨e0,e1,e2,e3,e4,e5,e6,e7⟩:=hev.below hbel hb;have dx:=qS ((es.take (k+1)).filter p=(es.take k).filter p++(if p es[k]then[es[k]]else[])) (by rw[List.take_add_one,List.getElem?_eq_getElem hkl,Option.toList_some,List.filter_append];simp[List.filter_cons]);have HM:=qH (List.getElem_mem hkl);generalize es[k]=x at*;have t1:(k:Int)<n:=by omega
   have hbk':wr.cell? ⟨bk,0,none⟩=some (.func (.func F) #[] vG):=(hbel.cell (p:=⟨bk,0,none⟩) Yn).trans Dl.o;have aaB:bk<wr.heap.size:=Nat.lt_of_lt_of_le Yn hbel.size;go_wp2_with fail;have hb1:Below w.heap.size w (wr.alloc (ai x)):=hbel.alloc hbel.size _;refine(HF.o _ x HM.o hb1).mono ?_;rintro e w1⟨rfl,hbw1⟩;have hbw:Below w.heap.size w w1:=hb1.trans (hbw1.mono hb1.size);have hs1:wr.heap.size+1≤w1.heap.size:=by have:=hbw1.size;simp at this;omega
   have hs0:=hbel.size;have HOW:=qH (ownsRow_below (World.ownsRow.alloc HO.o (ai x)) hbw1 (Nat.le_refl _));have hin:=(dO.new wr x).below hbw1 (by simp);obtain⟨f0,f1,f2,f3,f4,f5,f6,f7⟩:=hin;clear e0 e1 e2 e3 e4 e5 e6 e7 hb1 hbw1 hev hcall hbk' aaB;have hlen:((es.take k).filter p).length≤k:=by have:=List.length_filter_le p (es.take k);rw[List.length_take]at this;omega
   cases hp:p x
   ·have HT:Hid ((es.take (k+1)).filter p=(es.take k).filter p):=by have:=dx.o;rw[hp]at this;unfold Hid;simpa using this
    clear hp dx;go_wp2;go_roundw;case rel=>exact⟨k+1,by go_num,by omega,by rw[HT.o];exact HOW.o,hbw⟩
    case measure=>simp[intOf];omega
   ·have HT:Hid ((es.take (k+1)).filter p=(es.take k).filter p++[x]):=by have:=dx.o;rw[hp]at this;unfold Hid;simpa using this
    clear hp dx;obtain⟨i0,hi,hz0,hz1,hz2⟩:=info_parts iM;have HI:=qH hi;have HZ0:=qH hz0;have HZ1:=qH hz1;have HZ2:=qH hz2;clear hi hz0 hz1 hz2;go_wp2_with(at_builtin;refine av (P:=Tryz.prog) rfl (.tmp 16) (.tmp 18) 22 rfl 31 i0 _ 8 96 Tryz.underlying22 HI.o HZ0.o HZ1.o HZ2.o rfl (by decide) w.heap.size _ ((es.take k).filter p).length (aj ((es.take k).filter p)) rfl ?c1 (w1.heap.size+1) _ _ _ x.cells rfl ?c2 (cells_one x) ?c4 ?c5 ?c6 ?_);case c1=>exact World.ownsRow.alloc HOW.o _
    case c2=>exact az.new w1 _ _ (by unfold maxLen;omega) rfl
    case c4=>unfold maxLen;omega
    case c5=>omega
    case c6=>first|omega|(simp;omega)
    intro v' w2 hown2 hg2 _;have hb2:Below w.heap.size w w2:=Below.grown (hbw.alloc (by omega) _) hg2 (by simp;omega) (fun k' hk'=>(HOW.o.lt k' hk').1);have dW:=qH hown2;have HB2:=qH hb2;clear hown2 hg2 hb2 f0 f1 f2 f3 f4 f5 f6 f7;go_wp2;go_roundw;case rel=>refine⟨k+1,by go_num,by omega,?_,HB2.o⟩;rw[HT.o];unfold aP;rw[dD,List.length_append];exact dW.o
    case measure=>simp[intOf];omega
  ·have hkk:es.take k=es:=List.take_of_length_le (by rw[HH.o.len];omega);have HKK:=qH hkk;clear hkk;go_wp2;go_ret;exact⟨u4,rfl,by have:=HO.o;rw[HKK.o]at this;exact this,hbel⟩
theorem kX{e:Ev}(h:bA e=true):FE e.src e.num:=by unfold bA nk ag at h;simp only[Bool.and_eq_true,decide_eq_true_eq]at h;exact⟨by omega,by omega,by omega⟩
def BF(x:ay)(p:Ev→Bool):Int:=x.taken.length+x.late.length-(x.taken.filter p).length-(x.late.filter p).length
def QU(w:World)(F:Nat→Prop)(bi N:Nat)(x:ay)(p:Ev→Bool)(r:Ending)(w':World):Prop:=r=.returned (.int .i64 (BF x p))∧dP w F bi N (x.drop p) w'
def K4(w5:World)(bl:Nat)(l:List Ev)(i:Value)(wr:World):Prop:= ∃k:Nat,i=.int .i64 k∧k≤l.length∧fP wr bl k ((l.take k).map bB)∧w5.grownBy wr (some bl)
theorem FX(w:World)(F:Nat→Prop)(bi N:Nat)(x:ay)(h:aU w F bi N x)(hN:N≤100000)(fn:Nat)(vG:Array Value)(p:Ev→Bool)(hcall: ∀(args:Array Value)(w:World),(callFunc fn args).run Tryz.prog w=.ok (.enter fn args) w)(hf: ∀(w1:World)(e:Ev),e∈x.taken∨e∈x.late→Below w.heap.size w w1→Calls Tryz.prog fn (#[e.agg]++vG) w1 (Says (p e) w1)):Calls Tryz.prog 71 #[.pointer (some ⟨bi,0,none⟩),.func (.func fn) #[] vG] w (QU w F bi N x p):=by
 obtain⟨A,hM,hO,hnl,Bq,jq,oD⟩:=h;have HM:=qH hM;have HO:=qH hO;have Ao:=qH jq;have zK:=qH oD;have HF:=qH hf;have hlt:bi<w.heap.size:=hM.lt (.inl rfl);have htl:=hO.taken;have hll:=hO.late;clear hM hO jq oD hf;obtain⟨B1,k1,hv1,hm1⟩:=HM.o.taken.form;obtain⟨B2,k2,hv2,hm2⟩:=HM.o.late.form;go_enter Tryz.func71,Tryz.ntmps71;have bJ:Below w.heap.size w (w.alloc (.cells #[.func (.func fn) #[] vG] 69)):=(Below.refl _ _).alloc (Nat.le_refl _) _;obtain⟨c0,c1,c2,c3,c4,c5,f2,f3,f4⟩:=(HM.o.up bJ).cells;rw[hv1]at c2;rw[hv2]at c3;go_wp2_with fail;have Dl:=qS ((w.alloc (.cells #[.func (.func fn) #[] vG] 69)).cell? ⟨w.heap.size,0,none⟩=some (.func (.func fn) #[] vG)) (cell_of_row _ w.heap.size 0 _ _ (0,0) (heap_alloc_new w _));have hsA:(w.alloc (.cells #[.func (.func fn) #[] vG] 69)).heap.size=w.heap.size+1:=by simp
 have HM0:=qH (HM.o.up bJ);generalize w.alloc (.cells #[.func (.func fn) #[] vG] 69)=w0 at*;have hev1:fV w0 w0.heap.size B1 x.taken.length k1 x.taken:=by have:=HM0.o.taken;rw[hv1]at this;exact az.aI this
 refine(zb w0 B1 _ k1 x.taken hev1 w.heap.size fn vG Dl.o p (by omega) hcall (fun w1 e he hb=>HF.o w1 e (.inl he) (bJ.trans (hb.mono bJ.size)))).mono ?_;rintro r w1⟨v1,rfl,ho1,hb1⟩;have hbw1:Below w.heap.size w w1:=bJ.trans (hb1.mono bJ.size);have oH:=qH (HM.o.up hbw1);have Ak:=qH ho1;have abm:=qH ((hb1.cell (p:=⟨w.heap.size,0,none⟩) (by simp only;omega)).trans Dl.o);have hs1:=hb1.size;clear c0 c1 c2 c3 c4 c5 f2 f3 f4 ho1 hb1 hev1;obtain⟨c0,c1,c2,c3,c4,c5,f2,f3,f4⟩:=oH.o.cells;rw[hv1]at c2;rw[hv2]at c3;go_wp2_with fail;have hev2:fV w1 w1.heap.size B2 x.late.length k2 x.late:=by have:=oH.o.late;rw[hv2]at this;exact az.aI this
 refine(zb w1 B2 _ k2 x.late hev2 w.heap.size fn vG abm.o p (by omega) hcall (fun w2 e he hb=>HF.o w2 e (.inr he) (hbw1.trans (hb.mono hbw1.size)))).mono ?_;rintro r w2⟨v2,rfl,ho2,hb2⟩;have hbw2:Below w.heap.size w w2:=hbw1.trans (hb2.mono hbw1.size);have zI:=qH (HM.o.up hbw2);have dW:=qH ho2;have Wm:=qS (aP w2 w0.heap.size v1 (x.taken.filter p)) (Ak.o.keep fun b hb=>hb2.block b (Ak.o.lt hb));have hs2:=hb2.size;have TZ:=qH (fun b(hb:v1.ownBlock=some b)=>(World.ownsRow.lt Ak.o b hb));have TY:=qH (fun b(hb:v2.ownBlock=some b)=>(World.ownsRow.lt ho2 b hb));obtain⟨D1,q1,hw1,hq1⟩:=Wm.o.form;obtain⟨D2,q2,hw2,hq2⟩:=ho2.form;subst hw1 hw2;clear c0 c1 c2 c3 c4 c5 f2 f3 f4 ho2 hb2 hev2 hcall;obtain⟨c0,c1,c2,c3,c4,c5,f2,f3,f4⟩:=zI.o.cells;rw[hv1]at c2;rw[hv2]at c3;have hft:=List.length_filter_le p x.taken;have hfl:=List.length_filter_le p x.late;have HDN:=qS (BF x p=x.taken.length+x.late.length-(x.taken.filter p).length-(x.late.filter p).length) (rfl);have HMT:=qS (∀e∈x.late.filter p,bA e=true) (fun e he=>HO.o.may e (.inr (List.mem_filter.1 he).1));generalize hgt:x.taken.filter p=t at*;generalize hgl:x.late.filter p=l at*;have HGT:=qH hgt;have GR:=qH hgl;clear hgt hgl;have e1:IntKind.i64.wrap ((x.taken.length:Int)+x.late.length)=x.taken.length+x.late.length:=IntWalk.i64_in _ (by omega);have e2:IntKind.i64.wrap ((x.taken.length:Int)+x.late.length-t.length)=x.taken.length+x.late.length-t.length:=IntWalk.i64_in _ (by omega);have e3:IntKind.i64.wrap ((x.taken.length:Int)+x.late.length-t.length-l.length)=x.taken.length+x.late.length-t.length-l.length:=IntWalk.i64_in _ (by omega);go_wp2;go_quiet(fail);clear e1 e2 e3;have hmk: ∀W:World,(Instr.makeMap 81 (some (.int .i64 (l.length:Int)))).run Tryz.prog W=.ok (.map (some W.heap.size)) (W.alloc (.map #[] 0)):=fun W=>by unfold Instr.makeMap;simp only[Sem.run_bind,run_underlying Tryz.underlying81,asInt,Sem.run_pure,Result.andThen_ok];rfl
 have hbi2:bi<w2.heap.size:=Nat.lt_of_lt_of_le hlt hbw2.size;go_wp2;have hblk2:=zI.o.blk;have HW5:Hid (∃w5,w5=((((w2.drewN nq).setCell ⟨bi,2,none⟩ (.slice D1 t.length q1)).setCell ⟨bi,3,none⟩ (.slice D2 l.length q2)).setCell ⟨bi,4,none⟩ (.map (some w2.heap.size))).alloc (.map #[] 0)):=⟨_,rfl⟩;obtain⟨w5,hw5⟩:=HW5.o;rw[←hw5];have h50:((((w2.drewN nq).setCell ⟨bi,2,none⟩ (.slice D1 t.length q1)).setCell ⟨bi,3,none⟩ (.slice D2 l.length q2)).setCell ⟨bi,4,none⟩ (.map (some w2.heap.size))).heap.size=w2.heap.size:=by simp[World.setCell]
 have h51:w5.heap[bi]?=some (jZ {A with vt:=.slice D1 t.length q1,vl:=.slice D2 l.length q2,bl:=w2.heap.size,nl:=l.length}):=by rw[hw5];have a1:((w2.drewN nq).setCell ⟨bi,2,none⟩ (.slice D1 t.length q1)).heap[bi]?=_:=af (w:=w2.drewN nq) hblk2;have a2:=af (o:=3) (u:=.slice D2 l.length q2) a1;have a3:=af (o:=4) (u:=.map (some w2.heap.size)) a2;exact(Below.heap_alloc _ (.map #[] 0) bi (by rw[h50];exact hbi2)).trans a3
 have h5b: ∀b,b<w2.heap.size→b≠bi→w5.heap[b]?=w2.heap[b]?:=fun b hb hne=>by rw[hw5,Below.heap_alloc _ _ _ (by rw[h50];exact hb),Below.heap_setCell _ _ _ _ hne,Below.heap_setCell _ _ _ _ hne,Below.heap_setCell _ _ _ _ hne];rfl
 have h5s:w5.heap.size=w2.heap.size+1:=by rw[hw5];simp[World.setCell]
 have h5m:fP w5 w2.heap.size 0 []:=by have:=fP.made ((((w2.drewN nq).setCell ⟨bi,2,none⟩ (.slice D1 t.length q1)).setCell ⟨bi,3,none⟩ (.slice D2 l.length q2)).setCell ⟨bi,4,none⟩ (.map (some w2.heap.size)));rw[h50]at this;rw[hw5];exact this
 have h5o:w5.os=w.os∧w5.tape=w.tape∧w5.output=w.output:=by rw[hw5];exact⟨hbw2.os,hbw2.tape,hbw2.output⟩
 have H51:=qH h51;have H5B:=qH h5b;have H5S:=qH h5s;have H5M:=qH h5m;have H5O:=qH h5o;clear HW5 hw5 h50 h51 h5b h5s h5m h5o hblk2 c0 c1 c2 c3 c4 c5 f2 f3 f4 hmk;go_loopw[57](fun i wr=>K4 w5 w2.heap.size l i wr)(fun i _=>l.length-(intOf i).toNat);case atStart=>exact⟨0,rfl,Nat.zero_le _,H5M.o,⟨rfl,rfl,rfl,Nat.le_refl _,fun _ _ _=>rfl⟩⟩
 case round=>
  obtain⟨k,rfl,hk,hset,hgr⟩:=hrel;have Dr:=qH hset;have Di:=qH hgr;have zW:=hgr.size;rw[H5S.o]at zW;clear hset hgr;have tN: ∀b,b<w2.heap.size→b≠bi→wr.heap[b]?=w2.heap[b]?:=fun b hb hne=>(Di.o.block b (by rw[H5S.o];omega) (fun e=>by injection e with e;omega)).trans (H5B.o b hb hne);have Pn:wr.heap[bi]?=some (jZ {A with vt:=.slice D1 t.length q1,vl:=.slice D2 l.length q2,bl:=w2.heap.size,nl:=l.length}):=(Di.o.block bi (by rw[H5S.o];omega) (fun e=>by injection e with e;omega)).trans H51.o;have hol:aP wr w1.heap.size (.slice D2 l.length q2) l:=dW.o.keep fun b hb=>tN b (TY.o b hb).2 (by obtain⟨cs,hc⟩:=dW.o.typ hb;exact jd hc zI.o.blk (by decide));have hot:aP wr w0.heap.size (.slice D1 t.length q1) t:=Wm.o.keep fun b hb=>tN b (by have:=(TZ.o b hb).2;omega) (by obtain⟨cs,hc⟩:=Wm.o.typ hb;exact jd hc zI.o.blk (by decide));have HST:=qH tN;have HBI:=qH Pn;have HOL:=qH hol;have HOT:=qH hot;clear tN Pn hol hot;by_cases hkn:k<l.length
  ·have Pg:fV wr wr.heap.size D2 l.length q2 l:=az.aI HOL.o;obtain⟨b,off,rfl,hb,hev⟩:=Pg.ev k hkn;obtain⟨e0,e1,e2,e3,e4,e5,e6,e7⟩:=hev;have hc4:wr.cell? ⟨bi,4,none⟩=some (.map (some w2.heap.size)):=(cell_of_row wr bi 4 _ _ (0,0) HBI.o).trans rfl;have HID:=qH (kX (HMT.o _ (List.getElem_mem hkn)));have dx:=qS (∀q,q∈bB l[k]::(l.take k).map bB↔q∈(l.take (k+1)).map bB) (fun q=>by rw[List.take_add_one,List.getElem?_eq_getElem hkn,Option.toList_some];simp only[List.map_append,List.map_cons,List.map_nil,List.mem_append,List.mem_cons,List.not_mem_nil,or_false];exact Or.comm);generalize l[k]=y at*;have t1:(k:Int)<l.length:=by omega
   have Pn:bi<wr.heap.size:=by omega
   clear Pg;go_wp2;have hbW:Below wr.heap.size wr (wr.alloc (ai y)):=(Below.refl _ _).alloc (Nat.le_refl _) _;obtain⟨g0,g1,g2,g3,g4,g5,g6,g7⟩:=dO.new wr y;have Yk:(wr.alloc (ai y)).cell? ⟨bi,4,none⟩=_:=(hbW.cell (p:=⟨bi,4,none⟩) Pn).trans hc4;have aaX:=qH (Dr.o.block (hbW.block w2.heap.size (by omega)));have Rb:(wr.alloc (ai y)).heap.size=wr.heap.size+1:=by simp
   have aba:=qH (Di.o.andThen (World.grownBy_alloc wr (ai y) none) (fun j hj=>by cases hj));clear e0 e1 e2 e3 e4 e5 e6 e7 hc4 Pn hbW;generalize wr.alloc (ai y)=w6 at*;have UD:=qS (k<maxLen) (by unfold maxLen;omega);go_region_law((go_simp;go_at_call 47;refine(qo _ y).mono ?_;rintro r w7⟨rfl,hb7⟩;have Wh:=qH (aaX.o.block (w':=w7) (hb7.block w2.heap.size (by show _<w6.heap.size;omega)));have iW:=qH hb7;have hc7:w7.cell? ⟨bi,4,none⟩=some (.map (some w2.heap.size)):=(hb7.cell (p:=⟨bi,4,none⟩) (by show bi<w6.heap.size;omega)).trans Yk;obtain⟨w8,hrun8,hs8,hg8⟩:=Wh.o.put UD.o y.src y.num HID.o;have Dt:=qH hs8;have Xy:=qH hg8;clear hb7 hs8 hg8));all_goals
    have HRR:=qS (K4 w5 w2.heap.size l (.int .i64 ((k+1:Nat):Int)) w8) (⟨k+1,rfl,by omega,Dt.o.congr dx.o,(aba.o.andThen (row':=none) ⟨iW.o.os,iW.o.tape,iW.o.output,iW.o.size,fun i hi _=>iW.o.block i hi⟩ (fun j hj=>by cases hj)).andThen Xy.o (fun j hj=>.inr hj)⟩);clear hrun8 hc7 Yk g0 g1 g2 g3 g4 g5 g6 g7 Rb;go_wp2;go_roundw;case rel=>exact HRR.o
    case measure=>simp[intOf];omega
  ·have hkk:l.take k=l:=List.take_of_length_le (by omega);have HKK:=qH hkk;have t1: ¬(k:Int)<l.length:=by omega
   clear hkk;go_wp2;go_ret;refine⟨by rw[HDN.o];rfl,?_⟩;have hkl:k=l.length:=by omega
   have hse:=Dr.o;rw[HKK.o,hkl]at hse;have hkeep:ak (fun b=>b=bi) w wr:=⟨Di.o.os.trans H5O.o.1,Di.o.tape.trans H5O.o.2.1,Di.o.output.trans H5O.o.2.2,by have:=hbw2.size;omega,fun b hb hne=>(HST.o b (by have:=hbw2.size;omega) hne).trans (hbw2.block b hb)⟩;have hmem:=HM.o.RG hkeep HBI.o HOT.o.low HOL.o.low hse (fun b hb=>by have:=(TZ.o b hb).1;omega) (fun b hb=>by have:=(TY.o b hb).1;omega) hbw2.size (fun b h1 h2=>by have:=(TZ.o b h1).2;have:=(TY.o b h2).1;omega);have hok:dR N (x.drop p):=HO.o.drop p;have hdr:x.drop p={x with taken:=t,late:=l}:=by unfold ay.drop;rw[HGT.o,GR.o]
   refine⟨fun b=>F b∨(w.heap.size≤b∧b<wr.heap.size),⟨{A with vt:=.slice D1 t.length q1,vl:=.slice D2 l.length q2,bl:=w2.heap.size,nl:=l.length},by rw[hdr];exact hmem,hok,by show l.length≤N;omega,Bq,fun b hb=>?_,fun b hb=>?_⟩,hkeep.mono (fun b _ e=>by rw[e];exact Ao.o bi (.inl rfl)),fun b hb=>hb.imp id (fun h=>h.1)⟩
   ·have hfo:=Ao.o b;rcases hb with rfl|rfl|rfl|hb|hb|hb|rfl|rfl;·exact .inl (hfo (.inl rfl))
    ·exact .inl (hfo (.inr (.inl rfl)))
    ·exact .inl (hfo (.inr (.inr (.inl rfl))))
    ·exact .inl (hfo (.inr (.inr (.inr (.inl hb)))))
    ·have:=TZ.o b hb;right;omega
    ·have:=TY.o b hb;right;omega
    ·right;have:=hbw2.size;exact⟨this,by show w2.heap.size<_;omega⟩
    ·exact .inl (hfo (.inr (.inr (.inr (.inr (.inr (.inr (.inr rfl))))))))
   ·rcases hb with hb|hb;·have:=zK.o b hb;have:=hbw2.size;omega
    ·exact hb.2
theorem Lb(w:World)(b1 b2 bi g off n c:Nat)(a e:Ev)(k:Nat)(hk:k<n)(hc1:w.cell? ⟨b1,0,none⟩=some (.pointer (some ⟨bi,0,none⟩)))(hc2:w.cell? ⟨bi,2,none⟩=some (.slice (some ⟨g,off,none⟩) n c))(ha:lM w g (off+k*8) a)(he:dO w b2 e):Calls Tryz.prog 87 (#[.int .i64 k]++ #[.pointer (some ⟨b1,0,none⟩),.pointer (some ⟨b2,0,none⟩)]) w (Says (decide (0<pR a e)) w):=by
 show Calls Tryz.prog 87 #[.int .i64 k,.pointer (some ⟨b1,0,none⟩),.pointer (some ⟨b2,0,none⟩)] w (Says (decide (0<pR a e)) w);obtain⟨a0,a1,a2,a3,a4,a5,a6,a7⟩:=ha;obtain⟨e0,e1,e2,e3,e4,e5,e6,e7⟩:=he;have hk':(k:Int)<n:=by omega
 go_enter Tryz.func87,Tryz.ntmps87;go_wp2;go_still_tail 8,(by kernel_rfl);change wpList _ _ _ _ _ (w.drewN 1);have hbq:Below w.heap.size w (w.drewN 1):=below_drewN (Below.refl _ _) 1;clear a0 a1 a2 a3 a4 a5 a6 a7 e0 e1 e2 e3 e4 e5 e6 e7 hc1 hc2;generalize w.drewN 1=w1 at*;go_wp2_with fail;refine(wU w1 a e).mono ?_;rintro r w2⟨rfl,hb2⟩;have hbw:Below w.heap.size w w2:=hbq.trans (hb2.mono hbq.size);clear hb2;generalize pR a e=q at*;go_wp2;go_ret;exact⟨rfl,hbw⟩
theorem La(w:World)(b:Nat)(y e:Ev)(hc:dO w b e)(hb:b<w.heap.size):Calls Tryz.prog 90 (#[y.agg]++ #[.pointer (some ⟨b,0,none⟩)]) w (Says (bT e.per y) w):=by
 show Calls Tryz.prog 90 #[y.agg,.pointer (some ⟨b,0,none⟩)] w (Says (bT e.per y) w);unfold Ev.agg;have bJ:Below w.heap.size w (w.alloc (ai y)):=(Below.refl _ _).alloc (Nat.le_refl _) _;obtain⟨_,_,_,_,e4,_,_,_⟩:=hc.below bJ hb;have HK:=qS (bT e.per y=((y.per !=e.per)||(y.kind==14))) (rfl);cases h1:(y.per==e.per)
 ·have HB:=qS (bT e.per y=true) (by rw[HK.o];simp[bne,h1]);have h2:(y.per !=e.per)=true:=by simp[bne,h1]
  go_enter Tryz.func90,Tryz.ntmps90;go_wp2;go_ret;exact⟨ae HB.o.symm,bJ⟩
 ·have HB:=qS (bT e.per y=(y.kind==14)) (by rw[HK.o];simp[bne,h1]);have h2:(y.per !=e.per)=false:=by simp[bne,h1]
  go_enter Tryz.func90,Tryz.ntmps90;go_wp2;go_ret;exact⟨ae HB.o.symm,bJ⟩
end Go.Proofs.YtbejfgmdkmddnaaGreatDoor
