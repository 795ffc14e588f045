/-
  Layer 8: the intake in memory.
-/
import Derived.Test.YtcmmclliabhnjaaGreatDoorWMapL
import Derived.DeepKeys4
import Derived.Test.YtcmmclliabhnjaaGreatDoorWTaleRow
import Derived.Test.YtcmmclliabhnjaaGreatDoorWHad
import Derived.Test.YtcmmclliabhnjaaGreatDoorWClkHear
set_option maxRecDepth 100000
set_option maxHeartbeats 16000000
namespace Go.Proofs.YtcmmclliabhnjaaGreatDoor
open Go.RowKit Go.Maps Go.Sort
def idV(s:List UInt8)(n:Int):Value:=.agg #[.string ⟨s.toArray⟩,.int .i64 n]
def idLit(s:List UInt8)(n:Int):Lit:=.string (keyBytes [.string s,.int .i64 n])
def idOk(s:List UInt8)(n:Int):Prop:=s.length≤1000000000∧ -9223372036854775808≤n∧n≤9223372036854775807
theorem id_laid:laidOutB Tryz.prog=true:=by kernel_rfl
theorem id_row:(150:TypeId)<Tryz.prog.types.size:=of_decide_eq_true (by kernel_rfl)
theorem id_wide:(match Tryz.prog.underlying 150 with|some (.array _ _)|some (.struct _)=>true|_=>false)=true:=by rw[Tryz.underlying150]
theorem id_kt:Tryz.prog.keyTypeAt 2 150=true:=by kernel_rfl
theorem keyId:Keyed Tryz.prog 150:=Keyed.of_law (deep_law_laid id_laid (m:=2) (by omega) id_row id_kt id_wide)
theorem id_type:Tryz.prog.keyType 150=true:=by kernel_rfl
theorem id_cells:Tryz.prog.cellsOf 150=2:=by kernel_rfl
theorem id_cells_s:Tryz.prog.cellsOf 9=1:=by kernel_rfl
theorem id_cells_i:Tryz.prog.cellsOf 3=1:=by kernel_rfl
theorem id_size: ∃k,Tryz.prog.types.size=k+1:=⟨Tryz.prog.types.size-1,by kernel_rfl⟩
theorem id_key(s:List UInt8)(n:Int)(h:idOk s n):keyOf Tryz.prog 150 (idV s n)=some (idLit s n):=by
 obtain⟨h1,h2,h3⟩:=h;obtain⟨k,hk⟩:=id_size;have hs:(⟨s.toArray⟩:ByteArray).size≤maxLen:=by simp[ByteArray.size];unfold maxLen;omega
 have hw:(Lit.int .i64 n).wf=true:=by simp[Lit.wf,IntKind.min,IntKind.max,IntKind.bits,IntKind.signed];omega
 have hlits: ∀d,Tryz.prog.keyLits (d+2) 150 [.string ⟨s.toArray⟩,.int .i64 n]=some [.string s,.int .i64 n]:=fun d=>by simp[Program.keyLits,Tryz.underlying150,Tryz.underlying9,Tryz.underlying3,id_cells,id_cells_s,id_cells_i,hs,hw]
 unfold keyOf idV idLit;rw[Tryz.underlying150,hk];simp only[id_type,Value.formed,Tryz.underlying150,id_cells];simp[Value.cells,hlits]
theorem idLit_inj{s s':List UInt8}{n n':Int}(h:idOk s n)(h':idOk s' n')(e:idLit s n=idLit s' n'):s=s'∧n=n':=by have:=keyId.inj (id_key s n h) (by rw[e];exact id_key s' n' h');unfold idV at this;simpa using this
def SetI(w:World)(b n:Nat)(ks:List (List UInt8×Int)):Prop:= ∃D:DataW Unit,w.ownsMap Tryz.prog 150 (plainElem Tryz.prog 4) b n D∧Tidy D∧ ∀s k,idOk s k→D.atKey (idLit s k) (.lit (.bool false))=.lit (.bool (decide ((s,k)∈ks)))
theorem SetI.made(w:World):SetI (w.alloc (.map #[] 0)) w.heap.size 0 []:=⟨.map [],World.ownsMap_made _ _ _ _,tidy_empty,fun s k _=>by simp[DataW.atKey]⟩
theorem SetI.lt{w:World}{b n:Nat}{ks:List (List UInt8×Int)}(h:SetI w b n ks):b<w.heap.size:=by obtain⟨D,h1,_⟩:=h;exact h1.lt
theorem SetI.block{w w':World}{b n:Nat}{ks:List (List UInt8×Int)}(h:SetI w b n ks)(hb:w'.heap[b]?=w.heap[b]?):SetI w' b n ks:=by obtain⟨D,⟨es,clock,h1,h2⟩,h3⟩:=h;exact⟨D,⟨es,clock,hb.trans h1,h2⟩,h3⟩
theorem SetI.isMap{w:World}{b n:Nat}{ks:List (List UInt8×Int)}(h:SetI w b n ks): ∃es clock,w.heap[b]?=some (.map es clock):=by obtain⟨D,⟨es,clock,h1,h2⟩,h3⟩:=h;exact⟨es,clock,h1⟩
theorem SetB.isMap{w:World}{b n:Nat}{ks:List (List UInt8)}(h:SetB w b n ks): ∃es clock,w.heap[b]?=some (.map es clock):=by obtain⟨D,⟨es,clock,h1,h2⟩,h3⟩:=h;exact⟨es,clock,h1⟩
theorem SetI.look{w:World}{b n:Nat}{ks:List (List UInt8×Int)}(h:SetI w b n ks)(s:List UInt8)(k:Int)(hk:idOk s k):(Instr.lookup 117 (.map (some b)) (.agg #[.string ⟨s.toArray⟩,.int .i64 k]) false).run Tryz.prog w=.ok (.bool (decide ((s,k)∈ks))) w:=by obtain⟨D,h1,_,h3⟩:=h;obtain⟨v,ps,hr,hv⟩:=h1.lookup keyId Tryz.underlying117 (zeroB w) (plainElem_bool (P:=Tryz.prog) Tryz.underlying4 false) (id_key s k hk);unfold idV at hr;rw[hr];rw[h3 s k hk]at hv;rw[plainElem_bool_inv Tryz.underlying4 hv]
theorem SetI.put{w:World}{b n:Nat}{ks:List (List UInt8×Int)}(h:SetI w b n ks)(hn:n<maxLen)(s:List UInt8)(k:Int)(hk:idOk s k): ∃w',(Instr.mapUpdate 117 (.map (some b)) (.agg #[.string ⟨s.toArray⟩,.int .i64 k]) (.bool true)).run Tryz.prog w=.ok () w'∧SetI w' b (n+1) ((s,k)::ks)∧w.grownBy w' (some b):=by
 obtain⟨D,h1,h2,h3⟩:=h;obtain⟨w',hr,r1,r2⟩:=h1.update keyId Tryz.underlying117 hn (id_key s k hk) (plainElem_bool (P:=Tryz.prog) Tryz.underlying4 true);have hkl:WideAt.IsKeyLit (idLit s k):=keyId.key (id_key s k hk);refine⟨w',hr,⟨D.put (idLit s k) (.lit (.bool true)),r1,h2.put hkl _,fun s' k' hk'=>?_⟩,r2⟩;by_cases e:(s',k')=(s,k);·cases e;rw[atKey_put_same h2.isMap hkl];simp
 ·have hne:idLit s' k'≠idLit s k:=fun h=>e (by obtain⟨rfl,rfl⟩:=idLit_inj hk' hk h;rfl);rw[atKey_put_other hne,h3 s' k' hk'];have:decide ((s',k')∈(s,k)::ks)=decide ((s',k')∈ks):=by simp[e]
  rw[this]
theorem wpList_idput{ops:Array Oper}{rest:List Oper}{o:Oper}{a:Act}{Q:Exit→Act→World→Prop}{w:World}(hg:o.guard=none)(m x v:Operand)(hop:o.op=Op.mapUpdate 117 m x v)(b n:Nat)(ks:List (List UInt8×Int))(hm:a.eval m=.map (some b))(hown:SetI w b n ks)(hn:n<maxLen)(s:List UInt8)(k:Int)(hx:a.eval x=.agg #[.string ⟨s.toArray⟩,.int .i64 k])(hk:idOk s k)(hv:a.eval v=.bool true)(h: ∀w',SetI w' b (n+1) ((s,k)::ks)→w.grownBy w' (some b)→wpList Tryz.prog ops Q rest (a.put o.dst undef) w'):wpList Tryz.prog ops Q (o::rest) a w:=by refine wpList_plain hg fun K hK=>?_;obtain⟨w',hr,h1,h2⟩:=hown.put hn s k hk;unfold Oper.wp;simp[execOp,hop,hm,hx,hv,hr,Result.andThen];exact hK _ _ (h w' h1 h2)
structure ItkA where
 bc:Nat
 bm:Nat
 bs:Nat
 bh:Nat
 G:Nat→Prop
 V:List UInt8→Value
 vt:Value
 vl:Value
 bl:Nat
 nl:Nat
 bg:Nat
 ng:Nat
abbrev itkObj(A:ItkA):Obj:=.cells #[.pointer (some ⟨A.bc,0,none⟩),.pointer (some ⟨A.bs,0,none⟩),A.vt,A.vl,.map (some A.bl),.map (some A.bg)] 119
theorem OwnE.typ{w:World}{base:Nat}{v:Value}{l:List Ev}(h:OwnE w base v l){b:Nat}(hb:v.ownBlock=some b): ∃cs,w.heap[b]?=some (.cells cs 74 (0,0)):=by
 rcases h.2 with⟨rfl,_⟩|⟨g,cap,cur,rfl,_,hg,_⟩;·cases hb
 ·injection hb with hb;subst hb;exact⟨cur,hg⟩
theorem OwnE.keep{w w':World}{base:Nat}{v:Value}{l:List Ev}(h:OwnE w base v l)(hb: ∀b,v.ownBlock=some b→w'.heap[b]?=w.heap[b]?):OwnE w' base v l:=by
 refine⟨h.1,?_⟩;rcases h.2 with h'|⟨g,cap,cur,rfl,hb',hg,hr⟩;·exact .inl h'
 ·exact .inr ⟨g,cap,cur,rfl,hb',(hb g rfl).trans hg,hr⟩
theorem OwnE.lt{w:World}{base:Nat}{v:Value}{l:List Ev}(h:OwnE w base v l){b:Nat}(hb:v.ownBlock=some b):b<w.heap.size:=(World.ownsRow.lt h b hb).2
theorem OwnE.low{w:World}{base:Nat}{v:Value}{l:List Ev}(h:OwnE w base v l):OwnE w 0 v l:=by
 refine⟨h.1,?_⟩;rcases h.2 with h'|⟨g,cap,cur,e,_,r⟩;·exact .inl h'
 ·exact .inr ⟨g,cap,cur,e,Nat.zero_le _,r⟩
theorem ne_types{w:World}{a b:Nat}{c1 c2:Array Value}{t1 t2:TypeId}{f1 f2:Nat×Nat}(h1:w.heap[a]?=some (.cells c1 t1 f1))(h2:w.heap[b]?=some (.cells c2 t2 f2))(h:t1≠t2):a≠b:=by rintro rfl;rw[h1]at h2;injection h2 with h2;injection h2 with _ h2;exact h h2
theorem ne_map{w:World}{a b:Nat}{c1:Array Value}{t1:TypeId}{f1:Nat×Nat}{es:Array MapEntry}{cl:Nat}(h1:w.heap[a]?=some (.cells c1 t1 f1))(h2:w.heap[b]?=some (.map es cl)):a≠b:=by rintro rfl;rw[h1]at h2;cases h2
theorem HadAt.not_cells{w:World}{G:Nat→Prop}{bs bm:Nat}{m:Had}{V:List UInt8→Value}(h:HadAt w G bs bm m V){b:Nat}{cs:Array Value}{t:TypeId}{f:Nat×Nat}(hb:w.heap[b]?=some (.cells cs t f))(h1:t≠165)(h2:t≠173): ¬G b:=by
 intro hg;obtain⟨es,cl,hm⟩:=h.map.isMap;rcases h.typ b hg with e|e|⟨c,hc⟩;·exact ne_types hb h.blk h1 e
 ·exact ne_map hb hm e
 ·exact ne_types hb hc h2 rfl
structure ItkMem(w:World)(bi:Nat)(A:ItkA)(x:Itk):Prop where
 blk:w.heap[bi]?=some (itkObj A)
 clk:ClockAt w A.bc A.bm x.clk
 had:HadAt w A.G A.bs A.bh x.had A.V
 taken:OwnE w 0 A.vt x.taken
 late:OwnE w 0 A.vl x.late
 lates:SetI w A.bl A.nl (x.late.map idOf)
 gone:SetB w A.bg A.ng x.gone
 ml:A.bm≠A.bl
 mg:A.bm≠A.bg
 lg:A.bl≠A.bg
 gm: ¬A.G A.bm
 gl: ¬A.G A.bl
 gg: ¬A.G A.bg
 tl: ∀b,A.vt.ownBlock=some b→A.vl.ownBlock≠some b
def ItkA.foot(A:ItkA)(bi b:Nat):Prop:=b=bi∨b=A.bc∨b=A.bm∨A.G b∨A.vt.ownBlock=some b∨A.vl.ownBlock=some b∨b=A.bl∨b=A.bg
section
variable{w w':World}{bi:Nat}{A:ItkA}{x:Itk}
theorem ItkMem.lt(h:ItkMem w bi A x){b:Nat}(hb:A.foot bi b):b<w.heap.size:=by
 rcases hb with rfl|rfl|rfl|hb|hb|hb|rfl|rfl;·exact heap_lt h.blk
 ·exact h.clk.lt
 ·exact h.clk.map.lt
 ·exact h.had.lt b hb
 ·exact h.taken.lt hb
 ·exact h.late.lt hb
 ·exact h.lates.lt
 ·exact h.gone.lt
theorem ItkMem.keep(h:ItkMem w bi A x)(hsz:w.heap.size≤w'.heap.size)(hk: ∀b,A.foot bi b→w'.heap[b]?=w.heap[b]?):ItkMem w' bi A x:={h with blk:=(hk _ (.inl rfl)).trans h.blk,clk:=h.clk.keep (hk _ (.inr (.inl rfl))) (hk _ (.inr (.inr (.inl rfl)))),had:=h.had.keep hsz fun b hb=>hk b (.inr (.inr (.inr (.inl hb)))),taken:=h.taken.keep fun b hb=>hk b (.inr (.inr (.inr (.inr (.inl hb))))),late:=h.late.keep fun b hb=>hk b (.inr (.inr (.inr (.inr (.inr (.inl hb)))))),lates:=h.lates.block (hk _ (.inr (.inr (.inr (.inr (.inr (.inr (.inl rfl)))))))),gone:=h.gone.block (hk _ (.inr (.inr (.inr (.inr (.inr (.inr (.inr rfl))))))))}
theorem ItkMem.up(h:ItkMem w bi A x)(hb:Below w.heap.size w w'):ItkMem w' bi A x:=h.keep hb.size fun b hf=>hb.block b (h.lt hf)
theorem ItkMem.ic(h:ItkMem w bi A x):bi≠A.bc:=ne_types h.blk h.clk.blk (by decide)
theorem ItkMem.im(h:ItkMem w bi A x):bi≠A.bm:=by obtain⟨es,cl,hm⟩:=h.clk.map.isMap;exact ne_map h.blk hm
theorem ItkMem.il(h:ItkMem w bi A x):bi≠A.bl:=by obtain⟨es,cl,hm⟩:=h.lates.isMap;exact ne_map h.blk hm
theorem ItkMem.ig(h:ItkMem w bi A x):bi≠A.bg:=by obtain⟨es,cl,hm⟩:=h.gone.isMap;exact ne_map h.blk hm
theorem ItkMem.iG(h:ItkMem w bi A x): ¬A.G bi:=h.had.not_cells h.blk (by decide) (by decide)
theorem ItkMem.cG(h:ItkMem w bi A x): ¬A.G A.bc:=h.had.not_cells h.clk.blk (by decide) (by decide)
theorem ItkMem.cl(h:ItkMem w bi A x):A.bc≠A.bl:=by obtain⟨es,cl,hm⟩:=h.lates.isMap;exact ne_map h.clk.blk hm
theorem ItkMem.cg(h:ItkMem w bi A x):A.bc≠A.bg:=by obtain⟨es,cl,hm⟩:=h.gone.isMap;exact ne_map h.clk.blk hm
theorem ItkMem.ev(h:ItkMem w bi A x){b:Nat}(hb: ∃cs,w.heap[b]?=some (.cells cs 74 (0,0))):b≠bi∧b≠A.bc∧b≠A.bm∧ ¬A.G b∧b≠A.bl∧b≠A.bg:=by obtain⟨cs,hc⟩:=hb;obtain⟨e1,c1,m1⟩:=h.clk.map.isMap;obtain⟨e2,c2,m2⟩:=h.lates.isMap;obtain⟨e3,c3,m3⟩:=h.gone.isMap;exact⟨ne_types hc h.blk (by decide),ne_types hc h.clk.blk (by decide),ne_map hc m1,h.had.not_cells hc (by decide) (by decide),ne_map hc m2,ne_map hc m3⟩
theorem ItkMem.setClk(h:ItkMem w bi A x){c:Clk}(hc:ClockAt w' A.bc A.bm c)(hk:Keep (fun b=>b=A.bc∨b=A.bm) w w'):ItkMem w' bi A {x with clk:=c}:=by have keep: ∀b,A.foot bi b→b≠A.bc→b≠A.bm→w'.heap[b]?=w.heap[b]?:=fun b hb h1 h2=>hk.block b (h.lt hb) (fun e=>e.elim h1 h2);exact{h with blk:=(keep _ (.inl rfl) h.ic h.im).trans h.blk,clk:=hc,had:=h.had.keep hk.size fun b hb=>keep b (.inr (.inr (.inr (.inl hb)))) (fun e=>h.cG (e▸hb)) (fun e=>h.gm (e▸hb)),taken:=h.taken.keep fun b hb=>keep b (.inr (.inr (.inr (.inr (.inl hb))))) (h.ev (h.taken.typ hb)).2.1 (h.ev (h.taken.typ hb)).2.2.1,late:=h.late.keep fun b hb=>keep b (.inr (.inr (.inr (.inr (.inr (.inl hb)))))) (h.ev (h.late.typ hb)).2.1 (h.ev (h.late.typ hb)).2.2.1,lates:=h.lates.block (keep _ (.inr (.inr (.inr (.inr (.inr (.inr (.inl rfl))))))) (Ne.symm h.cl) (Ne.symm h.ml)),gone:=h.gone.block (keep _ (.inr (.inr (.inr (.inr (.inr (.inr (.inr rfl))))))) (Ne.symm h.cg) (Ne.symm h.mg))}
theorem ItkMem.setHad(h:ItkMem w bi A x){G':Nat→Prop}{V':List UInt8→Value}{m:Had}(hh:HadAt w' G' A.bs A.bh m V')(hk:Keep A.G w w')(hG: ∀b,G' b→A.G b∨w.heap.size≤b):ItkMem w' bi {A with G:=G',V:=V'} {x with had:=m}:=by
 have keep: ∀b,A.foot bi b→ ¬A.G b→w'.heap[b]?=w.heap[b]?:=fun b hb h1=>hk.block b (h.lt hb) h1;have no: ∀b,A.foot bi b→ ¬A.G b→ ¬G' b:=fun b hb h1 hg=>by
  rcases hG b hg with h'|h';·exact h1 h'
  ·have:=h.lt hb;omega
 exact{h with blk:=(keep _ (.inl rfl) h.iG).trans h.blk,clk:=h.clk.keep (keep _ (.inr (.inl rfl)) h.cG) (keep _ (.inr (.inr (.inl rfl))) h.gm),had:=hh,taken:=h.taken.keep fun b hb=>keep b (.inr (.inr (.inr (.inr (.inl hb))))) (h.ev (h.taken.typ hb)).2.2.2.1,late:=h.late.keep fun b hb=>keep b (.inr (.inr (.inr (.inr (.inr (.inl hb)))))) (h.ev (h.late.typ hb)).2.2.2.1,lates:=h.lates.block (keep _ (.inr (.inr (.inr (.inr (.inr (.inr (.inl rfl))))))) h.gl),gone:=h.gone.block (keep _ (.inr (.inr (.inr (.inr (.inr (.inr (.inr rfl))))))) h.gg),gm:=no _ (.inr (.inr (.inl rfl))) h.gm,gl:=no _ (.inr (.inr (.inr (.inr (.inr (.inr (.inl rfl))))))) h.gl,gg:=no _ (.inr (.inr (.inr (.inr (.inr (.inr (.inr rfl))))))) h.gg}
theorem ItkMem.setTaken(h:ItkMem w bi A x){w1:World}{v:Value}{l:List Ev}(hg:w.grownBy w1 A.vt.ownBlock)(ho:OwnE w1 0 v l)(hv:v.ownBlock=A.vt.ownBlock∨ ∃k,v.ownBlock=some k∧w.heap.size≤k):ItkMem (w1.setCell ⟨bi,2,none⟩ v) bi {A with vt:=v} {x with taken:=l}:=by
 have hbi:bi<w.heap.size:=h.lt (.inl rfl);have keep1: ∀b,A.foot bi b→A.vt.ownBlock≠some b→w1.heap[b]?=w.heap[b]?:=fun b hb h1=>hg.block b (h.lt hb) (Ne.symm h1);have keep: ∀b,A.foot bi b→b≠bi→A.vt.ownBlock≠some b→(w1.setCell ⟨bi,2,none⟩ v).heap[b]?=w.heap[b]?:=fun b hb h0 h1=>(Below.heap_setCell w1 ⟨bi,2,none⟩ v b h0).trans (keep1 b hb h1);have nt: ∀b,(∀b',(∃cs,w.heap[b']?=some (.cells cs 74 (0,0)))→b'≠b)→A.vt.ownBlock≠some b:=fun b hb e=>hb b (h.taken.typ e) rfl;have hb1:w1.heap[bi]?=some (itkObj A):=(keep1 bi (.inl rfl) (nt _ fun b' hb'=>(h.ev hb').1)).trans h.blk;exact{h with
  blk:=heap_set_row hb1
  clk:=h.clk.keep (keep _ (.inr (.inl rfl)) (Ne.symm h.ic) (nt _ fun b' hb'=>(h.ev hb').2.1)) (keep _ (.inr (.inr (.inl rfl))) (Ne.symm h.im) (nt _ fun b' hb'=>(h.ev hb').2.2.1))
  had:=h.had.keep (by simpa[World.setCell]using hg.size) fun b hb=>keep b (.inr (.inr (.inr (.inl hb)))) (fun e=>h.iG (e▸hb)) (fun e=>(h.ev (h.taken.typ e)).2.2.2.1 hb)
  taken:=ho.keep fun b hb=>by refine Below.heap_setCell w1 ⟨bi,2,none⟩ v b ?_;obtain⟨cs,hc⟩:=ho.typ hb;exact ne_types hc hb1 (by decide)
  late:=h.late.keep fun b hb=>keep b (.inr (.inr (.inr (.inr (.inr (.inl hb)))))) (h.ev (h.late.typ hb)).1 (fun e=>h.tl b e hb)
  lates:=h.lates.block (keep _ (.inr (.inr (.inr (.inr (.inr (.inr (.inl rfl))))))) (Ne.symm h.il) (nt _ fun b' hb'=>(h.ev hb').2.2.2.2.1))
  gone:=h.gone.block (keep _ (.inr (.inr (.inr (.inr (.inr (.inr (.inr rfl))))))) (Ne.symm h.ig) (nt _ fun b' hb'=>(h.ev hb').2.2.2.2.2))
  tl:=fun b hb=>by
   rcases hv with e|⟨k,hk,hkl⟩;·exact h.tl b (e▸hb)
   ·intro hl;have:=h.late.lt hl;have:v.ownBlock=some b:=hb;rw[hk]at this;injection this with this;omega}
theorem SetI.congr{w:World}{b n:Nat}{ks ks':List (List UInt8×Int)}(h:SetI w b n ks)(he: ∀k,k∈ks↔k∈ks'):SetI w b n ks':=by obtain⟨D,h1,h2,h3⟩:=h;exact⟨D,h1,h2,fun s k hk=>by rw[h3 s k hk,decide_eq_decide.2 (he (s,k))]⟩
theorem ItkMem.setLate(h:ItkMem w bi A x){w1 w2:World}{v:Value}{e:Ev}(hs:SetI w1 A.bl (A.nl+1) (idOf e::x.late.map idOf))(hg1:w.grownBy w1 (some A.bl))(hg:w1.grownBy w2 A.vl.ownBlock)(ho:OwnE w2 0 v (x.late++[e]))(hv:v.ownBlock=A.vl.ownBlock∨ ∃k,v.ownBlock=some k∧w1.heap.size≤k):ItkMem (w2.setCell ⟨bi,3,none⟩ v) bi {A with vl:=v,nl:=A.nl+1} {x with late:=x.late++[e]}:=by
 have hbi:bi<w.heap.size:=h.lt (.inl rfl);have keep2: ∀b,A.foot bi b→b≠A.bl→A.vl.ownBlock≠some b→w2.heap[b]?=w.heap[b]?:=fun b hb h1 h2=>(hg.block b (Nat.lt_of_lt_of_le (h.lt hb) hg1.size) (Ne.symm h2)).trans (hg1.block b (h.lt hb) (fun e=>h1 (by injection e)));have keep: ∀b,A.foot bi b→b≠bi→b≠A.bl→A.vl.ownBlock≠some b→(w2.setCell ⟨bi,3,none⟩ v).heap[b]?=w.heap[b]?:=fun b hb h0 h1 h2=>(Below.heap_setCell w2 ⟨bi,3,none⟩ v b h0).trans (keep2 b hb h1 h2);have nt: ∀b,(∀b',(∃cs,w.heap[b']?=some (.cells cs 74 (0,0)))→b'≠b)→A.vl.ownBlock≠some b:=fun b hb e=>hb b (h.late.typ e) rfl;have hb1:w2.heap[bi]?=some (itkObj A):=(keep2 bi (.inl rfl) h.il (nt _ fun b' hb'=>(h.ev hb').1)).trans h.blk;exact{h with
  blk:=heap_set_row hb1
  clk:=h.clk.keep (keep _ (.inr (.inl rfl)) (Ne.symm h.ic) h.cl (nt _ fun b' hb'=>(h.ev hb').2.1)) (keep _ (.inr (.inr (.inl rfl))) (Ne.symm h.im) h.ml (nt _ fun b' hb'=>(h.ev hb').2.2.1))
  had:=h.had.keep (by have:=hg1.size;have:=hg.size;simp[World.setCell];omega) fun b hb=>keep b (.inr (.inr (.inr (.inl hb)))) (fun e=>h.iG (e▸hb)) (fun e=>h.gl (e▸hb)) (fun e=>(h.ev (h.late.typ e)).2.2.2.1 hb)
  taken:=h.taken.keep fun b hb=>keep b (.inr (.inr (.inr (.inr (.inl hb))))) (h.ev (h.taken.typ hb)).1 (h.ev (h.taken.typ hb)).2.2.2.2.1 (h.tl b hb)
  late:=ho.keep fun b hb=>by refine Below.heap_setCell w2 ⟨bi,3,none⟩ v b ?_;obtain⟨cs,hc⟩:=ho.typ hb;exact ne_types hc hb1 (by decide)
  lates:=by refine SetI.congr (ks:=idOf e::x.late.map idOf) (hs.block ?_) (fun k=>by simp;exact Or.comm);rw[Below.heap_setCell w2 ⟨bi,3,none⟩ v A.bl (Ne.symm h.il)];exact hg.block A.bl (Nat.lt_of_lt_of_le h.lates.lt hg1.size) (fun e=>(h.ev (h.late.typ e.symm)).2.2.2.2.1 rfl)
  gone:=h.gone.block (keep _ (.inr (.inr (.inr (.inr (.inr (.inr (.inr rfl))))))) (Ne.symm h.ig) (Ne.symm h.lg) (nt _ fun b' hb'=>(h.ev hb').2.2.2.2.2))
  tl:=fun b hb hl=>by
   rcases hv with e|⟨k,hk,hkl⟩;·exact h.tl b hb (e▸hl)
   ·have h1:=h.taken.lt hb;have h2:v.ownBlock=some b:=hl;have:=hg1.size;rw[hk]at h2;injection h2 with h2;omega}
theorem ItkMem.setGone(h:ItkMem w bi A x){p:List UInt8}{n:Nat}(hs:SetB w' A.bg n (p::x.gone))(hg:w.grownBy w' (some A.bg)):ItkMem w' bi {A with ng:=n} {x with gone:=p::x.gone}:=by have keep: ∀b,A.foot bi b→b≠A.bg→w'.heap[b]?=w.heap[b]?:=fun b hb h1=>hg.block b (h.lt hb) (fun e=>h1 (by injection e));exact{h with blk:=(keep _ (.inl rfl) h.ig).trans h.blk,clk:=h.clk.keep (keep _ (.inr (.inl rfl)) h.cg) (keep _ (.inr (.inr (.inl rfl))) h.mg),had:=h.had.keep hg.size fun b hb=>keep b (.inr (.inr (.inr (.inl hb)))) (fun e=>h.gg (e▸hb)),taken:=h.taken.keep fun b hb=>keep b (.inr (.inr (.inr (.inr (.inl hb))))) (h.ev (h.taken.typ hb)).2.2.2.2.2,late:=h.late.keep fun b hb=>keep b (.inr (.inr (.inr (.inr (.inr (.inl hb)))))) (h.ev (h.late.typ hb)).2.2.2.2.2,lates:=h.lates.block (keep _ (.inr (.inr (.inr (.inr (.inr (.inr (.inl rfl))))))) h.lg),gone:=hs}
theorem ItkMem.setDrop(h:ItkMem w bi A x){vt vl:Value}{bl nl:Nat}{t l:List Ev}(hk:Keep (fun b=>b=bi) w w')(hb:w'.heap[bi]?=some (itkObj {A with vt:=vt,vl:=vl,bl:=bl,nl:=nl}))(ht:OwnE w' 0 vt t)(hl:OwnE w' 0 vl l)(hs:SetI w' bl nl (l.map idOf))(_ht1: ∀b,vt.ownBlock=some b→w.heap.size≤b)(_hl1: ∀b,vl.ownBlock=some b→w.heap.size≤b)(hbl:w.heap.size≤bl)(htl: ∀b,vt.ownBlock=some b→vl.ownBlock≠some b):ItkMem w' bi {A with vt:=vt,vl:=vl,bl:=bl,nl:=nl} {x with taken:=t,late:=l}:=by have keep: ∀b,A.foot bi b→b≠bi→w'.heap[b]?=w.heap[b]?:=fun b hb h1=>hk.block b (h.lt hb) h1;exact{blk:=hb,clk:=h.clk.keep (keep _ (.inr (.inl rfl)) (Ne.symm h.ic)) (keep _ (.inr (.inr (.inl rfl))) (Ne.symm h.im)),had:=h.had.keep hk.size fun b hb=>keep b (.inr (.inr (.inr (.inl hb)))) (fun e=>h.iG (e▸hb)),taken:=ht,late:=hl,lates:=hs,gone:=h.gone.block (keep _ (.inr (.inr (.inr (.inr (.inr (.inr (.inr rfl))))))) (Ne.symm h.ig)),ml:=fun e=>by have:=h.clk.map.lt;have e':A.bm=bl:=e;omega,mg:=h.mg,lg:=fun e=>by have:=h.gone.lt;have e':bl=A.bg:=e;omega,gm:=h.gm,gl:=fun e=>by have:=h.had.lt _ e;have e':bl<w.heap.size:=this;omega,gg:=h.gg,tl:=htl}
end
def ItkAt(w:World)(F:Nat→Prop)(bi N:Nat)(x:Itk):Prop:= ∃A,ItkMem w bi A x∧ItkOk N x∧A.nl≤N∧A.ng≤N∧(∀b,A.foot bi b→F b)∧ ∀b,F b→b<w.heap.size
theorem ItkAt.keep{w w':World}{F:Nat→Prop}{bi N:Nat}{x:Itk}(h:ItkAt w F bi N x)(hsz:w.heap.size≤w'.heap.size)(hk: ∀b,F b→w'.heap[b]?=w.heap[b]?):ItkAt w' F bi N x:=by obtain⟨A,h1,h2,h3,h4,h5,h6⟩:=h;exact⟨A,h1.keep hsz (fun b hb=>hk b (h5 b hb)),h2,h3,h4,h5,fun b hb=>Nat.lt_of_lt_of_le (h6 b hb) hsz⟩
theorem ItkAt.up{w w':World}{F:Nat→Prop}{bi N:Nat}{x:Itk}(h:ItkAt w F bi N x)(hb:Below w.heap.size w w'):ItkAt w' F bi N x:=by obtain⟨A,h1,h2,h3,h4,h5,h6⟩:=h;exact ItkAt.keep ⟨A,h1,h2,h3,h4,h5,h6⟩ hb.size fun b hf=>hb.block b (h6 b hf)
theorem ItkAt.more{w:World}{F:Nat→Prop}{bi N M:Nat}{x:Itk}(h:ItkAt w F bi N x)(hN:N≤M):ItkAt w F bi M x:=by obtain⟨A,h1,h2,h3,h4,h5⟩:=h;exact⟨A,h1,h2.more hN,Nat.le_trans h3 hN,Nat.le_trans h4 hN,h5⟩
def Deeds(w:World)(F:Nat→Prop)(bi N:Nat)(x:Itk)(w':World):Prop:= ∃F',ItkAt w' F' bi N x∧Keep F w w'∧ ∀b,F' b→F b∨w.heap.size≤b
end Go.Proofs.YtcmmclliabhnjaaGreatDoor
