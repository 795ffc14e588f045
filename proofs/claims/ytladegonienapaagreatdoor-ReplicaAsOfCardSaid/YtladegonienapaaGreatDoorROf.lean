/-
  Layer 8: Of.
-/
import Derived.Test.YtladegonienapaaGreatDoorROfRgt
import Derived.Test.YtladegonienapaaGreatDoorRClkDec2
import Derived.Test.YtladegonienapaaGreatDoorRHdDec
set_option maxRecDepth 100000
set_option maxHeartbeats 16000000
namespace Go.Proofs.YtladegonienapaaGreatDoor
open Go.RowKit Go.Maps Go.Sort Go.Shelf
structure jg(a b:Int)(lc lh:List UInt8)(gs:List (List UInt8))(ts ls:List Ev)(c:bq)(m:dV):Prop where
 dc:tC lc=some c
 dh: ∃r,oF lh=.ok m r
 sl:c.ag=a
 id:c.idle=b
 gone:uh gs
 right:dU gs m ts ls
theorem rQ{gone:List (List UInt8)}{had:dV}{taken late:List Ev}(h:dU gone had taken late)(i:Nat)(hi:i+1<taken.length):gH (taken[i]'(by omega)) taken[i+1]:=by
 have h1:=h.taken (i+1) hi;unfold oU at h1;simp only[Bool.and_eq_true,Bool.or_eq_true,decide_eq_true_eq]at h1;have h2:=h1.1.2;rcases h2 with h2|h2;·omega
 ·have e1:taken.getD (i+1-1) taken[i+1]=taken[i]:=by rw[List.getD_eq_getElem?_getD,Nat.add_sub_cancel,List.getElem?_eq_getElem (by omega)];rfl
  rw[e1]at h2;exact kZ.1 (zA.2 (by simpa using h2))
theorem yt{gone:List (List UInt8)}{had:dV}{taken late:List Ev}(h:dU gone had taken late)(i:Nat): ∀(d:Nat)(hd:i+d+1<taken.length),gH (taken[i]'(by omega)) taken[i+d+1]|0,hd=>rQ h i hd|d+1,hd=>(yt h i d (by omega)).trans (rQ h (i+d+1) (by omega))
theorem wF{gone:List (List UInt8)}{had:dV}{taken late:List Ev}(h:dU gone had taken late):dS taken:=by refine List.pairwise_iff_getElem.2 fun i j hi hj hij hlt=>?_;obtain⟨d,rfl⟩: ∃d,j=i+d+1:=⟨j-i-1,by omega⟩;exact gH.irrefl _ ((yt h i d hj).trans hlt)
theorem DU{gone:List (List UInt8)}{had:dV}{taken late:List Ev}(h:dU gone had taken late): ∀e,e∈taken∨e∈late→aB e=true:=fun e he=>by
 rcases he with he|he;·obtain⟨i,hi,rfl⟩:=List.getElem_of_mem he;have h1:=h.taken i hi;unfold oU at h1;simp only[Bool.and_eq_true]at h1;exact h1.1.1.1.1.1
 ·obtain⟨i,hi,rfl⟩:=List.getElem_of_mem he;have h1:=h.late i hi;unfold Cx at h1;simp only[Bool.and_eq_true]at h1;exact h1.1.1
theorem dU.congr{gone GA:List (List UInt8)}{had:dV}{taken late:List Ev}(h:dU gone had taken late)(hg: ∀p,p∈gone↔p∈GA):dU GA had taken late:=by
 have e: ∀p,decide (p∈GA)=decide (p∈gone):=fun p=>decide_eq_decide.2 (hg p).symm;refine⟨h.len,fun k hk=>?_,fun k hk=>?_⟩;·have:=h.taken k hk;unfold oU eP at this⊢;rw[e];exact this
 ·have:=h.late k hk;unfold Cx eP at this⊢;rw[e];exact this
structure Kc(N:Nat)(lc lh:List UInt8):Prop where
 src: ∀c,tC lc=some c→c.src.length≤N
 had: ∀m r,oF lh=.ok m r→m.length≤N∧ ∀p∈m,p.2.length≤N
theorem zn{m:dV}{N:Nat}(h: ∀p∈m,p.2.length≤N)(s:List UInt8):(aC m s).length≤N:=by unfold aC;cases hg:aA m s with|none=>simp|some v=>exact h _ (ah hg)
theorem FY{a b:Int}{lc lh:List UInt8}{gs:List (List UInt8)}{ts ls:List Ev}{c:bq}{m:dV}{N:Nat}(h:jg a b lc lh gs ts ls c m)(hb:Kc N lc lh)(ht:ts.length≤N)(hl:ls.length≤N):bU N ⟨c,m,ts,ls,gs⟩:=by obtain⟨r,hr⟩:=h.dh;have h2:=hb.had m r hr;exact⟨wF h.right,DU h.right,hb.src c h.dc,h2.1,zn h2.2,ht,hl⟩
def iK(w:World)(N:Nat)(a b:Int)(lc lh:List UInt8)(gs:List (List UInt8))(ts ls:List Ev)(e:Ending)(w':World):Prop:=RowKit.Below w.heap.size w w'∧((∃c m bi F,jg a b lc lh gs ts ls c m∧e=.returned (.tuple #[.pointer (some ⟨bi,0,none⟩),.int .i64 0])∧aS w' F bi N ⟨c,m,ts,ls,gs⟩∧ ∀b,F b→w.heap.size≤b)∨ ∃er:Int,e=.returned (.tuple #[.pointer none,.int .i64 er])∧(er=2∨(er=3∧oF lh=.cO))∧ ∀c m,¬jg a b lc lh gs ts ls c m)
theorem iY{w w':World}{N:Nat}{a b:Int}{lc lh:List UInt8}{gs:List (List UInt8)}{ts ls:List Ev}(hb:RowKit.Below w.heap.size w w'){er:Int}(he:er=2∨(er=3∧oF lh=.cO))(hn: ∀c m,¬jg a b lc lh gs ts ls c m):iK w N a b lc lh gs ts ls (.returned (.tuple #[.pointer none,.int .i64 er])) w':=⟨hb,.inr ⟨er,rfl,he,hn⟩⟩
structure Oc(bi:Nat)(c0 s0 l0 g0:Value)(T:TypeId)(ts ls:List Ev)(w7 W:World)(x2 x3:Value)(pt pl:Option Value):Prop where
 lt:bi<w7.heap.size
 blk:W.heap[bi]?=some (.cells #[c0,s0,x2,x3,l0,g0] T (0,0))
 keep:ai (fun b=>b=bi) w7 W
 tk: ∀v,pt=some v→aU W w7.heap.size v ts
 le: ∀v,pl=some v→aU W w7.heap.size v ls
 ap: ∀v u,pt=some v→pl=some u→ ∀b,v.ownBlock=some b→u.ownBlock≠some b
section
variable{bi:Nat}{c0 s0 l0 g0:Value}{T:TypeId}{ts ls:List Ev}{w7 W V:World}{x2 x3 v:Value}{pt pl:Option Value}
theorem Oc.up(h:Oc bi c0 s0 l0 g0 T ts ls w7 W x2 x3 pt pl)(hb:RowKit.Below W.heap.size W V):Oc bi c0 s0 l0 g0 T ts ls w7 V x2 x3 pt pl:=⟨h.lt,(hb.block _ (ax h.blk)).trans h.blk,h.keep.trans (ai.of_below hb) (fun _ _ h=>h),fun v hv=>ownsRow_below (h.tk v hv) hb (Nat.le_refl _),fun v hv=>ownsRow_below (h.le v hv) hb (Nat.le_refl _),h.ap⟩
theorem Oc.Hd(h:Oc bi c0 s0 l0 g0 T ts ls w7 W x2 x3 none pl)(ho:aU V W.heap.size v ts)(hb:RowKit.Below W.heap.size W V):Oc bi c0 s0 l0 g0 T ts ls w7 V x2 x3 (some v) pl:=by
 have h':=h.up hb;refine⟨h'.lt,h'.blk,h'.keep,fun u hu=>?_,h'.le,fun u z hu hz b hb1 hb2=>?_⟩;·injection hu with hu;subst hu;exact aU.dR ho h.keep.size
 ·injection hu with hu;subst hu;have h1:=(World.ownsRow.lt ho b hb1).1;have h2:=(World.ownsRow.lt (h.le z hz) b hb2).2;omega
theorem Oc.He(h:Oc bi c0 s0 l0 g0 T ts ls w7 W x2 x3 pt none)(ho:aU V W.heap.size v ls)(hb:RowKit.Below W.heap.size W V):Oc bi c0 s0 l0 g0 T ts ls w7 V x2 x3 pt (some v):=by
 have h':=h.up hb;refine⟨h'.lt,h'.blk,h'.keep,h'.tk,fun u hu=>?_,fun u z hu hz b hb1 hb2=>?_⟩;·injection hu with hu;subst hu;exact aU.dR ho h.keep.size
 ·injection hz with hz;subst hz;have h1:=(World.ownsRow.lt ho b hb2).1;have h2:=(World.ownsRow.lt (h.tk u hu) b hb1).2;omega
theorem Oc.set(h:Oc bi c0 s0 l0 g0 T ts ls w7 W x2 x3 pt pl)(o:Nat)(u:Value)(y2 y3:Value)(he:(#[c0,s0,x2,x3,l0,g0]:Array Value).setIfInBounds o u= #[c0,s0,y2,y3,l0,g0]):Oc bi c0 s0 l0 g0 T ts ls w7 (W.setCell ⟨bi,o,none⟩ u) y2 y3 pt pl:=by have hk: ∀b,b≠bi→(W.setCell ⟨bi,o,none⟩ u).heap[b]?=W.heap[b]?:=fun b hb=>Below.heap_setCell _ ⟨bi,o,none⟩ _ _ hb;have hrow: ∀{l:List Ev}{z:Value},aU W w7.heap.size z l→aU (W.setCell ⟨bi,o,none⟩ u) w7.heap.size z l:=fun ho=>ho.keep fun b hb=>hk b (by have:=(World.ownsRow.lt ho b hb).1;have:=h.lt;omega);refine⟨h.lt,by rw[af h.blk,he],h.keep.setCell (p:=⟨bi,o,none⟩) (fun _=>rfl) u,fun v hv=>hrow (h.tk v hv),fun v hv=>hrow (h.le v hv),h.ap⟩
theorem Oc.cells(h:Oc bi c0 s0 l0 g0 T ts ls w7 W x2 x3 pt pl):W.cell? ⟨bi,2,none⟩=some x2∧W.cell? ⟨bi,3,none⟩=some x3∧W.frozen? ⟨bi,2,none⟩=false∧W.frozen? ⟨bi,3,none⟩=false:=⟨(cell_of_row W bi 2 _ _ (0,0) h.blk).trans rfl,(cell_of_row W bi 3 _ _ (0,0) h.blk).trans rfl,frozen_of_row W bi 2 _ _ h.blk,frozen_of_row W bi 3 _ _ h.blk⟩
theorem Oc.set2(h:Oc bi c0 s0 l0 g0 T ts ls w7 W x2 x3 pt pl)(u:Value):Oc bi c0 s0 l0 g0 T ts ls w7 (W.setCell ⟨bi,2,none⟩ u) u x3 pt pl:=h.set 2 u u x3 (by simp)
theorem Oc.set3(h:Oc bi c0 s0 l0 g0 T ts ls w7 W x2 x3 pt pl)(u:Value):Oc bi c0 s0 l0 g0 T ts ls w7 (W.setCell ⟨bi,3,none⟩ u) x2 u pt pl:=h.set 3 u x2 u (by simp)
end
structure K9(w w7:World)(bi:Nat)(A:oN)(c:bq)(m:dV)(gs:List (List UInt8))(ls:List Ev):Prop where
 aG:ay w7 A.bc A.bm c
 had:aX w7 A.G A.bs A.bh m A.V
 dx:eH w7 A.bl ls.length (ls.map aO)
 gone:dJ w7 A.bg gs.length gs
 ml:A.bm≠A.bl
 mg:A.bm≠A.bg
 lg:A.bl≠A.bg
 gm: ¬A.G A.bm
 gl: ¬A.G A.bl
 gg: ¬A.G A.bg
 ib:bi<w7.heap.size
 hi:w.heap.size≤bi∧w.heap.size≤A.bc∧w.heap.size≤A.bm∧(∀b,A.G b→w.heap.size≤b)∧w.heap.size≤A.bl∧w.heap.size≤A.bg
 ni:bi≠A.bc∧bi≠A.bm∧ ¬A.G bi∧bi≠A.bl∧bi≠A.bg
 sz:w.heap.size≤w7.heap.size
theorem Me{w w7 W:World}{bi N:Nat}{A:oN}{a b:Int}{lc lh:List UInt8}{c:bq}{m:dV}{gs:List (List UInt8)}{ts ls:List Ev}{vt vl:Value}{T:TypeId}(hT:T=79)(h:K9 w w7 bi A c m gs ls)(hp:jg a b lc lh gs ts ls c m)(hbd:Kc N lc lh)(ht:ts.length≤N)(hl:ls.length≤N)(hg:gs.length≤N)(ho:Oc bi (.pointer (some ⟨A.bc,0,none⟩)) (.pointer (some ⟨A.bs,0,none⟩)) (.map (some A.bl)) (.map (some A.bg)) T ts ls w7 W vt vl (some vt) (some vl)): ∃F,aS W F bi N ⟨c,m,ts,ls,gs⟩∧ ∀b,F b→w.heap.size≤b:=by
 subst hT;obtain⟨n1,n2,n3,n4,n5⟩:=h.ni;obtain⟨k1,k2,k3,k4,k5,k6⟩:=h.hi;have hk: ∀b,b<w7.heap.size→b≠bi→W.heap[b]?=w7.heap[b]?:=fun b hb hne=>ho.keep.block b hb hne;have hs:=ho.keep.size;have hot:=ho.tk vt rfl;have hol:=ho.le vl rfl;refine⟨fun b=>w.heap.size≤b∧b<W.heap.size,⟨{A with vt:=vt,vl:=vl,nl:=ls.length,ng:=gs.length},?_,FY hp hbd ht hl,hl,hg,?_,fun b hb=>hb.2⟩,fun b hb=>hb.1⟩;·exact⟨ho.blk,h.aG.keep (hk _ h.aG.lt (Ne.symm n1)) (hk _ h.aG.map.lt (Ne.symm n2)),h.had.keep hs (fun b hb=>hk b (h.had.lt b hb) (fun e=>n3 (e▸hb))),aU.low hot,aU.low hol,h.dx.block (hk _ h.dx.lt (Ne.symm n4)),h.gone.block (hk _ h.gone.lt (Ne.symm n5)),h.ml,h.mg,h.lg,h.gm,h.gl,h.gg,fun b hb=>ho.ap vt vl rfl rfl b hb⟩
 ·intro b hb;rcases hb with hb|hb|hb|hb|hb|hb|hb|hb;·have:=h.ib;exact⟨by omega,by omega⟩
  ·have hb':b=A.bc:=hb;have:=h.aG.lt;exact⟨by omega,by omega⟩
  ·have hb':b=A.bm:=hb;have:=h.aG.map.lt;exact⟨by omega,by omega⟩
  ·have:=h.had.lt b hb;exact⟨k4 b hb,by omega⟩
  ·have:=World.ownsRow.lt hot b hb;have:=h.sz;exact⟨by omega,by omega⟩
  ·have:=World.ownsRow.lt hol b hb;have:=h.sz;exact⟨by omega,by omega⟩
  ·have hb':b=A.bl:=hb;have:=h.dx.lt;exact⟨by omega,by omega⟩
  ·have hb':b=A.bg:=hb;have:=h.gone.lt;exact⟨by omega,by omega⟩
structure Sa(w:World)(N:Nat)(Ac Ah At Al Ag:Option Addr)(nc kc nh kh nt kt nl kl ng kg:Nat)(lc lh:List UInt8)(ts ls:List Ev)(gs:List (List UInt8)):Prop where
 aG:dP w w.heap.size Ac nc kc lc
 had:dP w w.heap.size Ah nh kh lh
 tk:eD w w.heap.size At nt kt ts
 le:eD w w.heap.size Al nl kl ls
 gn:Strs w w.heap.size Ag ng kg gs
 hnc:nc≤100000
 Uf:nh≤1000000000
 hnt:nt≤N
 hnl:nl≤N
 Bf:ng≤N
 hN:N≤100000
 st: ∀e∈ts,e.small
 sl: ∀e∈ls,e.small
 max:aM w
 errs:eQ w
 tab:Lib.TabBelow Tryz.prog w.heap.size w "internal/strconv.uint64pow10" .u64 Lib.pow10Tab
 bd:Kc N lc lh
def Da(w w5:World)(bg:Nat)(gs:List (List UInt8))(i:Value)(wr:World):Prop:= ∃k:Nat,i=.int .i64 k∧k≤gs.length∧(∀j(h:j<gs.length),j<k→ae gs[j]=true∧(0<j→bytesBefore (gs[j-1]'(by omega)) gs[j]=true))∧dJ wr bg k (gs.take k)∧ai (fun b=>b=bg) w5 wr∧RowKit.Below w.heap.size w wr
def La(bi:Nat)(c0 s0 l0 g0:Value)(ts ls:List Ev)(w7 W:World):Prop:= ∃vt vl,Oc bi c0 s0 l0 g0 79 ts ls w7 W vt vl (some vt) (some vl)
theorem rX{bi:Nat}{c0 s0 l0 g0:Value}{ts ls:List Ev}{w7 W:World}{vt vl:Value}(h:Oc bi c0 s0 l0 g0 79 ts ls w7 W vt vl (some vt) (some vl)):La bi c0 s0 l0 g0 ts ls w7 W:=⟨vt,vl,h⟩
theorem Mf(w:World)(N:Nat)(Ac Ah At Al Ag:Option Addr)(nc kc nh kh nt kt nl kl ng kg:Nat)(a b:Int)(lc lh:List UInt8)(ts ls:List Ev)(gs:List (List UInt8))(h:Sa w N Ac Ah At Al Ag nc kc nh kh nt kt nl kl ng kg lc lh ts ls gs):Calls Tryz.prog 45 #[o8 a b (.slice Ac nc kc) (.slice Ah nh kh) (.slice At nt kt) (.slice Al nl kl) (.slice Ag ng kg)] w (iK w N a b lc lh gs ts ls):=by
 have HI:=qH h;have hnc:=h.hnc;have hnt:=h.hnt;have hnl:=h.hnl;have Bf:=h.Bf;have hN:=h.hN;have hlt:=h.tk.len;have hll:=h.le.len;have Wi:=h.gn.len;have hlc:=h.aG.len;clear h;have HB1:=qS (RowKit.Below w.heap.size w (w.alloc (mR a b (.slice Ac nc kc) (.slice Ah nh kh) (.slice At nt kt) (.slice Al nl kl) (.slice Ag ng kg)))) ((Below.refl _ _).alloc (Nat.le_refl _) _);have zQ:=qS ((w.alloc (mR a b (.slice Ac nc kc) (.slice Ah nh kh) (.slice At nt kt) (.slice Al nl kl) (.slice Ag ng kg))).heap[w.heap.size]?=_) (heap_alloc_new w _);have hs1:(w.alloc (mR a b (.slice Ac nc kc) (.slice Ah nh kh) (.slice At nt kt) (.slice Al nl kl) (.slice Ag ng kg))).heap.size=w.heap.size+1:=by simp
 go_enter Tryz.func45,Tryz.ntmps45;go_upto_region 1 with fail;generalize w.alloc (mR a b (.slice Ac nc kc) (.slice Ah nh kh) (.slice At nt kt) (.slice Al nl kl) (.slice Ag ng kg))=w1 at*;have Li:=qH (fun(W:World)(hW:W.heap[w.heap.size]?=some (mR a b (.slice Ac nc kc) (.slice Ah nh kh) (.slice At nt kt) (.slice Al nl kl) (.slice Ag ng kg)))=>fT hW);obtain⟨z0,z1,z2,z3,z4,z5,z6,_⟩:=Li.o w1 zQ.o;have HC:=qH (EG w1 Ac nc kc lc ((HI.o.aG.below HB1.o).more HB1.o.size) hnc (HI.o.max.up HB1.o) (HI.o.errs.up HB1.o) (iw HI.o.tab HB1.o));go_wp2_with fail;clear z0 z1 z2 z3 z4 z5 z6;with_reducible refine HC.o.mono ?_
 clear HC;rintro r w2⟨hcase,hb2⟩;have HB2:=qH (HB1.o.trans (hb2.mono HB1.o.size));have Db:=qH ((hb2.block _ (by omega)).trans zQ.o);have hs2:=hb2.size;cases NI:tC lc with
  |none=>rw[NI]at hcase;simp only at hcase;subst hcase;have HF:=qS (∀q,iK w N a b lc lh gs ts ls (.returned (.tuple #[.pointer none,.int .i64 2])) (w2.drewN q)) (fun q=>iY (below_drewN HB2.o q) (.inl rfl) fun c m h=>by have:=h.dc;rw[NI]at this;cases this);clear NI;go_wp2;go_ret2;exact HF.o 0
  |some c=>
   rw[NI]at hcase;obtain⟨bc,bm,rfl,hck,hbc,Ru⟩:=hcase;have LD:=qH NI;have Np:=qH hck;have hbc2:=hck.lt;have hbm2:=hck.map.lt;clear hck NI hb2;obtain⟨z0,z1,z2,z3,z4,z5,z6,_⟩:=Li.o w2 Db.o;have HD:=qH (Gx w2 Ah nh kh lh ((HI.o.had.below HB2.o).more HB2.o.size) (by have:=HI.o.Uf;omega));go_wp2_with fail;clear z0 z1 z2 z3 z4 z5 z6;with_reducible refine HD.o.mono ?_
   clear HD;rintro r w3⟨hcase,hb3⟩;have HB3:=qH (HB2.o.trans (hb3.mono HB2.o.size));have QL:=qH ((hb3.block _ (by omega)).trans Db.o);have Qo:=qH (Np.o.up hb3);have hs3:=hb3.size;clear Np hb3;cases I4:oF lh with
    |cO=>rw[I4]at hcase;simp only at hcase;subst hcase;have HF:=qS (iK w N a b lc lh gs ts ls (.returned (.tuple #[.pointer none,.int .i64 3])) w3) (iY HB3.o (.inr ⟨rfl,I4⟩) fun c m h=>by obtain⟨r,hr⟩:=h.dh;rw[I4]at hr;cases hr);clear I4;go_wp2;go_ret2;exact HF.o
    |form=>rw[I4]at hcase;simp only at hcase;subst hcase;have HF:=qS (iK w N a b lc lh gs ts ls (.returned (.tuple #[.pointer none,.int .i64 2])) w3) (iY HB3.o (.inl rfl) fun c m h=>by obtain⟨r,hr⟩:=h.dh;rw[I4]at hr;cases hr);clear I4;go_wp2;go_ret2;exact HF.o
    |ok m rr=>
     rw[I4]at hcase;obtain⟨bs,bh,G,V,rfl,hhd,hG⟩:=hcase;have Ty:=qH I4;have xU:=qH hhd;have HG:=qH hG;clear hhd hG I4;have HF:=qS ((∀c' m',jg a b lc lh gs ts ls c' m'→c'=c∧m'=m)) (fun c' m' h=>by obtain⟨r,hr⟩:=h.dh;rw[Ty.o]at hr;injection hr with hr _;have:=h.dc;rw[LD.o]at this;injection this with this;exact⟨this.symm,hr.symm⟩);go_wp2_with fail;with_reducible refine(sF w3 0 0).mono ?_
     rintro r w4⟨bi,F,rfl,⟨A,hM,_,hnl0,hng0,hfo,RO⟩,hb4,QG⟩;have HM:=qH hM;have Qn:=qH (Qo.o.up hb4);have Qd:=qH (xU.o.up hb4);have NL:=qH ((hb4.block _ (by omega)).trans QL.o);have fA:=qH (HB3.o.trans (hb4.mono HB3.o.size));have hs4:=hb4.size;have hbi3:=QG _ (hfo _ (.inl rfl));have hbl3:=QG _ (hfo _ (.inr (.inr (.inr (.inr (.inr (.inr (.inl rfl))))))));have hbg3:=QG _ (hfo _ (.inr (.inr (.inr (.inr (.inr (.inr (.inr rfl))))))));have hbi4:=ax hM.blk;have hil:=hM.il;have hig:=hM.ig;have Mw:=xU.o.lt;obtain⟨c0,c1,_,_,c4,c5,_,_,_⟩:=hM.cells;have f0:=frozen_of_row w4 bi 0 _ _ hM.blk;have f1:=frozen_of_row w4 bi 1 _ _ hM.blk;obtain⟨Bt,ct,uk,_⟩:=hM.taken.form;obtain⟨Bl,cl,hvl,_⟩:=hM.late.form;clear hM hfo RO QG hb4 Qo xU;have e1:=af (o:=1) (u:=.pointer (some ⟨bs,0,none⟩)) (af (o:=0) (u:=.pointer (some ⟨bc,0,none⟩)) HM.o.blk);simp only[List.setIfInBounds_toArray,List.set_cons_zero,List.set_cons_succ]at e1;have uM:=qH e1;have Lt:=qS (∀k,k≠bi→((w4.setCell ⟨bi,0,none⟩ (.pointer (some ⟨bc,0,none⟩))).setCell ⟨bi,1,none⟩ (.pointer (some ⟨bs,0,none⟩))).heap[k]?=w4.heap[k]?) (fun k hk=>(Below.heap_setCell _ _ _ _ hk).trans (Below.heap_setCell _ _ _ _ hk));have jJ:=qS (RowKit.Below w.heap.size w ((w4.setCell ⟨bi,0,none⟩ (.pointer (some ⟨bc,0,none⟩))).setCell ⟨bi,1,none⟩ (.pointer (some ⟨bs,0,none⟩)))) ((fA.o.setCell (p:=⟨bi,0,none⟩) (by show w.heap.size≤bi;omega) _).setCell (p:=⟨bi,1,none⟩) (by show w.heap.size≤bi;omega) _);have hs5:((w4.setCell ⟨bi,0,none⟩ (.pointer (some ⟨bc,0,none⟩))).setCell ⟨bi,1,none⟩ (.pointer (some ⟨bs,0,none⟩))).heap.size=w4.heap.size:=by simp[World.setCell]
     clear e1;go_upto_region 9 with fail;generalize(w4.setCell ⟨bi,0,none⟩ (.pointer (some ⟨bc,0,none⟩))).setCell ⟨bi,1,none⟩ (.pointer (some ⟨bs,0,none⟩))=w5 at*;have Le:=qH ((Lt.o w.heap.size (by omega)).trans NL.o);have NN:=qS (dJ w5 A.bg A.ng []) (HM.o.gone.block (Lt.o _ (Ne.symm hig)));have Iu:=qS (eH w5 A.bl A.nl []) (HM.o.dx.block (Lt.o _ (Ne.symm hil)));have hbl5:A.bl<w5.heap.size:=Iu.o.lt;have hbg5:A.bg<w5.heap.size:=NN.o.lt;have Qm:=qH (Qn.o.keep (Lt.o _ (by omega)) (Lt.o _ (by omega)));have Qc:=qH (Qd.o.keep (by omega) (fun k hk=>Lt.o k (by have:=Mw k hk;omega)));have KX:A.nl=0:=by omega
     have KY:A.ng=0:=by omega
     rw[KX]at Iu;rw[KY]at NN;have JJ:A.bl≠A.bg:=HM.o.lg;have Uy:=HG.o;clear c0 c1 c4 c5 f0 f1 Qn Qd NL fA hnl0 hng0 KX KY;have gI:=qS (Da w w5 A.bg gs (.int .i64 0) w5) (⟨0,rfl,Nat.zero_le _,fun j _ h=>absurd h (Nat.not_lt_zero _),NN.o,ai.refl _ _,jJ.o⟩);obtain⟨z0,z1,z2,z3,z4,z5,z6,_⟩:=Li.o w5 Le.o;go_wp2;clear z0 z1 z2 z3 z4 z5 z6;go_loopw[42](fun i wr=>Da w w5 A.bg gs i wr)(fun i _=>ng-(intOf i).toNat);case atStart=>exact gI.o
     case round=>
      obtain⟨k,rfl,hk,hgo,hset,hkp,hbel⟩:=hrel;have Ng:=qH hgo;have vW:=qH hset;have qd:=qH hkp;have uN:=qH hbel;have qX:=hkp.size;have MP:=qH ((hkp.block w.heap.size (by omega) (by omega)).trans Le.o);have Tc:=qH ((hkp.block bi (by omega) hig).trans uM.o);clear hgo hset hkp hbel gI;obtain⟨z0,z1,z2,z3,z4,z5,z6,_⟩:=Li.o wr MP.o;by_cases hkn:k<ng
      ·have hkl:k<gs.length:=by omega
       obtain⟨eb,eo,RP,hb,hc⟩:=HI.o.gn.at_ k hkl;have hc':=(uN.o.cell (p:=⟨eb,eo+k,none⟩) hb).trans hc;have oO:=qS (0<k→wr.cell? ⟨eb,eo+(k-1),none⟩=some (.string ⟨(gs.getD (k-1) []).toArray⟩)) (fun h0=>by obtain⟨b',off',e',hb',hc'⟩:=HI.o.gn.at_ (k-1) (by omega);have e2:=RP.symm.trans e';injection e2 with e2;injection e2 with e1 e2;subst e1 e2;rw[uN.o.cell (p:=⟨eb,eo+(k-1),none⟩) hb,hc'];simp[List.getD,List.getElem?_eq_getElem (show k-1<gs.length by omega)]);have SI:=qS (ae gs[k]=false→ ¬uh gs) (fun h hg=>Bool.noConfusion (h.symm.trans (hg.name k hkl)));have SH:=qS (0<k→Op.bytesLess (gs.getD (k-1) []) gs[k]=false→ ¬uh gs) (fun h0 h hg=>by
        have h2:=hg.up k hkl h0;have e1:gs.getD (k-1) []=gs[k-1]:=by simp[List.getD,List.getElem?_eq_getElem (show k-1<gs.length by omega)]
        rw[xh,e1]at h;exact Bool.noConfusion (h.symm.trans h2));have BQ:=qS (ae gs[k]=true→(0<k→Op.bytesLess (gs.getD (k-1) []) gs[k]=true)→ ∀j(h:j<gs.length),j<k+1→ae gs[j]=true∧(0<j→bytesBefore (gs[j-1]'(by omega)) gs[j]=true)) (fun h1 h2 j hj hjk=>by
        by_cases e:j=k
        ·subst e;refine⟨h1,fun h0=>?_⟩;have h3:=h2 h0;have e1:gs.getD (j-1) []=gs[j-1]:=by simp[List.getD,List.getElem?_eq_getElem (show j-1<gs.length by omega)]
         rw[xh,e1]at h3;exact h3
        ·exact Ng.o j hj (by omega));have Lv:=qS (∀q,q∈gs[k]::gs.take k↔q∈gs.take (k+1)) (fun q=>by rw[List.take_add_one,List.getElem?_eq_getElem hkl,Option.toList_some];simp only[List.mem_cons,List.mem_append,List.not_mem_nil,or_false];exact Or.comm);generalize gs.getD (k-1) []=q at*;generalize gs[k]=t at*;have t1:(k:Int)<ng:=by omega
       rw[RP]at z6;rw[RP];clear hc;go_wp2_with fail;refine(fF wr t).mono ?_;rintro e w6⟨rfl,rfl⟩;cases hnm:ae t;·have HBAD:=qS (iK w N a b lc lh gs ts ls (.returned (.tuple #[.pointer none,.int .i64 2])) wr) (iY uN.o (.inl rfl) fun c m h=>SI.o hnm h.gone);clear hnm;go_wp2;go_ret2;exact HBAD.o
       have htl:t.length≤24:=by unfold ae at hnm;simp at hnm;omega
       obtain⟨w9,hr9,hs9,hg9⟩:=vW.o.put (by unfold maxLen;omega) t (by unfold maxLen;omega);have i5:wr.cell? ⟨bi,5,none⟩=some (.map (some A.bg)):=(cell_of_row wr bi 5 _ _ (0,0) Tc.o).trans rfl;have PS:=qS ((0<k→Op.bytesLess q t=true)→Da w w5 A.bg gs (.int .i64 ((k+1:Nat):Int)) w9) (fun h0=>⟨k+1,rfl,by omega,BQ.o hnm h0,hs9.congr Lv.o,qd.o.trans (ai.dW (F:=fun b=>b=A.bg) hg9 (fun k' h=>by injection h with h;exact h.symm)) (fun _ _ h=>h),uN.o.grown hg9 uN.o.size (fun k' h=>by injection h with h;omega)⟩);clear hs9 hg9 hnm;by_cases k0:k=0
       ·have HR:=qS (Da w w5 A.bg gs (.int .i64 1) w9) (by have h9:=PS.o (fun h=>by omega);rw[k0]at h9;exact h9);have d1: ¬(0<k):=by omega
        have d2: ¬((0:Int)<(k:Int)):=by omega
        clear oO;go_wp2;go_roundw;case rel=>exact HR.o
        case measure=>simp[intOf];omega
       ·have hc1:=oO.o (by omega);have k1:(0:Int)<k:=by omega
        have k2:0<k:=by omega
        have ek:(k:Int)-1=((k-1:Nat):Int):=by omega
        cases hbl:Op.bytesLess q t;·have HBAD:=qS (iK w N a b lc lh gs ts ls (.returned (.tuple #[.pointer none,.int .i64 2])) wr) (iY uN.o (.inl rfl) fun c m h=>SH.o (by omega) hbl h.gone);go_wp2;go_ret2;exact HBAD.o
        ·have HR:=qH (PS.o (fun h=>hbl));go_wp2;go_roundw;case rel=>exact HR.o
         case measure=>simp[intOf];omega
      ·have hkk:k=gs.length:=by omega
       have t1: ¬(k:Int)<ng:=by omega
       have Qh:=qS (uh gs) (⟨fun j hj=>(Ng.o j hj (by omega)).1,fun j hj h0=>(Ng.o j hj (by omega)).2 h0⟩);have MX:=qS (dJ wr A.bg gs.length gs) (by have:=vW.o;rw[hkk,List.take_length]at this;exact this);have Nn:=qH (Qm.o.keep (qd.o.block _ (by omega) (by omega)) (qd.o.block _ (by omega) (by omega)));have Qb:=qH (Qc.o.keep qd.o.size (fun k hk=>qd.o.block k (by have:=Mw k hk;omega) (by have:=Mw k hk;omega)));have MW:=qH (Iu.o.block (qd.o.block A.bl hbl5 JJ));have Ir:=qH (uS wr Ac nc kc c Nn.o.ok (by rw[(EF LD.o).2.1];exact(HI.o.aG.below uN.o).more uN.o.size) (by omega) (HI.o.max.up uN.o));clear vW Ng Qm Qc Iu;go_wp2_with fail;clear z0 z1 z2 z3 z4 z5 z6;with_reducible refine Ir.o.mono ?_
       rintro r w6⟨rfl,hb6⟩;have hs6:=hb6.size;have rq:=qH (uN.o.trans (hb6.mono uN.o.size));have Ph:=qH ((hb6.block _ (by omega)).trans MP.o);have Te:=qH ((hb6.block _ (by omega)).trans Tc.o);have KG:=qH (Nn.o.up hb6);have II:=qH (Qb.o.up hb6);have Pt:=qH (MW.o.block (hb6.block _ MW.o.lt));have Kj:=qH (MX.o.block (hb6.block _ MX.o.lt));clear hb6 Ir Nn Qb MW MX MP Tc;obtain⟨z0,z1,z2,z3,z4,z5,z6,_⟩:=Li.o w6 Ph.o;by_cases hsl:c.ag=a;case neg=>have HBAD:=qS (∀q,iK w N a b lc lh gs ts ls (.returned (.tuple #[.pointer none,.int .i64 2])) (w6.drewN q)) (fun q=>iY (below_drewN rq.o q) (.inl rfl) fun c' m' h=>by obtain⟨e1,_⟩:=HF.o c' m' h;exact hsl (e1▸h.sl));go_wp2;go_ret2;exact HBAD.o 0
       by_cases hid:c.idle=b;case neg=>have HBAD:=qS (∀q,iK w N a b lc lh gs ts ls (.returned (.tuple #[.pointer none,.int .i64 2])) (w6.drewN q)) (fun q=>iY (below_drewN rq.o q) (.inl rfl) fun c' m' h=>by obtain⟨e1,_⟩:=HF.o c' m' h;exact hid (e1▸h.id));subst hsl;go_wp2;go_ret2;exact HBAD.o 0
       subst hsl hid;have Wz:=II.o;have mD:=qH (DV w6 w.heap.size bi {A with bc:=bc,bm:=bm,bs:=bs,bh:=bh,G:=G,V:=V} gs.length gs m At Al Ac Ah Ag nt kt nl kl nc kc nh kh ng kg ts ls c.ag c.idle {blk:=Te.o,hs:=II.o,rows:=fun s=>Nat.le_trans (zn (HI.o.bd.had m rr Ty.o).2 s) (by omega),dx:=Pt.o,gs:=Kj.o,max:=HI.o.max.up rq.o,tk:=HI.o.tk.below rq.o,le:=HI.o.le.below rq.o,hnt:=by omega,hnl:=by omega,st:=HI.o.st,sl:=HI.o.sl,hib:=hil,hgb:=Ne.symm JJ,wQ:=HI.o.max.lt,hB:=by show w.heap.size≤A.bl;omega});have hcr: ∀(args:Array Value)(W:World),(callFunc 88 args).run Tryz.prog W=.ok (.enter 88 args) W:=fun args W=>by kernel_rfl
       clear Wz;go_wp2_with fail;clear z0 z1 z2 z3 z4 z5 z6;with_reducible refine mD.o.mono ?_
       rintro r w7⟨hg7,hcase⟩;have nH:=qS (RowKit.Below w.heap.size w w7) (rq.o.grown hg7 rq.o.size (fun k h=>by injection h with h;have h':A.bl=k:=h;omega));rcases hcase with⟨rfl,hright,hsl7⟩|⟨rfl,hright⟩;rotate_left;·have HBAD:=qS (iK w N c.ag c.idle lc lh gs ts ls (.returned (.tuple #[.pointer none,.int .i64 2])) w7) (iY nH.o (.inl rfl) fun c' m' h=>by obtain⟨_,e2⟩:=HF.o c' m' h;exact hright (e2▸h.right));go_wp2;go_ret2;exact HBAD.o
       have hk7: ∀k,k<w6.heap.size→k≠A.bl→w7.heap[k]?=w6.heap[k]?:=fun k hk hne=>hg7.block k hk (fun e=>by injection e with e;exact hne e);have hs7:=hg7.size;have I5:=qS (jg c.ag c.idle lc lh gs ts ls c m) (⟨LD.o,⟨rr,Ty.o⟩,rfl,rfl,Qh.o,hright⟩);have Vl:=qS (K9 w w7 bi {A with bc:=bc,bm:=bm,bs:=bs,bh:=bh,G:=G,V:=V} c m gs ls) ({aG:=KG.o.keep (hk7 _ KG.o.lt (by show bc≠A.bl;omega)) (hk7 _ KG.o.map.lt (by show bm≠A.bl;omega)),had:=II.o.keep hs7 (fun k hk=>hk7 k (II.o.lt k hk) (by have:=Mw k hk;omega)),dx:=hsl7,gone:=Kj.o.block (hk7 _ Kj.o.lt (Ne.symm JJ)),ml:=by show bm≠A.bl;omega,mg:=by show bm≠A.bg;omega,lg:=JJ,gm:=fun h=>by have:=Uy bm h;omega,gl:=fun h=>by have:=Mw A.bl h;omega,gg:=fun h=>by have:=Mw A.bg h;omega,ib:=by omega,hi:=⟨by omega,by show w.heap.size≤bc;omega,by show w.heap.size≤bm;omega,fun k hk=>by have:=Uy k hk;omega,by show w.heap.size≤A.bl;omega,by show w.heap.size≤A.bg;omega⟩,ni:=⟨by show bi≠bc;omega,by show bi≠bm;omega,fun h=>by have:=Mw bi h;omega,hil,hig⟩,sz:=by omega});have Iq:=qH ((hk7 w.heap.size (by omega) (by omega)).trans Ph.o);have Td:=qH ((hk7 bi (by omega) hil).trans Te.o);have ik:=qS (Oc bi (.pointer (some ⟨bc,0,none⟩)) (.pointer (some ⟨bs,0,none⟩)) (.map (some A.bl)) (.map (some A.bg)) 79 ts ls w7 w7.drew A.vt A.vl none none) (Oc.up ⟨by omega,Td.o,ai.refl _ _,(fun v hv=>by cases hv),(fun v hv=>by cases hv),(fun v u hv=>by cases hv)⟩ (below_drewN (Below.refl _ _) 1));have ma:=qS (∀W,La bi (.pointer (some ⟨bc,0,none⟩)) (.pointer (some ⟨bs,0,none⟩)) (.map (some A.bl)) (.map (some A.bg)) ts ls w7 W→iK w N c.ag c.idle lc lh gs ts ls (.returned (.tuple #[.pointer (some ⟨bi,0,none⟩),.int .i64 0])) W) (fun W⟨vt,vl,ho⟩=>by obtain⟨F,hF,hF2⟩:=Me (A:={A with bc:=bc,bm:=bm,bs:=bs,bh:=bh,G:=G,V:=V}) rfl Vl.o I5.o HI.o.bd (by omega) (by omega) (by omega) ho;exact⟨nH.o.trans (ho.keep.below nH.o.size (fun k hk e=>by omega)),.inl ⟨c,m,bi,F,I5.o,rfl,hF,hF2⟩⟩);have eZ:=qH (fun(W:World)(x2 x3:Value)(pt pl:Option Value)(ho:Oc bi (.pointer (some ⟨bc,0,none⟩)) (.pointer (some ⟨bs,0,none⟩)) (.map (some A.bl)) (.map (some A.bg)) 79 ts ls w7 W x2 x3 pt pl)=>(show W.cell? ⟨w.heap.size,4,none⟩=some (.slice At nt kt)∧W.cell? ⟨w.heap.size,5,none⟩=some (.slice Al nl kl)from by obtain⟨_,_,_,_,z4,z5,_⟩:=Li.o W ((ho.keep.block w.heap.size (by omega) (by omega)).trans Iq.o);exact⟨z4,z5⟩));have TA:=qH (fun(W:World)(x2 x3:Value)(pt pl:Option Value)(ho:Oc bi (.pointer (some ⟨bc,0,none⟩)) (.pointer (some ⟨bs,0,none⟩)) (.map (some A.bl)) (.map (some A.bg)) 79 ts ls w7 W x2 x3 pt pl)=>(show Calls Tryz.prog 38 #[.slice At nt kt] W (gP W ts)from gX W At nt kt ts (by have hb:=nH.o.trans (ho.keep.below nH.o.size (fun k hk e=>by omega));exact aI.more (HI.o.tk.below hb) hb.size) (by omega)));have KF:=qH (fun(W:World)(x2 x3:Value)(pt pl:Option Value)(ho:Oc bi (.pointer (some ⟨bc,0,none⟩)) (.pointer (some ⟨bs,0,none⟩)) (.map (some A.bl)) (.map (some A.bg)) 79 ts ls w7 W x2 x3 pt pl)=>(show Calls Tryz.prog 38 #[.slice Al nl kl] W (gP W ls)from gX W Al nl kl ls (by have hb:=nH.o.trans (ho.keep.below nH.o.size (fun k hk e=>by omega));exact aI.more (HI.o.le.below hb) hb.size) (by omega)));have hS:=eZ.o _ _ _ _ _ ik.o;obtain⟨c2,c3,f2,f3⟩:=ik.o.cells;clear hg7 hk7 hsl7 hright mD Te Ph KG II Pt Kj Vl hs5 hs6 hcr hlt hll Wi;go_wp2;go_region_held3(fun W=>W.cell? ⟨w.heap.size,4,none⟩=some (.slice At nt kt)∧W.cell? ⟨w.heap.size,5,none⟩=some (.slice Al nl kl))(first|with_reducible assumption|with_reducible exact eZ.o _ _ _ _ _ ik.o|with_reducible exact eZ.o _ _ _ _ _ (ik.o.set2 _)|with_reducible exact eZ.o _ _ _ _ _ (ik.o.set3 _)|with_reducible exact eZ.o _ _ _ _ _ ((ik.o.set2 _).set3 _)|with_reducible exact eZ.o _ _ _ _ _ ((ik.o.set3 _).set2 _))(first|(go_at_call 38;first|((with_reducible refine(TA.o _ _ _ _ _ ik.o).mono ?_);rintro r wa⟨v,rfl,ot,di⟩;obtain⟨A1,k1,rfl⟩:=ownsRow_form ot;have dE:=qH (Oc.Hd ik.o ot di);clear ik ot di hS c2 c3 f2 f3;have ik:=dE;clear dE;have hS:=eZ.o _ _ _ _ _ ik.o;obtain⟨c2,c3,f2,f3⟩:=ik.o.cells)|((with_reducible refine(TA.o _ _ _ _ _ (ik.o.set2 _)).mono ?_);rintro r wa⟨v,rfl,ot,di⟩;obtain⟨A1,k1,rfl⟩:=ownsRow_form ot;have dE:=qH (Oc.Hd (ik.o.set2 _) ot di);clear ik ot di hS c2 c3 f2 f3;have ik:=dE;clear dE;have hS:=eZ.o _ _ _ _ _ ik.o;obtain⟨c2,c3,f2,f3⟩:=ik.o.cells)|((with_reducible refine(TA.o _ _ _ _ _ (ik.o.set3 _)).mono ?_);rintro r wa⟨v,rfl,ot,di⟩;obtain⟨A1,k1,rfl⟩:=ownsRow_form ot;have dE:=qH (Oc.Hd (ik.o.set3 _) ot di);clear ik ot di hS c2 c3 f2 f3;have ik:=dE;clear dE;have hS:=eZ.o _ _ _ _ _ ik.o;obtain⟨c2,c3,f2,f3⟩:=ik.o.cells)|((with_reducible refine(KF.o _ _ _ _ _ ik.o).mono ?_);rintro r wa⟨v,rfl,ot,di⟩;obtain⟨A1,k1,rfl⟩:=ownsRow_form ot;have dE:=qH (Oc.He ik.o ot di);clear ik ot di hS c2 c3 f2 f3;have ik:=dE;clear dE;have hS:=eZ.o _ _ _ _ _ ik.o;obtain⟨c2,c3,f2,f3⟩:=ik.o.cells)|((with_reducible refine(KF.o _ _ _ _ _ (ik.o.set2 _)).mono ?_);rintro r wa⟨v,rfl,ot,di⟩;obtain⟨A1,k1,rfl⟩:=ownsRow_form ot;have dE:=qH (Oc.He (ik.o.set2 _) ot di);clear ik ot di hS c2 c3 f2 f3;have ik:=dE;clear dE;have hS:=eZ.o _ _ _ _ _ ik.o;obtain⟨c2,c3,f2,f3⟩:=ik.o.cells)|((with_reducible refine(KF.o _ _ _ _ _ (ik.o.set3 _)).mono ?_);rintro r wa⟨v,rfl,ot,di⟩;obtain⟨A1,k1,rfl⟩:=ownsRow_form ot;have dE:=qH (Oc.He (ik.o.set3 _) ot di);clear ik ot di hS c2 c3 f2 f3;have ik:=dE;clear dE;have hS:=eZ.o _ _ _ _ _ ik.o;obtain⟨c2,c3,f2,f3⟩:=ik.o.cells)));all_goals go_wp2;go_ret2;first|exact ma.o _ (rX ik.o)|exact ma.o _ (rX ((ik.o.set2 _).set3 _))|exact ma.o _ (rX ((ik.o.set3 _).set2 _))|exact ma.o _ (rX (ik.o.set3 _))|exact ma.o _ (rX (ik.o.set2 _))
end Go.Proofs.YtladegonienapaaGreatDoor
