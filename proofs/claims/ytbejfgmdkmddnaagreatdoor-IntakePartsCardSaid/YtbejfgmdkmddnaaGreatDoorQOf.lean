/-
  Layer 8: Of.
-/
import Derived.Test.YtbejfgmdkmddnaaGreatDoorQOfRgt
import Derived.Test.YtbejfgmdkmddnaaGreatDoorQClkDec2
import Derived.Test.YtbejfgmdkmddnaaGreatDoorQHdDec
import Derived.Test.YtbejfgmdkmddnaaGreatDoorQOpenDds
import Derived.Deep.RegionHeld3
set_option maxRecDepth 100000
set_option maxHeartbeats 16000000
namespace Go.Proofs.YtbejfgmdkmddnaaGreatDoor
open Go.RowKit Go.Maps Go.Sort Go.Shelf
structure PartsOk(a b:Int)(lc lh:List UInt8)(gs:List (List UInt8))(ts ls:List Ev)(c:Clk)(m:Had):Prop where
 dc:decC lc=some c
 dh: ∃r,decH lh=.ok m r
 sl:c.slack=a
 id:c.idle=b
 gone:GoneOk gs
 right:RightOk gs m ts ls
theorem right_next{gone:List (List UInt8)}{had:Had}{taken late:List Ev}(h:RightOk gone had taken late)(i:Nat)(hi:i+1<taken.length):LtE (taken[i]'(by omega)) taken[i+1]:=by
 have h1:=h.taken (i+1) hi;unfold tkB at h1;simp only[Bool.and_eq_true,Bool.or_eq_true,decide_eq_true_eq]at h1;have h2:=h1.1.2;rcases h2 with h2|h2;·omega
 ·have e1:taken.getD (i+1-1) taken[i+1]=taken[i]:=by rw[List.getD_eq_getElem?_getD,Nat.add_sub_cancel,List.getElem?_eq_getElem (by omega)];rfl
  rw[e1]at h2;exact cmpE_pos.1 (cmpE_one.2 (by simpa using h2))
theorem right_up{gone:List (List UInt8)}{had:Had}{taken late:List Ev}(h:RightOk gone had taken late)(i:Nat): ∀(d:Nat)(hd:i+d+1<taken.length),LtE (taken[i]'(by omega)) taken[i+d+1]|0,hd=>right_next h i hd|d+1,hd=>(right_up h i d (by omega)).trans (right_next h (i+d+1) (by omega))
theorem right_sorted{gone:List (List UInt8)}{had:Had}{taken late:List Ev}(h:RightOk gone had taken late):SortedE taken:=by refine List.pairwise_iff_getElem.2 fun i j hi hj hij hlt=>?_;obtain⟨d,rfl⟩: ∃d,j=i+d+1:=⟨j-i-1,by omega⟩;exact LtE.irrefl _ ((right_up h i d hj).trans hlt)
theorem right_may{gone:List (List UInt8)}{had:Had}{taken late:List Ev}(h:RightOk gone had taken late): ∀e,e∈taken∨e∈late→mayB e=true:=fun e he=>by
 rcases he with he|he;·obtain⟨i,hi,rfl⟩:=List.getElem_of_mem he;have h1:=h.taken i hi;unfold tkB at h1;simp only[Bool.and_eq_true]at h1;exact h1.1.1.1.1.1
 ·obtain⟨i,hi,rfl⟩:=List.getElem_of_mem he;have h1:=h.late i hi;unfold ltB at h1;simp only[Bool.and_eq_true]at h1;exact h1.1.1
theorem RightOk.congr{gone gone':List (List UInt8)}{had:Had}{taken late:List Ev}(h:RightOk gone had taken late)(hg: ∀p,p∈gone↔p∈gone'):RightOk gone' had taken late:=by
 have e: ∀p,decide (p∈gone')=decide (p∈gone):=fun p=>decide_eq_decide.2 (hg p).symm;refine⟨h.len,fun k hk=>?_,fun k hk=>?_⟩;·have:=h.taken k hk;unfold tkB staysB at this⊢;rw[e];exact this
 ·have:=h.late k hk;unfold ltB staysB at this⊢;rw[e];exact this
structure PtBd(N:Nat)(lc lh:List UInt8):Prop where
 src: ∀c,decC lc=some c→c.src.length≤N
 had: ∀m r,decH lh=.ok m r→m.length≤N∧ ∀p∈m,p.2.length≤N
theorem had_rows{m:Had}{N:Nat}(h: ∀p∈m,p.2.length≤N)(s:List UInt8):(hadRow m s).length≤N:=by unfold hadRow;cases hg:getB m s with|none=>simp|some v=>exact h _ (getB_mem hg)
theorem parts_ok{a b:Int}{lc lh:List UInt8}{gs:List (List UInt8)}{ts ls:List Ev}{c:Clk}{m:Had}{N:Nat}(h:PartsOk a b lc lh gs ts ls c m)(hb:PtBd N lc lh)(ht:ts.length≤N)(hl:ls.length≤N):ItkOk N ⟨c,m,ts,ls,gs⟩:=by obtain⟨r,hr⟩:=h.dh;have h2:=hb.had m r hr;exact⟨right_sorted h.right,right_may h.right,hb.src c h.dc,h2.1,had_rows h2.2,ht,hl⟩
def OfPost(w:World)(N:Nat)(a b:Int)(lc lh:List UInt8)(gs:List (List UInt8))(ts ls:List Ev)(e:Ending)(w':World):Prop:=RowKit.Below w.heap.size w w'∧((∃c m bi F,PartsOk a b lc lh gs ts ls c m∧e=.returned (.tuple #[.pointer (some ⟨bi,0,none⟩),.int .i64 0])∧ItkAt w' F bi N ⟨c,m,ts,ls,gs⟩∧ ∀b,F b→w.heap.size≤b)∨ ∃er:Int,e=.returned (.tuple #[.pointer none,.int .i64 er])∧(er=2∨(er=3∧decH lh=.torn))∧ ∀c m,¬PartsOk a b lc lh gs ts ls c m)
theorem of_fail{w w':World}{N:Nat}{a b:Int}{lc lh:List UInt8}{gs:List (List UInt8)}{ts ls:List Ev}(hb:RowKit.Below w.heap.size w w'){er:Int}(he:er=2∨(er=3∧decH lh=.torn))(hn: ∀c m,¬PartsOk a b lc lh gs ts ls c m):OfPost w N a b lc lh gs ts ls (.returned (.tuple #[.pointer none,.int .i64 er])) w':=⟨hb,.inr ⟨er,rfl,he,hn⟩⟩
structure Oc(bi:Nat)(c0 s0 l0 g0:Value)(T:TypeId)(ts ls:List Ev)(w7 W:World)(x2 x3:Value)(pt pl:Option Value):Prop where
 lt:bi<w7.heap.size
 blk:W.heap[bi]?=some (.cells #[c0,s0,x2,x3,l0,g0] T (0,0))
 keep:Keep (fun b=>b=bi) w7 W
 tk: ∀v,pt=some v→OwnE W w7.heap.size v ts
 le: ∀v,pl=some v→OwnE W w7.heap.size v ls
 ap: ∀v u,pt=some v→pl=some u→ ∀b,v.ownBlock=some b→u.ownBlock≠some b
section
variable{bi:Nat}{c0 s0 l0 g0:Value}{T:TypeId}{ts ls:List Ev}{w7 W V:World}{x2 x3 v:Value}{pt pl:Option Value}
theorem Oc.up(h:Oc bi c0 s0 l0 g0 T ts ls w7 W x2 x3 pt pl)(hb:RowKit.Below W.heap.size W V):Oc bi c0 s0 l0 g0 T ts ls w7 V x2 x3 pt pl:=⟨h.lt,(hb.block _ (heap_lt h.blk)).trans h.blk,h.keep.trans (Keep.of_below hb) (fun _ _ h=>h),fun v hv=>ownsRow_below (h.tk v hv) hb (Nat.le_refl _),fun v hv=>ownsRow_below (h.le v hv) hb (Nat.le_refl _),h.ap⟩
theorem Oc.callT(h:Oc bi c0 s0 l0 g0 T ts ls w7 W x2 x3 none pl)(ho:OwnE V W.heap.size v ts)(hb:RowKit.Below W.heap.size W V):Oc bi c0 s0 l0 g0 T ts ls w7 V x2 x3 (some v) pl:=by
 have h':=h.up hb;refine⟨h'.lt,h'.blk,h'.keep,fun u hu=>?_,h'.le,fun u z hu hz b hb1 hb2=>?_⟩;·injection hu with hu;subst hu;exact OwnE.base_le ho h.keep.size
 ·injection hu with hu;subst hu;have h1:=(World.ownsRow.lt ho b hb1).1;have h2:=(World.ownsRow.lt (h.le z hz) b hb2).2;omega
theorem Oc.callL(h:Oc bi c0 s0 l0 g0 T ts ls w7 W x2 x3 pt none)(ho:OwnE V W.heap.size v ls)(hb:RowKit.Below W.heap.size W V):Oc bi c0 s0 l0 g0 T ts ls w7 V x2 x3 pt (some v):=by
 have h':=h.up hb;refine⟨h'.lt,h'.blk,h'.keep,h'.tk,fun u hu=>?_,fun u z hu hz b hb1 hb2=>?_⟩;·injection hu with hu;subst hu;exact OwnE.base_le ho h.keep.size
 ·injection hz with hz;subst hz;have h1:=(World.ownsRow.lt ho b hb2).1;have h2:=(World.ownsRow.lt (h.tk u hu) b hb1).2;omega
theorem Oc.set(h:Oc bi c0 s0 l0 g0 T ts ls w7 W x2 x3 pt pl)(o:Nat)(u:Value)(y2 y3:Value)(he:(#[c0,s0,x2,x3,l0,g0]:Array Value).setIfInBounds o u= #[c0,s0,y2,y3,l0,g0]):Oc bi c0 s0 l0 g0 T ts ls w7 (W.setCell ⟨bi,o,none⟩ u) y2 y3 pt pl:=by have hk: ∀b,b≠bi→(W.setCell ⟨bi,o,none⟩ u).heap[b]?=W.heap[b]?:=fun b hb=>Below.heap_setCell _ ⟨bi,o,none⟩ _ _ hb;have hrow: ∀{l:List Ev}{z:Value},OwnE W w7.heap.size z l→OwnE (W.setCell ⟨bi,o,none⟩ u) w7.heap.size z l:=fun ho=>ho.keep fun b hb=>hk b (by have:=(World.ownsRow.lt ho b hb).1;have:=h.lt;omega);refine⟨h.lt,by rw[heap_set_row h.blk,he],h.keep.setCell (p:=⟨bi,o,none⟩) (fun _=>rfl) u,fun v hv=>hrow (h.tk v hv),fun v hv=>hrow (h.le v hv),h.ap⟩
theorem Oc.cells(h:Oc bi c0 s0 l0 g0 T ts ls w7 W x2 x3 pt pl):W.cell? ⟨bi,2,none⟩=some x2∧W.cell? ⟨bi,3,none⟩=some x3∧W.frozen? ⟨bi,2,none⟩=false∧W.frozen? ⟨bi,3,none⟩=false:=⟨(cell_of_row W bi 2 _ _ (0,0) h.blk).trans rfl,(cell_of_row W bi 3 _ _ (0,0) h.blk).trans rfl,frozen_of_row W bi 2 _ _ h.blk,frozen_of_row W bi 3 _ _ h.blk⟩
theorem Oc.set2(h:Oc bi c0 s0 l0 g0 T ts ls w7 W x2 x3 pt pl)(u:Value):Oc bi c0 s0 l0 g0 T ts ls w7 (W.setCell ⟨bi,2,none⟩ u) u x3 pt pl:=h.set 2 u u x3 (by simp)
theorem Oc.set3(h:Oc bi c0 s0 l0 g0 T ts ls w7 W x2 x3 pt pl)(u:Value):Oc bi c0 s0 l0 g0 T ts ls w7 (W.setCell ⟨bi,3,none⟩ u) x2 u pt pl:=h.set 3 u x2 u (by simp)
end
structure OfMem(w w7:World)(bi:Nat)(A:ItkA)(c:Clk)(m:Had)(gs:List (List UInt8))(ls:List Ev):Prop where
 clk:ClockAt w7 A.bc A.bm c
 had:HadAt w7 A.G A.bs A.bh m A.V
 lates:SetI w7 A.bl ls.length (ls.map idOf)
 gone:SetB w7 A.bg gs.length gs
 ml:A.bm≠A.bl
 mg:A.bm≠A.bg
 lg:A.bl≠A.bg
 gm: ¬A.G A.bm
 gl: ¬A.G A.bl
 gg: ¬A.G A.bg
 ib:bi<w7.heap.size
 hi:w.heap.size≤bi∧w.heap.size≤A.bc∧w.heap.size≤A.bm∧(∀b,A.G b→w.heap.size≤b)∧w.heap.size≤A.bl∧w.heap.size≤A.bg
 ni:bi≠A.bc∧bi≠A.bm∧ ¬A.G bi∧bi≠A.bl∧bi≠A.bg
 sz:w.heap.size≤w7.heap.size
theorem of_mem{w w7 W:World}{bi N:Nat}{A:ItkA}{a b:Int}{lc lh:List UInt8}{c:Clk}{m:Had}{gs:List (List UInt8)}{ts ls:List Ev}{vt vl:Value}{T:TypeId}(hT:T=84)(h:OfMem w w7 bi A c m gs ls)(hp:PartsOk a b lc lh gs ts ls c m)(hbd:PtBd N lc lh)(ht:ts.length≤N)(hl:ls.length≤N)(hg:gs.length≤N)(ho:Oc bi (.pointer (some ⟨A.bc,0,none⟩)) (.pointer (some ⟨A.bs,0,none⟩)) (.map (some A.bl)) (.map (some A.bg)) T ts ls w7 W vt vl (some vt) (some vl)): ∃F,ItkAt W F bi N ⟨c,m,ts,ls,gs⟩∧ ∀b,F b→w.heap.size≤b:=by
 subst hT;obtain⟨n1,n2,n3,n4,n5⟩:=h.ni;obtain⟨k1,k2,k3,k4,k5,k6⟩:=h.hi;have hk: ∀b,b<w7.heap.size→b≠bi→W.heap[b]?=w7.heap[b]?:=fun b hb hne=>ho.keep.block b hb hne;have hs:=ho.keep.size;have hot:=ho.tk vt rfl;have hol:=ho.le vl rfl;refine⟨fun b=>w.heap.size≤b∧b<W.heap.size,⟨{A with vt:=vt,vl:=vl,nl:=ls.length,ng:=gs.length},?_,parts_ok hp hbd ht hl,hl,hg,?_,fun b hb=>hb.2⟩,fun b hb=>hb.1⟩;·exact⟨ho.blk,h.clk.keep (hk _ h.clk.lt (Ne.symm n1)) (hk _ h.clk.map.lt (Ne.symm n2)),h.had.keep hs (fun b hb=>hk b (h.had.lt b hb) (fun e=>n3 (e▸hb))),OwnE.low hot,OwnE.low hol,h.lates.block (hk _ h.lates.lt (Ne.symm n4)),h.gone.block (hk _ h.gone.lt (Ne.symm n5)),h.ml,h.mg,h.lg,h.gm,h.gl,h.gg,fun b hb=>ho.ap vt vl rfl rfl b hb⟩
 ·intro b hb;rcases hb with hb|hb|hb|hb|hb|hb|hb|hb;·have:=h.ib;exact⟨by omega,by omega⟩
  ·have hb':b=A.bc:=hb;have:=h.clk.lt;exact⟨by omega,by omega⟩
  ·have hb':b=A.bm:=hb;have:=h.clk.map.lt;exact⟨by omega,by omega⟩
  ·have:=h.had.lt b hb;exact⟨k4 b hb,by omega⟩
  ·have:=World.ownsRow.lt hot b hb;have:=h.sz;exact⟨by omega,by omega⟩
  ·have:=World.ownsRow.lt hol b hb;have:=h.sz;exact⟨by omega,by omega⟩
  ·have hb':b=A.bl:=hb;have:=h.lates.lt;exact⟨by omega,by omega⟩
  ·have hb':b=A.bg:=hb;have:=h.gone.lt;exact⟨by omega,by omega⟩
structure OfIn(w:World)(N:Nat)(Ac Ah At Al Ag:Option Addr)(nc kc nh kh nt kt nl kl ng kg:Nat)(lc lh:List UInt8)(ts ls:List Ev)(gs:List (List UInt8)):Prop where
 clk:Byt w w.heap.size Ac nc kc lc
 had:Byt w w.heap.size Ah nh kh lh
 tk:Evs w w.heap.size At nt kt ts
 le:Evs w w.heap.size Al nl kl ls
 gn:Strs w w.heap.size Ag ng kg gs
 hnc:nc≤100000
 hnh:nh≤1000000000
 hnt:nt≤N
 hnl:nl≤N
 hng:ng≤N
 hN:N≤100000
 st: ∀e∈ts,e.small
 sl: ∀e∈ls,e.small
 max:MaxAt w
 errs:ErrsAt w
 tab:Lib.TabBelow Tryz.prog w.heap.size w "internal/strconv.uint64pow10" .u64 Lib.pow10Tab
 bd:PtBd N lc lh
def OfRel(w w5:World)(bg:Nat)(gs:List (List UInt8))(i:Value)(wr:World):Prop:= ∃k:Nat,i=.int .i64 k∧k≤gs.length∧(∀j(h:j<gs.length),j<k→nameB gs[j]=true∧(0<j→bytesBefore (gs[j-1]'(by omega)) gs[j]=true))∧SetB wr bg k (gs.take k)∧Keep (fun b=>b=bg) w5 wr∧RowKit.Below w.heap.size w wr
def OcEnd(bi:Nat)(c0 s0 l0 g0:Value)(ts ls:List Ev)(w7 W:World):Prop:= ∃vt vl,Oc bi c0 s0 l0 g0 84 ts ls w7 W vt vl (some vt) (some vl)
theorem oc_end{bi:Nat}{c0 s0 l0 g0:Value}{ts ls:List Ev}{w7 W:World}{vt vl:Value}(h:Oc bi c0 s0 l0 g0 84 ts ls w7 W vt vl (some vt) (some vl)):OcEnd bi c0 s0 l0 g0 ts ls w7 W:=⟨vt,vl,h⟩
theorem of_any(w:World)(N:Nat)(Ac Ah At Al Ag:Option Addr)(nc kc nh kh nt kt nl kl ng kg:Nat)(a b:Int)(lc lh:List UInt8)(ts ls:List Ev)(gs:List (List UInt8))(h:OfIn w N Ac Ah At Al Ag nc kc nh kh nt kt nl kl ng kg lc lh ts ls gs):Calls Tryz.prog 25 #[ptsAgg a b (.slice Ac nc kc) (.slice Ah nh kh) (.slice At nt kt) (.slice Al nl kl) (.slice Ag ng kg)] w (OfPost w N a b lc lh gs ts ls):=by
 have HI:=qH h;have hnc:=h.hnc;have hnt:=h.hnt;have hnl:=h.hnl;have hng:=h.hng;have hN:=h.hN;have hlt:=h.tk.len;have hll:=h.le.len;have hlg:=h.gn.len;have hlc:=h.clk.len;clear h;have HB1:=qH (show RowKit.Below w.heap.size w (w.alloc (ptsObj a b (.slice Ac nc kc) (.slice Ah nh kh) (.slice At nt kt) (.slice Al nl kl) (.slice Ag ng kg)))from(Below.refl _ _).alloc (Nat.le_refl _) _);have HX1:=qH (show(w.alloc (ptsObj a b (.slice Ac nc kc) (.slice Ah nh kh) (.slice At nt kt) (.slice Al nl kl) (.slice Ag ng kg))).heap[w.heap.size]?=_ from heap_alloc_new w _);have hs1:(w.alloc (ptsObj a b (.slice Ac nc kc) (.slice Ah nh kh) (.slice At nt kt) (.slice Al nl kl) (.slice Ag ng kg))).heap.size=w.heap.size+1:=by simp
 go_enter Tryz.func25,Tryz.ntmps25;go_upto_region 1 with fail;generalize w.alloc (ptsObj a b (.slice Ac nc kc) (.slice Ah nh kh) (.slice At nt kt) (.slice Al nl kl) (.slice Ag ng kg))=w1 at*;have HPB:=qH (fun(W:World)(hW:W.heap[w.heap.size]?=some (ptsObj a b (.slice Ac nc kc) (.slice Ah nh kh) (.slice At nt kt) (.slice Al nl kl) (.slice Ag ng kg)))=>pts_cells hW);obtain⟨z0,z1,z2,z3,z4,z5,z6,_⟩:=HPB.out w1 HX1.out;have HC:=qH (ckdec_any w1 Ac nc kc lc ((HI.out.clk.below HB1.out).more HB1.out.size) hnc (HI.out.max.up HB1.out) (HI.out.errs.up HB1.out) (tab_up HI.out.tab HB1.out));go_wp2_with fail;clear z0 z1 z2 z3 z4 z5 z6;with_reducible refine HC.out.mono ?_
 clear HC;rintro r w2⟨hcase,hb2⟩;have HB2:=qH (HB1.out.trans (hb2.mono HB1.out.size));have HX2:=qH ((hb2.block _ (by omega)).trans HX1.out);have hs2:=hb2.size;cases hdc:decC lc with
  |none=>rw[hdc]at hcase;simp only at hcase;subst hcase;have HF:=qH (show∀q,OfPost w N a b lc lh gs ts ls (.returned (.tuple #[.pointer none,.int .i64 2])) (w2.drewN q)from fun q=>of_fail (below_drewN HB2.out q) (.inl rfl) fun c m h=>by have:=h.dc;rw[hdc]at this;cases this);clear hdc;go_wp2;go_ret2;exact HF.out 0
  |some c=>
   rw[hdc]at hcase;obtain⟨bc,bm,rfl,hck,hbc,hbm⟩:=hcase;have HDC:=qH hdc;have HCK:=qH hck;have hbc2:=hck.lt;have hbm2:=hck.map.lt;clear hck hdc hb2;obtain⟨z0,z1,z2,z3,z4,z5,z6,_⟩:=HPB.out w2 HX2.out;have HD:=qH (hdec_any w2 Ah nh kh lh ((HI.out.had.below HB2.out).more HB2.out.size) (by have:=HI.out.hnh;omega));go_wp2_with fail;clear z0 z1 z2 z3 z4 z5 z6;with_reducible refine HD.out.mono ?_
   clear HD;rintro r w3⟨hcase,hb3⟩;have HB3:=qH (HB2.out.trans (hb3.mono HB2.out.size));have HX3:=qH ((hb3.block _ (by omega)).trans HX2.out);have HCK3:=qH (HCK.out.up hb3);have hs3:=hb3.size;clear HCK hb3;cases hdh:decH lh with
    |torn=>rw[hdh]at hcase;simp only at hcase;subst hcase;have HF:=qH (show OfPost w N a b lc lh gs ts ls (.returned (.tuple #[.pointer none,.int .i64 3])) w3 from of_fail HB3.out (.inr ⟨rfl,hdh⟩) fun c m h=>by obtain⟨r,hr⟩:=h.dh;rw[hdh]at hr;cases hr);clear hdh;go_wp2;go_ret2;exact HF.out
    |form=>rw[hdh]at hcase;simp only at hcase;subst hcase;have HF:=qH (show OfPost w N a b lc lh gs ts ls (.returned (.tuple #[.pointer none,.int .i64 2])) w3 from of_fail HB3.out (.inl rfl) fun c m h=>by obtain⟨r,hr⟩:=h.dh;rw[hdh]at hr;cases hr);clear hdh;go_wp2;go_ret2;exact HF.out
    |ok m rr=>
     rw[hdh]at hcase;obtain⟨bs,bh,G,V,rfl,hhd,hG⟩:=hcase;have HDH:=qH hdh;have HHD:=qH hhd;have HG:=qH hG;clear hhd hG hdh;have HF:=qH (show(∀c' m',PartsOk a b lc lh gs ts ls c' m'→c'=c∧m'=m)from fun c' m' h=>by obtain⟨r,hr⟩:=h.dh;rw[HDH.out]at hr;injection hr with hr _;have:=h.dc;rw[HDC.out]at this;injection this with this;exact⟨this.symm,hr.symm⟩);go_wp2_with fail;with_reducible refine(itknew_any w3 0 0).mono ?_
     rintro r w4⟨bi,F,rfl,⟨A,hM,_,hnl0,hng0,hfo,hFl⟩,hb4,hFs⟩;have HM:=qH hM;have HCK4:=qH (HCK3.out.up hb4);have HHD4:=qH (HHD.out.up hb4);have HX4:=qH ((hb4.block _ (by omega)).trans HX3.out);have HB4:=qH (HB3.out.trans (hb4.mono HB3.out.size));have hs4:=hb4.size;have hbi3:=hFs _ (hfo _ (.inl rfl));have hbl3:=hFs _ (hfo _ (.inr (.inr (.inr (.inr (.inr (.inr (.inl rfl))))))));have hbg3:=hFs _ (hfo _ (.inr (.inr (.inr (.inr (.inr (.inr (.inr rfl))))))));have hbi4:=heap_lt hM.blk;have hil:=hM.il;have hig:=hM.ig;have hHl:=HHD.out.lt;obtain⟨c0,c1,_,_,c4,c5,_,_,_⟩:=hM.cells;have f0:=frozen_of_row w4 bi 0 _ _ hM.blk;have f1:=frozen_of_row w4 bi 1 _ _ hM.blk;obtain⟨Bt,ct,hvt,_⟩:=hM.taken.form;obtain⟨Bl,cl,hvl,_⟩:=hM.late.form;clear hM hfo hFl hFs hb4 HCK3 HHD;have e1:=heap_set_row (o:=1) (u:=.pointer (some ⟨bs,0,none⟩)) (heap_set_row (o:=0) (u:=.pointer (some ⟨bc,0,none⟩)) HM.out.blk);simp only[List.setIfInBounds_toArray,List.set_cons_zero,List.set_cons_succ]at e1;have HE1:=qH e1;have HK5:=qH (show∀k,k≠bi→((w4.setCell ⟨bi,0,none⟩ (.pointer (some ⟨bc,0,none⟩))).setCell ⟨bi,1,none⟩ (.pointer (some ⟨bs,0,none⟩))).heap[k]?=w4.heap[k]? from fun k hk=>(Below.heap_setCell _ _ _ _ hk).trans (Below.heap_setCell _ _ _ _ hk));have HB5:=qH (show RowKit.Below w.heap.size w ((w4.setCell ⟨bi,0,none⟩ (.pointer (some ⟨bc,0,none⟩))).setCell ⟨bi,1,none⟩ (.pointer (some ⟨bs,0,none⟩)))from(HB4.out.setCell (p:=⟨bi,0,none⟩) (by show w.heap.size≤bi;omega) _).setCell (p:=⟨bi,1,none⟩) (by show w.heap.size≤bi;omega) _);have hs5:((w4.setCell ⟨bi,0,none⟩ (.pointer (some ⟨bc,0,none⟩))).setCell ⟨bi,1,none⟩ (.pointer (some ⟨bs,0,none⟩))).heap.size=w4.heap.size:=by simp[World.setCell]
     clear e1;go_upto_region 9 with fail;generalize(w4.setCell ⟨bi,0,none⟩ (.pointer (some ⟨bc,0,none⟩))).setCell ⟨bi,1,none⟩ (.pointer (some ⟨bs,0,none⟩))=w5 at*;have HX5:=qH ((HK5.out w.heap.size (by omega)).trans HX4.out);have HSG:=qH (show SetB w5 A.bg A.ng []from HM.out.gone.block (HK5.out _ (Ne.symm hig)));have HSL:=qH (show SetI w5 A.bl A.nl []from HM.out.lates.block (HK5.out _ (Ne.symm hil)));have hbl5:A.bl<w5.heap.size:=HSL.out.lt;have hbg5:A.bg<w5.heap.size:=HSG.out.lt;have HCK5:=qH (HCK4.out.keep (HK5.out _ (by omega)) (HK5.out _ (by omega)));have HHD5:=qH (HHD4.out.keep (by omega) (fun k hk=>HK5.out k (by have:=hHl k hk;omega)));have hnl0':A.nl=0:=by omega
     have hng0':A.ng=0:=by omega
     rw[hnl0']at HSL;rw[hng0']at HSG;have hmlg:A.bl≠A.bg:=HM.out.lg;have hGG:=HG.out;clear c0 c1 c4 c5 f0 f1 HCK4 HHD4 HX4 HB4 hnl0 hng0 hnl0' hng0';have HREL:=qH (show OfRel w w5 A.bg gs (.int .i64 0) w5 from⟨0,rfl,Nat.zero_le _,fun j _ h=>absurd h (Nat.not_lt_zero _),HSG.out,Keep.refl _ _,HB5.out⟩);obtain⟨z0,z1,z2,z3,z4,z5,z6,_⟩:=HPB.out w5 HX5.out;go_wp2;clear z0 z1 z2 z3 z4 z5 z6;go_loopw[42](fun i wr=>OfRel w w5 A.bg gs i wr)(fun i _=>ng-(intOf i).toNat);case atStart=>exact HREL.out
     case round=>
      obtain⟨k,rfl,hk,hgo,hset,hkp,hbel⟩:=hrel;have HGO:=qH hgo;have HSE:=qH hset;have HKP:=qH hkp;have HBE:=qH hbel;have hsr:=hkp.size;have HXR:=qH ((hkp.block w.heap.size (by omega) (by omega)).trans HX5.out);have HIR:=qH ((hkp.block bi (by omega) hig).trans HE1.out);clear hgo hset hkp hbel HREL;obtain⟨z0,z1,z2,z3,z4,z5,z6,_⟩:=HPB.out wr HXR.out;by_cases hkn:k<ng
      ·have hkl:k<gs.length:=by omega
       obtain⟨eb,eo,hAg,hb,hc⟩:=HI.out.gn.at_ k hkl;have hc':=(HBE.out.cell (p:=⟨eb,eo+k,none⟩) hb).trans hc;have HC1:=qH (show 0<k→wr.cell? ⟨eb,eo+(k-1),none⟩=some (.string ⟨(gs.getD (k-1) []).toArray⟩)from fun h0=>by obtain⟨b',off',e',hb',hc'⟩:=HI.out.gn.at_ (k-1) (by omega);have e2:=hAg.symm.trans e';injection e2 with e2;injection e2 with e1 e2;subst e1 e2;rw[HBE.out.cell (p:=⟨eb,eo+(k-1),none⟩) hb,hc'];simp[List.getD,List.getElem?_eq_getElem (show k-1<gs.length by omega)]);have HNO1:=qH (show nameB gs[k]=false→ ¬GoneOk gs from fun h hg=>Bool.noConfusion (h.symm.trans (hg.name k hkl)));have HNO2:=qH (show 0<k→Op.bytesLess (gs.getD (k-1) []) gs[k]=false→ ¬GoneOk gs from fun h0 h hg=>by
        have h2:=hg.up k hkl h0;have e1:gs.getD (k-1) []=gs[k-1]:=by simp[List.getD,List.getElem?_eq_getElem (show k-1<gs.length by omega)]
        rw[bl_bbH,e1]at h;exact Bool.noConfusion (h.symm.trans h2));have HYES:=qH (show nameB gs[k]=true→(0<k→Op.bytesLess (gs.getD (k-1) []) gs[k]=true)→ ∀j(h:j<gs.length),j<k+1→nameB gs[j]=true∧(0<j→bytesBefore (gs[j-1]'(by omega)) gs[j]=true)from fun h1 h2 j hj hjk=>by
        by_cases e:j=k
        ·subst e;refine⟨h1,fun h0=>?_⟩;have h3:=h2 h0;have e1:gs.getD (j-1) []=gs[j-1]:=by simp[List.getD,List.getElem?_eq_getElem (show j-1<gs.length by omega)]
         rw[bl_bbH,e1]at h3;exact h3
        ·exact HGO.out j hj (by omega));have HIX:=qH (show∀q,q∈gs[k]::gs.take k↔q∈gs.take (k+1)from fun q=>by rw[List.take_add_one,List.getElem?_eq_getElem hkl,Option.toList_some];simp only[List.mem_cons,List.mem_append,List.not_mem_nil,or_false];exact Or.comm);generalize gs.getD (k-1) []=q at*;generalize gs[k]=t at*;have t1:(k:Int)<ng:=by omega
       rw[hAg]at z6;rw[hAg];clear hc;go_wp2_with fail;refine(name_all wr t).mono ?_;rintro e w6⟨rfl,rfl⟩;cases hnm:nameB t;·have HBAD:=qH (show OfPost w N a b lc lh gs ts ls (.returned (.tuple #[.pointer none,.int .i64 2])) wr from of_fail HBE.out (.inl rfl) fun c m h=>HNO1.out hnm h.gone);clear hnm;go_wp2;go_ret2;exact HBAD.out
       have htl:t.length≤24:=by unfold nameB at hnm;simp at hnm;omega
       obtain⟨w9,hr9,hs9,hg9⟩:=HSE.out.put (by unfold maxLen;omega) t (by unfold maxLen;omega);have i5:wr.cell? ⟨bi,5,none⟩=some (.map (some A.bg)):=(cell_of_row wr bi 5 _ _ (0,0) HIR.out).trans rfl;have HNEW:=qH (show(0<k→Op.bytesLess q t=true)→OfRel w w5 A.bg gs (.int .i64 ((k+1:Nat):Int)) w9 from fun h0=>⟨k+1,rfl,by omega,HYES.out hnm h0,hs9.congr HIX.out,HKP.out.trans (Keep.of_grown (F:=fun b=>b=A.bg) hg9 (fun k' h=>by injection h with h;exact h.symm)) (fun _ _ h=>h),HBE.out.grown hg9 HBE.out.size (fun k' h=>by injection h with h;omega)⟩);clear hs9 hg9 hnm;by_cases k0:k=0
       ·have HR:=qH (show OfRel w w5 A.bg gs (.int .i64 1) w9 from by have h9:=HNEW.out (fun h=>by omega);rw[k0]at h9;exact h9);have d1: ¬(0<k):=by omega
        have d2: ¬((0:Int)<(k:Int)):=by omega
        clear HC1;go_wp2;go_roundw;case rel=>exact HR.out
        case measure=>simp[intOf];omega
       ·have hc1:=HC1.out (by omega);have k1:(0:Int)<k:=by omega
        have k2:0<k:=by omega
        have ek:(k:Int)-1=((k-1:Nat):Int):=by omega
        cases hbl:Op.bytesLess q t;·have HBAD:=qH (show OfPost w N a b lc lh gs ts ls (.returned (.tuple #[.pointer none,.int .i64 2])) wr from of_fail HBE.out (.inl rfl) fun c m h=>HNO2.out (by omega) hbl h.gone);go_wp2;go_ret2;exact HBAD.out
        ·have HR:=qH (HNEW.out (fun h=>hbl));go_wp2;go_roundw;case rel=>exact HR.out
         case measure=>simp[intOf];omega
      ·have hkk:k=gs.length:=by omega
       have t1: ¬(k:Int)<ng:=by omega
       have HGN:=qH (show GoneOk gs from⟨fun j hj=>(HGO.out j hj (by omega)).1,fun j hj h0=>(HGO.out j hj (by omega)).2 h0⟩);have HSG2:=qH (show SetB wr A.bg gs.length gs by have:=HSE.out;rw[hkk,List.take_length]at this;exact this);have HCKR:=qH (HCK5.out.keep (HKP.out.block _ (by omega) (by omega)) (HKP.out.block _ (by omega) (by omega)));have HHDR:=qH (HHD5.out.keep HKP.out.size (fun k hk=>HKP.out.block k (by have:=hHl k hk;omega) (by have:=hHl k hk;omega)));have HSLR:=qH (HSL.out.block (HKP.out.block A.bl hbl5 hmlg));have HTM:=qH (terms_any wr Ac nc kc c HCKR.out.ok (by rw[(decC_some HDC.out).2.1];exact(HI.out.clk.below HBE.out).more HBE.out.size) (by omega) (HI.out.max.up HBE.out));clear HSE HGO HCK5 HHD5 HSL;go_wp2_with fail;clear z0 z1 z2 z3 z4 z5 z6;with_reducible refine HTM.out.mono ?_
       rintro r w6⟨rfl,hb6⟩;have hs6:=hb6.size;have HB6:=qH (HBE.out.trans (hb6.mono HBE.out.size));have HX6:=qH ((hb6.block _ (by omega)).trans HXR.out);have HI6:=qH ((hb6.block _ (by omega)).trans HIR.out);have HCK6:=qH (HCKR.out.up hb6);have HHD6:=qH (HHDR.out.up hb6);have HSL6:=qH (HSLR.out.block (hb6.block _ HSLR.out.lt));have HSG6:=qH (HSG2.out.block (hb6.block _ HSG2.out.lt));clear hb6 HTM HCKR HHDR HSLR HSG2 HXR HIR;obtain⟨z0,z1,z2,z3,z4,z5,z6,_⟩:=HPB.out w6 HX6.out;by_cases hsl:c.slack=a;case neg=>have HBAD:=qH (show∀q,OfPost w N a b lc lh gs ts ls (.returned (.tuple #[.pointer none,.int .i64 2])) (w6.drewN q)from fun q=>of_fail (below_drewN HB6.out q) (.inl rfl) fun c' m' h=>by obtain⟨e1,_⟩:=HF.out c' m' h;exact hsl (e1▸h.sl));go_wp2;go_ret2;exact HBAD.out 0
       by_cases hid:c.idle=b;case neg=>have HBAD:=qH (show∀q,OfPost w N a b lc lh gs ts ls (.returned (.tuple #[.pointer none,.int .i64 2])) (w6.drewN q)from fun q=>of_fail (below_drewN HB6.out q) (.inl rfl) fun c' m' h=>by obtain⟨e1,_⟩:=HF.out c' m' h;exact hid (e1▸h.id));subst hsl;go_wp2;go_ret2;exact HBAD.out 0
       subst hsl hid;have hHG:=HHD6.out;have HRG:=qH (right_any w6 w.heap.size bi {A with bc:=bc,bm:=bm,bs:=bs,bh:=bh,G:=G,V:=V} gs.length gs m At Al Ac Ah Ag nt kt nl kl nc kc nh kh ng kg ts ls c.slack c.idle {blk:=HI6.out,hs:=HHD6.out,rows:=fun s=>Nat.le_trans (had_rows (HI.out.bd.had m rr HDH.out).2 s) (by omega),lates:=HSL6.out,gs:=HSG6.out,max:=HI.out.max.up HB6.out,tk:=HI.out.tk.below HB6.out,le:=HI.out.le.below HB6.out,hnt:=by omega,hnl:=by omega,st:=HI.out.st,sl:=HI.out.sl,hib:=hil,hgb:=Ne.symm hmlg,hml:=HI.out.max.lt,hB:=by show w.heap.size≤A.bl;omega});have hcr: ∀(args:Array Value)(W:World),(callFunc 61 args).run Tryz.prog W=.ok (.enter 61 args) W:=fun args W=>by kernel_rfl
       clear hHG;go_wp2_with fail;clear z0 z1 z2 z3 z4 z5 z6;with_reducible refine HRG.out.mono ?_
       rintro r w7⟨hg7,hcase⟩;have HB7:=qH (show RowKit.Below w.heap.size w w7 from HB6.out.grown hg7 HB6.out.size (fun k h=>by injection h with h;have h':A.bl=k:=h;omega));rcases hcase with⟨rfl,hright,hsl7⟩|⟨rfl,hright⟩;rotate_left;·have HBAD:=qH (show OfPost w N c.slack c.idle lc lh gs ts ls (.returned (.tuple #[.pointer none,.int .i64 2])) w7 from of_fail HB7.out (.inl rfl) fun c' m' h=>by obtain⟨_,e2⟩:=HF.out c' m' h;exact hright (e2▸h.right));go_wp2;go_ret2;exact HBAD.out
       have hk7: ∀k,k<w6.heap.size→k≠A.bl→w7.heap[k]?=w6.heap[k]?:=fun k hk hne=>hg7.block k hk (fun e=>by injection e with e;exact hne e);have hs7:=hg7.size;have HPO:=qH (show PartsOk c.slack c.idle lc lh gs ts ls c m from⟨HDC.out,⟨rr,HDH.out⟩,rfl,rfl,HGN.out,hright⟩);have HOM:=qH (show OfMem w w7 bi {A with bc:=bc,bm:=bm,bs:=bs,bh:=bh,G:=G,V:=V} c m gs ls from{clk:=HCK6.out.keep (hk7 _ HCK6.out.lt (by show bc≠A.bl;omega)) (hk7 _ HCK6.out.map.lt (by show bm≠A.bl;omega)),had:=HHD6.out.keep hs7 (fun k hk=>hk7 k (HHD6.out.lt k hk) (by have:=hHl k hk;omega)),lates:=hsl7,gone:=HSG6.out.block (hk7 _ HSG6.out.lt (Ne.symm hmlg)),ml:=by show bm≠A.bl;omega,mg:=by show bm≠A.bg;omega,lg:=hmlg,gm:=fun h=>by have:=hGG bm h;omega,gl:=fun h=>by have:=hHl A.bl h;omega,gg:=fun h=>by have:=hHl A.bg h;omega,ib:=by omega,hi:=⟨by omega,by show w.heap.size≤bc;omega,by show w.heap.size≤bm;omega,fun k hk=>by have:=hGG k hk;omega,by show w.heap.size≤A.bl;omega,by show w.heap.size≤A.bg;omega⟩,ni:=⟨by show bi≠bc;omega,by show bi≠bm;omega,fun h=>by have:=hHl bi h;omega,hil,hig⟩,sz:=by omega});have HX7:=qH ((hk7 w.heap.size (by omega) (by omega)).trans HX6.out);have HI7:=qH ((hk7 bi (by omega) hil).trans HI6.out);have HOC:=qH (show Oc bi (.pointer (some ⟨bc,0,none⟩)) (.pointer (some ⟨bs,0,none⟩)) (.map (some A.bl)) (.map (some A.bg)) 84 ts ls w7 w7.drew A.vt A.vl none none from Oc.up ⟨by omega,HI7.out,Keep.refl _ _,(fun v hv=>by cases hv),(fun v hv=>by cases hv),(fun v u hv=>by cases hv)⟩ (below_drewN (Below.refl _ _) 1));have HFIN:=qH (show∀W,OcEnd bi (.pointer (some ⟨bc,0,none⟩)) (.pointer (some ⟨bs,0,none⟩)) (.map (some A.bl)) (.map (some A.bg)) ts ls w7 W→OfPost w N c.slack c.idle lc lh gs ts ls (.returned (.tuple #[.pointer (some ⟨bi,0,none⟩),.int .i64 0])) W from fun W⟨vt,vl,ho⟩=>by obtain⟨F,hF,hF2⟩:=of_mem (A:={A with bc:=bc,bm:=bm,bs:=bs,bh:=bh,G:=G,V:=V}) rfl HOM.out HPO.out HI.out.bd (by omega) (by omega) (by omega) ho;exact⟨HB7.out.trans (ho.keep.below HB7.out.size (fun k hk e=>by omega)),.inl ⟨c,m,bi,F,HPO.out,rfl,hF,hF2⟩⟩);have HSS:=qH (fun(W:World)(x2 x3:Value)(pt pl:Option Value)(ho:Oc bi (.pointer (some ⟨bc,0,none⟩)) (.pointer (some ⟨bs,0,none⟩)) (.map (some A.bl)) (.map (some A.bg)) 84 ts ls w7 W x2 x3 pt pl)=>(show W.cell? ⟨w.heap.size,4,none⟩=some (.slice At nt kt)∧W.cell? ⟨w.heap.size,5,none⟩=some (.slice Al nl kl)from by obtain⟨_,_,_,_,z4,z5,_⟩:=HPB.out W ((ho.keep.block w.heap.size (by omega) (by omega)).trans HX7.out);exact⟨z4,z5⟩));have HCT:=qH (fun(W:World)(x2 x3:Value)(pt pl:Option Value)(ho:Oc bi (.pointer (some ⟨bc,0,none⟩)) (.pointer (some ⟨bs,0,none⟩)) (.map (some A.bl)) (.map (some A.bg)) 84 ts ls w7 W x2 x3 pt pl)=>(show Calls Tryz.prog 54 #[.slice At nt kt] W (OwnPost W ts)from clone_any W At nt kt ts (by have hb:=HB7.out.trans (ho.keep.below HB7.out.size (fun k hk e=>by omega));exact Cel.more (HI.out.tk.below hb) hb.size) (by omega)));have HCL:=qH (fun(W:World)(x2 x3:Value)(pt pl:Option Value)(ho:Oc bi (.pointer (some ⟨bc,0,none⟩)) (.pointer (some ⟨bs,0,none⟩)) (.map (some A.bl)) (.map (some A.bg)) 84 ts ls w7 W x2 x3 pt pl)=>(show Calls Tryz.prog 54 #[.slice Al nl kl] W (OwnPost W ls)from clone_any W Al nl kl ls (by have hb:=HB7.out.trans (ho.keep.below HB7.out.size (fun k hk e=>by omega));exact Cel.more (HI.out.le.below hb) hb.size) (by omega)));have hS:=HSS.out _ _ _ _ _ HOC.out;obtain⟨c2,c3,f2,f3⟩:=HOC.out.cells;clear hg7 hk7 hsl7 hright HRG HI6 HX6 HCK6 HHD6 HSL6 HSG6 HOM hs5 hs6 hcr hlt hll hlg;go_wp2;go_region_held3(fun W=>W.cell? ⟨w.heap.size,4,none⟩=some (.slice At nt kt)∧W.cell? ⟨w.heap.size,5,none⟩=some (.slice Al nl kl))(first|with_reducible assumption|with_reducible exact HSS.out _ _ _ _ _ HOC.out|with_reducible exact HSS.out _ _ _ _ _ (HOC.out.set2 _)|with_reducible exact HSS.out _ _ _ _ _ (HOC.out.set3 _)|with_reducible exact HSS.out _ _ _ _ _ ((HOC.out.set2 _).set3 _)|with_reducible exact HSS.out _ _ _ _ _ ((HOC.out.set3 _).set2 _))(first|(go_at_call 54;first|((with_reducible refine(HCT.out _ _ _ _ _ HOC.out).mono ?_);rintro r wa⟨v,rfl,ot,hba⟩;obtain⟨A1,k1,rfl⟩:=ownsRow_form ot;have HO2:=qH (Oc.callT HOC.out ot hba);clear HOC ot hba hS c2 c3 f2 f3;have HOC:=HO2;clear HO2;have hS:=HSS.out _ _ _ _ _ HOC.out;obtain⟨c2,c3,f2,f3⟩:=HOC.out.cells)|((with_reducible refine(HCT.out _ _ _ _ _ (HOC.out.set2 _)).mono ?_);rintro r wa⟨v,rfl,ot,hba⟩;obtain⟨A1,k1,rfl⟩:=ownsRow_form ot;have HO2:=qH (Oc.callT (HOC.out.set2 _) ot hba);clear HOC ot hba hS c2 c3 f2 f3;have HOC:=HO2;clear HO2;have hS:=HSS.out _ _ _ _ _ HOC.out;obtain⟨c2,c3,f2,f3⟩:=HOC.out.cells)|((with_reducible refine(HCT.out _ _ _ _ _ (HOC.out.set3 _)).mono ?_);rintro r wa⟨v,rfl,ot,hba⟩;obtain⟨A1,k1,rfl⟩:=ownsRow_form ot;have HO2:=qH (Oc.callT (HOC.out.set3 _) ot hba);clear HOC ot hba hS c2 c3 f2 f3;have HOC:=HO2;clear HO2;have hS:=HSS.out _ _ _ _ _ HOC.out;obtain⟨c2,c3,f2,f3⟩:=HOC.out.cells)|((with_reducible refine(HCL.out _ _ _ _ _ HOC.out).mono ?_);rintro r wa⟨v,rfl,ot,hba⟩;obtain⟨A1,k1,rfl⟩:=ownsRow_form ot;have HO2:=qH (Oc.callL HOC.out ot hba);clear HOC ot hba hS c2 c3 f2 f3;have HOC:=HO2;clear HO2;have hS:=HSS.out _ _ _ _ _ HOC.out;obtain⟨c2,c3,f2,f3⟩:=HOC.out.cells)|((with_reducible refine(HCL.out _ _ _ _ _ (HOC.out.set2 _)).mono ?_);rintro r wa⟨v,rfl,ot,hba⟩;obtain⟨A1,k1,rfl⟩:=ownsRow_form ot;have HO2:=qH (Oc.callL (HOC.out.set2 _) ot hba);clear HOC ot hba hS c2 c3 f2 f3;have HOC:=HO2;clear HO2;have hS:=HSS.out _ _ _ _ _ HOC.out;obtain⟨c2,c3,f2,f3⟩:=HOC.out.cells)|((with_reducible refine(HCL.out _ _ _ _ _ (HOC.out.set3 _)).mono ?_);rintro r wa⟨v,rfl,ot,hba⟩;obtain⟨A1,k1,rfl⟩:=ownsRow_form ot;have HO2:=qH (Oc.callL (HOC.out.set3 _) ot hba);clear HOC ot hba hS c2 c3 f2 f3;have HOC:=HO2;clear HO2;have hS:=HSS.out _ _ _ _ _ HOC.out;obtain⟨c2,c3,f2,f3⟩:=HOC.out.cells)));all_goals go_wp2;go_ret2;first|exact HFIN.out _ (oc_end HOC.out)|exact HFIN.out _ (oc_end ((HOC.out.set2 _).set3 _))|exact HFIN.out _ (oc_end ((HOC.out.set3 _).set2 _))|exact HFIN.out _ (oc_end (HOC.out.set3 _))|exact HFIN.out _ (oc_end (HOC.out.set2 _))
end Go.Proofs.YtbejfgmdkmddnaaGreatDoor
